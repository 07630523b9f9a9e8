/- Part 4 of what the proof stands on: an interpreter over an ideal memory that is proved sound, steps over it, and contracts of the functions that are called. No condition: no law is claimed here. -/
import Derived.Test.YtoianlbibaplfaaC3
import Derived.ChangeArms
import Derived.ChangeShapes
import Derived.WideShapes
import Derived.SizedLaws
import Derived.KernelRfl
import Derived.Test.YtoianlbibaplfaaProg
-- IdealTi
set_option linter.unusedSimpArgs false
set_option linter.unusedVariables false
namespace Go.Ideal
open Go Go.RowKit
variable {P : Program} {X : Cx} {E : Env} {σ : Nat → Tr} {B B' : Boxes} {ops : Array Oper} {K : TK} {l : List Oper} {d : Option Tmp} {ty : TypeId} {pos : String} {af : Array Edge} {H : List (Nat × Nat)} {F : Mem} {s : Nat → Value} {h : IHp} {held : Held}

/-! ### Code over trees -/
theorem TV_skip {Q : IExit → TK} (k : Q .normal σ B) : TV X P E .skip Q σ B := by unfold TV; intro F s h r; exact V_skip ⟨F, σ, B, r, k⟩
theorem TV_exit {Q : IExit → TK} {id : Nat} (k : Q (.exit id) σ B) : TV X P E (.exit id) Q σ B := by unfold TV; intro F s h r; exact V_exit ⟨F, σ, B, r, k⟩
theorem TV_ret {Q : IExit → TK} (k : Q .ret σ B) : TV X P E .ret Q σ B := by unfold TV; intro F s h r; exact V_ret ⟨F, σ, B, r, k⟩
@[irreducible] def TseqK (X : Cx) (P : Program) (E : Env) (b : Code) (Q : IExit → TK) : IExit → TK
  | .normal, σ, B => TV X P E b Q σ B
  | e, σ, B => Q e σ B
@[irreducible] def TblockK (id : Nat) (Q : IExit → TK) : IExit → TK
  | .exit j, σ, B => if Nat.beq j id then Q .normal σ B else Q (.exit j) σ B
  | e, σ, B => Q e σ B
theorem TV_seq {a b : Code} {Q : IExit → TK} (k : TV X P E a (TseqK X P E b Q) σ B) : TV X P E (.seq a b) Q σ B := by
  unfold TV at k ⊢
  intro F s h r
  refine V_seq (V_mono ?_ (k F s h r))
  rintro e s' h' ⟨F', σ', B', r', hk⟩
  unfold VseqK
  unfold TseqK at hk
  cases e with
  | normal => unfold TV at hk; exact hk F' s' h' r'
  | exit j => exact ⟨F', σ', B', r', hk⟩
  | ret => exact ⟨F', σ', B', r', hk⟩
theorem TV_block {id : Nat} {b : Code} {Q : IExit → TK} (k : TV X P E b (TblockK id Q) σ B) : TV X P E (.block id b) Q σ B := by
  unfold TV at k ⊢
  intro F s h r
  refine V_block (V_mono ?_ (k F s h r))
  rintro e s' h' ⟨F', σ', B', r', hk⟩
  unfold VblockK
  unfold TblockK at hk
  cases e with
  | normal => exact ⟨F', σ', B', r', hk⟩
  | exit j =>
    simp only at hk ⊢
    by_cases hj : Nat.beq j id = true
    · rw [if_pos hj] at hk ⊢; exact ⟨F', σ', B', r', hk⟩
    · rw [if_neg hj] at hk ⊢; exact ⟨F', σ', B', r', hk⟩
  | ret => exact ⟨F', σ', B', r', hk⟩
theorem TV_cond {co : Operand} {a b : Code} {Q : IExit → TK} {t : Bool} [ev : TEval σ co (.v (.bool t))] (k1 : t = true → TV X P E a Q σ B) (k2 : t = false → TV X P E b Q σ B) : TV X P E (.cond co a b) Q σ B := by
  unfold TV at *
  intro F s h r
  have := ev.is r.slot
  exact V_cond (fun ht => k1 ht F s h r) (fun ht => k2 ht F s h r)
theorem TV_cond_t {co : Operand} {a b : Code} {Q : IExit → TK} {t : Bool} [ev : TEval σ co (.v (.bool t))] (ht : t = true) (k : TV X P E a Q σ B) : TV X P E (.cond co a b) Q σ B := TV_cond (fun _ => k) (fun h2 => by rw [ht] at h2; cases h2)
theorem TV_cond_f {co : Operand} {a b : Code} {Q : IExit → TK} {t : Bool} [ev : TEval σ co (.v (.bool t))] (ht : t = false) (k : TV X P E b Q σ B) : TV X P E (.cond co a b) Q σ B := TV_cond (fun h2 => by rw [ht] at h2; cases h2) (fun _ => k)
theorem TV_region {id : Nat} {l : List Oper} {Q : IExit → TK} (k : TS X P E l.toArray (Q .normal) l [] σ B) : TV X P E (.region id l.toArray false) Q σ B := by
  unfold TV; unfold TS at k
  intro F s h r
  refine V_region (WS_mono ?_ (k F s h [] r (fun e he => by cases he)))
  rintro s' h' ⟨F', σ', B', r', _, hk⟩
  exact ⟨F', σ', B', r', hk⟩
theorem TV_loop {b : Code} {Q : IExit → TK} (I : Nat → TK) (d : Nat) (first : I d σ B) (round : ∀ d σ B, I d σ B → TV X P E b (fun e σ' B' => match e with | .normal => ∃ d', d' < d ∧ I d' σ' B' | e => Q e σ' B') σ B) : TV X P E (.loop b) Q σ B := by
  unfold TV at *
  intro F s h r
  refine V_loop (fun d s h => ∃ F σ B, TR X F σ B s h ∧ I d σ B) d ⟨F, σ, B, r, first⟩ ?_
  rintro d s h ⟨F, σ, B, r, hI⟩
  refine V_mono ?_ (round d σ B hI F s h r)
  rintro e s' h' ⟨F', σ', B', r', hk⟩
  cases e with
  | normal => obtain ⟨d', hd, hI'⟩ := hk; exact ⟨d', hd, F', σ', B', r', hI'⟩
  | exit j => exact ⟨F', σ', B', r', hk⟩
  | ret => exact ⟨F', σ', B', r', hk⟩
theorem TV_mono {c : Code} {Q Q' : IExit → TK} (hq : ∀ e σ B, Q e σ B → Q' e σ B) (k : TV X P E c Q σ B) : TV X P E c Q' σ B := by
  unfold TV at *
  intro F s h r
  refine V_mono ?_ (k F s h r)
  rintro e s' h' ⟨F', σ', B', r', hk⟩
  exact ⟨F', σ', B', r', hq _ _ _ hk⟩
theorem TS_mono {K' : TK} (hq : ∀ σ B, K σ B → K' σ B) (k : TS X P E ops K l H σ B) : TS X P E ops K' l H σ B := by
  unfold TS at *
  intro F s h held r hh
  refine WS_mono ?_ (k F s h held r hh)
  rintro s' h' ⟨F', σ', B', r', hh', hk⟩
  exact ⟨F', σ', B', r', hh', hq _ _ hk⟩
theorem TSQ_normal {b : Code} {Q : IExit → TK} (k : TV X P E b Q σ B) : TseqK X P E b Q .normal σ B := by unfold TseqK; exact k
theorem TSQ_exit {b : Code} {Q : IExit → TK} {j : Nat} (k : Q (.exit j) σ B) : TseqK X P E b Q (.exit j) σ B := by unfold TseqK; exact k
theorem TSQ_ret {b : Code} {Q : IExit → TK} (k : Q .ret σ B) : TseqK X P E b Q .ret σ B := by unfold TseqK; exact k
theorem TB_normal {id : Nat} {Q : IExit → TK} (k : Q .normal σ B) : TblockK id Q .normal σ B := by unfold TblockK; exact k
theorem TB_ret {id : Nat} {Q : IExit → TK} (k : Q .ret σ B) : TblockK id Q .ret σ B := by unfold TblockK; exact k
theorem TB_exit {id : Nat} {Q : IExit → TK} (k : Q .normal σ B) : TblockK id Q (.exit id) σ B := by unfold TblockK; simpa using k
theorem TB_pass {id j : Nat} {Q : IExit → TK} (hj : Nat.beq j id = false) (k : Q (.exit j) σ B) : TblockK id Q (.exit j) σ B := by unfold TblockK; simpa [hj] using k
/-- ways meet behind the region (or the code) at hand -/
theorem TS_cut {b : Code} {Q : IExit → TK} (I : TK) (k1 : TS X P E ops I l H σ B) (k2 : ∀ σ' B', I σ' B' → TV X P E b Q σ' B') : TS X P E ops (TseqK X P E b Q .normal) l H σ B := TS_mono (fun σ' B' hi => TSQ_normal (k2 σ' B' hi)) k1
@[irreducible] def TcutK (I : TK) (K : IExit → TK) : IExit → TK
  | .normal, σ, B => I σ B
  | e, σ, B => K e σ B
theorem TC_normal {I : TK} {K : IExit → TK} (k : I σ B) : TcutK I K .normal σ B := by unfold TcutK; exact k
theorem TC_exit {I : TK} {K : IExit → TK} {j : Nat} (k : K (.exit j) σ B) : TcutK I K (.exit j) σ B := by unfold TcutK; exact k
theorem TC_ret {I : TK} {K : IExit → TK} (k : K .ret σ B) : TcutK I K .ret σ B := by unfold TcutK; exact k
theorem TV_cut {a b : Code} {Q : IExit → TK} (I : TK) (k1 : TV X P E a (TcutK I (TseqK X P E b Q)) σ B) (k2 : ∀ σ' B', I σ' B' → TV X P E b Q σ' B') : TV X P E a (TseqK X P E b Q) σ B :=
  TV_mono (fun e σ' B' hi => by
    unfold TcutK at hi
    cases e with
    | normal => exact TSQ_normal (k2 σ' B' hi)
    | exit j => exact hi
    | ret => exact hi) k1
/-- boxes that are needed no more are forgotten -/
theorem TV_drop {c : Code} {Q : IExit → TK} (B' : Boxes) (hs : B'.Sublist B) (k : TV X P E c Q σ B') : TV X P E c Q σ B := by
  unfold TV at *; intro F s h r; exact k F s h (r.drop hs)
theorem tget_as {i : Nat} {t u : Tr} [g : TGet σ i t] (h : t = u) : TGet σ i u := ⟨g.eq.trans h⟩
theorem TV_ghost {c : Code} {Q : IExit → TK} (m e : Nat) (k : ∀ b, TV X P E c Q σ ((b, .arr m [] e false) :: B)) : TV X P E c Q σ B := by
  unfold TV at *
  intro F s h r
  obtain ⟨b, h1, h2⟩ := exists_odd (B.map Prod.fst)
  exact k b F s h (r.ghost h1 h2)
theorem thaw_one {b : Nat} {x : Box} (r : TR X F σ B s h) (d : BoxDel B b x B') : ∃ F', TR X F' σ B' s h ∧ ThawOk F F' [(b, x)] h := by
  obtain ⟨pre, post, h1, h2⟩ := d.eq
  subst h1
  subst h2
  have r1 : TR X F σ [(b, x)] s h := r.drop (by
    exact (List.Sublist.cons_cons _ (List.nil_sublist _)).trans (List.sublist_append_right _ _))
  exact ⟨_, r.freeze, r1.thawOk⟩
theorem TR.putE (r : TR X F σ B s h) {i : Nat} {t u : Tr} (g : TGet σ i t) (hv : Rep F u (s i)) : TR X F (putT σ (some i) u) B s h := by
  have : putS s (some i) (s i) = s := by funext j; simp only [putS]; split <;> simp_all
  rw [← this]
  exact r.put hv
theorem TS_freeze (i : Nat) {v : Value} {x : Box} {t : Tr} [g : TGet σ i (.v v)] (b : Nat) [dl : BoxDel B b x B'] [fz : Frz [(b, x)] (.v v) t] (k : TS X P E ops K l H (putT σ (some i) t) B') : TS X P E ops K l H σ B := by
  unfold TS at *
  intro F s h held r hh
  obtain ⟨F', r', o⟩ := thaw_one r dl
  refine k F' s h held (r'.putE g (fz.eq F F' h o _ ?_)) ?_
  · rw [← g.eq]; exact r.slot i
  · intro e he
    obtain ⟨h1, h2, h3⟩ := hh e he
    refine ⟨h1, h2, ?_⟩
    rcases h3 with h3 | ⟨h3, h4, h5⟩
    · exact .inl (o.sub _ _ _ h3)
    · obtain ⟨pre, post, e1, e2⟩ := dl.eq
      by_cases hb : e.2.1 = b
      · refine .inl ?_
        have := o.cell (b, x) (by simp) (by rw [← hb]; exact h5) e.2.2.1
        rw [hb]; rw [this, ← hb]; exact h2
      · refine .inr ⟨h3, ?_, h5⟩
        rw [e1] at h4
        rw [e2]
        simp only [List.map_append, List.map_cons, List.mem_append, List.mem_cons] at h4 ⊢
        rcases h4 with h4 | h4 | h4
        · exact .inl h4
        · exact absurd h4 hb
        · exact .inr h4
theorem TV_freezeC (p : Nat) (b : Nat) {c : Code} {Q : IExit → TK} {cs cs' : List Tr} {bt : Nat} {bx : Bool} {x : Box} {B1 B2 : Boxes} [dl : BoxDel B b x B1] [bi : BoxIs B1 p (.cells cs bt bx)] [fz : FrzL [(b, x)] cs cs'] [bp : BoxPut B1 p p (.cells cs' bt bx) B2] (k : TV X P E c Q σ B2) : TV X P E c Q σ B := by
  unfold TV at *
  intro F s h r
  obtain ⟨F', r', o⟩ := thaw_one r dl
  obtain ⟨pre, old, post, e1, e2⟩ := bp.eq
  obtain ⟨vs, h1, h2⟩ := r.boxOf (B := B) (b := p) (x := .cells cs bt bx) ⟨by
    obtain ⟨q1, q2, q3, q4⟩ := dl.eq
    have := bi.mem
    rw [q4] at this
    rw [q3]
    rcases List.mem_append.1 this with h | h <;> simp [h]⟩
  refine k F' s h ?_
  rw [e2]
  rw [e1] at r'
  exact r'.modify rfl (fun i o hi _ => hi) (.inl rfl) ⟨vs, fz.eq F F' h o vs h1, h2⟩
/-! ### What a function answers -/
def RetT (P : Program) (σ : Nat → Tr) (B : Boxes) (rs : List ResultVar) (ts : List Tr) : Prop := ∀ X F s h E, TR X F σ B s h → ∀ G, ThawOk F G B h → ∃ vs, iresults P (Env.st E s h) rs = some vs ∧ RepL G ts vs
class RetIs (P : Program) (σ : Nat → Tr) (B : Boxes) (rs : List ResultVar) (ts : outParam (List Tr)) : Prop where eq : RetT P σ B rs ts
instance RetIs.nil : RetIs P σ B [] [] := ⟨fun X F s h E r G o => ⟨[], rfl, RepL.nil⟩⟩
instance RetIs.tmp {i : Nat} {t t' : Tr} {rs : List ResultVar} {ts : List Tr} [g : TGet σ i t] [fz : Frz B t t'] [k : RetIs P σ B rs ts] : RetIs P σ B (.tmp i :: rs) (t' :: ts) := ⟨fun X F s h E r G o => by
  obtain ⟨vs, h1, h2⟩ := k.eq X F s h E r G o
  refine ⟨s i :: vs, by simp only [Env.st] at h1 ⊢; simp only [iresults, h1, Option.map_some], RepL.cons (fz.eq F G h o _ ?_) h2⟩
  rw [← g.eq]; exact r.slot i⟩
instance RetIs.cell_agg {i ct b off n bt : Nat} {bx : Bool} {cs r1 r2 r3 : List Tr} {rs : List ResultVar} {ts : List Tr} [g : TGet σ i (.v (.pointer (some (ad b off))))] [a : AggIs P ct true] [z : SizeIs P ct n] [bi : BoxIs B b (.cells cs bt bx)] [dr : DropT cs off r1] [tk : TakeT r1 n r2] [fz : FrzL B r2 r3] [k : RetIs P σ B rs ts] : RetIs P σ B (.cell i ct :: rs) (.agg r3 :: ts) := ⟨fun X F s h E r G o => by
  obtain ⟨vs, h1, h2⟩ := k.eq X F s h E r G o
  have h3 := (g.is r).eq
  obtain ⟨us, h4, h5⟩ := r.boxOf bi
  obtain ⟨ws, h6, h7⟩ := h4.row h5 dr tk
  refine ⟨.agg ws.toArray :: vs, ?_, RepL.cons ?_ h2⟩
  · simp only [Env.st] at h1 ⊢; simp only [iresults, h1, Option.map_some, h3, iload, a.eq, Option.bind_some, z.eq, h6.eq]
  · simp only [Rep]; exact ⟨ws, rfl, fz.eq F G h o _ h7⟩⟩
instance RetIs.cell {i ct b off bt : Nat} {bx : Bool} {cs : List Tr} {t t' : Tr} {rs : List ResultVar} {ts : List Tr} [g : TGet σ i (.v (.pointer (some (ad b off))))] [a : AggIs P ct false] [bi : BoxIs B b (.cells cs bt bx)] [ng : NthG cs off t] [fz : Frz B t t'] [k : RetIs P σ B rs ts] : RetIs P σ B (.cell i ct :: rs) (t' :: ts) := ⟨fun X F s h E r G o => by
  obtain ⟨vs, h1, h2⟩ := k.eq X F s h E r G o
  have h3 := (g.is r).eq
  obtain ⟨us, h4, h5⟩ := r.boxOf bi
  obtain ⟨v, h6, h7⟩ := h4.get ng.eq
  refine ⟨v :: vs, ?_, RepL.cons (fz.eq F G h o _ h7) h2⟩
  simp only [Env.st] at h1 ⊢
  simp only [iresults, h1, Option.map_some, h3, iload, a.eq, Option.bind_some, h5.cell, h6]⟩
def tret : List Tr → Tr
  | [t] => t
  | ts => .tup ts
@[irreducible] def retT (P : Program) (rs : List ResultVar) (Φ : Tr → Prop) : IExit → TK := fun e σ B => (e = .normal ∨ e = .ret) ∧ ∃ ts, RetT P σ B rs ts ∧ Φ (tret ts)
theorem retT_go {rs : List ResultVar} {Φ : Tr → Prop} {e : IExit} {ts : List Tr} [r : RetIs P σ B rs ts] (he : e = .normal ∨ e = .ret) (k : Φ (tret ts)) : retT P rs Φ e σ B := by unfold retT; exact ⟨he, ts, r.eq, k⟩
def argT (args : List Tr) : Nat → Tr := fun i => args.getD i (.v undef)
instance TGet.arg {args : List Tr} {i : Nat} {t : Tr} [n : NthG args i t] : TGet (argT args) i t := ⟨by simp [argT, List.getD, n.eq]⟩
theorem Fn_of {f : FuncId} {fn : Func} {c : Code} {args : List Tr} {Φ : Tr → Prop} (hf : P.funcs[f]? = some fn) (hb : fn.body = some c) (hsz : args.length ≤ fn.ntmps)
    (hw : ∀ X, TV X P ⟨fn.ntmps, [], false⟩ c (retT P fn.results.toList Φ) (argT args) []) : Fn P f args Φ := by
  unfold Fn
  intro F0 h vs h1 h2
  have hr : TR ⟨h, F0, []⟩ F0 (argT args) [] (argS vs) h := ⟨Ext.refl h, Sub.refl F0, h1, fun b off v hf => .inl hf, by simp, by simp, by simp, by simp, fun i => by
    by_cases hi : i < args.length
    · obtain ⟨v, h3, h4⟩ := h2.get (List.getElem?_eq_getElem hi)
      have h5 : argS vs i = v := by
        have hi2 := (List.getElem?_eq_some_iff.1 h3).1
        simp only [argS, Array.getD]
        rw [dif_pos (by simpa using hi2)]
        rw [List.getElem?_eq_getElem hi2] at h3
        simpa using Option.some.inj h3
      have h6 : argT args i = args[i] := by simp [argT, List.getD, hi]
      rw [h5, h6]; exact h4
    · have h5 : argS vs i = undef := by
        have := h2.len
        simp only [argS, Array.getD]
        rw [dif_neg (by simp; omega)]
      have h6 : argT args i = .v undef := by simp [argT, List.getD, hi]
      rw [h5, h6]; exact rep_v _⟩
  have hw := hw ⟨h, F0, []⟩
  unfold TV at hw
  refine EvX_of hf hb (by rw [h2.len]; exact hsz) (V_mono ?_ (hw F0 _ h hr))
  rintro e s' h' ⟨F', σ', B', r', hk⟩
  unfold retT at hk
  obtain ⟨he, ts, h3, h4⟩ := hk
  obtain ⟨ws, h5, h6⟩ := h3 _ F' s' h' ⟨fn.ntmps, [], false⟩ r' (thaw F' B' h') r'.thawOk
  unfold retK
  refine ⟨he, ws, h5, r'.ext, thaw F' B' h', tret ts, r'.base.trans r'.thawOk.sub, r'.thawSub, fun b off v hf => ?_, ?_, h4⟩
  · rcases r'.thawOwn b off v hf with h7 | h7
    · exact r'.own b off v h7
    · exact .inr h7
  · have hl := h6.len
    match ts, ws, h6, hl with
    | [], [], _, _ => simp only [tret, iret, Rep]; exact ⟨[], rfl, RepL.nil⟩
    | [t], [v], h6, _ =>
      simp only [RepL] at h6
      obtain ⟨v', ws', h7, h8, _⟩ := h6
      simp only [List.cons.injEq] at h7
      obtain ⟨rfl, rfl⟩ := h7
      exact h8
    | t :: t2 :: ts, v :: v2 :: vs, h6, _ => simp only [tret, iret, Rep]; exact ⟨_, rfl, h6⟩
end Go.Ideal

-- IdealTj
set_option linter.unusedSimpArgs false
set_option linter.unusedVariables false
namespace Go.Ideal
open Go Go.RowKit
variable {P : Program} {X : Cx} {E : Env} {σ : Nat → Tr} {B B' : Boxes} {ops : Array Oper} {K : TK} {l : List Oper} {d : Option Tmp} {ty : TypeId} {pos : String} {af : Array Edge} {H : List (Nat × Nat)} {F : Mem} {s : Nat → Value} {h : IHp} {held : Held} {plan : List PStep} {ph : Bool}

/-! ### Regions that draw their order -/
/-- cells that are the same in all the heaps since the region began; the number of cells is told in the entry's number -/
def PinOk (H : List (Nat × Nat)) (pins : Held) (snaps : List IHp) : Prop := ∀ b n, (1000000 + n, b) ∈ H → ∀ j, j < n → ∃ v, (1000000 + n, b, j, v) ∈ pins ∧ ∀ hs ∈ snaps, hs.cell? b j = some v
theorem pinOk_nil {pins : Held} {snaps : List IHp} : PinOk [] pins snaps := fun b n h => by cases h
@[irreducible] def TD (X : Cx) (P : Program) (E : Env) (ops : Array Oper) (K : TK) (plan : List PStep) (H : List (Nat × Nat)) (ph : Bool) (σ : Nat → Tr) (B : Boxes) : Prop :=
  ∀ F s h held snaps pins, TR X F σ B s h → HeldOk F B H h (held ++ pins) → (ph = true → snaps = [h]) → PinOk H pins snaps → WD P E ops (fun s' h' => ∃ F' σ' B', TR X F' σ' B' s' h' ∧ K σ' B') plan held snaps s h
theorem TV_draw {id : Nat} {l : List Oper} {Q : IExit → TK} {plan : List PStep} (hp : planOf l.toArray = some plan) (k : TD X P E l.toArray (Q .normal) plan [] true σ B) : TV X P E (.region id l.toArray true) Q σ B := by
  unfold TV; unfold TD at k
  intro F s h r
  exact V_draw hp (k F s h [] [h] [] r (fun e he => by cases he) (fun _ => rfl) pinOk_nil)
theorem TD_nil (k : K σ B) : TD X P E ops K [] H ph σ B := by
  unfold TD; intro F s h held snaps pins r hh hp hq; exact WD_nil ⟨F, σ, B, r, k⟩
theorem TD_take {i : Nat} {op : Op} {t : Tr} (ho : ops[i]? = some ⟨d, op, ty, pos, af, none⟩) (hq : (isQuiet op && !isLoad op) = true) [nb : NoBts P op] [p : Pu P σ B op t] (k : TD X P E ops K plan H ph (putT σ d t) B) : TD X P E ops K (.take i :: plan) H ph σ B := by
  unfold TD at *
  intro F s h held snaps pins r hh hp hpin
  refine WD_take ho (by simpa using hq) (p.eq r fun v hv => WS_nil ?_)
  unfold WDT
  exact k F _ h held snaps pins (r.put hv) hh hp hpin
theorem TD_takew {i : Nat} {op : Op} {t : Tr} (ho : ops[i]? = some ⟨d, op, ty, pos, af, none⟩) (hq : (isQuiet op && !isLoad op) = true) [nb : NoBts P op] (p : Pu P σ B op t) (k : TD X P E ops K plan H ph (putT σ d t) B) : TD X P E ops K (.take i :: plan) H ph σ B := TD_take ho hq (p := p) k
/-! loads that are taken first: the place, what is read, and whether it lies in own memory -/
/-- a load's reading; bs: the own block that is read, if any -/
class Lo (P : Program) (σ : Nat → Tr) (B : Boxes) (op : Op) (t : outParam Tr) (bs : outParam (List Nat)) : Prop where
  eq : ∀ {X : Cx} {F : Mem} {s : Nat → Value} {h : IHp}, TR X F σ B s h → ∃ ty x b off us, op = .load ty x ∧ EvalIs s x (.pointer (some (ad b off))) ∧ h.row b off us.length = some us ∧ (∀ u ∈ us, veq u u = true) ∧
    ((AggIs P ty false ∧ ∃ u, us = [u] ∧ Rep F t u) ∨ (AggIs P ty true ∧ SizeIs P ty us.length ∧ Rep F t (.agg us.toArray))) ∧ ((∀ i, i < us.length → F b (off + i) = us[i]?) ∨ (bs = [b] ∧ b ∈ B.map Prod.fst ∧ b % 2 = 0))
class VR (t : Tr) : Prop where eq : ∀ F v, Rep F t v → veq v v = true
instance VR.val {x : Value} [r : VRefl x] : VR (.v x) := ⟨fun F v h => by simp only [Rep] at h; subst h; exact r.eq⟩
instance VRefl.gsv {b n : Nat} : VRefl (gsv b n) := ⟨by unfold Go.Ideal.gsv; split <;> simp [veq]⟩
instance VRefl.elp {b m i j : Nat} : VRefl (elp b m i j) := ⟨by unfold Go.Ideal.elp; simp [veq]⟩
instance VR.sl {m : Nat} {rows : List (List Tr)} : VR (.sl m rows) := ⟨fun F v h => by simp only [Rep] at h; obtain ⟨a, n, c, rfl, _⟩ := h; simp [veq]⟩
instance VR.pf {cs : List Tr} : VR (.pf cs) := ⟨fun F v h => by simp only [Rep] at h; obtain ⟨b, o, vs, rfl, _⟩ := h; simp [veq]⟩
class VRL (ts : List Tr) : Prop where eq : ∀ F vs, RepL F ts vs → ∀ v ∈ vs, veq v v = true
instance VRL.nil : VRL [] := ⟨fun F vs h v hv => by simp only [RepL] at h; subst h; cases hv⟩
instance VRL.cons {t : Tr} {ts : List Tr} [a : VR t] [b : VRL ts] : VRL (t :: ts) := ⟨fun F vs h v hv => by
  simp only [RepL] at h
  obtain ⟨w, ws, rfl, h1, h2⟩ := h
  rcases List.mem_cons.1 hv with rfl | hv
  · exact a.eq F _ h1
  · exact b.eq F ws h2 v hv⟩
theorem row_len {h : IHp} {b off n : Nat} {us : List Value} (hr : h.row b off n = some us) : us.length = n := by rw [row_rowM] at hr; exact rowM_len hr
theorem TR.even (r : TR X F σ B s h) {b : Nat} {cs : List Tr} {t : Nat} {x : Bool} (bi : BoxIs B b (.cells cs t x)) : b % 2 = 0 ∧ b ∈ B.map Prod.fst := by
  obtain ⟨vs, _, o⟩ := r.boxOf bi
  exact ⟨o.even, List.mem_map.2 ⟨_, bi.mem, rfl⟩⟩
instance Lo.box {x : Operand} {t : TypeId} {b off bt : Nat} {bx : Bool} {cs : List Tr} {u : Tr} [e : TEval σ x (.v (.pointer (some (ad b off))))] [a : AggIs P t false] [bi : BoxIs B b (.cells cs bt bx)] [n : NthG cs off u] [vr : VR u] : Lo P σ B (.load t x) u [b] := ⟨fun {X F s h} q => by
  have h0 := e.is q.slot
  obtain ⟨vs, h1, h2⟩ := q.boxOf bi
  obtain ⟨v, h3, h4⟩ := h1.get n.eq
  refine ⟨t, x, b, off, [v], rfl, h0, ?_, ?_, .inl ⟨a, v, rfl, h4⟩, .inr ⟨rfl, (q.even bi).2, (q.even bi).1⟩⟩
  · have hlt := (List.getElem?_eq_some_iff.1 h3).1
    rw [List.length_singleton, row_obj h2 off (by omega)]
    rw [List.drop_eq_getElem_cons hlt]
    rw [List.getElem?_eq_getElem hlt] at h3
    simp [Option.some.inj h3]
  · intro w hw; simp at hw; subst hw; exact vr.eq F _ h4⟩
instance Lo.pf {x : Operand} {t : TypeId} {u : Tr} {cs : List Tr} [e : TEval σ x (.pf (u :: cs))] [a : AggIs P t false] [vr : VR u] : Lo P σ B (.load t x) u [] := ⟨fun {X F s h} q => by
  have h1 := evalIs_self (s := s) (x := x) (h := h)
  have h2 := e.eq F s q.slot h 0 [] false
  simp only [Rep] at h2
  obtain ⟨b, off, vs, h3, h4, h5⟩ := h2
  rw [h3] at h1
  simp only [RepL] at h5
  obtain ⟨v, ws, rfl, h6, h7⟩ := h5
  refine ⟨t, x, b, off, [v], rfl, h1, ?_, ?_, .inl ⟨a, v, rfl, h6⟩, .inl ?_⟩
  · have := rowM_part h4 0 1 (by simp)
    rw [row_rowM]
    exact rowM_sub q.sub (by simpa using this)
  · intro w hw; simp at hw; subst hw; exact vr.eq F _ h6
  · intro i hi
    have : i = 0 := by simpa using hi
    subst this
    have := rowM_get h4 0 (by simp)
    simpa using this⟩
instance Lo.box_agg {x : Operand} {t : TypeId} {b off n bt : Nat} {bx : Bool} {cs r1 r2 : List Tr} [e : TEval σ x (.v (.pointer (some (ad b off))))] [a : AggIs P t true] [z : SizeIs P t n] [bi : BoxIs B b (.cells cs bt bx)] [dr : DropT cs off r1] [tk : TakeT r1 n r2] [vr : VRL r2] : Lo P σ B (.load t x) (.agg r2) [b] := ⟨fun {X F s h} q => by
  have h0 := e.is q.slot
  obtain ⟨vs, h1, h2⟩ := q.boxOf bi
  obtain ⟨us, h3, h4⟩ := h1.row h2 dr tk
  have hl := row_len h3.eq
  refine ⟨t, x, b, off, us, rfl, h0, by rw [hl]; exact h3.eq, vr.eq F us h4, .inr ⟨a, by rw [hl]; exact z, by simp only [Rep]; exact ⟨us, rfl, h4⟩⟩, .inr ⟨rfl, (q.even bi).2, (q.even bi).1⟩⟩⟩
instance Lo.pf_agg {x : Operand} {t : TypeId} {n : Nat} {cs r : List Tr} [e : TEval σ x (.pf cs)] [a : AggIs P t true] [z : SizeIs P t n] [tk : TakeT cs n r] [vr : VRL r] : Lo P σ B (.load t x) (.agg r) [] := ⟨fun {X F s h} q => by
  have h1 := evalIs_self (s := s) (x := x) (h := h)
  have h2 := e.eq F s q.slot h 0 [] false
  simp only [Rep] at h2
  obtain ⟨b, off, vs, h3, h4, h5⟩ := h2
  rw [h3] at h1
  have h6 : RepL F r (vs.take n) := by rw [← tk.eq]; exact h5.take n
  have hl : (vs.take n).length = n := by have := rowM_len h4; have := tk.le; simp; omega
  have h7 : rowM F b off n = some (vs.take n) := by have := rowM_part h4 0 n (by have := tk.le; omega); simpa using this
  refine ⟨t, x, b, off, vs.take n, rfl, h1, ?_, vr.eq F _ h6, .inr ⟨a, by rw [hl]; exact z, by simp only [Rep]; exact ⟨_, rfl, h6⟩⟩, .inl ?_⟩
  · rw [hl, row_rowM]; exact rowM_sub q.sub h7
  · rw [hl]; exact fun i hi => rowM_get h7 i hi⟩
theorem TR.evenA (r : TR X F σ B s h) {b m : Nat} {rows : List (List Tr)} {t : Nat} {x : Bool} (bi : BoxIs B b (.arr m rows t x)) {i : Nat} {row : List Tr} (hr : rows[i]? = some row) : b % 2 = 0 ∧ b ∈ B.map Prod.fst := by
  obtain ⟨vs, _, o, _⟩ := Box.len_of (r.boxOf bi) hr
  exact ⟨o.even, List.mem_map.2 ⟨_, bi.mem, rfl⟩⟩
instance Lo.arr {x : Operand} {t : TypeId} {b m i j bt : Nat} {bx : Bool} {rows : List (List Tr)} {row : List Tr} {u : Tr} [e : TEval σ x (.v (elp b m i j))] [a : AggIs P t false] [bi : BoxIs B b (.arr m rows bt bx)] [ng : NthG rows i row] [n : NthG row j u] [vr : VR u] : Lo P σ B (.load t x) u [b] := ⟨fun {X F s h} q => by
  have h0 := e.is q.slot
  unfold elp at h0
  obtain ⟨us, h1, h2⟩ := arr_row (q.boxOf bi) ng.eq
  obtain ⟨v, h3, h4⟩ := h2.get n.eq
  have hj := (List.getElem?_eq_some_iff.1 h3).1
  have hm := row_len h1
  refine ⟨t, x, b, i * m + j, [v], rfl, h0, ?_, ?_, .inl ⟨a, v, rfl, h4⟩, .inr ⟨rfl, (q.evenA bi ng.eq).2, (q.evenA bi ng.eq).1⟩⟩
  · rw [List.length_singleton, row_part h1 j 1 (by omega), List.drop_eq_getElem_cons hj]
    rw [List.getElem?_eq_getElem hj] at h3
    simp [Option.some.inj h3]
  · intro w hw; simp at hw; subst hw; exact vr.eq F _ h4⟩
instance Lo.arr_agg {x : Operand} {t : TypeId} {b m i j n bt : Nat} {bx : Bool} {rows : List (List Tr)} {row r1 r2 : List Tr} [e : TEval σ x (.v (elp b m i j))] [a : AggIs P t true] [z : SizeIs P t n] [bi : BoxIs B b (.arr m rows bt bx)] [ng : NthG rows i row] [dr : DropT row j r1] [tk : TakeT r1 n r2] [vr : VRL r2] : Lo P σ B (.load t x) (.agg r2) [b] := ⟨fun {X F s h} q => by
  have h0 := e.is q.slot
  unfold elp at h0
  obtain ⟨us, h1, h2⟩ := arr_row (q.boxOf bi) ng.eq
  have hm := row_len h1
  have hl := h2.len
  have h3 := tk.le
  rw [← dr.eq, List.length_drop] at h3
  have h5 := dr.le
  have h6 : RepL F r2 ((us.drop j).take n) := by rw [← tk.eq, ← dr.eq]; exact (h2.drop j).take n
  have h7 : ((us.drop j).take n).length = n := by simp; omega
  refine ⟨t, x, b, i * m + j, _, rfl, h0, by rw [h7]; exact row_part h1 j n (by omega), vr.eq F _ h6, .inr ⟨a, by rw [h7]; exact z, by simp only [Rep]; exact ⟨_, rfl, h6⟩⟩, .inr ⟨rfl, (q.evenA bi ng.eq).2, (q.evenA bi ng.eq).1⟩⟩⟩
theorem cellsOf_at {i b : Nat} : ∀ {us : List Value} {off : Nat} {e : Nat × Nat × Nat × Value}, e ∈ cellsOf i b off us → ∃ j, j < us.length ∧ e.1 = i ∧ e.2.1 = b ∧ e.2.2.1 = off + j ∧ us[j]? = some e.2.2.2 := by
  intro us
  induction us with
  | nil => intro off e he; cases he
  | cons u us ih =>
    intro off e he
    simp only [cellsOf, List.mem_cons] at he
    rcases he with rfl | he
    · exact ⟨0, by simp, rfl, rfl, rfl, rfl⟩
    · obtain ⟨j, h1, h2, h3, h4, h5⟩ := ih he
      exact ⟨j + 1, by simp; omega, h2, h3, by rw [h4]; omega, by simpa using h5⟩
theorem held_more {i b off : Nat} {us : List Value} {bs : List Nat} (hh : HeldOk F B H h held) (hr : h.row b off us.length = some us) (hv : ∀ u ∈ us, veq u u = true) (hm : (∀ j, j < us.length → F b (off + j) = us[j]?) ∨ (bs = [b] ∧ b ∈ B.map Prod.fst ∧ b % 2 = 0)) : HeldOk F B (bs.map (fun b => (i, b)) ++ H) h (cellsOf i b off us ++ held) := by
  intro e he
  rcases List.mem_append.1 he with h1 | h1
  · obtain ⟨j, h2, h3, h4, h5, h6⟩ := cellsOf_at h1
    refine ⟨hv _ (List.mem_of_getElem? h6), ?_, ?_⟩
    · rw [h4, h5, row_cell hr j h2]; exact h6
    · rcases hm with hm | ⟨rfl, h7, h8⟩
      · exact .inl (by rw [h4, h5, hm j h2]; exact h6)
      · exact .inr ⟨by rw [h3, h4]; simp, by rw [h4]; exact h7, by rw [h4]; exact h8⟩
  · obtain ⟨h2, h3, h4⟩ := hh e h1
    refine ⟨h2, h3, ?_⟩
    rcases h4 with h4 | ⟨h4, h5⟩
    · exact .inl h4
    · exact .inr ⟨List.mem_append_right _ h4, h5⟩
theorem heldIn_cells {i b off : Nat} {us : List Value} (hr : h.row b off us.length = some us) (hv : ∀ u ∈ us, veq u u = true) : heldIn h (cellsOf i b off us) = true := by
  simp only [heldIn, List.all_eq_true]
  rintro ⟨i', b', o', v⟩ he
  obtain ⟨j, h2, h3, h4, h5, h6⟩ := cellsOf_at he
  simp only at h3 h4 h5 h6
  subst h3; subst h4; subst h5
  have hc := row_cell hr j h2
  rw [h6] at hc
  simp only [hc]
  exact hv _ (List.mem_of_getElem? h6)
theorem WD_loadG {K : SK} {i b off : Nat} {t : TypeId} {x : Operand} {us : List Value} {v : Value} {o : Oper} {snaps : List IHp} (ho : ops[i]? = some o) (hop : o.op = .load t x) (hw : iwanted ops s o = true) (e : EvalIs s x (.pointer (some (ad b off)))) (hr : h.row b off us.length = some us) (hv : ∀ u ∈ us, veq u u = true)
    (hc : (AggIs P t false ∧ us = [v]) ∨ (AggIs P t true ∧ SizeIs P t us.length ∧ v = .agg us.toArray)) (hs : snaps = [h]) (k : WD P E ops K plan (cellsOf i b off us ++ held) snaps (putS s o.dst v) h) : WD P E ops K (.take i :: plan) held snaps s h := by
  unfold WD at k ⊢
  obtain ⟨n, st', h5, h6⟩ := k
  refine ⟨n, st', ?_, h6⟩
  have he := ev_eq (E := E) (h := h) (x := x) (s := s)
  simp only [iplan, ho, Option.bind_some]
  rw [if_pos (show iwanted ops (E.st s h).s o = true from hw)]
  have hheld := heldIn_cells (i := i) hr hv
  simp only [Env.st] at he h5 ⊢
  subst hs
  rcases hc with ⟨ha, rfl⟩ | ⟨ha, hz, rfl⟩
  · have hcell : h.cell? b off = some v := by
      have := row_cell hr 0 (by simp)
      simpa using this
    have h7 : heldOf P h (St.eval { s := s, h := h, nt := E.nt, marks := E.marks, rd := E.rd }) i o = some (cellsOf i b off [v]) := by
      simp only [heldOf, hop, he, ha.eq, Option.bind_some, hcell, Option.map_some, cellsOf]
    have h8 : iheap P h (St.eval { s := s, h := h, nt := E.nt, marks := E.marks, rd := E.rd }) o = some (v, h) := by
      simp only [iheap, hop, he, iload, ha.eq, Option.bind_some, hcell, Option.map_some]
    rw [h7]
    simp only [Option.bind_some, List.all_cons, List.all_nil, Bool.and_true, hheld, if_true, h8]
    exact h5
  · have h7 : heldOf P h (St.eval { s := s, h := h, nt := E.nt, marks := E.marks, rd := E.rd }) i o = some (cellsOf i b off us) := by
      simp only [heldOf, hop, he, ha.eq, Option.bind_some, hz.eq, hr, Option.map_some]
    have h8 : iheap P h (St.eval { s := s, h := h, nt := E.nt, marks := E.marks, rd := E.rd }) o = some (.agg us.toArray, h) := by
      simp only [iheap, hop, he, iload, ha.eq, Option.bind_some, hz.eq, hr, Option.map_some]
    rw [h7]
    simp only [Option.bind_some, List.all_cons, List.all_nil, Bool.and_true, hheld, if_true, h8]
    exact h5
theorem PinOk.more {i : Nat} {bs : List Nat} {pins : Held} {snaps : List IHp} (x : PinOk H pins snaps) (hi : ∀ n, i ≠ 1000000 + n) : PinOk (bs.map (fun b => (i, b)) ++ H) pins snaps := fun b n hb j hj => by
  rcases List.mem_append.1 hb with h | h
  · obtain ⟨c, _, hc⟩ := List.mem_map.1 h
    simp only [Prod.mk.injEq] at hc
    exact absurd hc.1 (hi n)
  · exact x b n h j hj
theorem TD_loadG {i : Nat} {op : Op} {t : Tr} {bs : List Nat} {g : Option (Nat × Bool)} (ho : ops[i]? = some ⟨d, op, ty, pos, af, g⟩) (hlt : Nat.ble i 999999 = true) (hw : ∀ {X F s h}, TR X F σ B s h → iwanted ops s ⟨d, op, ty, pos, af, g⟩ = true) (p : Lo P σ B op t bs) (k : TD X P E ops K plan (bs.map (fun b => (i, b)) ++ H) true (putT σ d t) B) : TD X P E ops K (.take i :: plan) H true σ B := by
  unfold TD at *
  intro F s h held snaps pins r hh hp hpin
  obtain ⟨ty', x, b, off, us, h1, h2, h3, h4, h5, h6⟩ := p.eq r
  subst h1
  have hh' := held_more (i := i) (bs := bs) hh h3 h4 h6
  rw [← List.append_assoc] at hh'
  have hpin' : PinOk (bs.map (fun b => (i, b)) ++ H) pins snaps := hpin.more (by
    intro n hn
    simp only [Nat.ble_eq] at hlt
    omega)
  rcases h5 with ⟨ha, u, rfl, hu⟩ | ⟨ha, hz, hu⟩
  · exact WD_loadG (v := u) ho rfl (hw r) h2 h3 h4 (.inl ⟨ha, rfl⟩) (hp rfl) (k F _ h _ snaps pins (r.put hu) hh' hp hpin')
  · exact WD_loadG (v := .agg us.toArray) ho rfl (hw r) h2 h3 h4 (.inr ⟨ha, hz, rfl⟩) (hp rfl) (k F _ h _ snaps pins (r.put hu) hh' hp hpin')
theorem TD_load {i : Nat} {op : Op} {t : Tr} {bs : List Nat} (ho : ops[i]? = some ⟨d, op, ty, pos, af, none⟩) (hlt : Nat.ble i 999999 = true) [p : Lo P σ B op t bs] (k : TD X P E ops K plan (bs.map (fun b => (i, b)) ++ H) true (putT σ d t) B) : TD X P E ops K (.take i :: plan) H true σ B :=
  TD_loadG ho hlt (fun r => by simp [iwanted, Region.wanted]) p k
@[irreducible] def TDK (X : Cx) (P : Program) (E : Env) (ops : Array Oper) (K : TK) (plan : List PStep) (H : List (Nat × Nat)) : TK := fun σ B => TD X P E ops K plan H false σ B
theorem TDK_go (k : TD X P E ops K plan H false σ B) : TDK X P E ops K plan H σ B := by unfold TDK; exact k
@[irreducible] def FiltT (ops : Array Oper) (i : Nat) (H : List (Nat × Nat)) (C : List (Nat × Nat) → Prop) : Prop := C (H.filter fun e => Nat.ble 1000000 e.1 || quietAt ops i || !waitsL ops i e.1)
theorem FiltT_nil {i : Nat} {C : List (Nat × Nat) → Prop} (k : C []) : FiltT ops i [] C := by unfold FiltT; exact k
theorem FiltT_drop {i j b : Nat} {C : List (Nat × Nat) → Prop} (hk : (Nat.ble 1000000 j || quietAt ops i || !waitsL ops i j) = false) (k : FiltT ops i H C) : FiltT ops i ((j, b) :: H) C := by
  unfold FiltT at *; rw [List.filter_cons, if_neg (by simp only; rw [hk]; decide)]; exact k
theorem FiltT_keep {i j b : Nat} {C : List (Nat × Nat) → Prop} (hk : (Nat.ble 1000000 j || quietAt ops i || !waitsL ops i j) = true) (k : FiltT ops i H (fun r => C ((j, b) :: r))) : FiltT ops i ((j, b) :: H) C := by
  unfold FiltT at *; rw [List.filter_cons, if_pos (by simp only; exact hk)]; exact k
theorem TD_one {i : Nat} {op : Op} {g : Option (Nat × Bool)} (ho : ops[i]? = some ⟨d, op, ty, pos, af, g⟩) (k : FiltT ops i H (fun H' => TS X P E ops (TDK X P E ops K plan H') [⟨d, op, ty, pos, af, g⟩] H' σ B)) : TD X P E ops K (.one i :: plan) H ph σ B := by
  unfold TD
  unfold FiltT at k
  unfold TS at k
  intro F s h held snaps pins r hh hp hpin
  refine WD_one_of (held' := heldBut ops i held) ho (fun e he => he) (WS_mono ?_ (k F s h (heldBut ops i held ++ pins.filter fun e => Nat.ble 1000000 e.1) r ?_))
  · rintro s' h' ⟨F', σ', B', r', hh', hk⟩
    unfold TDK at hk
    unfold TD at hk
    unfold WDK
    have hh1 : HeldOk F' B' (H.filter fun e => Nat.ble 1000000 e.1 || quietAt ops i || !waitsL ops i e.1) h' (heldBut ops i held) := fun e he => hh' e (List.mem_append_left _ he)
    refine ⟨hh1.heldIn, hk F' s' h' _ _ _ r' hh' (by simp) fun b n hb j hj => ?_⟩
    obtain ⟨v, h1, h2⟩ := hpin b n (List.mem_filter.1 hb).1 j hj
    have h3 : (1000000 + n, b, j, v) ∈ pins.filter fun e => Nat.ble 1000000 e.1 := List.mem_filter.2 ⟨h1, by simp [Nat.ble_eq]⟩
    refine ⟨v, h3, fun hs hm => ?_⟩
    rcases List.mem_cons.1 hm with rfl | hm
    · exact (hh' _ (List.mem_append_right _ h3)).2.1
    · exact h2 hs hm
  · intro e he
    have he' : e ∈ held ++ pins ∧ (Nat.ble 1000000 e.1 || quietAt ops i || !waitsL ops i e.1) = true := by
      rcases List.mem_append.1 he with he | he
      · rw [waitsL_eq]
        unfold heldBut at he
        split at he
        · rename_i hq; exact ⟨List.mem_append_left _ he, by rw [hq]; simp⟩
        · have := List.mem_filter.1 he; exact ⟨List.mem_append_left _ this.1, by rw [this.2]; simp⟩
      · have := List.mem_filter.1 he
        exact ⟨List.mem_append_right _ this.1, by rw [this.2]; simp⟩
    obtain ⟨h1, h2, h3⟩ := hh e he'.1
    refine ⟨h1, h2, ?_⟩
    rcases h3 with h3 | ⟨h3, h4⟩
    · exact .inl h3
    · exact .inr ⟨List.mem_filter.2 ⟨h3, he'.2⟩, h4⟩
class PinIn (H : List (Nat × Nat)) (b n : Nat) : Prop where mem : (1000000 + n, b) ∈ H
class IsPin (i n : Nat) : Prop where eq : i = 1000000 + n
instance IsPin.of {n : Nat} : IsPin (1000000 + n) n := ⟨rfl⟩
instance (priority := 1000) PinIn.head {b n i : Nat} [p : IsPin i n] : PinIn ((i, b) :: H) b n := ⟨by rw [← p.eq]; exact List.mem_cons_self⟩
instance (priority := 900) PinIn.tail {p : Nat × Nat} {b n : Nat} [k : PinIn H b n] : PinIn (p :: H) b n := ⟨List.mem_cons_of_mem _ k.mem⟩
/-- an alloc ahead of its time -/
theorem TD_virt {i : Nat} {t : TypeId} {z : Value} {ws : List Value} {wt : List Tr} (ho : ops[i]? = some ⟨d, .alloc t, ty, pos, af, none⟩) (hlt : Nat.ble i 999999 = true) [zi : ZeroIs P t z] [cs : CellsOf z ws] [vt : ValsT ws wt] [vl : VRL wt] (hpos : ws.isEmpty = false) (k : ∀ b, TD X P E ops K plan ((i, b) :: H) false (putT σ d (.v (.pointer (some (ad b 0))))) ((b, .cells wt t true) :: B)) : TD X P E ops K (.virt i :: plan) H ph σ B := by
  unfold TD at *
  intro F s h held snaps pins r hh hp hpin
  have r' := r.push (x' := .cells wt t true) (o := .cells ws t true) ⟨ws, repL_of_vals vt, inferInstance⟩
  have o' : ObjIs (h.push (.cells ws t true)) h.fresh ws t true := inferInstance
  have hrow : (h.push (.cells ws t true)).row h.fresh 0 ws.length = some ws := by
    have := row_obj (n := ws.length) o' 0 (by omega)
    simpa using this
  have hh1 : HeldOk F ((h.fresh, Box.cells wt t true) :: B) H (h.push (.cells ws t true)) (held ++ pins) := hh.keys (fun b off v hc => cell_ext (Ext.push h _) hc) (Sub.refl F) (fun b hb => by rw [List.map_cons]; exact List.mem_cons_of_mem _ hb)
  have hh2 := held_more (i := i) (bs := [h.fresh]) hh1 hrow (vl.eq F ws (repL_of_vals vt)) (.inr ⟨rfl, by simp, o'.even⟩)
  rw [← List.append_assoc] at hh2
  have k1 := k h.fresh F _ _ (cellsOf i h.fresh 0 ws ++ held) ((h.push (.cells ws t true)) :: snaps) pins (r'.put (rep_v _)) hh2 (by simp) (by
    intro b' n' hb j' hj
    rcases List.mem_cons.1 hb with hb | hb
    · simp only [Prod.mk.injEq] at hb
      simp only [Nat.ble_eq] at hlt
      omega
    · obtain ⟨v, g1, g2⟩ := hpin b' n' hb j' hj
      refine ⟨v, g1, fun hs hm => ?_⟩
      rcases List.mem_cons.1 hm with rfl | hm
      · exact cell_ext (Ext.push h _) (hh _ (List.mem_append_right _ g1)).2.1
      · exact g2 hs hm)
  have l1 : CellsL i h.fresh 0 ws held (cellsOf i h.fresh 0 ws ++ held) := ⟨rfl⟩
  have hi : HeldIs (h.push (.cells ws t true)) (cellsOf i h.fresh 0 ws ++ held) := ⟨HeldOk.heldIn (H := (i, h.fresh) :: H) (B := (h.fresh, Box.cells wt t true) :: B) (F := F) fun e he => hh2 e (List.mem_append_left _ he)⟩
  exact WD_virt ho hpos k1
end Go.Ideal

-- IdealTk
set_option linter.unusedSimpArgs false
set_option linter.unusedVariables false
namespace Go.Ideal
open Go Go.RowKit
variable {P : Program} {X : Cx} {E : Env} {σ : Nat → Tr} {B B' : Boxes} {ops : Array Oper} {K : TK} {l : List Oper} {d : Option Tmp} {ty : TypeId} {pos : String} {af : Array Edge} {H : List (Nat × Nat)} {F : Mem} {s : Nat → Value} {h : IHp} {held : Held} {plan : List PStep} {ph : Bool}

/-! ### Boxes that are kept -/
class SubB (B' B : Boxes) : Prop where eq : B'.Sublist B
instance (priority := 1000) SubB.nil : SubB [] B := ⟨List.nil_sublist B⟩
instance (priority := 900) SubB.keep {p : Nat × Box} [i : SubB B' B] : SubB (p :: B') (p :: B) := ⟨i.eq.cons_cons p⟩
instance (priority := 800) SubB.skip {p : Nat × Box} [i : SubB B' B] : SubB B' (p :: B) := ⟨i.eq.cons p⟩

instance (priority := 950) SubB.same : SubB B B := ⟨List.Sublist.refl B⟩
theorem TR.perm (r : TR X F σ B s h) (p : B.Perm B') : TR X F σ B' s h :=
  ⟨r.ext, r.base, r.sub, r.own, fun q hq => r.box q (p.mem_iff.2 hq), fun q hq => r.sep q (p.mem_iff.2 hq), (p.map Prod.fst).nodup_iff.1 r.dis, r.gd, r.slot⟩
/-- B' is among B, in whatever order -/
class SubP (B B' : Boxes) : Prop where eq : ∃ C, B.Perm (B' ++ C)
instance (priority := 2000) SubP.nil : SubP B [] := ⟨B, List.Perm.refl B⟩
instance (priority := 1900) SubP.same : SubP B B := ⟨[], by simp⟩
instance (priority := 1000) SubP.cons {b : Nat} {x : Box} {B1 : Boxes} [d : BoxDel B b x B1] [k : SubP B1 B'] : SubP B ((b, x) :: B') := ⟨by
  obtain ⟨pre, post, h1, h2⟩ := d.eq
  obtain ⟨C, h3⟩ := k.eq
  refine ⟨C, ?_⟩
  rw [h1]
  refine List.perm_middle.trans ?_
  rw [← h2]
  exact h3.cons _⟩
instance (priority := 900) SubP.skip {p : Nat × Box} [k : SubP B B'] : SubP (p :: B) B' := ⟨by
  obtain ⟨C, h3⟩ := k.eq
  exact ⟨p :: C, (h3.cons p).trans List.perm_middle.symm⟩⟩
theorem SubP.last {k : Nat × Box} {L : Boxes} (h : SubP B (k :: L)) : SubP B (L ++ [k]) := ⟨by
  obtain ⟨C, h1⟩ := h.eq
  exact ⟨C, h1.trans ((List.perm_append_singleton k L).symm.append_right C)⟩⟩
theorem TR.keep (r : TR X F σ B s h) (k : SubP B B') : TR X F σ B' s h := by
  obtain ⟨C, h3⟩ := k.eq
  exact (r.perm h3).drop (List.sublist_append_left _ _)
theorem TV_keep {c : Code} {Q : IExit → TK} (B' : Boxes) [p : SubP B B'] (k : TV X P E c Q σ B') : TV X P E c Q σ B := by
  unfold TV at *; intro F s h r; exact k F s h (r.keep p)
/-! ### One step, found by the goal's form -/
class StepC (goal : Prop) (next : outParam Prop) : Prop where go : next → goal
instance {a b : Code} {Q : IExit → TK} : StepC (TV X P E (.seq a b) Q σ B) (TV X P E a (TseqK X P E b Q) σ B) := ⟨TV_seq⟩
instance {id : Nat} {b : Code} {Q : IExit → TK} : StepC (TV X P E (.block id b) Q σ B) (TV X P E b (TblockK id Q) σ B) := ⟨TV_block⟩
instance {Q : IExit → TK} : StepC (TV X P E .skip Q σ B) (Q .normal σ B) := ⟨TV_skip⟩
instance {Q : IExit → TK} {id : Nat} : StepC (TV X P E (.exit id) Q σ B) (Q (.exit id) σ B) := ⟨TV_exit⟩
instance {Q : IExit → TK} : StepC (TV X P E .ret Q σ B) (Q .ret σ B) := ⟨TV_ret⟩
instance {id : Nat} {l : List Oper} {Q : IExit → TK} : StepC (TV X P E (.region id l.toArray false) Q σ B) (TS X P E l.toArray (Q .normal) l [] σ B) := ⟨TV_region⟩
instance {b : Code} {Q : IExit → TK} : StepC (TseqK X P E b Q .normal σ B) (TV X P E b Q σ B) := ⟨TSQ_normal⟩
instance {b : Code} {Q : IExit → TK} {j : Nat} : StepC (TseqK X P E b Q (.exit j) σ B) (Q (.exit j) σ B) := ⟨TSQ_exit⟩
instance {b : Code} {Q : IExit → TK} : StepC (TseqK X P E b Q .ret σ B) (Q .ret σ B) := ⟨TSQ_ret⟩
instance {id : Nat} {Q : IExit → TK} : StepC (TblockK id Q .normal σ B) (Q .normal σ B) := ⟨TB_normal⟩
instance {id : Nat} {Q : IExit → TK} : StepC (TblockK id Q .ret σ B) (Q .ret σ B) := ⟨TB_ret⟩
instance (priority := 1100) {id : Nat} {Q : IExit → TK} : StepC (TblockK id Q (.exit id) σ B) (Q .normal σ B) := ⟨TB_exit⟩
instance (priority := 900) {id j : Nat} {Q : IExit → TK} [n : BeqIs j id false] : StepC (TblockK id Q (.exit j) σ B) (Q (.exit j) σ B) := ⟨TB_pass n.eq⟩
instance {I : TK} {K : IExit → TK} : StepC (TcutK I K .normal σ B) (I σ B) := ⟨TC_normal⟩
instance {I : TK} {K : IExit → TK} {j : Nat} : StepC (TcutK I K (.exit j) σ B) (K (.exit j) σ B) := ⟨TC_exit⟩
instance {I : TK} {K : IExit → TK} : StepC (TcutK I K .ret σ B) (K .ret σ B) := ⟨TC_ret⟩
instance : StepC (TS X P E ops K [] H σ B) (K σ B) := ⟨TS_nil⟩
instance (priority := 100) {op : Op} {t : Tr} [p : Pu P σ B op t] : StepC (TS X P E ops K (⟨d, op, ty, pos, af, none⟩ :: l) H σ B) (TS X P E ops K l H (putT σ d t) B) := ⟨TS_pu⟩
instance {t : TypeId} {z : Value} {ws : List Value} {wt : List Tr} [zi : ZeroIs P t z] [cs : CellsOf z ws] [vt : ValsT ws wt] : StepC (TS X P E ops K (⟨d, .alloc t, ty, pos, af, none⟩ :: l) H σ B) (∀ b, TS X P E ops K l H (putT σ d (.v (.pointer (some (ad b 0))))) ((b, .cells wt t true) :: B)) := ⟨TS_alloc⟩
instance {t : TypeId} {x : Operand} {u : Tr} {cs : List Tr} [e : TEval σ x u] [c : CellsT u cs] : StepC (TS X P E ops K (⟨d, .box t x, ty, pos, af, none⟩ :: l) H σ B) (∀ b, TS X P E ops K l H (putT σ d (.v (.pointer (some (ad b 0))))) ((b, .cells cs t true) :: B)) := ⟨TS_box⟩
instance {x y : Operand} {t : TypeId} {b off n : Nat} {u : Tr} {ws cs r' : List Tr} {bt : Nat} {bx : Bool} [e1 : TEval σ x (.v (.pointer (some (ad b off))))] [e2 : TEval σ y u] [z : SizeIs P t n] [c : CellsT u ws] [bi : BoxIs B b (.cells cs bt bx)] [ln : LenT ws n] [si : SetT cs off ws r'] [bp : BoxPut B b b (.cells r' bt bx) B'] [ap : Apart B b H] : StepC (TS X P E ops K (⟨d, .store t x y, ty, pos, af, none⟩ :: l) H σ B) (TS X P E ops K l H (putT σ d (.v undef)) B') := ⟨TS_store⟩
instance {x y : Operand} {t : TypeId} {b m i j n : Nat} {u : Tr} {ws row row' : List Tr} {rows rows' : List (List Tr)} {bt : Nat} {bx : Bool} [e1 : TEval σ x (.v (elp b m i j))] [e2 : TEval σ y u] [z : SizeIs P t n] [c : CellsT u ws] [bi : BoxIs B b (.arr m rows bt bx)] [ng : NthG rows i row] [ln : LenT ws n] [si : SetT row j ws row'] [sr : SetR rows i row' rows'] [bp : BoxPut B b b (.arr m rows' bt bx) B'] [ap : Apart B b H] : StepC (TS X P E ops K (⟨d, .store t x y, ty, pos, af, none⟩ :: l) H σ B) (TS X P E ops K l H (putT σ d (.v undef)) B') := ⟨TS_store_arr⟩
theorem buildSlice_side {m len : Nat} (h1 : Nat.beq m 0 = false) (h2 : Nat.ble (len * m) 16777216 = true) : (m != 0 && decide (len * m ≤ 2 ^ 24)) = true := by
  simp only [Nat.ble_eq] at h2
  have : m ≠ 0 := fun h => by subst h; simp at h1
  simp [this]; omega
instance {t e : TypeId} {len m : Nat} {ps : List (Nat × Operand)} {pt : List (Nat × Tr)} {ts : List Tr} {rows : List (List Tr)} {z : Value} {wz : List Value} [u : UnderIs P t (.slice e)] [zi : SizeIs P e m] [ze : ZeroIs P e z] [cz : CellsOf z wz] [lz : LenT wz m] [p : TParts σ ps pt] [en : EnumT 0 pt ts] [ro : RowsT m ts rows] [lt : LenT ts len] [s1 : BeqIs m 0 false] [s2 : LeIs (len * m) 16777216 true] : StepC (TS X P E ops K (⟨d, .buildSlice t len ps.toArray, ty, pos, af, none⟩ :: l) H σ B) (∀ b, TS X P E ops K l H (putT σ d (.v (.slice (some (ad b 0)) len len))) ((b, .arr m rows e true) :: B)) := ⟨TS_buildSlice (buildSlice_side s1.eq s2.eq)⟩
instance : StepC (TDK X P E ops K plan H σ B) (TD X P E ops K plan H false σ B) := ⟨TDK_go⟩
instance : StepC (TD X P E ops K [] H ph σ B) (K σ B) := ⟨TD_nil⟩

/-! ### Parts of slices -/
/-! ### Bounds that lie in what is handed in -/
theorem TV_fact (i : Nat) {c : Code} {Q : IExit → TK} {t : Tr} [g : TGet σ i t] {p : Prop} (hp : ∀ F v, Rep F t v → p) (k : p → TV X P E c Q σ B) : TV X P E c Q σ B := by
  unfold TV at *
  intro F s h r
  exact k (hp F (s i) (by rw [← g.eq]; exact r.slot i)) F s h r
theorem rep_small {m : Nat} {rows : List (List Tr)} {v : Value} (h : Rep F (.sl m rows) v) : rows.length < 2 ^ 63 := by
  simp only [Rep] at h
  obtain ⟨a, n, c, _, h2, h3, h4, _⟩ := h
  omega
theorem rep_agg_at {cs : List Tr} {v : Value} (h : Rep F (.agg cs) v) {i : Nat} {t : Tr} (hi : cs[i]? = some t) : ∃ w, Rep F t w := by
  simp only [Rep] at h
  obtain ⟨vs, _, h1⟩ := h
  obtain ⟨w, _, h2⟩ := h1.get hi
  exact ⟨w, h2⟩
/-- a slice of nothing reads as no rows -/
class Cv (t t' : Tr) : Prop where eq : ∀ F v, Rep F t v → Rep F t' v
class CvL (ts ts' : List Tr) : Prop where eq : ∀ F vs, RepL F ts vs → RepL F ts' vs
instance (priority := 2000) Cv.refl {t : Tr} : Cv t t := ⟨fun _ _ h => h⟩
instance Cv.nil {m : Nat} : Cv (.v (.slice none 0 0)) (.sl m []) := ⟨fun F v h => by
  simp only [Rep] at h
  subst h
  rw [Rep]
  exact ⟨none, 0, 0, rfl, rfl, Nat.le_refl _, by decide, (fun d hd => by cases hd), rfl⟩⟩
instance (priority := 2000) CvL.nil : CvL [] [] := ⟨fun _ _ h => h⟩
instance CvL.cons {t t' : Tr} {ts ts' : List Tr} [a : Cv t t'] [b : CvL ts ts'] : CvL (t :: ts) (t' :: ts') := ⟨fun F vs h => by
  simp only [RepL] at h
  obtain ⟨v, ws, rfl, h1, h2⟩ := h
  exact RepL.cons (a.eq F v h1) (b.eq F ws h2)⟩
instance Cv.agg {ts ts' : List Tr} [a : CvL ts ts'] : Cv (.agg ts) (.agg ts') := ⟨fun F v h => by
  simp only [Rep] at *
  obtain ⟨vs, rfl, h1⟩ := h
  exact ⟨vs, rfl, a.eq F vs h1⟩⟩
theorem RetIs.conv {rs : List ResultVar} {ts ts' : List Tr} (r : RetIs P σ B rs ts) (c : CvL ts ts') : RetIs P σ B rs ts' := ⟨fun X F s h E q G o => by
  obtain ⟨vs, h1, h2⟩ := r.eq X F s h E q G o
  exact ⟨vs, h1, c.eq G vs h2⟩⟩
theorem retT_2c {a b : ResultVar} {Φ : Tr → Prop} {e : IExit} {ts : List Tr} [r : RetIs P σ B [a, b] ts] (ts' : List Tr) [c : CvL ts ts'] (he : e = .normal ∨ e = .ret) (k : Φ (tret ts')) : retT P [a, b] Φ e σ B := retT_go (r := r.conv c) he k
theorem retT_1 {a : ResultVar} {Φ : Tr → Prop} {e : IExit} {ts : List Tr} [r : RetIs P σ B [a] ts] (he : e = .normal ∨ e = .ret) (k : Φ (tret ts)) : retT P [a] Φ e σ B := retT_go he k
theorem retT_2 {a b : ResultVar} {Φ : Tr → Prop} {e : IExit} {ts : List Tr} [r : RetIs P σ B [a, b] ts] (he : e = .normal ∨ e = .ret) (k : Φ (tret ts)) : retT P [a, b] Φ e σ B := retT_go he k
end Go.Ideal

-- IdealTl
set_option linter.unusedSimpArgs false
set_option linter.unusedVariables false
namespace Go.Ideal
open Go Go.RowKit
variable {P : Program} {X : Cx} {E : Env} {σ : Nat → Tr} {B B' : Boxes} {ops : Array Oper} {K : TK} {l : List Oper} {d : Option Tmp} {ty : TypeId} {pos : String} {af : Array Edge} {H : List (Nat × Nat)} {F : Mem} {s : Nat → Value} {h : IHp} {held : Held}

/-! ### Loops over slices.Backward -/
/-- what is no cells may change -/
theorem TR.other {b : Nat} {o o' : IObj} (r : TR X F σ B s h) (a : AtIs h b o) (hn : ∀ c e x, o ≠ .cells c e x) (hb : X.h.fresh ≤ b) (hg : ∀ g ∈ X.G, g.1 / 2 ≠ b / 2) : TR X F σ B s (h.putObj b o') := by
  have hcell : ∀ b' off v, h.cell? b' off = some v → (h.putObj b o').cell? b' off = some v := by
    intro b' off v hc
    unfold IHp.cell? at *
    simp only [IHp.putObj]
    split
    · rename_i hbo; rw [if_pos hbo] at hc; exact hc
    · rename_i hbo
      rw [if_neg hbo] at hc
      have hne : b' / 2 ≠ b / 2 := by
        intro he
        rw [he, a.eq] at hc
        cases o with
        | cells c e x => exact hn _ _ _ rfl
        | _ => cases hc
      rw [List.getElem?_set_ne (fun h => hne h.symm)]; exact hc
  have hobj : ∀ b' vs t x, ObjIs h b' vs t x → ObjIs (h.putObj b o') b' vs t x := by
    intro b' vs t x oi
    have : NeB b' b := ⟨fun he => by
      have h1 := oi.eq
      rw [he, a.eq] at h1
      exact hn _ _ _ (Option.some.inj h1)⟩
    infer_instance
  refine ⟨r.ext.putObj hb, r.base, fun b' off v hf => hcell _ _ _ (r.sub _ _ _ hf), r.own, fun p hp => ?_, r.sep, r.dis, fun g hgm => ⟨⟨(r.gd g hgm).1.even, by
    simp only [IHp.putObj]
    rw [List.getElem?_set_ne (fun h => hg g hgm h.symm)]; exact (r.gd g hgm).1.eq⟩, (r.gd g hgm).2⟩, r.slot⟩
  have h1 := r.box p hp
  cases hx : p.2 with
  | cells cs t y => rw [hx] at h1; obtain ⟨vs, h2, h3⟩ := h1; exact ⟨vs, h2, hobj _ _ _ _ h3⟩
  | arr m rows t y =>
    rw [hx] at h1
    simp only [BoxRep] at h1 ⊢
    refine ⟨h1.1, ?_⟩
    rcases h1.2 with h2 | ⟨vs, h2, h3⟩
    · exact .inl h2
    · exact .inr ⟨vs, h2, hobj _ _ _ _ h3⟩
theorem TR.start {args : List Tr} {vs : List Value} {F0 : Mem} (h1 : Sub F0 h.cell?) (h2 : RepL F0 args vs) : TR ⟨h, F0, []⟩ F0 (argT args) [] (argS vs) h :=
  ⟨Ext.refl h, Sub.refl F0, h1, fun b off v hf => .inl hf, by simp, by simp, by simp, by simp, fun i => by
    by_cases hi : i < args.length
    · obtain ⟨v, h3, h4⟩ := h2.get (List.getElem?_eq_getElem hi)
      have h5 : argS vs i = v := by
        have hi2 := (List.getElem?_eq_some_iff.1 h3).1
        simp only [argS, Array.getD]
        rw [dif_pos (by simpa using hi2)]
        rw [List.getElem?_eq_getElem hi2] at h3
        simpa using Option.some.inj h3
      have h6 : argT args i = args[i] := by simp [argT, List.getD, hi]
      rw [h5, h6]; exact h4
    · have h5 : argS vs i = undef := by
        have := h2.len
        simp only [argS, Array.getD]
        rw [dif_neg (by simp; omega)]
      have h6 : argT args i = .v undef := by simp [argT, List.getD, hi]
      rw [h5, h6]; exact rep_v _⟩
end Go.Ideal

-- IdealTm
set_option linter.unusedSimpArgs false
set_option linter.unusedVariables false
namespace Go.Ideal
open Go Go.RowKit
variable {P : Program} {X : Cx} {E : Env} {σ : Nat → Tr} {B B' : Boxes} {ops : Array Oper} {K : TK} {l : List Oper} {d : Option Tmp} {ty : TypeId} {pos : String} {af : Array Edge} {H : List (Nat × Nat)} {F : Mem} {s : Nat → Value} {h : IHp} {held : Held}

/-! ### Room: cap, parts of own slices, append of a made slice, append that stays -/
instance Pu.cap_nil {x : Operand} {t te : TypeId} [e : TEval σ x (.v (.slice none 0 0))] [u : UnderIs P t (.slice te)] : Pu P σ B (.call ⟨.builtin .cap, #[x], #[t]⟩) (.v (.int .i64 0)) := ⟨fun {X F s h} q {E' _ _ _ _ _ _ _} kk => by
  have := e.is q.slot
  refine WS_pure rfl rfl ?_ (kk _ (rep_v _))
  have h1 := ev_eq (E := E') (h := h) (x := x) (s := s)
  simp [ipure, u.eq, h1]⟩
/-! ### Functions that answer own memory -/
@[irreducible] def FnO (P : Program) (f : FuncId) (args : List Tr) (Φ : Tr → Boxes → Prop) : Prop := ∀ (F0 : Mem) (h : IHp) (vs : List Value), Sub F0 h.cell? → RepL F0 args vs → EvX P f vs.toArray h (fun v h' => ∃ F r B, TR ⟨h, F0, []⟩ F (fun _ => r) B (fun _ => v) h' ∧ (∀ p ∈ B, p.1 % 2 = 0) ∧ Φ r B)
/-- results as they are, own memory and all -/
def RetTO (P : Program) (σ : Nat → Tr) (B : Boxes) (rs : List ResultVar) (ts : List Tr) : Prop := ∀ X F s h E, TR X F σ B s h → ∃ vs, iresults P (Env.st E s h) rs = some vs ∧ RepL F ts vs
class RetIsO (P : Program) (σ : Nat → Tr) (B : Boxes) (rs : List ResultVar) (ts : outParam (List Tr)) : Prop where eq : RetTO P σ B rs ts
instance RetIsO.nil : RetIsO P σ B [] [] := ⟨fun X F s h E r => ⟨[], rfl, RepL.nil⟩⟩
instance RetIsO.tmp {i : Nat} {t : Tr} {rs : List ResultVar} {ts : List Tr} [g : TGet σ i t] [k : RetIsO P σ B rs ts] : RetIsO P σ B (.tmp i :: rs) (t :: ts) := ⟨fun X F s h E r => by
  obtain ⟨vs, h1, h2⟩ := k.eq X F s h E r
  refine ⟨s i :: vs, by simp only [Env.st] at h1 ⊢; simp only [iresults, h1, Option.map_some], RepL.cons ?_ h2⟩
  rw [← g.eq]; exact r.slot i⟩
instance RetIsO.cell_agg {i ct b off n bt : Nat} {bx : Bool} {cs r1 r2 : List Tr} {rs : List ResultVar} {ts : List Tr} [g : TGet σ i (.v (.pointer (some (ad b off))))] [a : AggIs P ct true] [z : SizeIs P ct n] [bi : BoxIs B b (.cells cs bt bx)] [dr : DropT cs off r1] [tk : TakeT r1 n r2] [k : RetIsO P σ B rs ts] : RetIsO P σ B (.cell i ct :: rs) (.agg r2 :: ts) := ⟨fun X F s h E r => by
  obtain ⟨vs, h1, h2⟩ := k.eq X F s h E r
  have h3 := (g.is r).eq
  obtain ⟨us, h4, h5⟩ := r.boxOf bi
  obtain ⟨ws, h6, h7⟩ := h4.row h5 dr tk
  refine ⟨.agg ws.toArray :: vs, ?_, RepL.cons ?_ h2⟩
  · simp only [Env.st] at h1 ⊢; simp only [iresults, h1, Option.map_some, h3, iload, a.eq, Option.bind_some, z.eq, h6.eq]
  · simp only [Rep]; exact ⟨ws, rfl, h7⟩⟩
instance RetIsO.cell {i ct b off bt : Nat} {bx : Bool} {cs : List Tr} {t : Tr} {rs : List ResultVar} {ts : List Tr} [g : TGet σ i (.v (.pointer (some (ad b off))))] [a : AggIs P ct false] [bi : BoxIs B b (.cells cs bt bx)] [ng : NthG cs off t] [k : RetIsO P σ B rs ts] : RetIsO P σ B (.cell i ct :: rs) (t :: ts) := ⟨fun X F s h E r => by
  obtain ⟨vs, h1, h2⟩ := k.eq X F s h E r
  have h3 := (g.is r).eq
  obtain ⟨us, h4, h5⟩ := r.boxOf bi
  obtain ⟨v, h6, h7⟩ := h4.get ng.eq
  refine ⟨v :: vs, ?_, RepL.cons h7 h2⟩
  simp only [Env.st] at h1 ⊢
  simp only [iresults, h1, Option.map_some, h3, iload, a.eq, Option.bind_some, h5.cell, h6]⟩
/-- no ghost -/
def BoxReal : Box → Prop
  | .cells _ _ _ => True
  | .arr _ rows _ x => rows = [] → x = true
theorem BoxRep.real {b : Nat} {x : Box} (r : BoxRep F h b x) (hr : BoxReal x) : b % 2 = 0 := by
  cases x with
  | cells cs t y => obtain ⟨vs, _, o⟩ := r; exact o.even
  | arr m rows t y =>
    simp only [BoxRep] at r
    rcases r.2 with ⟨h1, h2, _⟩ | ⟨vs, _, o⟩
    · have := hr h1; rw [h2] at this; cases this
    · exact o.even
end Go.Ideal

-- IdealTn
set_option linter.unusedSimpArgs false
set_option linter.unusedVariables false
namespace Go.Ideal
open Go Go.RowKit
variable {P : Program} {X : Cx} {E : Env} {σ : Nat → Tr} {B B' : Boxes} {ops : Array Oper} {K : TK} {l : List Oper} {d : Option Tmp} {ty : TypeId} {pos : String} {af : Array Edge} {H : List (Nat × Nat)} {F : Mem} {s : Nat → Value} {h : IHp} {held : Held}

/-! ### Parts of own slices from a place on -/
theorem SrcT.mark {m c : Nat} {a : Addr} : SrcT B (.v (.slice (some a) 0 c)) m [] := ⟨fun X F σ s h r v hv => by
  simp only [Rep] at hv
  subst hv
  exact ⟨some a, 0, c, [], rfl, rfl, by simp [IHp.rowAt, IHp.row], by simpa using RepL.nil, by simp⟩⟩
theorem SrcT.part {m b j n c bt : Nat} {bx : Bool} {rows : List (List Tr)} [bi : BoxIs B b (.arr m rows bt bx)] [rx : RealX rows bx] (hn : j + n ≤ rows.length) : SrcT B (.v (.slice (some (ad b (j * m))) n c)) m ((rows.drop j).take n) := ⟨fun X F σ s h r v hv => by
  simp only [Rep] at hv
  subst hv
  have hb := r.boxOf bi
  obtain ⟨vs, g1, g2⟩ := rx.even hb
  simp only [BoxRep] at hb
  have hA : ∀ row ∈ rows.take j, row.length = m := fun row hr => hb.1 row (List.mem_of_mem_take hr)
  have hM : ∀ row ∈ (rows.drop j).take n, row.length = m := fun row hr => hb.1 row (List.mem_of_mem_drop (List.mem_of_mem_take hr))
  have hvl : vs.length = rows.length * m := by rw [g1.len, flat_len hb.1]
  have hle : j * m + n * m ≤ vs.length := by rw [hvl, ← Nat.add_mul]; exact Nat.mul_le_mul_right m hn
  have hsplit : rows.flatten = (rows.take j).flatten ++ (((rows.drop j).take n).flatten ++ (rows.drop (j + n)).flatten) := by
    rw [← List.flatten_append, ← List.flatten_append]
    congr 1
    conv => lhs; rw [← List.take_append_drop j rows, ← List.take_append_drop n (rows.drop j), List.drop_drop]
  have e3 : (rows.take j).flatten.length = j * m := by rw [flat_len hA, List.length_take, Nat.min_eq_left (by omega)]
  have e4 : ((rows.drop j).take n).flatten.length = n * m := by rw [flat_len hM, List.length_take, List.length_drop, Nat.min_eq_left (by omega)]
  refine ⟨some (ad b (j * m)), n, c, (vs.drop (j * m)).take (n * m), rfl, by simp; omega, ?_, ?_, hM⟩
  · simp only [IHp.rowAt]
    exact row_obj g2 (j * m) hle
  · have h5 : ((rows.drop j).take n).flatten = (rows.flatten.drop (j * m)).take (n * m) := by
      rw [hsplit, ← e3, List.drop_left, ← e4, List.take_left]
    rw [h5]
    exact (g1.drop _).take _⟩
end Go.Ideal

-- IdealTo
set_option linter.unusedSimpArgs false
set_option linter.unusedVariables false
namespace Go.Ideal
open Go Go.RowKit
variable {P : Program} {X : Cx} {E : Env} {σ : Nat → Tr} {B B' : Boxes} {ops : Array Oper} {K : TK} {l : List Oper} {d : Option Tmp} {ty : TypeId} {pos : String} {af : Array Edge} {H : List (Nat × Nat)} {F : Mem} {s : Nat → Value} {h : IHp} {held : Held}
/-! ### A place in an own slice that has room behind it -/
end Go.Ideal

-- IdealTp
set_option linter.unusedSimpArgs false
set_option linter.unusedVariables false
namespace Go.Ideal
open Go Go.RowKit
variable {P : Program} {X : Cx} {E : Env} {σ : Nat → Tr} {B B' : Boxes} {ops : Array Oper} {K : TK} {l : List Oper} {d : Option Tmp} {ty : TypeId} {pos : String} {af : Array Edge} {H : List (Nat × Nat)} {F : Mem} {s : Nat → Value} {h : IHp} {held : Held}
/-! ### Functions that change memory that they are handed -/
/-- called with these trees and boxes the function answers a tree and leaves boxes of which Φ holds; whatever else there is stays -/
@[irreducible] def FnB (P : Program) (f : FuncId) (args : List Tr) (B : Boxes) (Φ : Tr → Boxes → Prop) : Prop :=
  ∀ (X : Cx) (F : Mem) (σ : Nat → Tr) (s : Nat → Value) (C : Boxes) (h : IHp) (vs : List Value), TR X F σ (B ++ C) s h → RepL F args vs →
    EvX P f vs.toArray h (fun v h' => ∃ F' r B', TR X F' σ (B' ++ C) s h' ∧ Sub F F' ∧ Rep F' r v ∧ Φ r B')
theorem TS_callB {f : FuncId} {ps : List Operand} {ts : List Tr} {at_ : Array TypeId} {b : Nat} {x : Box} {C : Boxes} {Φ : Tr → Boxes → Prop} [c : CallIs P f] [e : TEvals σ ps ts] [dl : BoxDel B b x C] (hc : FnB P f ts [(b, x)] Φ) (k : ∀ r B1, Φ r B1 → TS X P E ops K l [] (putT σ d r) (B1 ++ C)) :
    TS X P E ops K (⟨d, .call ⟨.value (.func f), ps.toArray, at_⟩, ty, pos, af, none⟩ :: l) [] σ B := by
  unfold TS at *
  unfold FnB at hc
  intro F s h held r hh
  have he : EvalsIs s ps (ps.map (St.eval ⟨s, h, 0, [], false⟩)) := ⟨fun h' nt mk rd => by
    apply List.map_congr_left
    intro x _
    exact (evalIs_self (s := s) (x := x) (h := h)).eq h' nt mk rd⟩
  have hp : B.Perm ([(b, x)] ++ C) := by
    obtain ⟨pre, post, rfl, rfl⟩ := dl.eq
    exact List.perm_middle
  have r1 := r.perm hp
  refine WS_call (hc X F σ s C h _ r1 (e.eq F s r.slot h 0 [] false)) ?_
  rintro v h' ⟨F', r2, B1, r3, hs, hr, hk⟩
  refine k r2 B1 hk F' _ h' held (r3.put hr) (fun e he => ?_)
  obtain ⟨h1, h2, h3⟩ := hh e he
  rcases h3 with h3 | ⟨h3, _⟩
  · exact ⟨h1, r3.sub _ _ _ (hs _ _ _ h3), .inl (hs _ _ _ h3)⟩
  · cases h3
/-- one box, changed -/
theorem TS_callM {f : FuncId} {ps : List Operand} {ts : List Tr} {at_ : Array TypeId} {b : Nat} {x x' : Box} {C : Boxes} {t : Tr} [c : CallIs P f] [e : TEvals σ ps ts] [dl : BoxDel B b x C] (hc : FnB P f ts [(b, x)] (fun r B1 => r = t ∧ B1 = [(b, x')])) (k : TS X P E ops K l [] (putT σ d t) ((b, x') :: C)) :
    TS X P E ops K (⟨d, .call ⟨.value (.func f), ps.toArray, at_⟩, ty, pos, af, none⟩ :: l) [] σ B :=
  TS_callB hc (by rintro _ _ ⟨rfl, rfl⟩; exact k)
@[irreducible] def retTB (P : Program) (rs : List ResultVar) (C : Boxes) (Φ : Tr → Boxes → Prop) : IExit → TK := fun e σ B => (e = .normal ∨ e = .ret) ∧ ∃ ts B', RetTO P σ B rs ts ∧ SubP B (B' ++ C) ∧ Φ (tret ts) B'
theorem retB_go {rs : List ResultVar} {C : Boxes} {Φ : Tr → Boxes → Prop} {e : IExit} {ts : List Tr} (B' : Boxes) [r : RetIsO P σ B rs ts] (sp : SubP B (B' ++ C)) (he : e = .normal ∨ e = .ret) (k : Φ (tret ts) B') : retTB P rs C Φ e σ B := by unfold retTB; exact ⟨he, ts, B', r.eq, sp, k⟩
/-- no answer but one changed box -/
theorem retB_0 {C : Boxes} {Φ : Tr → Boxes → Prop} {e : IExit} (b : Nat) (x : Box) [sp : SubP B ((b, x) :: C)] (he : e = .normal ∨ e = .ret) (k : Φ (.tup []) [(b, x)]) : retTB P [] C Φ e σ B := retB_go (ts := []) [(b, x)] sp he k
theorem FnB_of {f : FuncId} {fn : Func} {c : Code} {args : List Tr} {B : Boxes} {Φ : Tr → Boxes → Prop} (hf : P.funcs[f]? = some fn) (hb : fn.body = some c) (hsz : args.length ≤ fn.ntmps)
    (hw : ∀ X C, TV X P ⟨fn.ntmps, [], false⟩ c (retTB P fn.results.toList C Φ) (argT args) (B ++ C)) : FnB P f args B Φ := by
  unfold FnB
  intro X F σ s C h vs r h2
  have hr : TR ⟨X.h, F, X.G⟩ F (argT args) (B ++ C) (argS vs) h := ⟨r.ext, Sub.refl F, r.sub, fun b off v hf => .inl hf, r.box, r.sep, r.dis, r.gd, fun i => by
    by_cases hi : i < args.length
    · obtain ⟨v, h3, h4⟩ := h2.get (List.getElem?_eq_getElem hi)
      have h5 : argS vs i = v := by
        have hi2 := (List.getElem?_eq_some_iff.1 h3).1
        simp only [argS, Array.getD]
        rw [dif_pos (by simpa using hi2)]
        rw [List.getElem?_eq_getElem hi2] at h3
        simpa using Option.some.inj h3
      have h6 : argT args i = args[i] := by simp [argT, List.getD, hi]
      rw [h5, h6]; exact h4
    · have h5 : argS vs i = undef := by
        have := h2.len
        simp only [argS, Array.getD]
        rw [dif_neg (by simp; omega)]
      have h6 : argT args i = .v undef := by simp [argT, List.getD, hi]
      rw [h5, h6]; exact rep_v _⟩
  have hw := hw ⟨X.h, F, X.G⟩ C
  unfold TV at hw
  refine EvX_of hf hb (by rw [h2.len]; exact hsz) (V_mono ?_ (hw F _ h hr))
  rintro e s' h' ⟨F', σ', B', r', hk⟩
  unfold retTB at hk
  obtain ⟨he, ts, B2, h3, sp, h4⟩ := hk
  obtain ⟨ws, h5, h6⟩ := h3 _ F' s' h' ⟨fn.ntmps, [], false⟩ r'
  have r2 := r'.keep sp
  unfold retK
  refine ⟨he, ws, h5, F', tret ts, B2, ⟨r2.ext, r.base.trans r2.base, r2.sub, fun b off v hf => ?_, r2.box, r2.sep, r2.dis, r2.gd, fun i => (r.slot i).sub r2.base⟩, r2.base, ?_, h4⟩
  · rcases r2.own b off v hf with h7 | h7
    · exact r.own b off v h7
    · exact .inr h7
  have hl := h6.len
  match ts, ws, h6, hl with
  | [], [], _, _ => simp only [tret, iret, Rep]; exact ⟨[], rfl, RepL.nil⟩
  | [t], [v], h6, _ =>
    simp only [RepL] at h6
    obtain ⟨v', ws', h7, h8, _⟩ := h6
    simp only [List.cons.injEq] at h7
    obtain ⟨rfl, rfl⟩ := h7
    exact h8
  | t :: t2 :: ts, v :: v2 :: vs, h6, _ => simp only [tret, iret, Rep]; exact ⟨_, rfl, h6⟩
end Go.Ideal

-- IdealTq
set_option linter.unusedSimpArgs false
set_option linter.unusedVariables false
namespace Go.Ideal
open Go Go.RowKit
variable {P : Program} {X : Cx} {E : Env} {σ : Nat → Tr} {B B' : Boxes} {ops : Array Oper} {K : TK} {l : List Oper} {d : Option Tmp} {ty : TypeId} {pos : String} {af : Array Edge} {H : List (Nat × Nat)} {F : Mem} {s : Nat → Value} {h : IHp} {held : Held}
/-! ### Pointers that are not nil -/
instance Pu.nilCheck_v {x : Operand} {b off : Nat} [e : TEval σ x (.v (.pointer (some (ad b off))))] : Pu P σ B (.nilCheck x) (.v (.pointer (some (ad b off)))) := ⟨fun {X F s h} q {E' _ _ _ _ _ _ _} kk => by
  have h1 := e.is q.slot
  have g1 := ev_eq (E := E') (h := h) (x := x) (s := s)
  refine WS_pure rfl rfl ?_ (kk _ (rep_v _))
  simp only [ipure, g1]⟩
instance Pu.nilCheck_pf {x : Operand} {cs : List Tr} [e : TEval σ x (.pf cs)] : Pu P σ B (.nilCheck x) (.pf cs) := ⟨fun {X F s h} q {E' _ _ _ _ _ _ _} kk => by
  have h1 := evalIs_self (s := s) (x := x) (h := h)
  have h2 := e.eq F s q.slot h 0 [] false
  have h3 := h2
  simp only [Rep] at h2
  obtain ⟨b, off, vs, h4, h5, h6⟩ := h2
  rw [h4] at h1 h3
  have g1 := ev_eq (E := E') (h := h) (x := x) (s := s)
  refine WS_pure rfl rfl ?_ (kk _ h3)
  simp only [ipure, g1]⟩
theorem retB_here {C : Boxes} {Φ : Tr → Boxes → Prop} {e : IExit} {b : Nat} {x : Box} (he : e = .normal ∨ e = .ret) (k : Φ (.tup []) [(b, x)]) : retTB P [] C Φ e σ ((b, x) :: C) := retB_go (ts := []) [(b, x)] (SubP.same : SubP ((b, x) :: C) ((b, x) :: C)) he k
theorem FnM_of {f : FuncId} {fn : Func} {c : Code} {args : List Tr} {b : Nat} {x : Box} {Φ : Tr → Boxes → Prop} (hf : P.funcs[f]? = some fn) (hb : fn.body = some c) (hsz : args.length ≤ fn.ntmps)
    (hw : ∀ X C, TV X P ⟨fn.ntmps, [], false⟩ c (retTB P fn.results.toList C Φ) (argT args) ((b, x) :: C)) : FnB P f args [(b, x)] Φ := FnB_of hf hb hsz hw
/-- bytes taken for bytes: the very slice -/
theorem TS_conv {x : Operand} {t e b n c m bt : Nat} {bx : Bool} {rows : List (List Tr)} [e1 : TEval σ x (.v (.slice (some (ad b 0)) n c))] [u : UnderIs P t (.slice e)] [u2 : UnderIs P e (.int .u8)] [bi : BoxIs B b (.arr m rows bt bx)] [rx : RealX rows bx]
    (k : TS X P E ops K l H (putT σ d (.v (.slice (some (ad b 0)) n c))) B) : TS X P E ops K (⟨d, .convert t t x, ty, pos, af, none⟩ :: l) H σ B := by
  unfold TS at *
  intro F s h held r hh
  have h1 := e1.is r.slot
  obtain ⟨vs, _, o⟩ := rx.even (r.boxOf bi)
  have g1 := ev_eq (E := E) (h := h) (x := x) (s := s)
  refine WS_heap rfl (v := .slice (some (ad b 0)) n c) (h' := h) ?_ (k F _ h held (r.put (rep_v _)) hh)
  have he := o.even
  simp only [iheap, g1, iconv, beq_self_eq_true, Option.isNone_none, Bool.and_self, Bool.true_and, u.eq, u2.eq, o.eq, he, if_true]
/-- many slices of nothing -/
theorem TV_ghosts {c : Code} {Q : IExit → TK} (m e : Nat) : ∀ (n : Nat) {B : Boxes}, (∀ gs : List Nat, gs.length = n → TV X P E c Q σ (gs.map (fun g => (g, .arr m [] e false)) ++ B)) → TV X P E c Q σ B := by
  intro n
  induction n with
  | zero => intro B k; exact k [] rfl
  | succ n ih =>
    intro B k
    refine TV_ghost m e fun b => ih fun gs hg => ?_
    have h := k (gs ++ [b]) (by simp [hg])
    rwa [List.map_append, List.append_assoc] at h
end Go.Ideal

-- IdealTr
set_option linter.unusedSimpArgs false
set_option linter.unusedVariables false
namespace Go.Ideal
open Go Go.RowKit
variable {P : Program} {X : Cx} {E : Env} {σ : Nat → Tr} {B B' : Boxes} {ops : Array Oper} {K : TK} {l : List Oper} {d : Option Tmp} {ty : TypeId} {pos : String} {af : Array Edge} {H : List (Nat × Nat)} {F : Mem} {s : Nat → Value} {h : IHp} {held : Held}
/-! ### == of structs of numbers -/
theorem pureOf_bind {α β : Type} (f : α → Sem β) : ∀ {s : Sem α} {a : α}, pureOf P s = some a → pureOf P (s >>= f) = pureOf P (f a) := by
  intro s
  induction s with
  | pure a => intro b h; simp [pureOf] at h; subst h; rfl
  | program k ih => intro b h; exact ih P h
  | mark m k ih => intro b h; exact ih h
  | _ => intro b h; simp [pureOf] at h
theorem pureOf_under {t : TypeId} {td : TypeDesc} (u : P.underlying t = some td) : pureOf P (underlying t) = some td := by
  unfold underlying
  refine (pureOf_bind _ (s := program) (a := P) rfl).trans ?_
  rw [u]; rfl
inductive EqF (P : Program) : List Field → Array Value → Array Value → Bool → Prop where
  | nil {xs ys : Array Value} : EqF P [] xs ys true
  | cons {f : Field} {fs : List Field} {xs ys : Array Value} {k k0 : IntKind} {a b : Int} {r : Bool} (hn : f.name ≠ "_") (hu : P.underlying f.type = some (.int k0)) (hx : xs[f.offset]? = some (.int k a)) (hy : ys[f.offset]? = some (.int k b)) (hr : EqF P fs xs ys r) : EqF P (f :: fs) xs ys ((a == b) && r)
theorem pureOf_part {t : TypeId} {k0 : IntKind} {xs : Array Value} {off : Nat} {v : Value} (hu : P.underlying t = some (.int k0)) (hx : xs[off]? = some v) : pureOf P (part t xs off) = some v := by
  unfold part isAgg
  refine (pureOf_bind _ (a := false) ?_).trans ?_
  · refine (pureOf_bind _ (pureOf_under hu)).trans ?_
    rfl
  · simp only [Bool.false_eq_true, if_false, hx]; rfl
theorem pureOf_loop {xs ys : Array Value} {n : Nat} : ∀ {fs : List Field} {r : Bool}, EqF P fs xs ys r →
    pureOf P (forIn fs ((none, ()) : Option Bool × Unit) fun f s =>
      if f.name ≠ "_" then do
        let a ← part f.type xs f.offset
        let b ← part f.type ys f.offset
        let c ← Op.equalIn (n + 1) f.type a b
        if (!c) = true then pure (ForInStep.done (some false, ())) else pure (ForInStep.yield (none, ()))
      else pure (ForInStep.yield (none, ()))) = some (if r then none else some false, ()) := by
  intro fs
  induction fs with
  | nil => intro r e; cases e; rfl
  | cons f fs ih =>
    intro r e
    cases e with
    | cons hn hu hx hy hr =>
      rename_i k k0 a b r
      rw [List.forIn_cons]
      have h1 : pureOf P (do
          let a ← part f.type xs f.offset
          let b ← part f.type ys f.offset
          let c ← Op.equalIn (n + 1) f.type a b
          if (!c) = true then pure (ForInStep.done ((some false, ()) : Option Bool × Unit)) else pure (ForInStep.yield (none, ()))) = some (if a == b then .yield (none, ()) else .done (some false, ())) := by
        refine (pureOf_bind _ (pureOf_part hu hx)).trans ?_
        refine (pureOf_bind _ (pureOf_part hu hy)).trans ?_
        refine (pureOf_bind _ (a := (a == b)) ?_).trans ?_
        · simp only [Op.equalIn]
          refine (pureOf_bind _ (pureOf_under hu)).trans ?_
          simp only [if_true]; rfl
        · cases a == b <;> rfl
      rw [if_pos hn]
      refine (pureOf_bind _ h1).trans ?_
      cases hab : a == b with
      | true => simpa using ih hr
      | false => rfl
theorem equal_ints {t : TypeId} {fs : Array Field} {xs ys : Array Value} {r : Bool} (u : P.underlying t = some (.struct fs)) (hs : P.stoodInHeld t = false) (e : EqF P fs.toList xs ys r) : pureOf P (Op.equal t (.agg xs) (.agg ys)) = some r := by
  rw [equal_succ]
  obtain ⟨n, hn⟩ : ∃ n, 9999 = n + 1 := ⟨9998, rfl⟩
  rw [hn]
  simp only [Op.equalIn]
  refine (pureOf_bind _ (pureOf_under u)).trans ?_
  refine (pureOf_bind _ (s := program) (a := P) rfl).trans ?_
  simp only [hs, Bool.false_eq_true, if_false]
  rw [← Array.forIn_toList]
  refine (pureOf_bind _ (pureOf_loop e)).trans ?_
  cases r <;> rfl
theorem guard_struct {o : BinOp} (ho : o = .eql ∨ o = .neq) {t : TypeId} (hg : P.eqGuardType P.depth t = false) {x y : Operand} {vs ws : Array Value} : pureOf P (eqGuard o t x y (.agg vs) (.agg ws)) = some () := by
  rcases ho with rfl | rfl
  all_goals
    unfold eqGuard
    rw [if_neg (by decide)]
    simp only
    refine (pureOf_bind _ (s := program) (a := P) rfl).trans ?_
    refine (pureOf_bind _ (s := program) (a := P) rfl).trans ?_
    rw [hg]; rfl
theorem WS_eqStruct {K : SK} {t yt : TypeId} {x y : Operand} {vs ws : Array Value} {fs : Array Field} {r : Bool} [e1 : EvalIs s x (.agg vs)] [e2 : EvalIs s y (.agg ws)] (u : P.underlying t = some (.struct fs)) (hs : P.stoodInHeld t = false) (hg : P.eqGuardType P.depth t = false)
    (f1 : flat (.agg vs) = true) (f2 : flat (.agg ws) = true) (e : EqF P fs.toList vs ws r) (kk : WS P E ops K l (putS s d (.bool r)) h) :
    WS P E ops K (⟨d, .binOp .eql t x y yt, ty, pos, af, none⟩ :: l) s h := by
  have hn : isNilConst y = false := by
    cases y with
    | const c => have h2 := e2.eq h 0 [] false; simp only [St.eval] at h2; subst h2; rfl
    | _ => rfl
  refine WS_pure rfl rfl (ipure_bin (ev_eq (E := E) (h := h) (x := x)) (ev_eq (E := E) (h := h) (x := y)) f1 f2 hn h ?_ rfl) kk
  have h1 := pureOf_map (P := P) (fun b => Value.bool b) (equal_ints u hs e)
  refine (pureOf_bind _ (guard_struct (.inl rfl) hg)).trans ?_
  simpa [binOp] using h1
theorem WS_neStruct {K : SK} {t yt : TypeId} {x y : Operand} {vs ws : Array Value} {fs : Array Field} {r : Bool} [e1 : EvalIs s x (.agg vs)] [e2 : EvalIs s y (.agg ws)] (u : P.underlying t = some (.struct fs)) (hs : P.stoodInHeld t = false) (hg : P.eqGuardType P.depth t = false)
    (f1 : flat (.agg vs) = true) (f2 : flat (.agg ws) = true) (e : EqF P fs.toList vs ws r) (kk : WS P E ops K l (putS s d (.bool (!r))) h) :
    WS P E ops K (⟨d, .binOp .neq t x y yt, ty, pos, af, none⟩ :: l) s h := by
  have hn : isNilConst y = false := by
    cases y with
    | const c => have h2 := e2.eq h 0 [] false; simp only [St.eval] at h2; subst h2; rfl
    | _ => rfl
  refine WS_pure rfl rfl (ipure_bin (ev_eq (E := E) (h := h) (x := x)) (ev_eq (E := E) (h := h) (x := y)) f1 f2 hn h ?_ rfl) kk
  have h1 := pureOf_map (P := P) (fun b => Value.bool (!b)) (equal_ints u hs e)
  refine (pureOf_bind _ (guard_struct (.inr rfl) hg)).trans ?_
  simpa [binOp] using h1
theorem repL_vals_inv {F : Mem} : ∀ {vs ws : List Value}, RepL F (vs.map Tr.v) ws → ws = vs := by
  intro vs
  induction vs with
  | nil => intro ws h; simpa only [List.map_nil, RepL] using h
  | cons v vs ih =>
    intro ws h
    simp only [List.map_cons, RepL, Rep] at h
    obtain ⟨u, us, rfl, rfl, h3⟩ := h
    rw [ih h3]
theorem evalIs_agg {x : Operand} {ts : List Tr} {vs : List Value} (e : TEval σ x (.agg ts)) (h : ts = vs.map .v) (hs : ∀ i, Rep F (σ i) (s i)) : EvalIs s x (.agg vs.toArray) := ⟨fun h' nt m rd => by
  have := e.eq F s hs h' nt m rd
  simp only [Rep] at this
  obtain ⟨ws, h1, h2⟩ := this
  rw [h] at h2
  rw [h1, repL_vals_inv h2]⟩
theorem Pu.eqStruct {t yt : TypeId} {x y : Operand} {ts us : List Tr} (vs ws : List Value) {fs : Array Field} {r : Bool} [e1 : TEval σ x (.agg ts)] [e2 : TEval σ y (.agg us)] (h1 : ts = vs.map .v) (h2 : us = ws.map .v) (u : P.underlying t = some (.struct fs)) (hs : P.stoodInHeld t = false) (hg : P.eqGuardType P.depth t = false)
    (f1 : flat (.agg vs.toArray) = true) (f2 : flat (.agg ws.toArray) = true) (e : EqF P fs.toList vs.toArray ws.toArray r) : Pu P σ B (.binOp .eql t x y yt) (.v (.bool r)) := ⟨fun {X F s h} q {_ _ _ _ _ _ _ _} kk => by
  have i1 := evalIs_agg (F := F) (s := s) e1 h1 q.slot
  have i2 := evalIs_agg (F := F) (s := s) e2 h2 q.slot
  exact WS_eqStruct u hs hg f1 f2 e (kk _ (rep_v _))⟩
theorem Pu.neStruct {t yt : TypeId} {x y : Operand} {ts us : List Tr} (vs ws : List Value) {fs : Array Field} {r : Bool} [e1 : TEval σ x (.agg ts)] [e2 : TEval σ y (.agg us)] (h1 : ts = vs.map .v) (h2 : us = ws.map .v) (u : P.underlying t = some (.struct fs)) (hs : P.stoodInHeld t = false) (hg : P.eqGuardType P.depth t = false)
    (f1 : flat (.agg vs.toArray) = true) (f2 : flat (.agg ws.toArray) = true) (e : EqF P fs.toList vs.toArray ws.toArray r) : Pu P σ B (.binOp .neq t x y yt) (.v (.bool (!r))) := ⟨fun {X F s h} q {_ _ _ _ _ _ _ _} kk => by
  have i1 := evalIs_agg (F := F) (s := s) e1 h1 q.slot
  have i2 := evalIs_agg (F := F) (s := s) e2 h2 q.slot
  exact WS_neStruct u hs hg f1 f2 e (kk _ (rep_v _))⟩
end Go.Ideal

-- IdealTs
set_option linter.unusedSimpArgs false
set_option linter.unusedVariables false
namespace Go.Ideal
open Go
section
variable {P : Program} {E : ICall} {σ : Nat → Tr} {B : Boxes}
/-! ### A slice from its start on -/
end
end Go.Ideal

-- IdealTu
set_option linter.unusedSimpArgs false
set_option linter.unusedVariables false
namespace Go.Ideal
open Go Go.RowKit
variable {P : Program} {X : Cx} {E : Env} {σ : Nat → Tr} {B B' : Boxes} {ops : Array Oper} {K : TK} {l : List Oper} {d : Option Tmp} {ty : TypeId} {pos : String} {af : Array Edge} {H : List (Nat × Nat)} {F : Mem} {s : Nat → Value} {h : IHp} {held : Held}
/-! ### Own answers: frozen, or taken while what is handed in stays one's own -/
def FlatB : Box → Prop
  | .cells cs _ _ => FlatL cs
  | .arr _ rows _ _ => FlatL rows.flatten
theorem FlatL.app {a b : List Tr} (x : FlatL a) (y : FlatL b) : FlatL (a ++ b) := ⟨fun F G vs hv => by
  obtain ⟨p, q, rfl, h1, h2⟩ := hv.split
  exact (x.eq F G _ h1).append (y.eq F G _ h2)⟩
theorem FlatL.rows : ∀ {rows : List (List Tr)}, (∀ row ∈ rows, FlatL row) → FlatL rows.flatten := by
  intro rows
  induction rows with
  | nil => intro _; exact FlatL.nil
  | cons r rows ih => intro h; exact (h r (List.mem_cons_self ..)).app (ih fun row hr => h row (List.mem_cons_of_mem _ hr))
theorem BoxRep.flat {G : Mem} {b : Nat} {x : Box} (r : BoxRep F h b x) (fl : FlatB x) : BoxRep G h b x := by
  cases x with
  | cells cs t y =>
    obtain ⟨vs, h1, h2⟩ := r
    exact ⟨vs, FlatL.eq (self := fl) F G vs h1, h2⟩
  | arr m rows t y =>
    simp only [BoxRep] at r ⊢
    refine ⟨r.1, ?_⟩
    rcases r.2 with h1 | ⟨vs, h1, h2⟩
    · exact .inl h1
    · exact .inr ⟨vs, FlatL.eq (self := fl) F G vs h1, h2⟩
end Go.Ideal

-- IdealTv
set_option linter.unusedSimpArgs false
set_option linter.unusedVariables false
namespace Go.Ideal
open Go Go.RowKit
variable {P : Program} {X : Cx} {E : Env} {σ : Nat → Tr} {B B' : Boxes} {ops : Array Oper} {K : TK} {l : List Oper} {d : Option Tmp} {ty : TypeId} {pos : String} {af : Array Edge} {H : List (Nat × Nat)} {F : Mem} {s : Nat → Value} {h : IHp} {held : Held}
/-! ### Own slices with room behind, handed in; answers that may grow, borrowed -/
class PreR (rows : List (List Tr)) (n c : Nat) (r : outParam (List (List Tr))) : Prop where
  eq : rows.take n = r
  le : n ≤ rows.length
  cap : n ≤ c
instance (priority := 50) Frz.pre {b m n c : Nat} {rows r : List (List Tr)} {bt : Nat} {bx : Bool} [bi : BoxIs B b (.arr m rows bt bx)] [p : PreR rows n c r] [sm : Sm63 c] [rx : RealX rows bx] : Frz B (.v (.slice (some (ad b 0)) n c)) (.sl m r) := ⟨fun F G h o v hv => by
  have hN : rows.length < 2 ^ 63 ∨ True := .inr trivial
  simp only [Rep] at hv
  subst hv
  have hb := o.box _ bi.mem
  have hb' := hb
  simp only [BoxRep] at hb
  obtain ⟨vs, h1, h2⟩ := rx.even hb'
  simp only [Rep]
  have hl : r.length = n := by rw [← p.eq, List.length_take, Nat.min_eq_left p.le]
  refine ⟨_, n, c, rfl, hl, p.cap, sm.lt, fun d hd => ?_, ?_⟩
  · cases hd; exact .inl rfl
  · have h3 : RepR G b m rows 0 := frz_rows (fr := FrzR.same) o hb.1 h1 fun i hi => by
      rw [rowM_congr (F := h.cell?) (o.cell _ bi.mem h2.even), ← row_rowM]
      exact row_obj h2 i hi
    rw [← p.eq]
    exact h3.take n⟩
theorem FnO.mono {f : FuncId} {args : List Tr} {Φ Ψ : Tr → Boxes → Prop} (x : FnO P f args Φ) (k : ∀ r B, Φ r B → Ψ r B) : FnO P f args Ψ := by
  unfold FnO at *
  intro F0 h vs h1 h2
  exact (x F0 h vs h1 h2).mono fun v h' ⟨F, r, B, a1, a2, a3⟩ => ⟨F, r, B, a1, a2, k r B a3⟩
/-! ### A cut that nothing passes but the way on: the goals ahead of it stay small -/
@[irreducible] def TnormK (I : TK) : IExit → TK := fun e σ B => e = .normal ∧ I σ B
theorem TN_normal {I : TK} (k : I σ B) : TnormK I .normal σ B := by unfold TnormK; exact ⟨rfl, k⟩
instance {I : TK} : StepC (TnormK I .normal σ B) (I σ B) := ⟨TN_normal⟩
end Go.Ideal

-- IdealTw
set_option linter.unusedSimpArgs false
set_option linter.unusedVariables false
namespace Go.Ideal
open Go Go.RowKit
variable {P : Program} {X : Cx} {E : Env} {σ : Nat → Tr} {B B' : Boxes} {ops : Array Oper} {K : TK} {l : List Oper} {d : Option Tmp} {ty : TypeId} {pos : String} {af : Array Edge} {H : List (Nat × Nat)} {F : Mem} {s : Nat → Value} {h : IHp} {held : Held}
/-! ### Pointers and nil -/
instance Pu.ptr_nil {x : Operand} {t te yt : TypeId} {a : Option Addr} [e : TEval σ x (.v (.pointer a))] [u : UnderIs P t (.pointer te)] : Pu P σ B (.binOp .eql t x (.const (.pointer none)) yt) (.v (.bool a.isNone)) := ⟨fun {X F s h} q {E' _ _ _ _ _ _ _} kk => by
  have h1 := e.is q.slot
  have g1 := ev_eq (E := E') (h := h) (x := x) (s := s)
  have g2 : (E'.st s h).eval (.const (.pointer none)) = .pointer none := rfl
  refine WS_pure rfl rfl ?_ (kk _ (rep_v _))
  simp only [ipure, isNilConst, if_true, inil, u.eq, g1, g2]⟩
instance Pu.pf_nil {x : Operand} {t te yt : TypeId} {cs : List Tr} [e : TEval σ x (.pf cs)] [u : UnderIs P t (.pointer te)] : Pu P σ B (.binOp .eql t x (.const (.pointer none)) yt) (.v (.bool false)) := ⟨fun {X F s h} q {E' _ _ _ _ _ _ _} kk => by
  have h1 := evalIs_self (s := s) (x := x) (h := h)
  have h2 := e.eq F s q.slot h 0 [] false
  simp only [Rep] at h2
  obtain ⟨b, off, vs, h4, h5, h6⟩ := h2
  rw [h4] at h1
  have g1 := ev_eq (E := E') (h := h) (x := x) (s := s)
  have g2 : (E'.st s h).eval (.const (.pointer none)) = .pointer none := rfl
  refine WS_pure rfl rfl ?_ (kk _ (rep_v _))
  simp only [ipure, isNilConst, if_true, inil, u.eq, g1, g2]
  rfl⟩
end Go.Ideal

-- IdealTx
set_option linter.unusedSimpArgs false
set_option linter.unusedVariables false
namespace Go.Ideal
open Go Go.RowKit
variable {P : Program} {X : Cx} {E : Env} {σ : Nat → Tr} {B B' : Boxes} {F : Mem} {s : Nat → Value} {h : IHp}
/-! ### From a walk over values to one over trees, midway -/
def LiftQ (X : Cx) (Q' : IExit → TK) (Q : IExit → SK) : Prop := ∀ e F σ B s h, TR X F σ B s h → Q' e σ B → Q e s h
theorem V_of_TV {c : Code} {Q' : IExit → TK} {Q : IExit → SK} (r : TR X F σ B s h) (l : LiftQ X Q' Q) (k : TV X P E c Q' σ B) : V P E c Q s h := by
  unfold TV at k
  exact V_mono (fun e s h ⟨F', σ', B', r', hk⟩ => l e F' σ' B' s h r' hk) (k F s h r)
theorem LiftQ.seq {b : Code} {Q' : IExit → TK} {Q : IExit → SK} (l : LiftQ X Q' Q) : LiftQ X (TseqK X P E b Q') (VseqK P E b Q) := by
  intro e F σ B s h r hk
  unfold TseqK at hk
  unfold VseqK
  cases e with
  | normal => exact V_of_TV r l hk
  | exit j => exact l _ _ _ _ _ _ r hk
  | ret => exact l _ _ _ _ _ _ r hk
theorem LiftQ.ret {rs : List ResultVar} {Φ : Tr → Prop} {Ψ : Value → IHp → Prop} (hΨ : ∀ F r v h', Rep F r v → Φ r → Ψ v h') : LiftQ X (retT P rs Φ) (retK P E rs Ψ) := by
  intro e F' σ' B' s' h' r' hk
  unfold retT at hk
  obtain ⟨he, ts, h3, h4⟩ := hk
  obtain ⟨ws, h5, h6⟩ := h3 _ F' s' h' E r' (thaw F' B' h') r'.thawOk
  unfold retK
  refine ⟨he, ws, h5, hΨ (thaw F' B' h') (tret ts) _ _ ?_ h4⟩
  have hl := h6.len
  match ts, ws, h6, hl with
  | [], [], _, _ => simp only [tret, iret, Rep]; exact ⟨[], rfl, RepL.nil⟩
  | [t], [v], h6, _ =>
    simp only [RepL] at h6
    obtain ⟨v', ws', h7, h8, _⟩ := h6
    simp only [List.cons.injEq] at h7
    obtain ⟨rfl, rfl⟩ := h7
    exact h8
  | t :: t2 :: ts, v :: v2 :: vs, h6, _ => simp only [tret, iret, Rep]; exact ⟨_, rfl, h6⟩
/-- one object of one's own, all slots as they are -/
theorem TR.enter {h0 : IHp} {b t : Nat} {x : Bool} {cs : List Tr} {vs : List Value} (e : Ext h0 h) (hb : h0.fresh ≤ b) (o : ObjIs h b vs t x) (hr : RepL h0.cell? cs vs) : TR ⟨h0, h0.cell?, []⟩ h0.cell? (fun i => .v (s i)) [(b, .cells cs t x)] s h := by
  refine ⟨e, Sub.refl _, fun b off v hf => cell_ext e hf, fun b off v hf => .inl hf, fun p hp => ?_, fun p hp he => ?_, by simp, by simp, fun i => rep_v _⟩
  · rw [List.mem_singleton.1 hp]; exact ⟨vs, hr, o⟩
  · rw [List.mem_singleton.1 hp]
    refine ⟨hb, fun off => ?_⟩
    have he : b % 2 = 0 := o.even
    cases hc : h0.cell? b off with
    | none => rfl
    | some v =>
      simp only [IHp.cell?] at hc
      rw [if_neg (by omega)] at hc
      have : h0.new[b / 2]? = none := List.getElem?_eq_none (by unfold IHp.fresh at hb; omega)
      rw [this] at hc
      cases hc
end Go.Ideal

-- IdealBr
set_option linter.unusedSimpArgs false
set_option linter.unusedVariables false
namespace Go.Ideal
open Go Go.RowKit

/-! ### What a reading of the arguments says of the ideal heap -/
def up (v : Value) : Value := (upv v).getD undef
def IRd (P : Program) (h : IHp) : Nat → TypeId → List Value → Prop
  | 0, _, _ => False
  | n + 1, t, cs =>
    match P.underlying t with
    | some .bool => ∃ b, cs = [.bool b]
    | some (.int k) => ∃ i, cs = [.int k i] ∧ (Lit.int k i).wf = true
    | some .string => ∃ s, cs = [.string s] ∧ s.size ≤ maxLen
    | some (.slice e) => cs = [.slice none 0 0] ∨ ∃ a l c, cs = [.slice (some a) l c] ∧ l ≤ c ∧ c ≤ maxLen ∧ (a.spot = none ∨ c = 0) ∧ ∀ i, i < c → ∃ row, h.row a.block (a.off + i * P.cellsOf e) (P.cellsOf e) = some row ∧ IRd P h n e row
    | some (.struct fs) => cs.length = P.cellsOf t ∧ ∀ (i : Nat) (f : Field), fs[i]? = some f → IRd P h n f.type ((cs.drop f.offset).take (P.cellsOf f.type))
    | _ => False
/-- the fields lie one behind the other -/
def tiles (P : Program) : List Field → Nat → Nat → Bool
  | [], at_, all => at_ == all
  | f :: fs, at_, all => f.offset == at_ && tiles P fs (at_ + P.cellsOf f.type) all
/-- plain data -/
def plainT (P : Program) : Nat → TypeId → Bool
  | 0, _ => false
  | n + 1, t =>
    match P.underlying t with
    | some .bool | some (.int _) | some .string => true
    | some (.slice e) => P.cellsOf e != 0 && plainT P n e
    | some (.struct fs) => tiles P fs.toList 0 (P.cellsOf t) && fs.toList.all fun f => plainT P n f.type
    | _ => false
theorem tiles_mem {P : Program} {cs : List Value} : ∀ (fs : List Field) (at_ : Nat), tiles P fs at_ cs.length = true → ∀ v ∈ cs.drop at_, ∃ f ∈ fs, v ∈ (cs.drop f.offset).take (P.cellsOf f.type) := by
  intro fs
  induction fs with
  | nil =>
    intro at_ h v hv
    simp only [tiles, beq_iff_eq] at h
    rw [List.drop_of_length_le (by omega)] at hv
    cases hv
  | cons f fs ih =>
    intro at_ h v hv
    simp only [tiles, Bool.and_eq_true, beq_iff_eq] at h
    obtain ⟨h1, h2⟩ := h
    rw [← List.take_append_drop (P.cellsOf f.type) (cs.drop at_)] at hv
    rcases List.mem_append.1 hv with h3 | h3
    · exact ⟨f, List.mem_cons_self, by rw [h1]; exact h3⟩
    · rw [List.drop_drop] at h3
      obtain ⟨g, h4, h5⟩ := ih _ h2 v h3
      exact ⟨g, List.mem_cons_of_mem _ h4, h5⟩
theorem up_of {v u : Value} (h : upv v = some u) : up v = u := by simp [up, h]
theorem mapM_cells {w : World} {a : Addr} (hs : a.spot = none) : ∀ (n k : Nat) (row : List Value), ((List.range' k n).mapM fun i => w.cell? (a.add i)) = some row → (∀ v ∈ row, (upv v).isSome = true) → (heapOf w).row (2 * a.block + 1) (a.off + k) n = some (row.map up) := by
  intro n
  induction n with
  | zero => intro k row h _; simp at h; subst h; rfl
  | succ n ih =>
    intro k row h hup
    rw [List.range'_succ, List.mapM_cons] at h
    cases h1 : w.cell? (a.add k) with
    | none => simp [h1] at h
    | some v =>
      cases h2 : (List.range' (k + 1) n).mapM fun i => w.cell? (a.add i) with
      | none => simp [h1, h2] at h
      | some vs =>
        simp [h1, h2] at h
        subst h
        have h3 := ih (k + 1) vs h2 (fun v hv => hup v (List.mem_cons_of_mem _ hv))
        obtain ⟨u, hu⟩ := Option.isSome_iff_exists.1 (hup v List.mem_cons_self)
        have hadd : a.add k = ⟨a.block, a.off + k, none⟩ := by
          unfold Addr.add
          split
          · rename_i h0; subst h0; cases a; simp at hs; subst hs; rfl
          · rfl
        rw [hadd] at h1
        have hb : a.block < w.heap.size := by
          simp only [World.cell?] at h1
          split at h1
          · rename_i hx; exact (Array.getElem?_eq_some_iff.1 hx).1
          · cases h1
        have h4 : (heapOf w).cell? (2 * a.block + 1) (a.off + k) = some u := by
          simp only [IHp.cell?, heapOf]
          rw [if_pos (by omega), show (2 * a.block + 1) / 2 = a.block by omega, if_pos hb, h1]
          exact hu
        simp only [IHp.row, h4, Option.bind_some, show a.off + k + 1 = a.off + (k + 1) by omega, h3, List.map_cons, up_of hu]
theorem irow {w : World} {a : Addr} {n : Nat} {row : List Value} (hs : a.spot = none) (h : w.cells? 0 a n = some row) (hup : ∀ v ∈ row, (upv v).isSome = true) : (heapOf w).row (2 * a.block + 1) a.off n = some (row.map up) := by
  simp only [World.cells?, Nat.zero_le, if_true] at h
  rw [List.range_eq_range'] at h
  simpa using mapM_cells hs n 0 row h hup
section
variable {H : Type} {enc : TypeId × Value → H} {P : Program} {w : World} {held : Bool}
theorem bridge : ∀ (N : Nat) (t : TypeId) (fuel : Nat) (cs : List Value) (x : DataW H × List MemPlace), plainT P N t = true → DataW.trod enc P w 0 (fun _ => true) held fuel t cs = some x → (∀ v ∈ cs, (upv v).isSome = true) ∧ IRd P (heapOf w) N t (cs.map up) := by
  intro N
  induction N with
  | zero => intro t fuel cs x h; simp [plainT] at h
  | succ N ih =>
    intro t fuel cs x hp h
    rw [plainT] at hp
    rw [IRd]
    split at hp
    · rename_i hu
      obtain ⟨b, rfl, _⟩ := DataW.trod_bool hu h
      exact ⟨by simp [upv], b, by simp [up, upv]⟩
    · rename_i k hu
      obtain ⟨i, rfl, _, hw⟩ := DataW.trod_int hu h
      exact ⟨by simp [upv], i, by simp [up, upv], hw⟩
    · rename_i hu
      obtain ⟨s, rfl, _, hw⟩ := DataW.trod_string hu h
      exact ⟨by simp [upv], s, by simp [up, upv], hw⟩
    · rename_i e hu
      simp only [Bool.and_eq_true, bne_iff_ne, ne_eq] at hp
      obtain ⟨hn, hpe⟩ := hp
      rcases DataW.trod_slice hu h with ⟨rfl, _⟩ | ⟨a, l, c, elems, rest, m, rfl, rfl, _, _, hlc, hcm, hel, he, hr, _⟩
      · exact ⟨by simp [upv], .inl (by simp [up, upv])⟩
      · obtain ⟨hrl, hr⟩ := hr rfl
        have hat : ∀ i, i < c → ∃ row y, w.cells? 0 (a.add (i * P.cellsOf e)) (P.cellsOf e) = some row ∧ DataW.trod enc P w 0 (fun _ => true) held m e row = some y := by
          intro i hi
          by_cases hil : i < l
          · have h1 := he i hil
            rw [List.getElem?_eq_getElem (by omega)] at h1
            simp only [Option.bind_eq_some_iff] at h1
            obtain ⟨row, h2, h3⟩ := h1
            exact ⟨row, _, h2, h3⟩
          · have h1 := hr (i - l) (by omega)
            rw [List.getElem?_eq_getElem (by omega), show l + (i - l) = i by omega] at h1
            simp only [Option.bind_eq_some_iff] at h1
            obtain ⟨row, h2, h3⟩ := h1
            exact ⟨row, _, h2, h3⟩
        by_cases hs : a.spot = none
        · have hup : upv (.slice (some a) l c) = some (.slice (some { block := 2 * a.block + 1, off := a.off }) l c) := by simp [upv, hs]
          refine ⟨by simp [hup], .inr ⟨{ block := 2 * a.block + 1, off := a.off }, l, c, by simp [up_of hup], hlc, hcm, .inl rfl, fun i hi => ?_⟩⟩
          obtain ⟨row, y, h1, h2⟩ := hat i hi
          obtain ⟨h3, h4⟩ := ih e m row y hpe h2
          refine ⟨row.map up, ?_, h4⟩
          have hsp : (a.add (i * P.cellsOf e)).spot = none := by unfold Addr.add; split <;> simp [hs]
          have h5 := irow hsp h1 h3
          have hblk : (a.add (i * P.cellsOf e)).block = a.block := by unfold Addr.add; split <;> rfl
          have hoff : (a.add (i * P.cellsOf e)).off = a.off + i * P.cellsOf e := by unfold Addr.add; split <;> simp_all
          rw [hblk, hoff] at h5
          exact h5
        · have hc0 : c = 0 := by
            apply Decidable.byContradiction
            intro hc
            obtain ⟨row, y, h1, _⟩ := hat 0 (by omega)
            have ha0 : a.add (0 * P.cellsOf e) = a := by simp [Addr.add]
            rw [ha0] at h1
            simp only [World.cells?, Nat.zero_le, if_true] at h1
            obtain ⟨m', hm'⟩ : ∃ m', P.cellsOf e = m' + 1 := ⟨P.cellsOf e - 1, by omega⟩
            rw [hm', List.range_succ_eq_map, List.mapM_cons] at h1
            have : w.cell? (a.add 0) = none := by
              simp only [World.cell?, Addr.add, if_true]
              split
              · rw [if_pos]; cases hsp : a.spot with
                | none => exact absurd hsp hs
                | some _ => rfl
              · rfl
            rw [this] at h1
            simp at h1
          have hl0 : l = 0 := by omega
          subst hc0; subst hl0
          have hup : upv (.slice (some a) 0 0) = some (.slice (some a) 0 0) := by simp [upv, hs]
          exact ⟨by simp [hup], .inr ⟨a, 0, 0, by simp [up_of hup], Nat.le_refl _, Nat.zero_le _, .inr rfl, fun i hi => absurd hi (Nat.not_lt_zero i)⟩⟩
    · rename_i fs hu
      simp only [Bool.and_eq_true, List.all_eq_true] at hp
      obtain ⟨htile, hall⟩ := hp
      obtain ⟨xs, m, rfl, _, hlen, hxl, hf⟩ := DataW.trod_struct hu h
      have hfield : ∀ (i : Nat) (f : Field), fs[i]? = some f → (∀ v ∈ (cs.drop f.offset).take (P.cellsOf f.type), (upv v).isSome = true) ∧ IRd P (heapOf w) N f.type (((cs.drop f.offset).take (P.cellsOf f.type)).map up) := by
        intro i f hfi
        have h1 := hf i f hfi
        have hi : i < xs.length := by rw [hxl]; exact (Array.getElem?_eq_some_iff.1 hfi).1
        rw [List.getElem?_eq_getElem hi] at h1
        exact ih _ _ _ _ (hall f (by rw [Array.mem_toList_iff]; exact Array.mem_of_getElem? hfi)) h1
      refine ⟨fun v hv => ?_, by simpa using hlen, fun i f hfi => ?_⟩
      · rw [← hlen] at htile
        obtain ⟨f, h1, h2⟩ := tiles_mem fs.toList 0 htile v (by simpa using hv)
        obtain ⟨i, hi⟩ := Array.mem_iff_getElem?.1 (Array.mem_toList_iff.1 h1)
        exact (hfield i f hi).1 v h2
      · have := (hfield i f hfi).2
        simpa [List.map_take, List.map_drop] using this
    · cases hp
/-- an argument -/
def upA : Value → Value
  | .agg cs => .agg (cs.toList.map up).toArray
  | v => up v
theorem RA_up {ρ : RM} {cs : Array Value} (h : ∀ v ∈ cs.toList, (upv v).isSome = true) : RA ρ (cs.toList.map up).toArray cs := by
  refine ⟨by simp, fun i hi => ?_⟩
  have hi' : i < cs.size := by simpa using hi
  obtain ⟨u, hu⟩ := Option.isSome_iff_exists.1 (h cs[i] (by simp))
  have h1 : (cs.toList.map up).toArray[i] = u := by simp [up_of hu]
  rw [h1]
  have h2 : cs.getD i undef = cs[i] := by simp [Array.getD, hi']
  rw [h2]
  exact upv_R hu
theorem bridge_struct {N base : Nat} {t : TypeId} {fs : Array Field} {v : Value} {d : DataW H} {p : List MemPlace} (hu : P.underlying t = some (.struct fs)) (hp : plainT P N t = true) (hv : Value.okWide P w .any base t v) (h : DataW.Trod enc P w 0 (fun _ => true) held t v d p) :
    R RM0 (upA v) v ∧ ∃ cs : List Value, upA v = .agg cs.toArray ∧ IRd P (heapOf w) N t cs := by
  simp only [Value.okWide, hu] at hv
  obtain ⟨cs, rfl, _, _⟩ := hv
  obtain ⟨fuel, h⟩ := h
  obtain ⟨h1, h2⟩ := bridge N t fuel _ _ hp h
  exact ⟨by rw [upA, R_agg]; exact ⟨cs, rfl, RA_up h1⟩, _, rfl, h2⟩
theorem bridge_cell {N : Nat} {t : TypeId} {v : Value} {d : DataW H} {p : List MemPlace} (hc : v.cells = #[v]) (hag : ∀ cs, v ≠ .agg cs) (hp : plainT P N t = true) (h : DataW.Trod enc P w 0 (fun _ => true) held t v d p) :
    R RM0 (upA v) v ∧ IRd P (heapOf w) N t [upA v] := by
  obtain ⟨fuel, h⟩ := h
  rw [hc] at h
  obtain ⟨h1, h2⟩ := bridge N t fuel _ _ hp h
  obtain ⟨u, hu⟩ := Option.isSome_iff_exists.1 (h1 v (by simp))
  have e : upA v = u := by
    cases v <;> first | exact up_of hu | exact absurd rfl (hag _)
  rw [e]
  refine ⟨upv_R hu, ?_⟩
  simpa [up_of hu] using h2
end
end Go.Ideal

-- IdealTy
set_option linter.unusedSimpArgs false
set_option linter.unusedVariables false
namespace Go.Ideal
open Go Go.RowKit
/-! ### Slices of structs among the arguments, as trees -/
end Go.Ideal

-- IdealTz
set_option linter.unusedSimpArgs false
set_option linter.unusedVariables false
namespace Go.Ideal
open Go Go.RowKit
section
variable {H : Type} {enc : TypeId × Value → H} {P : Program} {w : World} {held : Bool}
end
end Go.Ideal

-- IdealUa
set_option linter.unusedSimpArgs false
set_option linter.unusedVariables false
namespace Go.Ideal
open Go Go.RowKit
variable {P : Program} {X : Cx} {E : Env} {σ : Nat → Tr} {B B' : Boxes} {ops : Array Oper} {K : TK} {l : List Oper} {d : Option Tmp} {ty : TypeId} {pos : String} {af : Array Edge} {H : List (Nat × Nat)} {F : Mem} {s : Nat → Value} {h : IHp} {held : Held}
/-! ### Loops over functions in functions that answer own memory -/
end Go.Ideal

-- IdealUb
set_option linter.unusedSimpArgs false
set_option linter.unusedVariables false
namespace Go.Ideal
open Go Go.RowKit
variable {P : Program} {X : Cx} {E : Env} {σ : Nat → Tr} {B B' : Boxes} {ops : Array Oper} {K : TK} {l : List Oper} {d : Option Tmp} {ty : TypeId} {pos : String} {af : Array Edge} {H : List (Nat × Nat)} {F : Mem} {s : Nat → Value} {h : IHp} {held : Held} {plan : List PStep} {ph : Bool}
/-! ### Slices that are made ahead of their time; strings made of bytes -/
instance VRL.flat0 : VRL (List.flatten []) := VRL.nil
instance VRL.flatS {r : List Tr} {rs : List (List Tr)} [x : VRL r] [y : VRL (List.flatten rs)] : VRL (List.flatten (r :: rs)) := ⟨fun F vs h v hv => by
  rw [List.flatten_cons] at h
  obtain ⟨p, q, rfl, h1, h2⟩ := h.split
  rcases List.mem_append.1 hv with hv | hv
  · exact x.eq F p h1 v hv
  · exact y.eq F q h2 v hv⟩
/-- rows of bytes, and the string of them -/
class StrOf (rows : List (List Tr)) (s : outParam ByteArray) : Prop where eq : ∃ vs : List Value, rows.flatten = vs.map Tr.v ∧ bytesStr vs .empty = some s
instance {n : Int} : StrOf [[.v (.int .u8 n)]] (ByteArray.empty.push (UInt8.ofNat n.toNat)) := ⟨[.int .u8 n], rfl, rfl⟩
theorem WS_bts {l : List Oper} {K : SK} {x : Operand} {src dst e : TypeId} {b n c : Nat} {vs : List Value} {r : ByteArray} (e1 : EvalIs s x (.slice (some (ad b 0)) n c)) [u : UnderIs P src (.slice e)] [u1 : UnderIs P dst .string] [u2 : UnderIs P e (.int .u8)] (hr : h.row b 0 n = some vs) (hb : bytesStr vs .empty = some r)
    (k : WS P E ops K l (putS s d (.string r)) h) : WS P E ops K (⟨d, .convert src dst x, ty, pos, af, none⟩ :: l) s h := by
  have g1 := ev_eq (E := E) (h := h) (x := x) (s := s)
  have hne : (src == dst) = false := by
    cases hs : src == dst with
    | false => rfl
    | true =>
      have : src = dst := by simpa using hs
      subst this
      have h1 := u.eq
      rw [u1.eq] at h1
      cases h1
  have hrow : ibtsRow P h src dst (.slice (some (ad b 0)) n c) = some (b, 0, vs) := by
    simp only [ibtsRow, Option.isNone_none, if_true, u.eq, u1.eq, u2.eq, hr, Option.map_some]
  refine WS_heap rfl (v := .string r) (h' := h) ?_ k
  simp only [iheap, g1, iconv, hne, Bool.false_and, Bool.false_eq_true, if_false, hrow, hb, Option.map_some]
instance (priority := 60) Pu.bts {x : Operand} {src dst e : TypeId} {b n c bt : Nat} {bx : Bool} {rows : List (List Tr)} {r : ByteArray} [e1 : TEval σ x (.v (.slice (some (ad b 0)) n c))] [u : UnderIs P src (.slice e)] [u1 : UnderIs P dst .string] [u2 : UnderIs P e (.int .u8)] [bi : BoxIs B b (.arr 1 rows bt bx)] [rx : RealX rows bx] [ln : LenT rows n] [st : StrOf rows r] : Pu P σ B (.convert src dst x) (.v (.string r)) := ⟨fun {X F s h} rr {E ops K l d ty pos af} k => by
  obtain ⟨vs, h1, h2⟩ := st.eq
  have hb := rr.boxOf bi
  have hb' := hb
  simp only [BoxRep] at hb
  obtain ⟨us, h3, h4⟩ := rx.even hb'
  have hus : us = vs := by
    rw [h1] at h3
    have : ∀ (vs us : List Value), RepL F (vs.map Tr.v) us → us = vs := by
      intro vs
      induction vs with
      | nil => intro us h; simp only [List.map_nil, RepL] at h; exact h
      | cons v vs ih =>
        intro us h
        simp only [List.map_cons, RepL, Rep] at h
        obtain ⟨w, ws, rfl, rfl, h5⟩ := h
        rw [ih ws h5]
    exact this vs us h3
  subst hus
  have hlen : us.length = n := by
    have := h3.len
    rw [flat_len hb.1, Nat.mul_one, ln.eq] at this
    exact this
  have hrow : h.row b 0 n = some us := by
    have := row_obj (n := us.length) h4 0 (by omega)
    rw [hlen] at this
    have h9 : us.take n = us := by rw [← hlen, List.take_length]
    simp only [List.drop_zero, h9] at this
    exact this
  exact WS_bts (e1.is rr.slot) hrow h2 (k _ (rep_v _))⟩
end Go.Ideal

-- IdealUc
set_option linter.unusedSimpArgs false
set_option linter.unusedVariables false
namespace Go.Ideal
open Go Go.RowKit
variable {P : Program} {X : Cx} {E : Env} {σ : Nat → Tr} {B B' : Boxes} {ops : Array Oper} {K : TK} {l : List Oper} {d : Option Tmp} {ty : TypeId} {pos : String} {af : Array Edge} {H : List (Nat × Nat)} {F : Mem} {s : Nat → Value} {h : IHp} {held : Held} {plan : List PStep} {ph : Bool}
/-! ### x[i:j] of a slice that is read alone -/
theorem islice_mid {a : Addr} {len cap m i j t e : Nat} {k1 k2 : IntKind} [u : UnderIs P t (.slice e)] [z : SizeIs P e m] (hs : a.spot = none) (hij : i < j) (hj : j ≤ cap) (h : IHp) :
    islice P h t (.slice (some a) len cap) (some (.int k1 i)) (some (.int k2 j)) none = some (.slice (some (ad a.block (a.off + i * m))) (j - i) (cap - i)) := by
  have hb : ∀ (k : IntKind) (n b : Nat), n ≤ b → ibound (.int k (n : Int)) b = some n := by
    intro k n b hn
    simp only [ibound]
    rw [if_pos (by omega)]
    simp
  have hsp : spotted (some a) = false := by simp [spotted, hs]
  simp only [islice, u.eq, hsp, Bool.false_eq_true, if_false, ibounds, hb k2 j cap hj, hb k1 i j (by omega), Option.bind_some, z.eq, if_pos hj]
  rw [if_neg (by omega)]
theorem Pu.slice_mid {x y y2 : Operand} {t e m i j : Nat} {rows : List (List Tr)} {k k2 : IntKind} {a b : Int} [e1 : TEval σ x (.sl m rows)] [e2 : TEval σ y (.v (.int k a))] [e3 : TEval σ y2 (.v (.int k2 b))] [a1 : AsNat a i] [a2 : AsNat b j] [u : UnderIs P t (.slice e)] [z : SizeIs P e m] (hij : i < j) (hj : j ≤ rows.length) : Pu P σ B (.slice t x (some y) (some y2) none) (.sl m ((rows.drop i).take (j - i))) := ⟨fun {X F s h} q {_ _ _ _ _ _ _ _} kk => by
  have h1 := evalIs_self (s := s) (x := x) (h := h)
  have h2 := e1.eq F s q.slot h 0 [] false
  have h9 := e2.is q.slot
  have h10 := e3.is q.slot
  rw [a1.eq] at h9
  rw [a2.eq] at h10
  simp only [Rep] at h2
  obtain ⟨sa, n, c, h3, h4, h5, h6, h7, h8⟩ := h2
  rw [h3] at h1
  cases sa with
  | none => simp only at h8; omega
  | some a =>
    have hsp : a.spot = none := by
      rcases h7 a rfl with h | h
      · exact h
      · omega
    refine WS_pure rfl rfl (v := .slice (some (ad a.block (a.off + i * m))) (j - i) (c - i)) ?_ (kk _ ?_)
    · have g1 := ev_eq (E := by assumption) (h := h) (x := x) (s := s)
      have g2 := ev_eq (E := by assumption) (h := h) (x := y) (s := s)
      have g3 := ev_eq (E := by assumption) (h := h) (x := y2) (s := s)
      simp only [ipure, Option.map_none, Option.map_some, g1, g2, g3]
      exact islice_mid hsp hij (by omega) h
    · simp only [Rep]
      refine ⟨_, j - i, c - i, rfl, by simp; omega, by omega, by omega, fun d hd => ?_, ?_⟩
      · cases hd; exact .inl rfl
      · exact (h8.drop i).take (j - i)⟩
end Go.Ideal

-- R7Ty
set_option linter.unusedSimpArgs false
set_option linter.unusedVariables false
namespace Go.Ideal
open Go Go.Proofs
instance : SizeIs Try.prog 1 1 := ⟨by kernel_rfl⟩
instance : AggIs Try.prog 1 false := ⟨by kernel_rfl⟩
instance : ZeroIs Try.prog 1 (Value.nilFunc) := ⟨by kernel_rfl⟩
instance : BytesIs Try.prog 1 1 8 := ⟨Try.t1, _, by kernel_rfl, rfl, rfl, rfl, rfl, by decide, by decide⟩
instance : UnderIs Try.prog 2 (.int IntKind.i64) := ⟨Try.underlying2⟩
instance : SizeIs Try.prog 2 1 := ⟨by kernel_rfl⟩
instance : AggIs Try.prog 2 false := ⟨by kernel_rfl⟩
instance : ZeroIs Try.prog 2 ((Value.int IntKind.i64 0)) := ⟨by kernel_rfl⟩
instance : BytesIs Try.prog 2 1 8 := ⟨Try.t2, _, by kernel_rfl, rfl, rfl, rfl, rfl, by decide, by decide⟩
instance : UnderIs Try.prog 3 (.int IntKind.i64) := ⟨Try.underlying3⟩
instance : SizeIs Try.prog 3 1 := ⟨by kernel_rfl⟩
instance : AggIs Try.prog 3 false := ⟨by kernel_rfl⟩
instance : ZeroIs Try.prog 3 ((Value.int IntKind.i64 0)) := ⟨by kernel_rfl⟩
instance : BytesIs Try.prog 3 1 8 := ⟨Try.t3, _, by kernel_rfl, rfl, rfl, rfl, rfl, by decide, by decide⟩
instance : UnderIs Try.prog 4 (.bool) := ⟨Try.underlying4⟩
instance : SizeIs Try.prog 4 1 := ⟨by kernel_rfl⟩
instance : AggIs Try.prog 4 false := ⟨by kernel_rfl⟩
instance : ZeroIs Try.prog 4 ((Value.bool false)) := ⟨by kernel_rfl⟩
instance : BytesIs Try.prog 4 1 1 := ⟨Try.t4, _, by kernel_rfl, rfl, rfl, rfl, rfl, by decide, by decide⟩
instance : UnderIs Try.prog 5 (.int IntKind.u8) := ⟨Try.underlying5⟩
instance : SizeIs Try.prog 5 1 := ⟨by kernel_rfl⟩
instance : AggIs Try.prog 5 false := ⟨by kernel_rfl⟩
instance : ZeroIs Try.prog 5 ((Value.int IntKind.u8 0)) := ⟨by kernel_rfl⟩
instance : BytesIs Try.prog 5 1 1 := ⟨Try.t5, _, by kernel_rfl, rfl, rfl, rfl, rfl, by decide, by decide⟩
instance : UnderIs Try.prog 6 (.int IntKind.u8) := ⟨Try.underlying6⟩
instance : SizeIs Try.prog 6 1 := ⟨by kernel_rfl⟩
instance : AggIs Try.prog 6 false := ⟨by kernel_rfl⟩
instance : ZeroIs Try.prog 6 ((Value.int IntKind.u8 0)) := ⟨by kernel_rfl⟩
instance : BytesIs Try.prog 6 1 1 := ⟨Try.t6, _, by kernel_rfl, rfl, rfl, rfl, rfl, by decide, by decide⟩
instance : FieldIs Try.prog 7 0 0 2 1 := ⟨_, _, Try.underlying7, rfl, rfl, rfl, by kernel_rfl, by decide⟩
instance : FieldIs Try.prog 7 1 1 3 1 := ⟨_, _, Try.underlying7, rfl, rfl, rfl, by kernel_rfl, by decide⟩
instance : FieldIs Try.prog 7 2 2 4 1 := ⟨_, _, Try.underlying7, rfl, rfl, rfl, by kernel_rfl, by decide⟩
instance : FieldIs Try.prog 7 3 3 6 1 := ⟨_, _, Try.underlying7, rfl, rfl, rfl, by kernel_rfl, by decide⟩
instance : StructOk Try.prog 7 := ⟨_, Try.underlying7, by kernel_rfl⟩
instance : SizeIs Try.prog 7 4 := ⟨by kernel_rfl⟩
instance : AggIs Try.prog 7 true := ⟨by kernel_rfl⟩
instance : ZeroIs Try.prog 7 ((Value.agg #[Value.int IntKind.i64 0, Value.int IntKind.i64 0, Value.bool false, Value.int IntKind.u8 0])) := ⟨by kernel_rfl⟩
instance : BytesIs Try.prog 7 4 24 := ⟨Try.t7, _, by kernel_rfl, rfl, rfl, rfl, rfl, by decide, by decide⟩
instance : FieldIs Try.prog 8 0 0 2 1 := ⟨_, _, Try.underlying8, rfl, rfl, rfl, by kernel_rfl, by decide⟩
instance : FieldIs Try.prog 8 1 1 3 1 := ⟨_, _, Try.underlying8, rfl, rfl, rfl, by kernel_rfl, by decide⟩
instance : FieldIs Try.prog 8 2 2 4 1 := ⟨_, _, Try.underlying8, rfl, rfl, rfl, by kernel_rfl, by decide⟩
instance : FieldIs Try.prog 8 3 3 6 1 := ⟨_, _, Try.underlying8, rfl, rfl, rfl, by kernel_rfl, by decide⟩
instance : StructOk Try.prog 8 := ⟨_, Try.underlying8, by kernel_rfl⟩
instance : SizeIs Try.prog 8 4 := ⟨by kernel_rfl⟩
instance : AggIs Try.prog 8 true := ⟨by kernel_rfl⟩
instance : ZeroIs Try.prog 8 ((Value.agg #[Value.int IntKind.i64 0, Value.int IntKind.i64 0, Value.bool false, Value.int IntKind.u8 0])) := ⟨by kernel_rfl⟩
instance : BytesIs Try.prog 8 4 24 := ⟨Try.t8, _, by kernel_rfl, rfl, rfl, rfl, rfl, by decide, by decide⟩
instance : UnderIs Try.prog 9 (.string) := ⟨Try.underlying9⟩
instance : SizeIs Try.prog 9 1 := ⟨by kernel_rfl⟩
instance : AggIs Try.prog 9 false := ⟨by kernel_rfl⟩
instance : ZeroIs Try.prog 9 ((Value.string ByteArray.empty)) := ⟨by kernel_rfl⟩
instance : BytesIs Try.prog 9 1 16 := ⟨Try.t9, _, by kernel_rfl, rfl, rfl, rfl, rfl, by decide, by decide⟩
instance : UnderIs Try.prog 10 (.string) := ⟨Try.underlying10⟩
instance : SizeIs Try.prog 10 1 := ⟨by kernel_rfl⟩
instance : AggIs Try.prog 10 false := ⟨by kernel_rfl⟩
instance : ZeroIs Try.prog 10 ((Value.string ByteArray.empty)) := ⟨by kernel_rfl⟩
instance : BytesIs Try.prog 10 1 16 := ⟨Try.t10, _, by kernel_rfl, rfl, rfl, rfl, rfl, by decide, by decide⟩
instance : UnderIs Try.prog 11 (.string) := ⟨Try.underlying11⟩
instance : SizeIs Try.prog 11 1 := ⟨by kernel_rfl⟩
instance : AggIs Try.prog 11 false := ⟨by kernel_rfl⟩
instance : ZeroIs Try.prog 11 ((Value.string ByteArray.empty)) := ⟨by kernel_rfl⟩
instance : BytesIs Try.prog 11 1 16 := ⟨Try.t11, _, by kernel_rfl, rfl, rfl, rfl, rfl, by decide, by decide⟩
instance : UnderIs Try.prog 12 (.int IntKind.u64) := ⟨Try.underlying12⟩
instance : SizeIs Try.prog 12 1 := ⟨by kernel_rfl⟩
instance : AggIs Try.prog 12 false := ⟨by kernel_rfl⟩
instance : ZeroIs Try.prog 12 ((Value.int IntKind.u64 0)) := ⟨by kernel_rfl⟩
instance : BytesIs Try.prog 12 1 8 := ⟨Try.t12, _, by kernel_rfl, rfl, rfl, rfl, rfl, by decide, by decide⟩
instance : FieldIs Try.prog 13 0 0 9 1 := ⟨_, _, Try.underlying13, rfl, rfl, rfl, by kernel_rfl, by decide⟩
instance : FieldIs Try.prog 13 1 1 12 1 := ⟨_, _, Try.underlying13, rfl, rfl, rfl, by kernel_rfl, by decide⟩
instance : StructOk Try.prog 13 := ⟨_, Try.underlying13, by kernel_rfl⟩
instance : SizeIs Try.prog 13 2 := ⟨by kernel_rfl⟩
instance : AggIs Try.prog 13 true := ⟨by kernel_rfl⟩
instance : ZeroIs Try.prog 13 ((Value.agg #[Value.string ByteArray.empty, Value.int IntKind.u64 0])) := ⟨by kernel_rfl⟩
instance : BytesIs Try.prog 13 2 24 := ⟨Try.t13, _, by kernel_rfl, rfl, rfl, rfl, rfl, by decide, by decide⟩
instance : FieldIs Try.prog 14 0 0 9 1 := ⟨_, _, Try.underlying14, rfl, rfl, rfl, by kernel_rfl, by decide⟩
instance : FieldIs Try.prog 14 1 1 12 1 := ⟨_, _, Try.underlying14, rfl, rfl, rfl, by kernel_rfl, by decide⟩
instance : StructOk Try.prog 14 := ⟨_, Try.underlying14, by kernel_rfl⟩
instance : SizeIs Try.prog 14 2 := ⟨by kernel_rfl⟩
instance : AggIs Try.prog 14 true := ⟨by kernel_rfl⟩
instance : ZeroIs Try.prog 14 ((Value.agg #[Value.string ByteArray.empty, Value.int IntKind.u64 0])) := ⟨by kernel_rfl⟩
instance : BytesIs Try.prog 14 2 24 := ⟨Try.t14, _, by kernel_rfl, rfl, rfl, rfl, rfl, by decide, by decide⟩
instance : UnderIs Try.prog 15 (.pointer 112) := ⟨Try.underlying15⟩
instance : SizeIs Try.prog 15 1 := ⟨by kernel_rfl⟩
instance : AggIs Try.prog 15 false := ⟨by kernel_rfl⟩
instance : ZeroIs Try.prog 15 ((Value.pointer none)) := ⟨by kernel_rfl⟩
instance : BytesIs Try.prog 15 1 8 := ⟨Try.t15, _, by kernel_rfl, rfl, rfl, rfl, rfl, by decide, by decide⟩
instance : UnderIs Try.prog 16 (.pointer 115) := ⟨Try.underlying16⟩
instance : SizeIs Try.prog 16 1 := ⟨by kernel_rfl⟩
instance : AggIs Try.prog 16 false := ⟨by kernel_rfl⟩
instance : ZeroIs Try.prog 16 ((Value.pointer none)) := ⟨by kernel_rfl⟩
instance : BytesIs Try.prog 16 1 8 := ⟨Try.t16, _, by kernel_rfl, rfl, rfl, rfl, rfl, by decide, by decide⟩
instance : UnderIs Try.prog 17 (.pointer 125) := ⟨Try.underlying17⟩
instance : SizeIs Try.prog 17 1 := ⟨by kernel_rfl⟩
instance : AggIs Try.prog 17 false := ⟨by kernel_rfl⟩
instance : ZeroIs Try.prog 17 ((Value.pointer none)) := ⟨by kernel_rfl⟩
instance : BytesIs Try.prog 17 1 8 := ⟨Try.t17, _, by kernel_rfl, rfl, rfl, rfl, rfl, by decide, by decide⟩
instance : FieldIs Try.prog 18 0 0 17 1 := ⟨_, _, Try.underlying18, rfl, rfl, rfl, by kernel_rfl, by decide⟩
instance : StructOk Try.prog 18 := ⟨_, Try.underlying18, by kernel_rfl⟩
instance : SizeIs Try.prog 18 1 := ⟨by kernel_rfl⟩
instance : AggIs Try.prog 18 true := ⟨by kernel_rfl⟩
instance : ZeroIs Try.prog 18 ((Value.agg #[Value.pointer none])) := ⟨by kernel_rfl⟩
instance : BytesIs Try.prog 18 1 8 := ⟨Try.t18, _, by kernel_rfl, rfl, rfl, rfl, rfl, by decide, by decide⟩
instance : FieldIs Try.prog 19 0 0 17 1 := ⟨_, _, Try.underlying19, rfl, rfl, rfl, by kernel_rfl, by decide⟩
instance : StructOk Try.prog 19 := ⟨_, Try.underlying19, by kernel_rfl⟩
instance : SizeIs Try.prog 19 1 := ⟨by kernel_rfl⟩
instance : AggIs Try.prog 19 true := ⟨by kernel_rfl⟩
instance : ZeroIs Try.prog 19 ((Value.agg #[Value.pointer none])) := ⟨by kernel_rfl⟩
instance : BytesIs Try.prog 19 1 8 := ⟨Try.t19, _, by kernel_rfl, rfl, rfl, rfl, rfl, by decide, by decide⟩
instance : UnderIs Try.prog 21 (.int IntKind.i32) := ⟨Try.underlying21⟩
instance : SizeIs Try.prog 21 1 := ⟨by kernel_rfl⟩
instance : AggIs Try.prog 21 false := ⟨by kernel_rfl⟩
instance : ZeroIs Try.prog 21 ((Value.int IntKind.i32 0)) := ⟨by kernel_rfl⟩
instance : BytesIs Try.prog 21 1 4 := ⟨Try.t21, _, by kernel_rfl, rfl, rfl, rfl, rfl, by decide, by decide⟩
instance : UnderIs Try.prog 22 (.slice 49) := ⟨Try.underlying22⟩
instance : SizeIs Try.prog 22 1 := ⟨by kernel_rfl⟩
instance : AggIs Try.prog 22 false := ⟨by kernel_rfl⟩
instance : ZeroIs Try.prog 22 ((Value.slice none 0 0)) := ⟨by kernel_rfl⟩
instance : BytesIs Try.prog 22 1 24 := ⟨Try.t22, _, by kernel_rfl, rfl, rfl, rfl, rfl, by decide, by decide⟩
instance : FieldIs Try.prog 23 0 0 3 1 := ⟨_, _, Try.underlying23, rfl, rfl, rfl, by kernel_rfl, by decide⟩
instance : FieldIs Try.prog 23 1 1 3 1 := ⟨_, _, Try.underlying23, rfl, rfl, rfl, by kernel_rfl, by decide⟩
instance : FieldIs Try.prog 23 2 2 22 1 := ⟨_, _, Try.underlying23, rfl, rfl, rfl, by kernel_rfl, by decide⟩
instance : StructOk Try.prog 23 := ⟨_, Try.underlying23, by kernel_rfl⟩
instance : SizeIs Try.prog 23 3 := ⟨by kernel_rfl⟩
instance : AggIs Try.prog 23 true := ⟨by kernel_rfl⟩
instance : ZeroIs Try.prog 23 ((Value.agg #[Value.int IntKind.i64 0, Value.int IntKind.i64 0, Value.slice none 0 0])) := ⟨by kernel_rfl⟩
instance : BytesIs Try.prog 23 3 40 := ⟨Try.t23, _, by kernel_rfl, rfl, rfl, rfl, rfl, by decide, by decide⟩
instance : FieldIs Try.prog 24 0 0 3 1 := ⟨_, _, Try.underlying24, rfl, rfl, rfl, by kernel_rfl, by decide⟩
instance : FieldIs Try.prog 24 1 1 3 1 := ⟨_, _, Try.underlying24, rfl, rfl, rfl, by kernel_rfl, by decide⟩
instance : FieldIs Try.prog 24 2 2 22 1 := ⟨_, _, Try.underlying24, rfl, rfl, rfl, by kernel_rfl, by decide⟩
instance : StructOk Try.prog 24 := ⟨_, Try.underlying24, by kernel_rfl⟩
instance : SizeIs Try.prog 24 3 := ⟨by kernel_rfl⟩
instance : AggIs Try.prog 24 true := ⟨by kernel_rfl⟩
instance : ZeroIs Try.prog 24 ((Value.agg #[Value.int IntKind.i64 0, Value.int IntKind.i64 0, Value.slice none 0 0])) := ⟨by kernel_rfl⟩
instance : BytesIs Try.prog 24 3 40 := ⟨Try.t24, _, by kernel_rfl, rfl, rfl, rfl, rfl, by decide, by decide⟩
instance : UnderIs Try.prog 25 (.slice 46) := ⟨Try.underlying25⟩
instance : SizeIs Try.prog 25 1 := ⟨by kernel_rfl⟩
instance : AggIs Try.prog 25 false := ⟨by kernel_rfl⟩
instance : ZeroIs Try.prog 25 ((Value.slice none 0 0)) := ⟨by kernel_rfl⟩
instance : BytesIs Try.prog 25 1 24 := ⟨Try.t25, _, by kernel_rfl, rfl, rfl, rfl, rfl, by decide, by decide⟩
instance : SizeIs Try.prog 26 1 := ⟨by kernel_rfl⟩
instance : AggIs Try.prog 26 false := ⟨by kernel_rfl⟩
instance : ZeroIs Try.prog 26 (Value.nilFunc) := ⟨by kernel_rfl⟩
instance : BytesIs Try.prog 26 1 8 := ⟨Try.t26, _, by kernel_rfl, rfl, rfl, rfl, rfl, by decide, by decide⟩
instance : UnderIs Try.prog 27 (.int IntKind.u64) := ⟨Try.underlying27⟩
instance : SizeIs Try.prog 27 1 := ⟨by kernel_rfl⟩
instance : AggIs Try.prog 27 false := ⟨by kernel_rfl⟩
instance : ZeroIs Try.prog 27 ((Value.int IntKind.u64 0)) := ⟨by kernel_rfl⟩
instance : BytesIs Try.prog 27 1 8 := ⟨Try.t27, _, by kernel_rfl, rfl, rfl, rfl, rfl, by decide, by decide⟩
instance : FieldIs Try.prog 28 0 0 3 1 := ⟨_, _, Try.underlying28, rfl, rfl, rfl, by kernel_rfl, by decide⟩
instance : FieldIs Try.prog 28 1 1 27 1 := ⟨_, _, Try.underlying28, rfl, rfl, rfl, by kernel_rfl, by decide⟩
instance : FieldIs Try.prog 28 2 2 27 1 := ⟨_, _, Try.underlying28, rfl, rfl, rfl, by kernel_rfl, by decide⟩
instance : FieldIs Try.prog 28 3 3 3 1 := ⟨_, _, Try.underlying28, rfl, rfl, rfl, by kernel_rfl, by decide⟩
instance : StructOk Try.prog 28 := ⟨_, Try.underlying28, by kernel_rfl⟩
instance : SizeIs Try.prog 28 4 := ⟨by kernel_rfl⟩
instance : AggIs Try.prog 28 true := ⟨by kernel_rfl⟩
instance : ZeroIs Try.prog 28 ((Value.agg #[Value.int IntKind.i64 0, Value.int IntKind.u64 0, Value.int IntKind.u64 0, Value.int IntKind.i64 0])) := ⟨by kernel_rfl⟩
instance : BytesIs Try.prog 28 4 32 := ⟨Try.t28, _, by kernel_rfl, rfl, rfl, rfl, rfl, by decide, by decide⟩
instance : FieldIs Try.prog 29 0 0 3 1 := ⟨_, _, Try.underlying29, rfl, rfl, rfl, by kernel_rfl, by decide⟩
instance : FieldIs Try.prog 29 1 1 27 1 := ⟨_, _, Try.underlying29, rfl, rfl, rfl, by kernel_rfl, by decide⟩
instance : FieldIs Try.prog 29 2 2 27 1 := ⟨_, _, Try.underlying29, rfl, rfl, rfl, by kernel_rfl, by decide⟩
instance : FieldIs Try.prog 29 3 3 3 1 := ⟨_, _, Try.underlying29, rfl, rfl, rfl, by kernel_rfl, by decide⟩
instance : StructOk Try.prog 29 := ⟨_, Try.underlying29, by kernel_rfl⟩
instance : SizeIs Try.prog 29 4 := ⟨by kernel_rfl⟩
instance : AggIs Try.prog 29 true := ⟨by kernel_rfl⟩
instance : ZeroIs Try.prog 29 ((Value.agg #[Value.int IntKind.i64 0, Value.int IntKind.u64 0, Value.int IntKind.u64 0, Value.int IntKind.i64 0])) := ⟨by kernel_rfl⟩
instance : BytesIs Try.prog 29 4 32 := ⟨Try.t29, _, by kernel_rfl, rfl, rfl, rfl, rfl, by decide, by decide⟩
instance : SizeIs Try.prog 31 1 := ⟨by kernel_rfl⟩
instance : AggIs Try.prog 31 false := ⟨by kernel_rfl⟩
instance : ZeroIs Try.prog 31 (Value.nilFunc) := ⟨by kernel_rfl⟩
instance : BytesIs Try.prog 31 1 8 := ⟨Try.t31, _, by kernel_rfl, rfl, rfl, rfl, rfl, by decide, by decide⟩
instance : UnderIs Try.prog 32 (.int IntKind.i64) := ⟨Try.underlying32⟩
instance : SizeIs Try.prog 32 1 := ⟨by kernel_rfl⟩
instance : AggIs Try.prog 32 false := ⟨by kernel_rfl⟩
instance : ZeroIs Try.prog 32 ((Value.int IntKind.i64 0)) := ⟨by kernel_rfl⟩
instance : BytesIs Try.prog 32 1 8 := ⟨Try.t32, _, by kernel_rfl, rfl, rfl, rfl, rfl, by decide, by decide⟩
instance : SizeIs Try.prog 34 1 := ⟨by kernel_rfl⟩
instance : AggIs Try.prog 34 false := ⟨by kernel_rfl⟩
instance : ZeroIs Try.prog 34 (Value.nilFunc) := ⟨by kernel_rfl⟩
instance : BytesIs Try.prog 34 1 8 := ⟨Try.t34, _, by kernel_rfl, rfl, rfl, rfl, rfl, by decide, by decide⟩
instance : SizeIs Try.prog 35 1 := ⟨by kernel_rfl⟩
instance : AggIs Try.prog 35 false := ⟨by kernel_rfl⟩
instance : ZeroIs Try.prog 35 (Value.nilFunc) := ⟨by kernel_rfl⟩
instance : BytesIs Try.prog 35 1 8 := ⟨Try.t35, _, by kernel_rfl, rfl, rfl, rfl, rfl, by decide, by decide⟩
instance : SizeIs Try.prog 37 1 := ⟨by kernel_rfl⟩
instance : AggIs Try.prog 37 false := ⟨by kernel_rfl⟩
instance : ZeroIs Try.prog 37 (Value.nilFunc) := ⟨by kernel_rfl⟩
instance : BytesIs Try.prog 37 1 8 := ⟨Try.t37, _, by kernel_rfl, rfl, rfl, rfl, rfl, by decide, by decide⟩
instance : SizeIs Try.prog 39 1 := ⟨by kernel_rfl⟩
instance : AggIs Try.prog 39 false := ⟨by kernel_rfl⟩
instance : ZeroIs Try.prog 39 (Value.nilFunc) := ⟨by kernel_rfl⟩
instance : BytesIs Try.prog 39 1 8 := ⟨Try.t39, _, by kernel_rfl, rfl, rfl, rfl, rfl, by decide, by decide⟩
instance : SizeIs Try.prog 40 1 := ⟨by kernel_rfl⟩
instance : AggIs Try.prog 40 false := ⟨by kernel_rfl⟩
instance : ZeroIs Try.prog 40 (Value.nilFunc) := ⟨by kernel_rfl⟩
instance : BytesIs Try.prog 40 1 8 := ⟨Try.t40, _, by kernel_rfl, rfl, rfl, rfl, rfl, by decide, by decide⟩
instance : SizeIs Try.prog 41 1 := ⟨by kernel_rfl⟩
instance : AggIs Try.prog 41 false := ⟨by kernel_rfl⟩
instance : ZeroIs Try.prog 41 (Value.nilFunc) := ⟨by kernel_rfl⟩
instance : BytesIs Try.prog 41 1 8 := ⟨Try.t41, _, by kernel_rfl, rfl, rfl, rfl, rfl, by decide, by decide⟩
instance : SizeIs Try.prog 42 1 := ⟨by kernel_rfl⟩
instance : AggIs Try.prog 42 false := ⟨by kernel_rfl⟩
instance : ZeroIs Try.prog 42 (Value.nilFunc) := ⟨by kernel_rfl⟩
instance : BytesIs Try.prog 42 1 8 := ⟨Try.t42, _, by kernel_rfl, rfl, rfl, rfl, rfl, by decide, by decide⟩
instance : SizeIs Try.prog 44 1 := ⟨by kernel_rfl⟩
instance : AggIs Try.prog 44 false := ⟨by kernel_rfl⟩
instance : ZeroIs Try.prog 44 (Value.nilFunc) := ⟨by kernel_rfl⟩
instance : BytesIs Try.prog 44 1 8 := ⟨Try.t44, _, by kernel_rfl, rfl, rfl, rfl, rfl, by decide, by decide⟩
instance : FieldIs Try.prog 45 0 0 3 1 := ⟨_, _, Try.underlying45, rfl, rfl, rfl, by kernel_rfl, by decide⟩
instance : FieldIs Try.prog 45 1 1 3 1 := ⟨_, _, Try.underlying45, rfl, rfl, rfl, by kernel_rfl, by decide⟩
instance : FieldIs Try.prog 45 2 2 5 1 := ⟨_, _, Try.underlying45, rfl, rfl, rfl, by kernel_rfl, by decide⟩
instance : StructOk Try.prog 45 := ⟨_, Try.underlying45, by kernel_rfl⟩
instance : SizeIs Try.prog 45 3 := ⟨by kernel_rfl⟩
instance : AggIs Try.prog 45 true := ⟨by kernel_rfl⟩
instance : ZeroIs Try.prog 45 ((Value.agg #[Value.int IntKind.i64 0, Value.int IntKind.i64 0, Value.int IntKind.u8 0])) := ⟨by kernel_rfl⟩
instance : BytesIs Try.prog 45 3 24 := ⟨Try.t45, _, by kernel_rfl, rfl, rfl, rfl, rfl, by decide, by decide⟩
instance : FieldIs Try.prog 46 0 0 3 1 := ⟨_, _, Try.underlying46, rfl, rfl, rfl, by kernel_rfl, by decide⟩
instance : FieldIs Try.prog 46 1 1 3 1 := ⟨_, _, Try.underlying46, rfl, rfl, rfl, by kernel_rfl, by decide⟩
instance : FieldIs Try.prog 46 2 2 5 1 := ⟨_, _, Try.underlying46, rfl, rfl, rfl, by kernel_rfl, by decide⟩
instance : StructOk Try.prog 46 := ⟨_, Try.underlying46, by kernel_rfl⟩
instance : SizeIs Try.prog 46 3 := ⟨by kernel_rfl⟩
instance : AggIs Try.prog 46 true := ⟨by kernel_rfl⟩
instance : ZeroIs Try.prog 46 ((Value.agg #[Value.int IntKind.i64 0, Value.int IntKind.i64 0, Value.int IntKind.u8 0])) := ⟨by kernel_rfl⟩
instance : BytesIs Try.prog 46 3 24 := ⟨Try.t46, _, by kernel_rfl, rfl, rfl, rfl, rfl, by decide, by decide⟩
instance : UnderIs Try.prog 47 (.slice 3) := ⟨Try.underlying47⟩
instance : SizeIs Try.prog 47 1 := ⟨by kernel_rfl⟩
instance : AggIs Try.prog 47 false := ⟨by kernel_rfl⟩
instance : ZeroIs Try.prog 47 ((Value.slice none 0 0)) := ⟨by kernel_rfl⟩
instance : BytesIs Try.prog 47 1 24 := ⟨Try.t47, _, by kernel_rfl, rfl, rfl, rfl, rfl, by decide, by decide⟩
instance : FieldIs Try.prog 48 0 0 3 1 := ⟨_, _, Try.underlying48, rfl, rfl, rfl, by kernel_rfl, by decide⟩
instance : FieldIs Try.prog 48 1 1 9 1 := ⟨_, _, Try.underlying48, rfl, rfl, rfl, by kernel_rfl, by decide⟩
instance : FieldIs Try.prog 48 2 2 47 1 := ⟨_, _, Try.underlying48, rfl, rfl, rfl, by kernel_rfl, by decide⟩
instance : FieldIs Try.prog 48 3 3 3 1 := ⟨_, _, Try.underlying48, rfl, rfl, rfl, by kernel_rfl, by decide⟩
instance : FieldIs Try.prog 48 4 4 4 1 := ⟨_, _, Try.underlying48, rfl, rfl, rfl, by kernel_rfl, by decide⟩
instance : FieldIs Try.prog 48 5 5 27 1 := ⟨_, _, Try.underlying48, rfl, rfl, rfl, by kernel_rfl, by decide⟩
instance : FieldIs Try.prog 48 6 6 27 1 := ⟨_, _, Try.underlying48, rfl, rfl, rfl, by kernel_rfl, by decide⟩
instance : StructOk Try.prog 48 := ⟨_, Try.underlying48, by kernel_rfl⟩
instance : SizeIs Try.prog 48 7 := ⟨by kernel_rfl⟩
instance : AggIs Try.prog 48 true := ⟨by kernel_rfl⟩
instance : ZeroIs Try.prog 48 ((Value.agg #[Value.int IntKind.i64 0, Value.string ByteArray.empty, Value.slice none 0 0, Value.int IntKind.i64 0, Value.bool false, Value.int IntKind.u64 0, Value.int IntKind.u64 0])) := ⟨by kernel_rfl⟩
instance : BytesIs Try.prog 48 7 80 := ⟨Try.t48, _, by kernel_rfl, rfl, rfl, rfl, rfl, by decide, by decide⟩
instance : FieldIs Try.prog 49 0 0 3 1 := ⟨_, _, Try.underlying49, rfl, rfl, rfl, by kernel_rfl, by decide⟩
instance : FieldIs Try.prog 49 1 1 9 1 := ⟨_, _, Try.underlying49, rfl, rfl, rfl, by kernel_rfl, by decide⟩
instance : FieldIs Try.prog 49 2 2 47 1 := ⟨_, _, Try.underlying49, rfl, rfl, rfl, by kernel_rfl, by decide⟩
instance : FieldIs Try.prog 49 3 3 3 1 := ⟨_, _, Try.underlying49, rfl, rfl, rfl, by kernel_rfl, by decide⟩
instance : FieldIs Try.prog 49 4 4 4 1 := ⟨_, _, Try.underlying49, rfl, rfl, rfl, by kernel_rfl, by decide⟩
instance : FieldIs Try.prog 49 5 5 27 1 := ⟨_, _, Try.underlying49, rfl, rfl, rfl, by kernel_rfl, by decide⟩
instance : FieldIs Try.prog 49 6 6 27 1 := ⟨_, _, Try.underlying49, rfl, rfl, rfl, by kernel_rfl, by decide⟩
instance : StructOk Try.prog 49 := ⟨_, Try.underlying49, by kernel_rfl⟩
instance : SizeIs Try.prog 49 7 := ⟨by kernel_rfl⟩
instance : AggIs Try.prog 49 true := ⟨by kernel_rfl⟩
instance : ZeroIs Try.prog 49 ((Value.agg #[Value.int IntKind.i64 0, Value.string ByteArray.empty, Value.slice none 0 0, Value.int IntKind.i64 0, Value.bool false, Value.int IntKind.u64 0, Value.int IntKind.u64 0])) := ⟨by kernel_rfl⟩
instance : BytesIs Try.prog 49 7 80 := ⟨Try.t49, _, by kernel_rfl, rfl, rfl, rfl, rfl, by decide, by decide⟩
instance : UnderIs Try.prog 50 (.slice 5) := ⟨Try.underlying50⟩
instance : SizeIs Try.prog 50 1 := ⟨by kernel_rfl⟩
instance : AggIs Try.prog 50 false := ⟨by kernel_rfl⟩
instance : ZeroIs Try.prog 50 ((Value.slice none 0 0)) := ⟨by kernel_rfl⟩
instance : BytesIs Try.prog 50 1 24 := ⟨Try.t50, _, by kernel_rfl, rfl, rfl, rfl, rfl, by decide, by decide⟩
instance : SizeIs Try.prog 51 1 := ⟨by kernel_rfl⟩
instance : AggIs Try.prog 51 false := ⟨by kernel_rfl⟩
instance : ZeroIs Try.prog 51 (Value.nilFunc) := ⟨by kernel_rfl⟩
instance : BytesIs Try.prog 51 1 8 := ⟨Try.t51, _, by kernel_rfl, rfl, rfl, rfl, rfl, by decide, by decide⟩
instance : SizeIs Try.prog 53 1 := ⟨by kernel_rfl⟩
instance : AggIs Try.prog 53 false := ⟨by kernel_rfl⟩
instance : ZeroIs Try.prog 53 (Value.nilFunc) := ⟨by kernel_rfl⟩
instance : BytesIs Try.prog 53 1 8 := ⟨Try.t53, _, by kernel_rfl, rfl, rfl, rfl, rfl, by decide, by decide⟩
instance : SizeIs Try.prog 54 1 := ⟨by kernel_rfl⟩
instance : AggIs Try.prog 54 false := ⟨by kernel_rfl⟩
instance : ZeroIs Try.prog 54 (Value.nilFunc) := ⟨by kernel_rfl⟩
instance : BytesIs Try.prog 54 1 8 := ⟨Try.t54, _, by kernel_rfl, rfl, rfl, rfl, rfl, by decide, by decide⟩
instance : SizeIs Try.prog 55 1 := ⟨by kernel_rfl⟩
instance : AggIs Try.prog 55 false := ⟨by kernel_rfl⟩
instance : ZeroIs Try.prog 55 (Value.nilFunc) := ⟨by kernel_rfl⟩
instance : BytesIs Try.prog 55 1 8 := ⟨Try.t55, _, by kernel_rfl, rfl, rfl, rfl, rfl, by decide, by decide⟩
instance : SizeIs Try.prog 56 1 := ⟨by kernel_rfl⟩
instance : AggIs Try.prog 56 false := ⟨by kernel_rfl⟩
instance : ZeroIs Try.prog 56 (Value.nilFunc) := ⟨by kernel_rfl⟩
instance : BytesIs Try.prog 56 1 8 := ⟨Try.t56, _, by kernel_rfl, rfl, rfl, rfl, rfl, by decide, by decide⟩
instance : SizeIs Try.prog 57 1 := ⟨by kernel_rfl⟩
instance : AggIs Try.prog 57 false := ⟨by kernel_rfl⟩
instance : ZeroIs Try.prog 57 (Value.nilFunc) := ⟨by kernel_rfl⟩
instance : BytesIs Try.prog 57 1 8 := ⟨Try.t57, _, by kernel_rfl, rfl, rfl, rfl, rfl, by decide, by decide⟩
instance : SizeIs Try.prog 58 1 := ⟨by kernel_rfl⟩
instance : AggIs Try.prog 58 false := ⟨by kernel_rfl⟩
instance : ZeroIs Try.prog 58 (Value.nilFunc) := ⟨by kernel_rfl⟩
instance : BytesIs Try.prog 58 1 8 := ⟨Try.t58, _, by kernel_rfl, rfl, rfl, rfl, rfl, by decide, by decide⟩
instance : UnderIs Try.prog 59 (.slice 25) := ⟨Try.underlying59⟩
instance : SizeIs Try.prog 59 1 := ⟨by kernel_rfl⟩
instance : AggIs Try.prog 59 false := ⟨by kernel_rfl⟩
instance : ZeroIs Try.prog 59 ((Value.slice none 0 0)) := ⟨by kernel_rfl⟩
instance : BytesIs Try.prog 59 1 24 := ⟨Try.t59, _, by kernel_rfl, rfl, rfl, rfl, rfl, by decide, by decide⟩
instance : SizeIs Try.prog 60 1 := ⟨by kernel_rfl⟩
instance : AggIs Try.prog 60 false := ⟨by kernel_rfl⟩
instance : ZeroIs Try.prog 60 (Value.nilFunc) := ⟨by kernel_rfl⟩
instance : BytesIs Try.prog 60 1 8 := ⟨Try.t60, _, by kernel_rfl, rfl, rfl, rfl, rfl, by decide, by decide⟩
instance : SizeIs Try.prog 61 1 := ⟨by kernel_rfl⟩
instance : AggIs Try.prog 61 false := ⟨by kernel_rfl⟩
instance : ZeroIs Try.prog 61 (Value.nilFunc) := ⟨by kernel_rfl⟩
instance : BytesIs Try.prog 61 1 8 := ⟨Try.t61, _, by kernel_rfl, rfl, rfl, rfl, rfl, by decide, by decide⟩
instance : SizeIs Try.prog 62 1 := ⟨by kernel_rfl⟩
instance : AggIs Try.prog 62 false := ⟨by kernel_rfl⟩
instance : ZeroIs Try.prog 62 (Value.nilFunc) := ⟨by kernel_rfl⟩
instance : BytesIs Try.prog 62 1 8 := ⟨Try.t62, _, by kernel_rfl, rfl, rfl, rfl, rfl, by decide, by decide⟩
instance : SizeIs Try.prog 63 1 := ⟨by kernel_rfl⟩
instance : AggIs Try.prog 63 false := ⟨by kernel_rfl⟩
instance : ZeroIs Try.prog 63 (Value.nilFunc) := ⟨by kernel_rfl⟩
instance : BytesIs Try.prog 63 1 8 := ⟨Try.t63, _, by kernel_rfl, rfl, rfl, rfl, rfl, by decide, by decide⟩
instance : SizeIs Try.prog 65 1 := ⟨by kernel_rfl⟩
instance : AggIs Try.prog 65 false := ⟨by kernel_rfl⟩
instance : ZeroIs Try.prog 65 (Value.nilFunc) := ⟨by kernel_rfl⟩
instance : BytesIs Try.prog 65 1 8 := ⟨Try.t65, _, by kernel_rfl, rfl, rfl, rfl, rfl, by decide, by decide⟩
instance : SizeIs Try.prog 66 1 := ⟨by kernel_rfl⟩
instance : AggIs Try.prog 66 false := ⟨by kernel_rfl⟩
instance : ZeroIs Try.prog 66 (Value.nilFunc) := ⟨by kernel_rfl⟩
instance : BytesIs Try.prog 66 1 8 := ⟨Try.t66, _, by kernel_rfl, rfl, rfl, rfl, rfl, by decide, by decide⟩
instance : SizeIs Try.prog 67 1 := ⟨by kernel_rfl⟩
instance : AggIs Try.prog 67 false := ⟨by kernel_rfl⟩
instance : ZeroIs Try.prog 67 (Value.nilFunc) := ⟨by kernel_rfl⟩
instance : BytesIs Try.prog 67 1 8 := ⟨Try.t67, _, by kernel_rfl, rfl, rfl, rfl, rfl, by decide, by decide⟩
instance : UnderIs Try.prog 68 (.slice 9) := ⟨Try.underlying68⟩
instance : SizeIs Try.prog 68 1 := ⟨by kernel_rfl⟩
instance : AggIs Try.prog 68 false := ⟨by kernel_rfl⟩
instance : ZeroIs Try.prog 68 ((Value.slice none 0 0)) := ⟨by kernel_rfl⟩
instance : BytesIs Try.prog 68 1 24 := ⟨Try.t68, _, by kernel_rfl, rfl, rfl, rfl, rfl, by decide, by decide⟩
instance : SizeIs Try.prog 70 1 := ⟨by kernel_rfl⟩
instance : AggIs Try.prog 70 false := ⟨by kernel_rfl⟩
instance : ZeroIs Try.prog 70 (Value.nilFunc) := ⟨by kernel_rfl⟩
instance : BytesIs Try.prog 70 1 8 := ⟨Try.t70, _, by kernel_rfl, rfl, rfl, rfl, rfl, by decide, by decide⟩
instance : UnderIs Try.prog 71 (.int IntKind.u64) := ⟨Try.underlying71⟩
instance : SizeIs Try.prog 71 1 := ⟨by kernel_rfl⟩
instance : AggIs Try.prog 71 false := ⟨by kernel_rfl⟩
instance : ZeroIs Try.prog 71 ((Value.int IntKind.u64 0)) := ⟨by kernel_rfl⟩
instance : BytesIs Try.prog 71 1 8 := ⟨Try.t71, _, by kernel_rfl, rfl, rfl, rfl, rfl, by decide, by decide⟩
instance : SizeIs Try.prog 72 1 := ⟨by kernel_rfl⟩
instance : AggIs Try.prog 72 false := ⟨by kernel_rfl⟩
instance : ZeroIs Try.prog 72 (Value.nilFunc) := ⟨by kernel_rfl⟩
instance : BytesIs Try.prog 72 1 8 := ⟨Try.t72, _, by kernel_rfl, rfl, rfl, rfl, rfl, by decide, by decide⟩
instance : SizeIs Try.prog 73 1 := ⟨by kernel_rfl⟩
instance : AggIs Try.prog 73 false := ⟨by kernel_rfl⟩
instance : ZeroIs Try.prog 73 (Value.nilFunc) := ⟨by kernel_rfl⟩
instance : BytesIs Try.prog 73 1 8 := ⟨Try.t73, _, by kernel_rfl, rfl, rfl, rfl, rfl, by decide, by decide⟩
instance : SizeIs Try.prog 74 1 := ⟨by kernel_rfl⟩
instance : AggIs Try.prog 74 false := ⟨by kernel_rfl⟩
instance : ZeroIs Try.prog 74 (Value.nilFunc) := ⟨by kernel_rfl⟩
instance : BytesIs Try.prog 74 1 8 := ⟨Try.t74, _, by kernel_rfl, rfl, rfl, rfl, rfl, by decide, by decide⟩
instance : SizeIs Try.prog 75 1 := ⟨by kernel_rfl⟩
instance : AggIs Try.prog 75 false := ⟨by kernel_rfl⟩
instance : ZeroIs Try.prog 75 (Value.nilFunc) := ⟨by kernel_rfl⟩
instance : BytesIs Try.prog 75 1 8 := ⟨Try.t75, _, by kernel_rfl, rfl, rfl, rfl, rfl, by decide, by decide⟩
instance : SizeIs Try.prog 76 1 := ⟨by kernel_rfl⟩
instance : AggIs Try.prog 76 false := ⟨by kernel_rfl⟩
instance : ZeroIs Try.prog 76 (Value.nilFunc) := ⟨by kernel_rfl⟩
instance : BytesIs Try.prog 76 1 8 := ⟨Try.t76, _, by kernel_rfl, rfl, rfl, rfl, rfl, by decide, by decide⟩
instance : SizeIs Try.prog 77 1 := ⟨by kernel_rfl⟩
instance : AggIs Try.prog 77 false := ⟨by kernel_rfl⟩
instance : ZeroIs Try.prog 77 (Value.nilFunc) := ⟨by kernel_rfl⟩
instance : BytesIs Try.prog 77 1 8 := ⟨Try.t77, _, by kernel_rfl, rfl, rfl, rfl, rfl, by decide, by decide⟩
instance : SizeIs Try.prog 78 1 := ⟨by kernel_rfl⟩
instance : AggIs Try.prog 78 false := ⟨by kernel_rfl⟩
instance : ZeroIs Try.prog 78 (Value.nilFunc) := ⟨by kernel_rfl⟩
instance : BytesIs Try.prog 78 1 8 := ⟨Try.t78, _, by kernel_rfl, rfl, rfl, rfl, rfl, by decide, by decide⟩
instance : SizeIs Try.prog 79 1 := ⟨by kernel_rfl⟩
instance : AggIs Try.prog 79 false := ⟨by kernel_rfl⟩
instance : ZeroIs Try.prog 79 (Value.nilFunc) := ⟨by kernel_rfl⟩
instance : BytesIs Try.prog 79 1 8 := ⟨Try.t79, _, by kernel_rfl, rfl, rfl, rfl, rfl, by decide, by decide⟩
instance : FieldIs Try.prog 80 0 0 3 1 := ⟨_, _, Try.underlying80, rfl, rfl, rfl, by kernel_rfl, by decide⟩
instance : FieldIs Try.prog 80 1 1 3 1 := ⟨_, _, Try.underlying80, rfl, rfl, rfl, by kernel_rfl, by decide⟩
instance : FieldIs Try.prog 80 2 2 4 1 := ⟨_, _, Try.underlying80, rfl, rfl, rfl, by kernel_rfl, by decide⟩
instance : FieldIs Try.prog 80 3 3 4 1 := ⟨_, _, Try.underlying80, rfl, rfl, rfl, by kernel_rfl, by decide⟩
instance : FieldIs Try.prog 80 4 4 9 1 := ⟨_, _, Try.underlying80, rfl, rfl, rfl, by kernel_rfl, by decide⟩
instance : FieldIs Try.prog 80 5 5 79 1 := ⟨_, _, Try.underlying80, rfl, rfl, rfl, by kernel_rfl, by decide⟩
instance : StructOk Try.prog 80 := ⟨_, Try.underlying80, by kernel_rfl⟩
instance : SizeIs Try.prog 80 6 := ⟨by kernel_rfl⟩
instance : AggIs Try.prog 80 true := ⟨by kernel_rfl⟩
instance : ZeroIs Try.prog 80 ((Value.agg #[Value.int IntKind.i64 0, Value.int IntKind.i64 0, Value.bool false, Value.bool false, Value.string ByteArray.empty, Value.nilFunc])) := ⟨by kernel_rfl⟩
instance : BytesIs Try.prog 80 6 48 := ⟨Try.t80, _, by kernel_rfl, rfl, rfl, rfl, rfl, by decide, by decide⟩
instance : FieldIs Try.prog 81 0 0 3 1 := ⟨_, _, Try.underlying81, rfl, rfl, rfl, by kernel_rfl, by decide⟩
instance : FieldIs Try.prog 81 1 1 3 1 := ⟨_, _, Try.underlying81, rfl, rfl, rfl, by kernel_rfl, by decide⟩
instance : FieldIs Try.prog 81 2 2 4 1 := ⟨_, _, Try.underlying81, rfl, rfl, rfl, by kernel_rfl, by decide⟩
instance : FieldIs Try.prog 81 3 3 4 1 := ⟨_, _, Try.underlying81, rfl, rfl, rfl, by kernel_rfl, by decide⟩
instance : FieldIs Try.prog 81 4 4 9 1 := ⟨_, _, Try.underlying81, rfl, rfl, rfl, by kernel_rfl, by decide⟩
instance : FieldIs Try.prog 81 5 5 79 1 := ⟨_, _, Try.underlying81, rfl, rfl, rfl, by kernel_rfl, by decide⟩
instance : StructOk Try.prog 81 := ⟨_, Try.underlying81, by kernel_rfl⟩
instance : SizeIs Try.prog 81 6 := ⟨by kernel_rfl⟩
instance : AggIs Try.prog 81 true := ⟨by kernel_rfl⟩
instance : ZeroIs Try.prog 81 ((Value.agg #[Value.int IntKind.i64 0, Value.int IntKind.i64 0, Value.bool false, Value.bool false, Value.string ByteArray.empty, Value.nilFunc])) := ⟨by kernel_rfl⟩
instance : BytesIs Try.prog 81 6 48 := ⟨Try.t81, _, by kernel_rfl, rfl, rfl, rfl, rfl, by decide, by decide⟩
instance : UnderIs Try.prog 82 (.map 9 81) := ⟨Try.underlying82⟩
instance : SizeIs Try.prog 82 1 := ⟨by kernel_rfl⟩
instance : AggIs Try.prog 82 false := ⟨by kernel_rfl⟩
instance : ZeroIs Try.prog 82 ((Value.map none)) := ⟨by kernel_rfl⟩
instance : BytesIs Try.prog 82 1 8 := ⟨Try.t82, _, by kernel_rfl, rfl, rfl, rfl, rfl, by decide, by decide⟩
instance : SizeIs Try.prog 83 1 := ⟨by kernel_rfl⟩
instance : AggIs Try.prog 83 false := ⟨by kernel_rfl⟩
instance : ZeroIs Try.prog 83 (Value.nilFunc) := ⟨by kernel_rfl⟩
instance : BytesIs Try.prog 83 1 8 := ⟨Try.t83, _, by kernel_rfl, rfl, rfl, rfl, rfl, by decide, by decide⟩
instance : UnderIs Try.prog 84 (.pointer 86) := ⟨Try.underlying84⟩
instance : SizeIs Try.prog 84 1 := ⟨by kernel_rfl⟩
instance : AggIs Try.prog 84 false := ⟨by kernel_rfl⟩
instance : ZeroIs Try.prog 84 ((Value.pointer none)) := ⟨by kernel_rfl⟩
instance : BytesIs Try.prog 84 1 8 := ⟨Try.t84, _, by kernel_rfl, rfl, rfl, rfl, rfl, by decide, by decide⟩
instance : FieldIs Try.prog 85 0 0 29 4 := ⟨_, _, Try.underlying85, rfl, rfl, rfl, by kernel_rfl, by decide⟩
instance : StructOk Try.prog 85 := ⟨_, Try.underlying85, by kernel_rfl⟩
instance : SizeIs Try.prog 85 4 := ⟨by kernel_rfl⟩
instance : AggIs Try.prog 85 true := ⟨by kernel_rfl⟩
instance : ZeroIs Try.prog 85 ((Value.agg #[Value.int IntKind.i64 0, Value.int IntKind.u64 0, Value.int IntKind.u64 0, Value.int IntKind.i64 0])) := ⟨by kernel_rfl⟩
instance : BytesIs Try.prog 85 4 32 := ⟨Try.t85, _, by kernel_rfl, rfl, rfl, rfl, rfl, by decide, by decide⟩
instance : FieldIs Try.prog 86 0 0 29 4 := ⟨_, _, Try.underlying86, rfl, rfl, rfl, by kernel_rfl, by decide⟩
instance : StructOk Try.prog 86 := ⟨_, Try.underlying86, by kernel_rfl⟩
instance : SizeIs Try.prog 86 4 := ⟨by kernel_rfl⟩
instance : AggIs Try.prog 86 true := ⟨by kernel_rfl⟩
instance : ZeroIs Try.prog 86 ((Value.agg #[Value.int IntKind.i64 0, Value.int IntKind.u64 0, Value.int IntKind.u64 0, Value.int IntKind.i64 0])) := ⟨by kernel_rfl⟩
instance : BytesIs Try.prog 86 4 32 := ⟨Try.t86, _, by kernel_rfl, rfl, rfl, rfl, rfl, by decide, by decide⟩
instance : SizeIs Try.prog 87 1 := ⟨by kernel_rfl⟩
instance : AggIs Try.prog 87 false := ⟨by kernel_rfl⟩
instance : ZeroIs Try.prog 87 (Value.nilFunc) := ⟨by kernel_rfl⟩
instance : BytesIs Try.prog 87 1 8 := ⟨Try.t87, _, by kernel_rfl, rfl, rfl, rfl, rfl, by decide, by decide⟩
instance : SizeIs Try.prog 88 1 := ⟨by kernel_rfl⟩
instance : AggIs Try.prog 88 false := ⟨by kernel_rfl⟩
instance : ZeroIs Try.prog 88 (Value.nilFunc) := ⟨by kernel_rfl⟩
instance : BytesIs Try.prog 88 1 8 := ⟨Try.t88, _, by kernel_rfl, rfl, rfl, rfl, rfl, by decide, by decide⟩
instance : SizeIs Try.prog 89 1 := ⟨by kernel_rfl⟩
instance : AggIs Try.prog 89 false := ⟨by kernel_rfl⟩
instance : ZeroIs Try.prog 89 (Value.nilFunc) := ⟨by kernel_rfl⟩
instance : BytesIs Try.prog 89 1 8 := ⟨Try.t89, _, by kernel_rfl, rfl, rfl, rfl, rfl, by decide, by decide⟩
instance : SizeIs Try.prog 90 1 := ⟨by kernel_rfl⟩
instance : AggIs Try.prog 90 false := ⟨by kernel_rfl⟩
instance : ZeroIs Try.prog 90 (Value.nilFunc) := ⟨by kernel_rfl⟩
instance : BytesIs Try.prog 90 1 8 := ⟨Try.t90, _, by kernel_rfl, rfl, rfl, rfl, rfl, by decide, by decide⟩
instance : SizeIs Try.prog 91 1 := ⟨by kernel_rfl⟩
instance : AggIs Try.prog 91 false := ⟨by kernel_rfl⟩
instance : ZeroIs Try.prog 91 (Value.nilFunc) := ⟨by kernel_rfl⟩
instance : BytesIs Try.prog 91 1 8 := ⟨Try.t91, _, by kernel_rfl, rfl, rfl, rfl, rfl, by decide, by decide⟩
instance : SizeIs Try.prog 92 1 := ⟨by kernel_rfl⟩
instance : AggIs Try.prog 92 false := ⟨by kernel_rfl⟩
instance : ZeroIs Try.prog 92 (Value.nilFunc) := ⟨by kernel_rfl⟩
instance : BytesIs Try.prog 92 1 8 := ⟨Try.t92, _, by kernel_rfl, rfl, rfl, rfl, rfl, by decide, by decide⟩
instance : SizeIs Try.prog 93 1 := ⟨by kernel_rfl⟩
instance : AggIs Try.prog 93 false := ⟨by kernel_rfl⟩
instance : ZeroIs Try.prog 93 (Value.nilFunc) := ⟨by kernel_rfl⟩
instance : BytesIs Try.prog 93 1 8 := ⟨Try.t93, _, by kernel_rfl, rfl, rfl, rfl, rfl, by decide, by decide⟩
instance : SizeIs Try.prog 94 1 := ⟨by kernel_rfl⟩
instance : AggIs Try.prog 94 false := ⟨by kernel_rfl⟩
instance : ZeroIs Try.prog 94 (Value.nilFunc) := ⟨by kernel_rfl⟩
instance : BytesIs Try.prog 94 1 8 := ⟨Try.t94, _, by kernel_rfl, rfl, rfl, rfl, rfl, by decide, by decide⟩
instance : SizeIs Try.prog 95 1 := ⟨by kernel_rfl⟩
instance : AggIs Try.prog 95 false := ⟨by kernel_rfl⟩
instance : ZeroIs Try.prog 95 (Value.nilFunc) := ⟨by kernel_rfl⟩
instance : BytesIs Try.prog 95 1 8 := ⟨Try.t95, _, by kernel_rfl, rfl, rfl, rfl, rfl, by decide, by decide⟩
instance : SizeIs Try.prog 96 1 := ⟨by kernel_rfl⟩
instance : AggIs Try.prog 96 false := ⟨by kernel_rfl⟩
instance : ZeroIs Try.prog 96 (Value.nilFunc) := ⟨by kernel_rfl⟩
instance : BytesIs Try.prog 96 1 8 := ⟨Try.t96, _, by kernel_rfl, rfl, rfl, rfl, rfl, by decide, by decide⟩
instance : SizeIs Try.prog 98 1 := ⟨by kernel_rfl⟩
instance : AggIs Try.prog 98 false := ⟨by kernel_rfl⟩
instance : ZeroIs Try.prog 98 (Value.nilFunc) := ⟨by kernel_rfl⟩
instance : BytesIs Try.prog 98 1 8 := ⟨Try.t98, _, by kernel_rfl, rfl, rfl, rfl, rfl, by decide, by decide⟩
instance : SizeIs Try.prog 99 1 := ⟨by kernel_rfl⟩
instance : AggIs Try.prog 99 false := ⟨by kernel_rfl⟩
instance : ZeroIs Try.prog 99 (Value.nilFunc) := ⟨by kernel_rfl⟩
instance : BytesIs Try.prog 99 1 8 := ⟨Try.t99, _, by kernel_rfl, rfl, rfl, rfl, rfl, by decide, by decide⟩
instance : SizeIs Try.prog 100 1 := ⟨by kernel_rfl⟩
instance : AggIs Try.prog 100 false := ⟨by kernel_rfl⟩
instance : ZeroIs Try.prog 100 (Value.nilFunc) := ⟨by kernel_rfl⟩
instance : BytesIs Try.prog 100 1 8 := ⟨Try.t100, _, by kernel_rfl, rfl, rfl, rfl, rfl, by decide, by decide⟩
instance : SizeIs Try.prog 101 1 := ⟨by kernel_rfl⟩
instance : AggIs Try.prog 101 false := ⟨by kernel_rfl⟩
instance : ZeroIs Try.prog 101 (Value.nilFunc) := ⟨by kernel_rfl⟩
instance : BytesIs Try.prog 101 1 8 := ⟨Try.t101, _, by kernel_rfl, rfl, rfl, rfl, rfl, by decide, by decide⟩
instance : SizeIs Try.prog 102 1 := ⟨by kernel_rfl⟩
instance : AggIs Try.prog 102 false := ⟨by kernel_rfl⟩
instance : ZeroIs Try.prog 102 (Value.nilFunc) := ⟨by kernel_rfl⟩
instance : BytesIs Try.prog 102 1 8 := ⟨Try.t102, _, by kernel_rfl, rfl, rfl, rfl, rfl, by decide, by decide⟩
instance : SizeIs Try.prog 103 1 := ⟨by kernel_rfl⟩
instance : AggIs Try.prog 103 false := ⟨by kernel_rfl⟩
instance : ZeroIs Try.prog 103 (Value.nilFunc) := ⟨by kernel_rfl⟩
instance : BytesIs Try.prog 103 1 8 := ⟨Try.t103, _, by kernel_rfl, rfl, rfl, rfl, rfl, by decide, by decide⟩
instance : SizeIs Try.prog 104 1 := ⟨by kernel_rfl⟩
instance : AggIs Try.prog 104 false := ⟨by kernel_rfl⟩
instance : ZeroIs Try.prog 104 (Value.nilFunc) := ⟨by kernel_rfl⟩
instance : BytesIs Try.prog 104 1 8 := ⟨Try.t104, _, by kernel_rfl, rfl, rfl, rfl, rfl, by decide, by decide⟩
instance : UnderIs Try.prog 105 (.slice 107) := ⟨Try.underlying105⟩
instance : SizeIs Try.prog 105 1 := ⟨by kernel_rfl⟩
instance : AggIs Try.prog 105 false := ⟨by kernel_rfl⟩
instance : ZeroIs Try.prog 105 ((Value.slice none 0 0)) := ⟨by kernel_rfl⟩
instance : BytesIs Try.prog 105 1 24 := ⟨Try.t105, _, by kernel_rfl, rfl, rfl, rfl, rfl, by decide, by decide⟩
instance : FieldIs Try.prog 106 0 0 3 1 := ⟨_, _, Try.underlying106, rfl, rfl, rfl, by kernel_rfl, by decide⟩
instance : FieldIs Try.prog 106 1 1 3 1 := ⟨_, _, Try.underlying106, rfl, rfl, rfl, by kernel_rfl, by decide⟩
instance : FieldIs Try.prog 106 2 2 3 1 := ⟨_, _, Try.underlying106, rfl, rfl, rfl, by kernel_rfl, by decide⟩
instance : StructOk Try.prog 106 := ⟨_, Try.underlying106, by kernel_rfl⟩
instance : SizeIs Try.prog 106 3 := ⟨by kernel_rfl⟩
instance : AggIs Try.prog 106 true := ⟨by kernel_rfl⟩
instance : ZeroIs Try.prog 106 ((Value.agg #[Value.int IntKind.i64 0, Value.int IntKind.i64 0, Value.int IntKind.i64 0])) := ⟨by kernel_rfl⟩
instance : BytesIs Try.prog 106 3 24 := ⟨Try.t106, _, by kernel_rfl, rfl, rfl, rfl, rfl, by decide, by decide⟩
instance : FieldIs Try.prog 107 0 0 3 1 := ⟨_, _, Try.underlying107, rfl, rfl, rfl, by kernel_rfl, by decide⟩
instance : FieldIs Try.prog 107 1 1 3 1 := ⟨_, _, Try.underlying107, rfl, rfl, rfl, by kernel_rfl, by decide⟩
instance : FieldIs Try.prog 107 2 2 3 1 := ⟨_, _, Try.underlying107, rfl, rfl, rfl, by kernel_rfl, by decide⟩
instance : StructOk Try.prog 107 := ⟨_, Try.underlying107, by kernel_rfl⟩
instance : SizeIs Try.prog 107 3 := ⟨by kernel_rfl⟩
instance : AggIs Try.prog 107 true := ⟨by kernel_rfl⟩
instance : ZeroIs Try.prog 107 ((Value.agg #[Value.int IntKind.i64 0, Value.int IntKind.i64 0, Value.int IntKind.i64 0])) := ⟨by kernel_rfl⟩
instance : BytesIs Try.prog 107 3 24 := ⟨Try.t107, _, by kernel_rfl, rfl, rfl, rfl, rfl, by decide, by decide⟩
instance : SizeIs Try.prog 108 1 := ⟨by kernel_rfl⟩
instance : AggIs Try.prog 108 false := ⟨by kernel_rfl⟩
instance : ZeroIs Try.prog 108 (Value.nilFunc) := ⟨by kernel_rfl⟩
instance : BytesIs Try.prog 108 1 8 := ⟨Try.t108, _, by kernel_rfl, rfl, rfl, rfl, rfl, by decide, by decide⟩
instance : SizeIs Try.prog 109 1 := ⟨by kernel_rfl⟩
instance : AggIs Try.prog 109 false := ⟨by kernel_rfl⟩
instance : ZeroIs Try.prog 109 (Value.nilFunc) := ⟨by kernel_rfl⟩
instance : BytesIs Try.prog 109 1 8 := ⟨Try.t109, _, by kernel_rfl, rfl, rfl, rfl, rfl, by decide, by decide⟩
instance : SizeIs Try.prog 110 1 := ⟨by kernel_rfl⟩
instance : AggIs Try.prog 110 false := ⟨by kernel_rfl⟩
instance : ZeroIs Try.prog 110 (Value.nilFunc) := ⟨by kernel_rfl⟩
instance : BytesIs Try.prog 110 1 8 := ⟨Try.t110, _, by kernel_rfl, rfl, rfl, rfl, rfl, by decide, by decide⟩
instance : FieldIs Try.prog 111 0 0 17 1 := ⟨_, _, Try.underlying111, rfl, rfl, rfl, by kernel_rfl, by decide⟩
instance : FieldIs Try.prog 111 1 1 17 1 := ⟨_, _, Try.underlying111, rfl, rfl, rfl, by kernel_rfl, by decide⟩
instance : FieldIs Try.prog 111 2 2 17 1 := ⟨_, _, Try.underlying111, rfl, rfl, rfl, by kernel_rfl, by decide⟩
instance : FieldIs Try.prog 111 3 3 9 1 := ⟨_, _, Try.underlying111, rfl, rfl, rfl, by kernel_rfl, by decide⟩
instance : StructOk Try.prog 111 := ⟨_, Try.underlying111, by kernel_rfl⟩
instance : SizeIs Try.prog 111 4 := ⟨by kernel_rfl⟩
instance : AggIs Try.prog 111 true := ⟨by kernel_rfl⟩
instance : ZeroIs Try.prog 111 ((Value.agg #[Value.pointer none, Value.pointer none, Value.pointer none, Value.string ByteArray.empty])) := ⟨by kernel_rfl⟩
instance : BytesIs Try.prog 111 4 40 := ⟨Try.t111, _, by kernel_rfl, rfl, rfl, rfl, rfl, by decide, by decide⟩
instance : FieldIs Try.prog 112 0 0 17 1 := ⟨_, _, Try.underlying112, rfl, rfl, rfl, by kernel_rfl, by decide⟩
instance : FieldIs Try.prog 112 1 1 17 1 := ⟨_, _, Try.underlying112, rfl, rfl, rfl, by kernel_rfl, by decide⟩
instance : FieldIs Try.prog 112 2 2 17 1 := ⟨_, _, Try.underlying112, rfl, rfl, rfl, by kernel_rfl, by decide⟩
instance : FieldIs Try.prog 112 3 3 9 1 := ⟨_, _, Try.underlying112, rfl, rfl, rfl, by kernel_rfl, by decide⟩
instance : StructOk Try.prog 112 := ⟨_, Try.underlying112, by kernel_rfl⟩
instance : SizeIs Try.prog 112 4 := ⟨by kernel_rfl⟩
instance : AggIs Try.prog 112 true := ⟨by kernel_rfl⟩
instance : ZeroIs Try.prog 112 ((Value.agg #[Value.pointer none, Value.pointer none, Value.pointer none, Value.string ByteArray.empty])) := ⟨by kernel_rfl⟩
instance : BytesIs Try.prog 112 4 40 := ⟨Try.t112, _, by kernel_rfl, rfl, rfl, rfl, rfl, by decide, by decide⟩
instance : UnderIs Try.prog 113 (.array 0 16) := ⟨Try.underlying113⟩
instance : SizeIs Try.prog 113 0 := ⟨by kernel_rfl⟩
instance : AggIs Try.prog 113 true := ⟨by kernel_rfl⟩
instance : StructOk Try.prog 114 := ⟨_, Try.underlying114, by kernel_rfl⟩
instance : SizeIs Try.prog 114 0 := ⟨by kernel_rfl⟩
instance : AggIs Try.prog 114 true := ⟨by kernel_rfl⟩
instance : StructOk Try.prog 115 := ⟨_, Try.underlying115, by kernel_rfl⟩
instance : SizeIs Try.prog 115 0 := ⟨by kernel_rfl⟩
instance : AggIs Try.prog 115 true := ⟨by kernel_rfl⟩
instance : SizeIs Try.prog 116 1 := ⟨by kernel_rfl⟩
instance : AggIs Try.prog 116 false := ⟨by kernel_rfl⟩
instance : ZeroIs Try.prog 116 (Value.nilFunc) := ⟨by kernel_rfl⟩
instance : BytesIs Try.prog 116 1 8 := ⟨Try.t116, _, by kernel_rfl, rfl, rfl, rfl, rfl, by decide, by decide⟩
instance : UnderIs Try.prog 117 (.int IntKind.u32) := ⟨Try.underlying117⟩
instance : SizeIs Try.prog 117 1 := ⟨by kernel_rfl⟩
instance : AggIs Try.prog 117 false := ⟨by kernel_rfl⟩
instance : ZeroIs Try.prog 117 ((Value.int IntKind.u32 0)) := ⟨by kernel_rfl⟩
instance : BytesIs Try.prog 117 1 4 := ⟨Try.t117, _, by kernel_rfl, rfl, rfl, rfl, rfl, by decide, by decide⟩
instance : UnderIs Try.prog 118 (.int IntKind.u8) := ⟨Try.underlying118⟩
instance : SizeIs Try.prog 118 1 := ⟨by kernel_rfl⟩
instance : AggIs Try.prog 118 false := ⟨by kernel_rfl⟩
instance : ZeroIs Try.prog 118 ((Value.int IntKind.u8 0)) := ⟨by kernel_rfl⟩
instance : BytesIs Try.prog 118 1 1 := ⟨Try.t118, _, by kernel_rfl, rfl, rfl, rfl, rfl, by decide, by decide⟩
instance : UnderIs Try.prog 119 (.int IntKind.u8) := ⟨Try.underlying119⟩
instance : SizeIs Try.prog 119 1 := ⟨by kernel_rfl⟩
instance : AggIs Try.prog 119 false := ⟨by kernel_rfl⟩
instance : ZeroIs Try.prog 119 ((Value.int IntKind.u8 0)) := ⟨by kernel_rfl⟩
instance : BytesIs Try.prog 119 1 1 := ⟨Try.t119, _, by kernel_rfl, rfl, rfl, rfl, rfl, by decide, by decide⟩
instance : SizeIs Try.prog 120 1 := ⟨by kernel_rfl⟩
instance : AggIs Try.prog 120 false := ⟨by kernel_rfl⟩
instance : ZeroIs Try.prog 120 (Value.nilFunc) := ⟨by kernel_rfl⟩
instance : BytesIs Try.prog 120 1 8 := ⟨Try.t120, _, by kernel_rfl, rfl, rfl, rfl, rfl, by decide, by decide⟩
instance : UnderIs Try.prog 121 (.pointer 5) := ⟨Try.underlying121⟩
instance : SizeIs Try.prog 121 1 := ⟨by kernel_rfl⟩
instance : AggIs Try.prog 121 false := ⟨by kernel_rfl⟩
instance : ZeroIs Try.prog 121 ((Value.pointer none)) := ⟨by kernel_rfl⟩
instance : BytesIs Try.prog 121 1 8 := ⟨Try.t121, _, by kernel_rfl, rfl, rfl, rfl, rfl, by decide, by decide⟩
instance : UnderIs Try.prog 122 (.int IntKind.i32) := ⟨Try.underlying122⟩
instance : SizeIs Try.prog 122 1 := ⟨by kernel_rfl⟩
instance : AggIs Try.prog 122 false := ⟨by kernel_rfl⟩
instance : ZeroIs Try.prog 122 ((Value.int IntKind.i32 0)) := ⟨by kernel_rfl⟩
instance : BytesIs Try.prog 122 1 4 := ⟨Try.t122, _, by kernel_rfl, rfl, rfl, rfl, rfl, by decide, by decide⟩
instance : UnderIs Try.prog 123 (.int IntKind.i32) := ⟨Try.underlying123⟩
instance : SizeIs Try.prog 123 1 := ⟨by kernel_rfl⟩
instance : AggIs Try.prog 123 false := ⟨by kernel_rfl⟩
instance : ZeroIs Try.prog 123 ((Value.int IntKind.i32 0)) := ⟨by kernel_rfl⟩
instance : BytesIs Try.prog 123 1 4 := ⟨Try.t123, _, by kernel_rfl, rfl, rfl, rfl, rfl, by decide, by decide⟩
instance : FieldIs Try.prog 124 0 0 12 1 := ⟨_, _, Try.underlying124, rfl, rfl, rfl, by kernel_rfl, by decide⟩
instance : FieldIs Try.prog 124 1 1 12 1 := ⟨_, _, Try.underlying124, rfl, rfl, rfl, by kernel_rfl, by decide⟩
instance : FieldIs Try.prog 124 2 2 117 1 := ⟨_, _, Try.underlying124, rfl, rfl, rfl, by kernel_rfl, by decide⟩
instance : FieldIs Try.prog 124 3 3 118 1 := ⟨_, _, Try.underlying124, rfl, rfl, rfl, by kernel_rfl, by decide⟩
instance : FieldIs Try.prog 124 4 4 5 1 := ⟨_, _, Try.underlying124, rfl, rfl, rfl, by kernel_rfl, by decide⟩
instance : FieldIs Try.prog 124 5 5 5 1 := ⟨_, _, Try.underlying124, rfl, rfl, rfl, by kernel_rfl, by decide⟩
instance : FieldIs Try.prog 124 6 6 119 1 := ⟨_, _, Try.underlying124, rfl, rfl, rfl, by kernel_rfl, by decide⟩
instance : FieldIs Try.prog 124 7 7 120 1 := ⟨_, _, Try.underlying124, rfl, rfl, rfl, by kernel_rfl, by decide⟩
instance : FieldIs Try.prog 124 8 8 121 1 := ⟨_, _, Try.underlying124, rfl, rfl, rfl, by kernel_rfl, by decide⟩
instance : FieldIs Try.prog 124 9 9 122 1 := ⟨_, _, Try.underlying124, rfl, rfl, rfl, by kernel_rfl, by decide⟩
instance : FieldIs Try.prog 124 10 10 123 1 := ⟨_, _, Try.underlying124, rfl, rfl, rfl, by kernel_rfl, by decide⟩
instance : StructOk Try.prog 124 := ⟨_, Try.underlying124, by kernel_rfl⟩
instance : SizeIs Try.prog 124 11 := ⟨by kernel_rfl⟩
instance : AggIs Try.prog 124 true := ⟨by kernel_rfl⟩
instance : ZeroIs Try.prog 124 ((Value.agg #[Value.int IntKind.u64 0, Value.int IntKind.u64 0, Value.int IntKind.u32 0, Value.int IntKind.u8 0, Value.int IntKind.u8 0, Value.int IntKind.u8 0, Value.int IntKind.u8 0, Value.nilFunc, Value.pointer none, Value.int IntKind.i32 0, Value.int IntKind.i32 0])) := ⟨by kernel_rfl⟩
instance : BytesIs Try.prog 124 11 48 := ⟨Try.t124, _, by kernel_rfl, rfl, rfl, rfl, rfl, by decide, by decide⟩
instance : FieldIs Try.prog 125 0 0 12 1 := ⟨_, _, Try.underlying125, rfl, rfl, rfl, by kernel_rfl, by decide⟩
instance : FieldIs Try.prog 125 1 1 12 1 := ⟨_, _, Try.underlying125, rfl, rfl, rfl, by kernel_rfl, by decide⟩
instance : FieldIs Try.prog 125 2 2 117 1 := ⟨_, _, Try.underlying125, rfl, rfl, rfl, by kernel_rfl, by decide⟩
instance : FieldIs Try.prog 125 3 3 118 1 := ⟨_, _, Try.underlying125, rfl, rfl, rfl, by kernel_rfl, by decide⟩
instance : FieldIs Try.prog 125 4 4 5 1 := ⟨_, _, Try.underlying125, rfl, rfl, rfl, by kernel_rfl, by decide⟩
instance : FieldIs Try.prog 125 5 5 5 1 := ⟨_, _, Try.underlying125, rfl, rfl, rfl, by kernel_rfl, by decide⟩
instance : FieldIs Try.prog 125 6 6 119 1 := ⟨_, _, Try.underlying125, rfl, rfl, rfl, by kernel_rfl, by decide⟩
instance : FieldIs Try.prog 125 7 7 120 1 := ⟨_, _, Try.underlying125, rfl, rfl, rfl, by kernel_rfl, by decide⟩
instance : FieldIs Try.prog 125 8 8 121 1 := ⟨_, _, Try.underlying125, rfl, rfl, rfl, by kernel_rfl, by decide⟩
instance : FieldIs Try.prog 125 9 9 122 1 := ⟨_, _, Try.underlying125, rfl, rfl, rfl, by kernel_rfl, by decide⟩
instance : FieldIs Try.prog 125 10 10 123 1 := ⟨_, _, Try.underlying125, rfl, rfl, rfl, by kernel_rfl, by decide⟩
instance : StructOk Try.prog 125 := ⟨_, Try.underlying125, by kernel_rfl⟩
instance : SizeIs Try.prog 125 11 := ⟨by kernel_rfl⟩
instance : AggIs Try.prog 125 true := ⟨by kernel_rfl⟩
instance : ZeroIs Try.prog 125 ((Value.agg #[Value.int IntKind.u64 0, Value.int IntKind.u64 0, Value.int IntKind.u32 0, Value.int IntKind.u8 0, Value.int IntKind.u8 0, Value.int IntKind.u8 0, Value.int IntKind.u8 0, Value.nilFunc, Value.pointer none, Value.int IntKind.i32 0, Value.int IntKind.i32 0])) := ⟨by kernel_rfl⟩
instance : BytesIs Try.prog 125 11 48 := ⟨Try.t125, _, by kernel_rfl, rfl, rfl, rfl, rfl, by decide, by decide⟩
instance : SizeIs Try.prog 126 1 := ⟨by kernel_rfl⟩
instance : AggIs Try.prog 126 false := ⟨by kernel_rfl⟩
instance : ZeroIs Try.prog 126 (Value.nilFunc) := ⟨by kernel_rfl⟩
instance : BytesIs Try.prog 126 1 8 := ⟨Try.t126, _, by kernel_rfl, rfl, rfl, rfl, rfl, by decide, by decide⟩
instance : FieldIs Try.prog 129 0 0 128 1 := ⟨_, _, Try.underlying129, rfl, rfl, rfl, by kernel_rfl, by decide⟩
instance : FieldIs Try.prog 129 1 1 128 1 := ⟨_, _, Try.underlying129, rfl, rfl, rfl, by kernel_rfl, by decide⟩
instance : StructOk Try.prog 129 := ⟨_, Try.underlying129, by kernel_rfl⟩
instance : SizeIs Try.prog 129 2 := ⟨by kernel_rfl⟩
instance : AggIs Try.prog 129 true := ⟨by kernel_rfl⟩
instance : FieldIs Try.prog 130 0 0 128 1 := ⟨_, _, Try.underlying130, rfl, rfl, rfl, by kernel_rfl, by decide⟩
instance : FieldIs Try.prog 130 1 1 128 1 := ⟨_, _, Try.underlying130, rfl, rfl, rfl, by kernel_rfl, by decide⟩
instance : StructOk Try.prog 130 := ⟨_, Try.underlying130, by kernel_rfl⟩
instance : SizeIs Try.prog 130 2 := ⟨by kernel_rfl⟩
instance : AggIs Try.prog 130 true := ⟨by kernel_rfl⟩
instance : FieldIs Try.prog 131 0 0 130 2 := ⟨_, _, Try.underlying131, rfl, rfl, rfl, by kernel_rfl, by decide⟩
instance : FieldIs Try.prog 131 1 2 3 1 := ⟨_, _, Try.underlying131, rfl, rfl, rfl, by kernel_rfl, by decide⟩
instance : StructOk Try.prog 131 := ⟨_, Try.underlying131, by kernel_rfl⟩
instance : SizeIs Try.prog 131 3 := ⟨by kernel_rfl⟩
instance : AggIs Try.prog 131 true := ⟨by kernel_rfl⟩
instance : FieldIs Try.prog 132 0 0 130 2 := ⟨_, _, Try.underlying132, rfl, rfl, rfl, by kernel_rfl, by decide⟩
instance : FieldIs Try.prog 132 1 2 3 1 := ⟨_, _, Try.underlying132, rfl, rfl, rfl, by kernel_rfl, by decide⟩
instance : StructOk Try.prog 132 := ⟨_, Try.underlying132, by kernel_rfl⟩
instance : SizeIs Try.prog 132 3 := ⟨by kernel_rfl⟩
instance : AggIs Try.prog 132 true := ⟨by kernel_rfl⟩
end Go.Ideal

-- La
set_option linter.unusedSimpArgs false
set_option linter.unusedVariables false
namespace Go.Ideal
open Go Go.Proofs
/-! ### Words of 64 bits -/
theorem wrap_u64_id {z : Int} (h0 : 0 ≤ z) (h : z < 2 ^ 64) : IntKind.u64.wrap z = z := by
  simp only [IntKind.wrap, IntKind.bits, IntKind.signed]; simp; omega
theorem bvNat {x : Nat} (h : x < 2 ^ 64) : (BitVec.ofInt IntKind.u64.bits (x : Int)).toNat = x := by
  have hb : IntKind.u64.bits = 64 := rfl
  simp only [BitVec.toNat_ofInt, hb]
  omega
theorem and_u64 {a b : Nat} (ha : a < 2 ^ 64) (hb : b < 2 ^ 64) : ibits .and .u64 a b = (a &&& b : Nat) := by
  show IntKind.u64.wrap (((BitVec.ofInt IntKind.u64.bits a) &&& (BitVec.ofInt IntKind.u64.bits b)).toNat : Int) = _
  rw [BitVec.toNat_and, bvNat ha, bvNat hb]
  have := Nat.and_lt_two_pow a hb
  exact wrap_u64_id (by omega) (by omega)
theorem shr_u64 {a : Nat} {n : Int} (h0 : 0 ≤ n) (ha : a < 2 ^ 64) : ((a : Int)).fdiv (2 ^ min n.toNat IntKind.u64.bits) = (a >>> n.toNat : Nat) := by
  have hb : IntKind.u64.bits = 64 := rfl
  rw [hb, Nat.shiftRight_eq_div_pow]
  have h2 : (2 : Int) ^ min n.toNat 64 = ((2 ^ min n.toNat 64 : Nat) : Int) := by simp
  rw [h2, Int.fdiv_eq_ediv_of_nonneg _ (Int.natCast_nonneg _), ← Int.natCast_ediv]
  congr 1
  by_cases hn : n.toNat ≤ 64
  · rw [Nat.min_eq_left hn]
  · rw [Nat.min_eq_right (by omega), Nat.div_eq_of_lt ha, Nat.div_eq_of_lt]
    exact Nat.lt_of_lt_of_le ha (Nat.pow_le_pow_right (by decide) (by omega))
theorem shl_one {i : Int} (h0 : 0 ≤ i) (h1 : i < 64) : IntKind.u64.wrap (1 * 2 ^ min i.toNat IntKind.u64.bits) = (2 ^ i.toNat : Nat) := by
  have h2 : min i.toNat IntKind.u64.bits = i.toNat := by simp only [IntKind.bits]; omega
  have h3 : (2 : Int) ^ i.toNat < 2 ^ 64 := Int.pow_lt_pow_of_lt (by decide) (by omega)
  have h4 : (0 : Int) ≤ 2 ^ i.toNat := Int.pow_nonneg (by decide)
  rw [h2, Int.one_mul, wrap_u64_id h4 h3]
  simp
end Go.Ideal

-- Ca
set_option linter.unusedSimpArgs false
set_option linter.unusedVariables false
namespace Go.Ideal
open Go Go.Proofs
/-! ### What is known of the gates -/
structure KE where
  name : ByteArray
  arity : Int
  halves : Int
  cliff : Bool
  diag : Bool
  back : ByteArray
def KT : List KE := [
  ⟨(⟨#[105]⟩ : ByteArray), 1, 0, true, true, (⟨#[105]⟩ : ByteArray)⟩,
  ⟨(⟨#[120]⟩ : ByteArray), 1, 0, true, false, (⟨#[120]⟩ : ByteArray)⟩,
  ⟨(⟨#[121]⟩ : ByteArray), 1, 0, true, false, (⟨#[121]⟩ : ByteArray)⟩,
  ⟨(⟨#[122]⟩ : ByteArray), 1, 0, true, true, (⟨#[122]⟩ : ByteArray)⟩,
  ⟨(⟨#[104]⟩ : ByteArray), 1, 1, true, false, (⟨#[104]⟩ : ByteArray)⟩,
  ⟨(⟨#[115]⟩ : ByteArray), 1, 0, true, true, (⟨#[115, 100, 103]⟩ : ByteArray)⟩,
  ⟨(⟨#[115, 100, 103]⟩ : ByteArray), 1, 0, true, true, (⟨#[115]⟩ : ByteArray)⟩,
  ⟨(⟨#[116]⟩ : ByteArray), 1, 0, false, true, (⟨#[116, 100, 103]⟩ : ByteArray)⟩,
  ⟨(⟨#[116, 100, 103]⟩ : ByteArray), 1, 0, false, true, (⟨#[116]⟩ : ByteArray)⟩,
  ⟨(⟨#[118]⟩ : ByteArray), 1, 1, true, false, (⟨#[118, 100, 103]⟩ : ByteArray)⟩,
  ⟨(⟨#[118, 100, 103]⟩ : ByteArray), 1, 1, true, false, (⟨#[118]⟩ : ByteArray)⟩,
  ⟨(⟨#[119]⟩ : ByteArray), 1, 0, true, true, (⟨#[119, 100, 103]⟩ : ByteArray)⟩,
  ⟨(⟨#[119, 100, 103]⟩ : ByteArray), 1, 0, true, true, (⟨#[119]⟩ : ByteArray)⟩,
  ⟨(⟨#[99, 120]⟩ : ByteArray), 2, 0, true, false, (⟨#[99, 120]⟩ : ByteArray)⟩,
  ⟨(⟨#[99, 121]⟩ : ByteArray), 2, 0, true, false, (⟨#[99, 121]⟩ : ByteArray)⟩,
  ⟨(⟨#[99, 122]⟩ : ByteArray), 2, 0, true, true, (⟨#[99, 122]⟩ : ByteArray)⟩,
  ⟨(⟨#[99, 104]⟩ : ByteArray), 2, 1, false, false, (⟨#[99, 104]⟩ : ByteArray)⟩,
  ⟨(⟨#[99, 115]⟩ : ByteArray), 2, 0, false, true, (⟨#[99, 115, 100, 103]⟩ : ByteArray)⟩,
  ⟨(⟨#[99, 115, 100, 103]⟩ : ByteArray), 2, 0, false, true, (⟨#[99, 115]⟩ : ByteArray)⟩,
  ⟨(⟨#[115, 119, 97, 112]⟩ : ByteArray), 2, 0, true, false, (⟨#[115, 119, 97, 112]⟩ : ByteArray)⟩,
  ⟨(⟨#[105, 115, 119, 97, 112]⟩ : ByteArray), 2, 0, true, false, (⟨#[105, 115, 119, 97, 112, 100, 103]⟩ : ByteArray)⟩,
  ⟨(⟨#[105, 115, 119, 97, 112, 100, 103]⟩ : ByteArray), 2, 0, true, false, (⟨#[105, 115, 119, 97, 112]⟩ : ByteArray)⟩,
  ⟨(⟨#[99, 99, 120]⟩ : ByteArray), 3, 0, false, false, (⟨#[99, 99, 120]⟩ : ByteArray)⟩,
  ⟨(⟨#[99, 99, 122]⟩ : ByteArray), 3, 0, false, true, (⟨#[99, 99, 122]⟩ : ByteArray)⟩,
  ⟨(⟨#[99, 115, 119, 97, 112]⟩ : ByteArray), 3, 0, false, false, (⟨#[99, 115, 119, 97, 112]⟩ : ByteArray)⟩]
def krow (e : KE) (c : Value) : ByteArray × Value := (e.name, .agg [.int .i64 e.arity, .int .i64 e.halves, .bool e.cliff, .bool e.diag, .string e.back, c].toArray)
def kOf (b : ByteArray) : Option KE := KT.find? fun e => beqS b e.name
def arityS (b : ByteArray) : Int := match kOf b with | some e => e.arity | none => 0
def halvesS (b : ByteArray) : Int := match kOf b with | some e => e.halves | none => 0
def cliffS (b : ByteArray) : Bool := match kOf b with | some e => e.cliff | none => false
def diagS (b : ByteArray) : Bool := match kOf b with | some e => e.diag | none => false
def backS (b : ByteArray) : ByteArray × Int := match kOf b with | some e => (e.back, 0) | none => (⟨#[]⟩, 80)
def IsFn (v : Value) : Prop := ∃ f a b, v = .func (.func f) a b
theorem flip_spec (b : Int) (a : Option Addr) (l c : Nat) (h : IHp) : EvX Try.prog 56 [.int .i64 b, .slice a l c].toArray h (fun v h' => Ext h h' ∧ IsFn v) := by
  refine EvX_of Try.func56 rfl (by show 2 ≤ 6; decide) ?_
  repeat' (first | refine V_seq ?_ | refine V_region ?_ | refine WS_nil ?_ | refine S_normal ?_ | refine V_ret ?_ | refine WS_assign ?_ | refine WS_box rfl ?_ | refine WS_makeFunc ?_)
  exact retK_1 ⟨(Ext.push _ _).push' _, _, _, _, rfl⟩ (.inr rfl)
instance : CallIs Try.prog 56 := .of Try.func56 rfl rfl
theorem last_spec (b c : Int) (h : IHp) : EvX Try.prog 57 [.int .i64 b, .int .i64 c].toArray h (fun v h' => Ext h h' ∧ IsFn v) := by
  refine EvX_of Try.func57 rfl (by show 2 ≤ 6; decide) ?_
  repeat' (first | refine V_seq ?_ | refine V_region ?_ | refine WS_nil ?_ | refine S_normal ?_ | refine V_ret ?_ | refine WS_assign ?_ | refine WS_box rfl ?_ | refine WS_makeFunc ?_)
  exact retK_1 ⟨(Ext.push _ _).push' _, _, _, _, rfl⟩ (.inr rfl)
instance : CallIs Try.prog 57 := .of Try.func57 rfl rfl
theorem mixed_spec (b c d : Int) (h : IHp) : EvX Try.prog 58 [.int .i64 b, .int .i64 c, .int .i64 d].toArray h (fun v h' => Ext h h' ∧ IsFn v) := by
  refine EvX_of Try.func58 rfl (by show 3 ≤ 8; decide) ?_
  repeat' (first | refine V_seq ?_ | refine V_region ?_ | refine WS_nil ?_ | refine S_normal ?_ | refine V_ret ?_ | refine WS_assign ?_ | refine WS_box rfl ?_ | refine WS_makeFunc ?_)
  exact retK_1 ⟨((Ext.push _ _).push' _).push' _, _, _, _, rfl⟩ (.inr rfl)
instance : CallIs Try.prog 58 := .of Try.func58 rfl rfl
theorem swapped_spec (b c d : Int) (h : IHp) : EvX Try.prog 59 [.int .i64 b, .int .i64 c, .int .i64 d].toArray h (fun v h' => Ext h h' ∧ IsFn v) := by
  refine EvX_of Try.func59 rfl (by show 3 ≤ 8; decide) ?_
  repeat' (first | refine V_seq ?_ | refine V_region ?_ | refine WS_nil ?_ | refine S_normal ?_ | refine V_ret ?_ | refine WS_assign ?_ | refine WS_box rfl ?_ | refine WS_makeFunc ?_)
  exact retK_1 ⟨((Ext.push _ _).push' _).push' _, _, _, _, rfl⟩ (.inr rfl)
instance : CallIs Try.prog 59 := .of Try.func59 rfl rfl
def rowsOf (es : List KE) (cs : List Value) : List (ByteArray × Value) := List.zipWith krow es cs
theorem look_none {b : ByteArray} : ∀ (es : List KE) (cs : List Value), (es.all fun e => !beqS b e.name) = true → lookB b (rowsOf es cs) = none := by
  intro es
  induction es with
  | nil => intro cs _; rfl
  | cons e es ih =>
    intro cs h
    simp only [List.all_cons, Bool.and_eq_true, Bool.not_eq_true'] at h
    cases cs with
    | nil => rfl
    | cons c cs => simp only [rowsOf, List.zipWith_cons_cons, krow, lookB, h.1, Bool.false_eq_true, if_false]; exact ih cs h.2
theorem look_some {b : ByteArray} : ∀ (es : List KE) (cs : List Value), cs.length = es.length → match es.find? (fun e => beqS b e.name) with
    | none => lookB b (rowsOf es cs) = none
    | some e => ∃ c ∈ cs, lookB b (rowsOf es cs) = some (krow e c).2 := by
  intro es
  induction es with
  | nil => intro cs h; cases cs <;> simp [rowsOf, lookB] at h ⊢
  | cons e es ih =>
    intro cs h
    cases cs with
    | nil => simp at h
    | cons c cs =>
      simp only [List.length_cons, Nat.add_right_cancel_iff] at h
      rw [List.find?_cons]
      cases hb : beqS b e.name with
      | true => exact ⟨c, List.mem_cons_self, by simp [rowsOf, krow, lookB, hb]⟩
      | false =>
        have h1 := ih cs h
        cases hf : es.find? (fun e => beqS b e.name) with
        | none => rw [hf] at h1; simp only at h1 ⊢; simpa [rowsOf, krow, lookB, hb] using h1
        | some e' =>
          rw [hf] at h1
          obtain ⟨c', h2, h3⟩ := h1
          exact ⟨c', List.mem_cons_of_mem _ h2, by simpa [rowsOf, krow, lookB, hb] using h3⟩
/-- the map, as far as it is built -/
structure KInv (h0 H : IHp) (m n : Nat) (cs : List Value) : Prop where
  ext : Ext h0 H
  lo : h0.fresh ≤ m
  map : MapIs H m (rowsOf (KT.take n) cs)
  len : cs.length = n
  fns : ∀ c ∈ cs, IsFn c
theorem KInv.grow {h0 H H' : IHp} {m n : Nat} {cs : List Value} (k : KInv h0 H m n cs) (e : Ext H H') : KInv h0 H' m n cs := ⟨k.ext.trans e, k.lo, k.map.ext e, k.len, k.fns⟩
theorem KInv.add {h0 H H' : IHp} {m n : Nat} {cs : List Value} {c : Value} {e : KE} {b : ByteArray} {v : Value} (k : KInv h0 H m n cs) (he : KT[n]? = some e) (hb : (b, v) = krow e c) (hc : IsFn c)
    (hH : H' = H.putObj m (.map (ents (rowsOf (KT.take n) cs ++ [(b, v)]) 0) (rowsOf (KT.take n) cs ++ [(b, v)]).length)) : KInv h0 H' m (n + 1) (cs ++ [c]) := by
  have hn : n < KT.length := (List.getElem?_eq_some_iff.1 he).1
  have hr : rowsOf (KT.take (n + 1)) (cs ++ [c]) = rowsOf (KT.take n) cs ++ [(b, v)] := by
    rw [List.take_add_one, he, rowsOf, rowsOf, hb]
    simp only [Option.toList_some]
    rw [List.zipWith_append (by rw [List.length_take, k.len]; omega)]
    rfl
  refine ⟨by rw [hH]; exact k.ext.putObj k.lo, k.lo, ?_, by simp [k.len], fun c' hc' => ?_⟩
  · rw [hr, hH]
    refine ⟨k.map.even, ?_⟩
    have := (List.getElem?_eq_some_iff.1 k.map.eq).1
    simp [IHp.putObj, this]
  · rcases List.mem_append.1 hc' with h1 | h1
    · exact k.fns c' h1
    · simp at h1; subst h1; exact hc
set_option maxHeartbeats 4000000 in
theorem kinds_spec (h : IHp) : EvX Try.prog 40 [].toArray h (fun v h' => Ext h h' ∧ ∃ m cs, v = .map (some m) ∧ h.fresh ≤ m ∧ MapIs h' m (rowsOf KT cs) ∧ cs.length = 25 ∧ ∀ c ∈ cs, IsFn c) := by
  refine EvX_of Try.func40 rfl (by show 0 ≤ 56; decide) ?_
  repeat (first | refine V_seq ?_ | refine V_region ?_ | refine WS_nil ?_ | refine S_normal ?_ | refine WS_assign ?_)
  refine WS_makeMap ?_
  refine WS_gen ?_
  intro H0 hH0
  have k0 : KInv h H0 h.fresh 0 [] := ⟨hH0 ▸ Ext.push _ _, Nat.le_refl _, ⟨by unfold IHp.fresh; omega, by rw [hH0]; exact obj_push h _⟩, rfl, fun c hc => by simp at hc⟩
  generalize h.fresh = m at *
  clear hH0
  repeat (refine WS_buildSlice (by decide) rfl rfl (by simp [Value.cells]) ?_)
  refine WS_gen ?_
  intro G hG
  have k0 := k0.grow (H' := G) (hG ▸ Ext.push _ _)
  clear hG
  refine WS_call (flip_spec _ _ _ _ _) ?_
  rintro _ G ⟨eG, f, a, b, rfl⟩
  have k0 := k0.grow eG
  repeat (refine WS_build ?_)
  refine WS_insert (mi := k0.map) (look_none _ _ (by decide +kernel)) ?_
  refine WS_gen ?_
  intro H1 hH
  have k1 := k0.add (e := ⟨(⟨#[105]⟩ : ByteArray), 1, 0, true, true, (⟨#[105]⟩ : ByteArray)⟩) rfl rfl ⟨_, _, _, rfl⟩ hH
  refine WS_live1 1 ?_
  intro s g1
  clear hH
  repeat (refine WS_buildSlice (by decide) rfl rfl (by simp [Value.cells]) ?_)
  refine WS_gen ?_
  intro G hG
  have k1 := k1.grow (H' := G) (hG ▸ Ext.push _ _)
  clear hG
  refine WS_call (flip_spec _ _ _ _ _) ?_
  rintro _ G ⟨eG, f, a, b, rfl⟩
  have k1 := k1.grow eG
  repeat (refine WS_build ?_)
  refine WS_insert (mi := k1.map) (look_none _ _ (by decide +kernel)) ?_
  refine WS_gen ?_
  intro H2 hH
  have k2 := k1.add (e := ⟨(⟨#[120]⟩ : ByteArray), 1, 0, true, false, (⟨#[120]⟩ : ByteArray)⟩) rfl rfl ⟨_, _, _, rfl⟩ hH
  refine WS_live1 1 ?_
  intro s g1
  clear hH
  repeat (refine WS_buildSlice (by decide) rfl rfl (by simp [Value.cells]) ?_)
  refine WS_gen ?_
  intro G hG
  have k2 := k2.grow (H' := G) (hG ▸ Ext.push _ _)
  clear hG
  refine WS_call (flip_spec _ _ _ _ _) ?_
  rintro _ G ⟨eG, f, a, b, rfl⟩
  have k2 := k2.grow eG
  repeat (refine WS_build ?_)
  refine WS_insert (mi := k2.map) (look_none _ _ (by decide +kernel)) ?_
  refine WS_gen ?_
  intro H3 hH
  have k3 := k2.add (e := ⟨(⟨#[121]⟩ : ByteArray), 1, 0, true, false, (⟨#[121]⟩ : ByteArray)⟩) rfl rfl ⟨_, _, _, rfl⟩ hH
  refine WS_live1 1 ?_
  intro s g1
  clear hH
  skip
  refine WS_call (last_spec _ _ _) ?_
  rintro _ G ⟨eG, f, a, b, rfl⟩
  have k3 := k3.grow eG
  repeat (refine WS_build ?_)
  refine WS_insert (mi := k3.map) (look_none _ _ (by decide +kernel)) ?_
  refine WS_gen ?_
  intro H4 hH
  have k4 := k3.add (e := ⟨(⟨#[122]⟩ : ByteArray), 1, 0, true, true, (⟨#[122]⟩ : ByteArray)⟩) rfl rfl ⟨_, _, _, rfl⟩ hH
  refine WS_live1 1 ?_
  intro s g1
  clear hH
  skip
  refine WS_call (mixed_spec _ _ _ _) ?_
  rintro _ G ⟨eG, f, a, b, rfl⟩
  have k4 := k4.grow eG
  repeat (refine WS_build ?_)
  refine WS_insert (mi := k4.map) (look_none _ _ (by decide +kernel)) ?_
  refine WS_gen ?_
  intro H5 hH
  have k5 := k4.add (e := ⟨(⟨#[104]⟩ : ByteArray), 1, 1, true, false, (⟨#[104]⟩ : ByteArray)⟩) rfl rfl ⟨_, _, _, rfl⟩ hH
  refine WS_live1 1 ?_
  intro s g1
  clear hH
  skip
  refine WS_call (last_spec _ _ _) ?_
  rintro _ G ⟨eG, f, a, b, rfl⟩
  have k5 := k5.grow eG
  repeat (refine WS_build ?_)
  refine WS_insert (mi := k5.map) (look_none _ _ (by decide +kernel)) ?_
  refine WS_gen ?_
  intro H6 hH
  have k6 := k5.add (e := ⟨(⟨#[115]⟩ : ByteArray), 1, 0, true, true, (⟨#[115, 100, 103]⟩ : ByteArray)⟩) rfl rfl ⟨_, _, _, rfl⟩ hH
  refine WS_live1 1 ?_
  intro s g1
  clear hH
  skip
  refine WS_call (last_spec _ _ _) ?_
  rintro _ G ⟨eG, f, a, b, rfl⟩
  have k6 := k6.grow eG
  repeat (refine WS_build ?_)
  refine WS_insert (mi := k6.map) (look_none _ _ (by decide +kernel)) ?_
  refine WS_gen ?_
  intro H7 hH
  have k7 := k6.add (e := ⟨(⟨#[115, 100, 103]⟩ : ByteArray), 1, 0, true, true, (⟨#[115]⟩ : ByteArray)⟩) rfl rfl ⟨_, _, _, rfl⟩ hH
  refine WS_live1 1 ?_
  intro s g1
  clear hH
  skip
  refine WS_call (last_spec _ _ _) ?_
  rintro _ G ⟨eG, f, a, b, rfl⟩
  have k7 := k7.grow eG
  repeat (refine WS_build ?_)
  refine WS_insert (mi := k7.map) (look_none _ _ (by decide +kernel)) ?_
  refine WS_gen ?_
  intro H8 hH
  have k8 := k7.add (e := ⟨(⟨#[116]⟩ : ByteArray), 1, 0, false, true, (⟨#[116, 100, 103]⟩ : ByteArray)⟩) rfl rfl ⟨_, _, _, rfl⟩ hH
  refine WS_live1 1 ?_
  intro s g1
  clear hH
  skip
  refine WS_call (last_spec _ _ _) ?_
  rintro _ G ⟨eG, f, a, b, rfl⟩
  have k8 := k8.grow eG
  repeat (refine WS_build ?_)
  refine WS_insert (mi := k8.map) (look_none _ _ (by decide +kernel)) ?_
  refine WS_gen ?_
  intro H9 hH
  have k9 := k8.add (e := ⟨(⟨#[116, 100, 103]⟩ : ByteArray), 1, 0, false, true, (⟨#[116]⟩ : ByteArray)⟩) rfl rfl ⟨_, _, _, rfl⟩ hH
  refine WS_live1 1 ?_
  intro s g1
  clear hH
  skip
  refine WS_call (mixed_spec _ _ _ _) ?_
  rintro _ G ⟨eG, f, a, b, rfl⟩
  have k9 := k9.grow eG
  repeat (refine WS_build ?_)
  refine WS_insert (mi := k9.map) (look_none _ _ (by decide +kernel)) ?_
  refine WS_gen ?_
  intro H10 hH
  have k10 := k9.add (e := ⟨(⟨#[118]⟩ : ByteArray), 1, 1, true, false, (⟨#[118, 100, 103]⟩ : ByteArray)⟩) rfl rfl ⟨_, _, _, rfl⟩ hH
  refine WS_live1 1 ?_
  intro s g1
  clear hH
  skip
  refine WS_call (mixed_spec _ _ _ _) ?_
  rintro _ G ⟨eG, f, a, b, rfl⟩
  have k10 := k10.grow eG
  repeat (refine WS_build ?_)
  refine WS_insert (mi := k10.map) (look_none _ _ (by decide +kernel)) ?_
  refine WS_gen ?_
  intro H11 hH
  have k11 := k10.add (e := ⟨(⟨#[118, 100, 103]⟩ : ByteArray), 1, 1, true, false, (⟨#[118]⟩ : ByteArray)⟩) rfl rfl ⟨_, _, _, rfl⟩ hH
  refine WS_live1 1 ?_
  intro s g1
  clear hH
  repeat (refine WS_buildSlice (by decide) rfl rfl (by simp [Value.cells]) ?_)
  refine WS_gen ?_
  intro G hG
  have k11 := k11.grow (H' := G) (hG ▸ Ext.push _ _)
  clear hG
  refine WS_call (flip_spec _ _ _ _ _) ?_
  rintro _ G ⟨eG, f, a, b, rfl⟩
  have k11 := k11.grow eG
  repeat (refine WS_build ?_)
  refine WS_insert (mi := k11.map) (look_none _ _ (by decide +kernel)) ?_
  refine WS_gen ?_
  intro H12 hH
  have k12 := k11.add (e := ⟨(⟨#[119]⟩ : ByteArray), 1, 0, true, true, (⟨#[119, 100, 103]⟩ : ByteArray)⟩) rfl rfl ⟨_, _, _, rfl⟩ hH
  refine WS_live1 1 ?_
  intro s g1
  clear hH
  repeat (refine WS_buildSlice (by decide) rfl rfl (by simp [Value.cells]) ?_)
  refine WS_gen ?_
  intro G hG
  have k12 := k12.grow (H' := G) (hG ▸ Ext.push _ _)
  clear hG
  refine WS_call (flip_spec _ _ _ _ _) ?_
  rintro _ G ⟨eG, f, a, b, rfl⟩
  have k12 := k12.grow eG
  repeat (refine WS_build ?_)
  refine WS_insert (mi := k12.map) (look_none _ _ (by decide +kernel)) ?_
  refine WS_gen ?_
  intro H13 hH
  have k13 := k12.add (e := ⟨(⟨#[119, 100, 103]⟩ : ByteArray), 1, 0, true, true, (⟨#[119]⟩ : ByteArray)⟩) rfl rfl ⟨_, _, _, rfl⟩ hH
  refine WS_live1 1 ?_
  intro s g1
  clear hH
  skip
  refine WS_call (swapped_spec _ _ _ _) ?_
  rintro _ G ⟨eG, f, a, b, rfl⟩
  have k13 := k13.grow eG
  repeat (refine WS_build ?_)
  refine WS_insert (mi := k13.map) (look_none _ _ (by decide +kernel)) ?_
  refine WS_gen ?_
  intro H14 hH
  have k14 := k13.add (e := ⟨(⟨#[99, 120]⟩ : ByteArray), 2, 0, true, false, (⟨#[99, 120]⟩ : ByteArray)⟩) rfl rfl ⟨_, _, _, rfl⟩ hH
  refine WS_live1 1 ?_
  intro s g1
  clear hH
  repeat (refine WS_build ?_)
  refine WS_insert (mi := k14.map) (look_none _ _ (by decide +kernel)) ?_
  refine WS_gen ?_
  intro H15 hH
  have k15 := k14.add (e := ⟨(⟨#[99, 121]⟩ : ByteArray), 2, 0, true, false, (⟨#[99, 121]⟩ : ByteArray)⟩) rfl rfl ⟨_, _, _, rfl⟩ hH
  refine WS_live1 1 ?_
  intro s g1
  clear hH
  skip
  refine WS_call (last_spec _ _ _) ?_
  rintro _ G ⟨eG, f, a, b, rfl⟩
  have k15 := k15.grow eG
  repeat (refine WS_build ?_)
  refine WS_insert (mi := k15.map) (look_none _ _ (by decide +kernel)) ?_
  refine WS_gen ?_
  intro H16 hH
  have k16 := k15.add (e := ⟨(⟨#[99, 122]⟩ : ByteArray), 2, 0, true, true, (⟨#[99, 122]⟩ : ByteArray)⟩) rfl rfl ⟨_, _, _, rfl⟩ hH
  refine WS_live1 1 ?_
  intro s g1
  clear hH
  repeat (refine WS_build ?_)
  refine WS_insert (mi := k16.map) (look_none _ _ (by decide +kernel)) ?_
  refine WS_gen ?_
  intro H17 hH
  have k17 := k16.add (e := ⟨(⟨#[99, 104]⟩ : ByteArray), 2, 1, false, false, (⟨#[99, 104]⟩ : ByteArray)⟩) rfl rfl ⟨_, _, _, rfl⟩ hH
  refine WS_live1 1 ?_
  intro s g1
  clear hH
  skip
  refine WS_call (last_spec _ _ _) ?_
  rintro _ G ⟨eG, f, a, b, rfl⟩
  have k17 := k17.grow eG
  repeat (refine WS_build ?_)
  refine WS_insert (mi := k17.map) (look_none _ _ (by decide +kernel)) ?_
  refine WS_gen ?_
  intro H18 hH
  have k18 := k17.add (e := ⟨(⟨#[99, 115]⟩ : ByteArray), 2, 0, false, true, (⟨#[99, 115, 100, 103]⟩ : ByteArray)⟩) rfl rfl ⟨_, _, _, rfl⟩ hH
  refine WS_live1 1 ?_
  intro s g1
  clear hH
  skip
  refine WS_call (last_spec _ _ _) ?_
  rintro _ G ⟨eG, f, a, b, rfl⟩
  have k18 := k18.grow eG
  repeat (refine WS_build ?_)
  refine WS_insert (mi := k18.map) (look_none _ _ (by decide +kernel)) ?_
  refine WS_gen ?_
  intro H19 hH
  have k19 := k18.add (e := ⟨(⟨#[99, 115, 100, 103]⟩ : ByteArray), 2, 0, false, true, (⟨#[99, 115]⟩ : ByteArray)⟩) rfl rfl ⟨_, _, _, rfl⟩ hH
  refine WS_live1 1 ?_
  intro s g1
  clear hH
  skip
  refine WS_call (swapped_spec _ _ _ _) ?_
  rintro _ G ⟨eG, f, a, b, rfl⟩
  have k19 := k19.grow eG
  repeat (refine WS_build ?_)
  refine WS_insert (mi := k19.map) (look_none _ _ (by decide +kernel)) ?_
  refine WS_gen ?_
  intro H20 hH
  have k20 := k19.add (e := ⟨(⟨#[115, 119, 97, 112]⟩ : ByteArray), 2, 0, true, false, (⟨#[115, 119, 97, 112]⟩ : ByteArray)⟩) rfl rfl ⟨_, _, _, rfl⟩ hH
  refine WS_live1 1 ?_
  intro s g1
  clear hH
  skip
  refine WS_call (swapped_spec _ _ _ _) ?_
  rintro _ G ⟨eG, f, a, b, rfl⟩
  have k20 := k20.grow eG
  repeat (refine WS_build ?_)
  refine WS_insert (mi := k20.map) (look_none _ _ (by decide +kernel)) ?_
  refine WS_gen ?_
  intro H21 hH
  have k21 := k20.add (e := ⟨(⟨#[105, 115, 119, 97, 112]⟩ : ByteArray), 2, 0, true, false, (⟨#[105, 115, 119, 97, 112, 100, 103]⟩ : ByteArray)⟩) rfl rfl ⟨_, _, _, rfl⟩ hH
  refine WS_live1 1 ?_
  intro s g1
  clear hH
  skip
  refine WS_call (swapped_spec _ _ _ _) ?_
  rintro _ G ⟨eG, f, a, b, rfl⟩
  have k21 := k21.grow eG
  repeat (refine WS_build ?_)
  refine WS_insert (mi := k21.map) (look_none _ _ (by decide +kernel)) ?_
  refine WS_gen ?_
  intro H22 hH
  have k22 := k21.add (e := ⟨(⟨#[105, 115, 119, 97, 112, 100, 103]⟩ : ByteArray), 2, 0, true, false, (⟨#[105, 115, 119, 97, 112]⟩ : ByteArray)⟩) rfl rfl ⟨_, _, _, rfl⟩ hH
  refine WS_live1 1 ?_
  intro s g1
  clear hH
  skip
  refine WS_call (swapped_spec _ _ _ _) ?_
  rintro _ G ⟨eG, f, a, b, rfl⟩
  have k22 := k22.grow eG
  repeat (refine WS_build ?_)
  refine WS_insert (mi := k22.map) (look_none _ _ (by decide +kernel)) ?_
  refine WS_gen ?_
  intro H23 hH
  have k23 := k22.add (e := ⟨(⟨#[99, 99, 120]⟩ : ByteArray), 3, 0, false, false, (⟨#[99, 99, 120]⟩ : ByteArray)⟩) rfl rfl ⟨_, _, _, rfl⟩ hH
  refine WS_live1 1 ?_
  intro s g1
  clear hH
  skip
  refine WS_call (last_spec _ _ _) ?_
  rintro _ G ⟨eG, f, a, b, rfl⟩
  have k23 := k23.grow eG
  repeat (refine WS_build ?_)
  refine WS_insert (mi := k23.map) (look_none _ _ (by decide +kernel)) ?_
  refine WS_gen ?_
  intro H24 hH
  have k24 := k23.add (e := ⟨(⟨#[99, 99, 122]⟩ : ByteArray), 3, 0, false, true, (⟨#[99, 99, 122]⟩ : ByteArray)⟩) rfl rfl ⟨_, _, _, rfl⟩ hH
  refine WS_live1 1 ?_
  intro s g1
  clear hH
  skip
  refine WS_call (swapped_spec _ _ _ _) ?_
  rintro _ G ⟨eG, f, a, b, rfl⟩
  have k24 := k24.grow eG
  repeat (refine WS_build ?_)
  refine WS_insert (mi := k24.map) (look_none _ _ (by decide +kernel)) ?_
  refine WS_gen ?_
  intro H25 hH
  have k25 := k24.add (e := ⟨(⟨#[99, 115, 119, 97, 112]⟩ : ByteArray), 3, 0, false, false, (⟨#[99, 115, 119, 97, 112]⟩ : ByteArray)⟩) rfl rfl ⟨_, _, _, rfl⟩ hH
  refine WS_live1 1 ?_
  intro s g1
  clear hH
  repeat (first | refine WS_nil ?_ | refine S_normal ?_ | refine V_ret ?_ | refine WS_move ?_ | refine WS_assign ?_)
  exact retK_1 ⟨k25.ext, _, _, rfl, Nat.le_refl _, k25.map, k25.len, k25.fns⟩ (.inr rfl)
instance : CallIs Try.prog 40 := .of Try.func40 rfl rfl
theorem look_row (b : ByteArray) {cs : List Value} (hl : cs.length = 25) : ∃ c, (lookB b (rowsOf KT cs)).getD (.agg [.int .i64 0, .int .i64 0, .bool false, .bool false, .string ByteArray.empty, .nilFunc].toArray) = .agg [.int .i64 (arityS b), .int .i64 (halvesS b), .bool (cliffS b), .bool (diagS b), .string (backS b).1, c].toArray ∧ (lookB b (rowsOf KT cs)).isSome = (kOf b).isSome := by
  have h := look_some (b := b) KT cs hl
  unfold arityS halvesS cliffS diagS backS
  cases hk : kOf b with
  | none => unfold kOf at hk; rw [hk] at h; simp only at h; rw [h]; exact ⟨_, rfl, rfl⟩
  | some e => unfold kOf at hk; rw [hk] at h; obtain ⟨c, _, h⟩ := h; rw [h]; exact ⟨c, rfl, rfl⟩
theorem gateArity_spec (b : ByteArray) (h : IHp) : EvX Try.prog 64 [.string b].toArray h (fun v h' => v = .int .i64 (arityS b) ∧ Ext h h') := by
  refine EvX_of Try.func64 rfl (by show 1 ≤ 7; decide) ?_
  repeat' (first | refine V_seq ?_ | refine V_region ?_ | refine WS_nil ?_ | refine S_normal ?_ | refine WS_assign ?_)
  refine WS_call (kinds_spec h) ?_
  rintro _ H ⟨eH, m, cs, rfl, hm, hmap, hl, _⟩
  obtain ⟨c, hc, _⟩ := look_row b hl
  repeat' (refine WS_move ?_)
  refine WS_lookup (mi := hmap) ?_
  rw [hc]
  repeat' (first | refine WS_nil ?_ | refine S_normal ?_ | refine V_ret ?_ | refine WS_assign ?_ | refine WS_field ?_)
  exact retK_1 ⟨rfl, eH⟩ (.inr rfl)
instance : CallIs Try.prog 64 := .of Try.func64 rfl rfl
theorem gateHalves_spec (b : ByteArray) (h : IHp) : EvX Try.prog 53 [.string b].toArray h (fun v h' => v = .int .i64 (halvesS b) ∧ Ext h h') := by
  refine EvX_of Try.func53 rfl (by show 1 ≤ 7; decide) ?_
  repeat' (first | refine V_seq ?_ | refine V_region ?_ | refine WS_nil ?_ | refine S_normal ?_ | refine WS_assign ?_)
  refine WS_call (kinds_spec h) ?_
  rintro _ H ⟨eH, m, cs, rfl, hm, hmap, hl, _⟩
  obtain ⟨c, hc, _⟩ := look_row b hl
  repeat' (refine WS_move ?_)
  refine WS_lookup (mi := hmap) ?_
  rw [hc]
  repeat' (first | refine WS_nil ?_ | refine S_normal ?_ | refine V_ret ?_ | refine WS_assign ?_ | refine WS_field ?_)
  exact retK_1 ⟨rfl, eH⟩ (.inr rfl)
instance : CallIs Try.prog 53 := .of Try.func53 rfl rfl
theorem gateClifford_spec (b : ByteArray) (h : IHp) : EvX Try.prog 23 [.string b].toArray h (fun v h' => v = .bool (cliffS b) ∧ Ext h h') := by
  refine EvX_of Try.func23 rfl (by show 1 ≤ 7; decide) ?_
  repeat' (first | refine V_seq ?_ | refine V_region ?_ | refine WS_nil ?_ | refine S_normal ?_ | refine WS_assign ?_)
  refine WS_call (kinds_spec h) ?_
  rintro _ H ⟨eH, m, cs, rfl, hm, hmap, hl, _⟩
  obtain ⟨c, hc, _⟩ := look_row b hl
  repeat' (refine WS_move ?_)
  refine WS_lookup (mi := hmap) ?_
  rw [hc]
  repeat' (first | refine WS_nil ?_ | refine S_normal ?_ | refine V_ret ?_ | refine WS_assign ?_ | refine WS_field ?_)
  exact retK_1 ⟨rfl, eH⟩ (.inr rfl)
instance : CallIs Try.prog 23 := .of Try.func23 rfl rfl
end Go.Ideal

-- Cb
set_option linter.unusedSimpArgs false
set_option linter.unusedVariables false
namespace Go.Ideal
open Go Go.Proofs
/-! ### The reference's switches over the names -/
theorem kOf_mem {b : ByteArray} {e : KE} (h : kOf b = some e) : e ∈ KT ∧ b = e.name := by
  unfold kOf at h
  have h2 := List.find?_some h
  exact ⟨List.mem_of_find?_eq_some h, beqS_iff.1 h2⟩
theorem halvesS_01 (b : ByteArray) : halvesS b = 0 ∨ halvesS b = 1 := by
  unfold halvesS
  cases h : kOf b with
  | none => exact .inl rfl
  | some e =>
    have hall : (KT.all fun e => e.halves == 0 || e.halves == 1) = true := by decide +kernel
    rw [List.all_eq_true] at hall
    have := hall e (kOf_mem h).1
    simpa using this
theorem arityS_03 (b : ByteArray) : 0 ≤ arityS b ∧ arityS b ≤ 3 := by
  unfold arityS
  cases h : kOf b with
  | none => exact ⟨Int.le_refl _, by decide⟩
  | some e =>
    have hall : (KT.all fun e => decide (0 ≤ e.arity) && decide (e.arity ≤ 3)) = true := by decide +kernel
    rw [List.all_eq_true] at hall
    have := hall e (kOf_mem h).1
    simpa using this
instance : CallIs Try.prog 31 := .of Try.func31 rfl rfl
instance : CallIs Try.prog 67 := .of Try.func67 rfl rfl
instance : CallIs Try.prog 17 := .of Try.func17 rfl rfl
end Go.Ideal

-- Cc
set_option linter.unusedSimpArgs false
set_option linter.unusedVariables false
namespace Go.Ideal
open Go Go.Proofs
/-! ### Operations and circuits -/
def ints (xs : List Int) : List Value := xs.map (Value.int .i64)
theorem ints_len (xs : List Int) : (ints xs).length = xs.length := by simp [ints]
theorem ints_get {xs : List Int} {i : Nat} {v : Value} (h : (ints xs)[i]? = some v) : ∃ x, v = .int .i64 x ∧ xs[i]? = some x := by
  simp only [ints, List.getElem?_map, Option.map_eq_some_iff] at h
  obtain ⟨x, h1, rfl⟩ := h
  exact ⟨x, rfl, h1⟩
structure OpD where
  kind : Int
  name : ByteArray
  qs : List Int
  bit : Int
  iff : Bool
  mask : Nat
  value : Nat
def OpD.cells (o : OpD) (a : Option Addr) (l c : Nat) : List Value := [.int .i64 o.kind, .string o.name, .slice a l c, .int .i64 o.bit, .bool o.iff, .int .u64 o.mask, .int .u64 o.value]
def SpotOk (a : Option Addr) (c : Nat) : Prop := ∀ d, a = some d → d.spot = none ∨ c = 0
/-- the cells of an operation -/
def OpC (h : IHp) (cells : List Value) (o : OpD) : Prop := ∃ a l c, cells = o.cells a l c ∧ SlIs h a l c (ints o.qs) ∧ o.mask < 2 ^ 64 ∧ o.value < 2 ^ 64 ∧ c < 2 ^ 63 ∧ SpotOk a c
theorem OpC.ext {h h' : IHp} (e : Ext h h') {cells : List Value} {o : OpD} (x : OpC h cells o) : OpC h' cells o := by
  obtain ⟨a, l, c, h1, h2, h3⟩ := x
  exact ⟨a, l, c, h1, h2.ext e, h3⟩
/-- a slice of operations -/
def OpsV (h : IHp) (a : Option Addr) (l c : Nat) (ops : List OpD) : Prop := ops.length = l ∧ l ≤ c ∧ c < 2 ^ 63 ∧ match a with
  | none => c = 0
  | some a => ∀ (i : Nat) (o : OpD), ops[i]? = some o → ∃ cells, h.row a.block (a.off + i * 7) 7 = some cells ∧ OpC h cells o
theorem OpsV.ext {h h' : IHp} (e : Ext h h') {a : Option Addr} {l c : Nat} {ops : List OpD} (x : OpsV h a l c ops) : OpsV h' a l c ops := by
  obtain ⟨h1, h2, h4, h3⟩ := x
  refine ⟨h1, h2, h4, ?_⟩
  cases a with
  | none => exact h3
  | some a =>
    intro i o hi
    obtain ⟨cells, h4, h5⟩ := h3 i o hi
    exact ⟨cells, row_ext e h4, h5.ext e⟩
theorem OpsV.at {h : IHp} {a : Option Addr} {l c : Nat} {ops : List OpD} (x : OpsV h a l c ops) {i : Int} (h0 : 0 ≤ i) (h1 : i < l) : ∃ b o cells, a = some b ∧ ops[i.toNat]? = some o ∧ RowIs h b.block (b.off + i.toNat * 7) 7 cells ∧ OpC h cells o := by
  obtain ⟨h2, h3, _, h4⟩ := x
  have hi : i.toNat < ops.length := by omega
  cases a with
  | none => simp at h4; omega
  | some b =>
    obtain ⟨cells, h5, h6⟩ := h4 i.toNat ops[i.toNat] (List.getElem?_eq_getElem hi)
    exact ⟨b, ops[i.toNat], cells, rfl, List.getElem?_eq_getElem hi, ⟨h5⟩, h6⟩
structure CircD where
  qubits : Int
  bits : Int
  ops : List OpD
def CircV (h : IHp) (v : Value) (c : CircD) : Prop := ∃ a l k, v = .agg [.int .i64 c.qubits, .int .i64 c.bits, .slice a l k].toArray ∧ OpsV h a l k c.ops
theorem CircV.ext {h h' : IHp} (e : Ext h h') {v : Value} {c : CircD} (x : CircV h v c) : CircV h' v c := by
  obtain ⟨a, l, k, h1, h2⟩ := x
  exact ⟨a, l, k, h1, h2.ext e⟩

/-! ### Is a number in a list? -/
def idxK (x : Int) : List Int → Nat → Int
  | [], _ => -1
  | y :: ys, i => if x = y then i else idxK x ys (i + 1)
theorem idxK_mem (x : Int) : ∀ (ys : List Int) (i : Nat), decide (0 ≤ idxK x ys i) = decide (x ∈ ys) := by
  intro ys
  induction ys with
  | nil => intro i; simp [idxK]
  | cons y ys ih =>
    intro i
    rw [idxK]
    by_cases h : x = y
    · simp [h]
    · rw [if_neg h, ih]; simp [h]
theorem Index_spec (a : Option Addr) (l c : Nat) (ys : List Int) (x : Int) (h : IHp) (hy : SlIs h a l c (ints ys)) (hl : l < 2 ^ 63) : EvX Try.prog 73 [.slice a l c, .int .i64 x].toArray h (fun v h' => v = .int .i64 (idxK x ys 0) ∧ h' = h) := by
  have hlen : ys.length = l := by have := hy.1; rwa [ints_len] at this
  refine EvX_of Try.func73 rfl (by show 2 ≤ 19; decide) ?_
  repeat (first | refine V_seq ?_ | refine V_region ?_ | refine WS_nil ?_ | refine S_normal ?_ | refine V_block ?_ | refine WS_move ?_ | refine WS_assign ?_ | refine WS_len_slice ?_)
  refine V_loop (fun d s h' => ∃ i : Nat, d = l - i ∧ i ≤ l ∧ Get s 8 (.int .i64 i) ∧ Get s 7 (.int .i64 l) ∧ Get s 0 (.slice a l c) ∧ Get s 1 (.int .i64 x) ∧ h' = h ∧ idxK x ys 0 = idxK x (ys.drop i) i) l ⟨0, by omega, by omega, inferInstanceAs (Get _ 8 (.int .i64 0)), inferInstance, inferInstance, inferInstance, rfl, rfl⟩ ?_
  rintro d s h' ⟨i, rfl, hi, g8, g7, g0, g1, rfl, hK⟩
  repeat' (first | refine V_seq ?_ | refine V_region ?_ | refine WS_nil ?_ | refine S_normal ?_ | refine V_block ?_ | refine V_skip ?_ | refine V_exit ?_ | refine V_ret ?_ | refine S_exit ?_ | refine B_exit ?_ | refine WS_move ?_ | refine WS_assign ?_ | refine WS_cmp rfl ?_ | (refine V_cond ?_ ?_ <;> intro hc <;> try (cases hc; done)))
  · have hil : i < l := by simp at hc; omega
    obtain ⟨b, v, rfl, hv, c1⟩ := hy.at (i := (i : Int)) (by omega) (by omega)
    rw [Int.toNat_natCast] at hv
    obtain ⟨y, rfl, hy1⟩ := ints_get hv
    have hb : 0 ≤ (i : Int) ∧ (i : Int) < (l : Int) := by omega
    have hd : ys.drop i = y :: ys.drop (i + 1) := by
      rw [List.drop_eq_getElem_cons (by omega)]
      rw [List.getElem?_eq_getElem (by omega)] at hy1
      rw [Option.some.inj hy1]
    rw [hd, idxK] at hK
    repeat' (first | refine V_seq ?_ | refine V_region ?_ | refine WS_nil ?_ | refine S_normal ?_ | refine B_normal ?_ | refine V_skip ?_ | refine V_ret ?_ | refine S_ret ?_ | refine B_ret ?_ | refine WS_move ?_ | refine WS_assign ?_ | refine WS_cmp rfl ?_ | refine WS_addi (by omega) ?_ | refine WS_load ?_ | refine WS_indexAddr (by first | decide | omega) ?_ | (refine V_cond ?_ ?_ <;> intro hc <;> try (cases hc; done)))
    · refine retK_1 ⟨?_, rfl⟩ (.inr rfl)
      rw [hK, if_pos (by simpa using hc)]
    · refine ⟨_, ?_, i + 1, rfl, by omega, ?_, inferInstance, inferInstance, inferInstance, rfl, ?_⟩
      · omega
      · exact get_as (v := .int .i64 ((i : Int) + 1)) (by simp)
      · rw [hK, if_neg (by simpa using hc)]
  · have hil : i = l := by simp at hc; omega
    refine retK_1 ⟨?_, rfl⟩ (.inr rfl)
    rw [hK, List.drop_of_length_le (by omega)]; rfl
instance : CallIs Try.prog 73 := .of Try.func73 rfl rfl
theorem Contains_spec (a : Option Addr) (l c : Nat) (ys : List Int) (x : Int) (h : IHp) (hy : SlIs h a l c (ints ys)) (hl : l < 2 ^ 63) : EvX Try.prog 65 [.slice a l c, .int .i64 x].toArray h (fun v h' => v = .bool (decide (x ∈ ys)) ∧ h' = h) := by
  refine EvX_of Try.func65 rfl (by show 2 ≤ 9; decide) ?_
  repeat' (first | refine V_seq ?_ | refine V_region ?_ | refine WS_nil ?_ | refine S_normal ?_ | refine WS_move ?_ | refine WS_assign ?_)
  refine WS_call (Index_spec a l c ys x h hy hl) ?_
  rintro _ _ ⟨rfl, rfl⟩
  repeat' (first | refine WS_nil ?_ | refine S_normal ?_ | refine V_ret ?_ | refine WS_assign ?_ | refine WS_cmp rfl ?_)
  refine retK_1 ⟨?_, rfl⟩ (.inr rfl)
  rw [idxK_mem]
instance : CallIs Try.prog 65 := .of Try.func65 rfl rfl

/-! ### halves -/
def halvesO (o : OpD) : Int := if o.kind = 1 then halvesS o.name else 0
theorem halvesO_01 (o : OpD) : 0 ≤ halvesO o ∧ halvesO o ≤ 1 := by
  unfold halvesO
  split
  · rcases halvesS_01 o.name with h | h <;> omega
  · omega
theorem halves_spec (o : OpD) (a : Option Addr) (l c : Nat) (h : IHp) : EvX Try.prog 30 [.agg (o.cells a l c).toArray].toArray h (fun v h' => v = .int .i64 (halvesO o) ∧ Ext h h') := by
  refine EvX_of Try.func30 rfl (by show 1 ≤ 9; decide) ?_
  unfold OpD.cells
  repeat' (first | refine V_seq ?_ | refine V_region ?_ | refine WS_nil ?_ | refine S_normal ?_ | refine V_skip ?_ | refine V_ret ?_ | refine S_ret ?_ | refine WS_assign ?_ | refine WS_cmp rfl ?_ | refine WS_fieldAddr ?_ | refine WS_load ?_ | refine WS_box_agg rfl ?_ | (refine V_cond ?_ ?_ <;> intro hc <;> try (cases hc; done)))
  · refine retK_1 ⟨?_, Ext.push _ _⟩ (.inr rfl)
    rw [halvesO, if_neg (by simpa using hc)]
  · refine WS_call (gateHalves_spec o.name _) ?_
    rintro _ H ⟨rfl, eH⟩
    repeat' (first | refine WS_nil ?_ | refine S_normal ?_ | refine V_ret ?_ | refine WS_assign ?_)
    refine retK_1 ⟨?_, (Ext.push _ _).trans eH⟩ (.inr rfl)
    rw [halvesO, if_pos (by simpa using hc)]
instance : CallIs Try.prog 30 := .of Try.func30 rfl rfl
instance : CallIs Try.prog 52 := .of Try.func52 rfl rfl
end Go.Ideal

-- Cd
set_option linter.unusedSimpArgs false
set_option linter.unusedVariables false
namespace Go.Ideal
open Go Go.Proofs
/-! ### The shape of an operation -/
def beyondS (x : Nat) (n : Int) : Bool := decide (n < 64) && !decide ((x >>> n.toNat : Nat) = (0 : Int))
instance : CallIs Try.prog 74 := .of Try.func74 rfl rfl
def anS (v m : Nat) : Int := ibits .andNot .u64 v m
def bad1 (o : OpD) : Bool := decide (o.kind < 1) || decide (3 < o.kind)
def bad2 (o : OpD) : Bool := !o.iff && (!decide ((o.mask : Int) = 0) || !decide ((o.value : Int) = 0))
def bad3 (o : OpD) (bits : Int) : Bool := o.iff && (decide ((o.mask : Int) = 0) || beyondS o.mask bits || !decide (anS o.value o.mask = 0))
def bad4 (o : OpD) : Bool := (!decide (o.kind = 1) && !beqS o.name ⟨#[]⟩) || (!decide (o.kind = 2) && !decide (o.bit = 0))
def shapeBad (o : OpD) (bits : Int) : Bool := bad1 o || bad2 o || bad3 o bits || bad4 o
instance : CallIs Try.prog 66 := .of Try.func66 rfl rfl
end Go.Ideal

-- Ce
set_option linter.unusedSimpArgs false
set_option linter.unusedVariables false
namespace Go.Ideal
open Go Go.Proofs
/-! ### What an operation by itself is refused for -/
def outS (q x : Int) : Bool := decide (x < 0) || decide (q ≤ x)
def nS (o : OpD) : Int := if o.kind = 1 then arityS o.name else 1
def bitBad (o : OpD) (bits : Int) : Bool := decide (o.kind = 2) && (decide (o.bit < 0) || decide (bits ≤ o.bit))
def dupK (qs : List Int) : Nat → Bool
  | 0 => false
  | i + 1 => dupK qs i || decide (qs.getD i 0 ∈ qs.take i)
theorem dupK_more {qs : List Int} {i : Nat} (h : dupK qs i = true) : ∀ n, i ≤ n → dupK qs n = true := by
  intro n hn
  induction hn with
  | refl => exact h
  | step _ ih => rw [dupK, ih]; rfl
def faultS (o : OpD) (q bits : Int) : Int :=
  if shapeBad o bits = true then 120
  else if o.kind = 1 ∧ arityS o.name = 0 then 80
  else if (o.qs.length : Int) ≠ nS o then 111
  else if o.qs.any (outS q) = true then 112
  else if bitBad o bits = true then 112
  else if dupK o.qs o.qs.length = true then 113
  else 0
theorem any_take {qs : List Int} {p : Int → Bool} {i : Nat} {x : Int} (h : (qs.take i).any p = false) (hx : qs[i]? = some x) (hp : p x = false) : (qs.take (i + 1)).any p = false := by
  rw [List.take_add_one, List.any_append, h, hx]; simp [hp]
theorem any_at {qs : List Int} {p : Int → Bool} {i : Nat} {x : Int} (hx : qs[i]? = some x) (hp : p x = true) : qs.any p = true :=
  List.any_eq_true.2 ⟨x, List.mem_of_getElem? hx, hp⟩
theorem getD_at {qs : List Int} {i : Nat} {x : Int} (hx : qs[i]? = some x) : qs.getD i 0 = x := by simp [List.getD_eq_getElem?_getD, hx]
instance : CallIs Try.prog 51 := .of Try.func51 rfl rfl
end Go.Ideal
