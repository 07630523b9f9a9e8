/- Part 4 of what the proof stands on: an interpreter over an ideal memory that is proved sound, steps over it, and contracts of the functions that are called. No condition: no law is claimed here. -/
import Derived.Test.YtodgjkffkjhinaaC3
import Derived.ChangeArms
import Derived.ChangeShapes
import Derived.WideShapes
import Derived.SizedLaws
import Derived.KernelRfl
import Derived.Test.YtodgjkffkjhinaaProg
-- IdealTi
set_option linter.unusedSimpArgs false
set_option linter.unusedVariables false
namespace Go.Ideal
open Go Go.RowKit
variable {P : Program} {X : Cx} {E : Env} {σ : Nat → Tr} {B B' : Boxes} {ops : Array Oper} {K : TK} {l : List Oper} {d : Option Tmp} {ty : TypeId} {pos : String} {af : Array Edge} {H : List (Nat × Nat)} {F : Mem} {s : Nat → Value} {h : IHp} {held : Held}

/-! ### Code over trees -/
theorem TV_skip {Q : IExit → TK} (k : Q .normal σ B) : TV X P E .skip Q σ B := by unfold TV; intro F s h r; exact V_skip ⟨F, σ, B, r, k⟩
theorem TV_exit {Q : IExit → TK} {id : Nat} (k : Q (.exit id) σ B) : TV X P E (.exit id) Q σ B := by unfold TV; intro F s h r; exact V_exit ⟨F, σ, B, r, k⟩
theorem TV_ret {Q : IExit → TK} (k : Q .ret σ B) : TV X P E .ret Q σ B := by unfold TV; intro F s h r; exact V_ret ⟨F, σ, B, r, k⟩
@[irreducible] def TseqK (X : Cx) (P : Program) (E : Env) (b : Code) (Q : IExit → TK) : IExit → TK
  | .normal, σ, B => TV X P E b Q σ B
  | e, σ, B => Q e σ B
@[irreducible] def TblockK (id : Nat) (Q : IExit → TK) : IExit → TK
  | .exit j, σ, B => if Nat.beq j id then Q .normal σ B else Q (.exit j) σ B
  | e, σ, B => Q e σ B
theorem TV_seq {a b : Code} {Q : IExit → TK} (k : TV X P E a (TseqK X P E b Q) σ B) : TV X P E (.seq a b) Q σ B := by
  unfold TV at k ⊢
  intro F s h r
  refine V_seq (V_mono ?_ (k F s h r))
  rintro e s' h' ⟨F', σ', B', r', hk⟩
  unfold VseqK
  unfold TseqK at hk
  cases e with
  | normal => unfold TV at hk; exact hk F' s' h' r'
  | exit j => exact ⟨F', σ', B', r', hk⟩
  | ret => exact ⟨F', σ', B', r', hk⟩
theorem TV_block {id : Nat} {b : Code} {Q : IExit → TK} (k : TV X P E b (TblockK id Q) σ B) : TV X P E (.block id b) Q σ B := by
  unfold TV at k ⊢
  intro F s h r
  refine V_block (V_mono ?_ (k F s h r))
  rintro e s' h' ⟨F', σ', B', r', hk⟩
  unfold VblockK
  unfold TblockK at hk
  cases e with
  | normal => exact ⟨F', σ', B', r', hk⟩
  | exit j =>
    simp only at hk ⊢
    by_cases hj : Nat.beq j id = true
    · rw [if_pos hj] at hk ⊢; exact ⟨F', σ', B', r', hk⟩
    · rw [if_neg hj] at hk ⊢; exact ⟨F', σ', B', r', hk⟩
  | ret => exact ⟨F', σ', B', r', hk⟩
theorem TV_cond {co : Operand} {a b : Code} {Q : IExit → TK} {t : Bool} [ev : TEval σ co (.v (.bool t))] (k1 : t = true → TV X P E a Q σ B) (k2 : t = false → TV X P E b Q σ B) : TV X P E (.cond co a b) Q σ B := by
  unfold TV at *
  intro F s h r
  have := ev.is r.slot
  exact V_cond (fun ht => k1 ht F s h r) (fun ht => k2 ht F s h r)
theorem TV_cond_t {co : Operand} {a b : Code} {Q : IExit → TK} {t : Bool} [ev : TEval σ co (.v (.bool t))] (ht : t = true) (k : TV X P E a Q σ B) : TV X P E (.cond co a b) Q σ B := TV_cond (fun _ => k) (fun h2 => by rw [ht] at h2; cases h2)
theorem TV_cond_f {co : Operand} {a b : Code} {Q : IExit → TK} {t : Bool} [ev : TEval σ co (.v (.bool t))] (ht : t = false) (k : TV X P E b Q σ B) : TV X P E (.cond co a b) Q σ B := TV_cond (fun h2 => by rw [ht] at h2; cases h2) (fun _ => k)
theorem TV_region {id : Nat} {l : List Oper} {Q : IExit → TK} (k : TS X P E l.toArray (Q .normal) l [] σ B) : TV X P E (.region id l.toArray false) Q σ B := by
  unfold TV; unfold TS at k
  intro F s h r
  refine V_region (WS_mono ?_ (k F s h [] r (fun e he => by cases he)))
  rintro s' h' ⟨F', σ', B', r', _, hk⟩
  exact ⟨F', σ', B', r', hk⟩
theorem TV_loop {b : Code} {Q : IExit → TK} (I : Nat → TK) (d : Nat) (first : I d σ B) (round : ∀ d σ B, I d σ B → TV X P E b (fun e σ' B' => match e with | .normal => ∃ d', d' < d ∧ I d' σ' B' | e => Q e σ' B') σ B) : TV X P E (.loop b) Q σ B := by
  unfold TV at *
  intro F s h r
  refine V_loop (fun d s h => ∃ F σ B, TR X F σ B s h ∧ I d σ B) d ⟨F, σ, B, r, first⟩ ?_
  rintro d s h ⟨F, σ, B, r, hI⟩
  refine V_mono ?_ (round d σ B hI F s h r)
  rintro e s' h' ⟨F', σ', B', r', hk⟩
  cases e with
  | normal => obtain ⟨d', hd, hI'⟩ := hk; exact ⟨d', hd, F', σ', B', r', hI'⟩
  | exit j => exact ⟨F', σ', B', r', hk⟩
  | ret => exact ⟨F', σ', B', r', hk⟩
theorem TV_mono {c : Code} {Q Q' : IExit → TK} (hq : ∀ e σ B, Q e σ B → Q' e σ B) (k : TV X P E c Q σ B) : TV X P E c Q' σ B := by
  unfold TV at *
  intro F s h r
  refine V_mono ?_ (k F s h r)
  rintro e s' h' ⟨F', σ', B', r', hk⟩
  exact ⟨F', σ', B', r', hq _ _ _ hk⟩
theorem TS_mono {K' : TK} (hq : ∀ σ B, K σ B → K' σ B) (k : TS X P E ops K l H σ B) : TS X P E ops K' l H σ B := by
  unfold TS at *
  intro F s h held r hh
  refine WS_mono ?_ (k F s h held r hh)
  rintro s' h' ⟨F', σ', B', r', hh', hk⟩
  exact ⟨F', σ', B', r', hh', hq _ _ hk⟩
theorem TSQ_normal {b : Code} {Q : IExit → TK} (k : TV X P E b Q σ B) : TseqK X P E b Q .normal σ B := by unfold TseqK; exact k
theorem TSQ_exit {b : Code} {Q : IExit → TK} {j : Nat} (k : Q (.exit j) σ B) : TseqK X P E b Q (.exit j) σ B := by unfold TseqK; exact k
theorem TSQ_ret {b : Code} {Q : IExit → TK} (k : Q .ret σ B) : TseqK X P E b Q .ret σ B := by unfold TseqK; exact k
theorem TB_normal {id : Nat} {Q : IExit → TK} (k : Q .normal σ B) : TblockK id Q .normal σ B := by unfold TblockK; exact k
theorem TB_ret {id : Nat} {Q : IExit → TK} (k : Q .ret σ B) : TblockK id Q .ret σ B := by unfold TblockK; exact k
theorem TB_exit {id : Nat} {Q : IExit → TK} (k : Q .normal σ B) : TblockK id Q (.exit id) σ B := by unfold TblockK; simpa using k
theorem TB_pass {id j : Nat} {Q : IExit → TK} (hj : Nat.beq j id = false) (k : Q (.exit j) σ B) : TblockK id Q (.exit j) σ B := by unfold TblockK; simpa [hj] using k
/-- ways meet behind the region (or the code) at hand -/
theorem TS_cut {b : Code} {Q : IExit → TK} (I : TK) (k1 : TS X P E ops I l H σ B) (k2 : ∀ σ' B', I σ' B' → TV X P E b Q σ' B') : TS X P E ops (TseqK X P E b Q .normal) l H σ B := TS_mono (fun σ' B' hi => TSQ_normal (k2 σ' B' hi)) k1
@[irreducible] def TcutK (I : TK) (K : IExit → TK) : IExit → TK
  | .normal, σ, B => I σ B
  | e, σ, B => K e σ B
theorem TC_normal {I : TK} {K : IExit → TK} (k : I σ B) : TcutK I K .normal σ B := by unfold TcutK; exact k
theorem TC_exit {I : TK} {K : IExit → TK} {j : Nat} (k : K (.exit j) σ B) : TcutK I K (.exit j) σ B := by unfold TcutK; exact k
theorem TC_ret {I : TK} {K : IExit → TK} (k : K .ret σ B) : TcutK I K .ret σ B := by unfold TcutK; exact k
theorem TV_cut {a b : Code} {Q : IExit → TK} (I : TK) (k1 : TV X P E a (TcutK I (TseqK X P E b Q)) σ B) (k2 : ∀ σ' B', I σ' B' → TV X P E b Q σ' B') : TV X P E a (TseqK X P E b Q) σ B :=
  TV_mono (fun e σ' B' hi => by
    unfold TcutK at hi
    cases e with
    | normal => exact TSQ_normal (k2 σ' B' hi)
    | exit j => exact hi
    | ret => exact hi) k1
/-- boxes that are needed no more are forgotten -/
theorem TV_drop {c : Code} {Q : IExit → TK} (B' : Boxes) (hs : B'.Sublist B) (k : TV X P E c Q σ B') : TV X P E c Q σ B := by
  unfold TV at *; intro F s h r; exact k F s h (r.drop hs)
theorem tget_as {i : Nat} {t u : Tr} [g : TGet σ i t] (h : t = u) : TGet σ i u := ⟨g.eq.trans h⟩
theorem TV_ghost {c : Code} {Q : IExit → TK} (m e : Nat) (k : ∀ b, TV X P E c Q σ ((b, .arr m [] e false) :: B)) : TV X P E c Q σ B := by
  unfold TV at *
  intro F s h r
  obtain ⟨b, h1, h2⟩ := exists_odd (B.map Prod.fst)
  exact k b F s h (r.ghost h1 h2)
theorem TS_ghost (m e : Nat) (k : ∀ b, TS X P E ops K l H σ ((b, .arr m [] e false) :: B)) : TS X P E ops K l H σ B := by
  unfold TS at *
  intro F s h held r hh
  obtain ⟨b, h1, h2⟩ := exists_odd (B.map Prod.fst)
  exact k b F s h held (r.ghost h1 h2) (hh.keys (fun _ _ _ h => h) (Sub.refl F) (fun b hb => by rw [List.map_cons]; exact List.mem_cons_of_mem _ hb))
theorem thaw_one {b : Nat} {x : Box} (r : TR X F σ B s h) (d : BoxDel B b x B') : ∃ F', TR X F' σ B' s h ∧ ThawOk F F' [(b, x)] h := by
  obtain ⟨pre, post, h1, h2⟩ := d.eq
  subst h1
  subst h2
  have r1 : TR X F σ [(b, x)] s h := r.drop (by
    exact (List.Sublist.cons_cons _ (List.nil_sublist _)).trans (List.sublist_append_right _ _))
  exact ⟨_, r.freeze, r1.thawOk⟩
theorem TR.putE (r : TR X F σ B s h) {i : Nat} {t u : Tr} (g : TGet σ i t) (hv : Rep F u (s i)) : TR X F (putT σ (some i) u) B s h := by
  have : putS s (some i) (s i) = s := by funext j; simp only [putS]; split <;> simp_all
  rw [← this]
  exact r.put hv
theorem TS_freeze (i : Nat) {v : Value} {x : Box} {t : Tr} [g : TGet σ i (.v v)] (b : Nat) [dl : BoxDel B b x B'] [fz : Frz [(b, x)] (.v v) t] (k : TS X P E ops K l H (putT σ (some i) t) B') : TS X P E ops K l H σ B := by
  unfold TS at *
  intro F s h held r hh
  obtain ⟨F', r', o⟩ := thaw_one r dl
  refine k F' s h held (r'.putE g (fz.eq F F' h o _ ?_)) ?_
  · rw [← g.eq]; exact r.slot i
  · intro e he
    obtain ⟨h1, h2, h3⟩ := hh e he
    refine ⟨h1, h2, ?_⟩
    rcases h3 with h3 | ⟨h3, h4, h5⟩
    · exact .inl (o.sub _ _ _ h3)
    · obtain ⟨pre, post, e1, e2⟩ := dl.eq
      by_cases hb : e.2.1 = b
      · refine .inl ?_
        have := o.cell (b, x) (by simp) (by rw [← hb]; exact h5) e.2.2.1
        rw [hb]; rw [this, ← hb]; exact h2
      · refine .inr ⟨h3, ?_, h5⟩
        rw [e1] at h4
        rw [e2]
        simp only [List.map_append, List.map_cons, List.mem_append, List.mem_cons] at h4 ⊢
        rcases h4 with h4 | h4 | h4
        · exact .inl h4
        · exact absurd h4 hb
        · exact .inr h4
theorem TV_freezeC (p : Nat) (b : Nat) {c : Code} {Q : IExit → TK} {cs cs' : List Tr} {bt : Nat} {bx : Bool} {x : Box} {B1 B2 : Boxes} [dl : BoxDel B b x B1] [bi : BoxIs B1 p (.cells cs bt bx)] [fz : FrzL [(b, x)] cs cs'] [bp : BoxPut B1 p p (.cells cs' bt bx) B2] (k : TV X P E c Q σ B2) : TV X P E c Q σ B := by
  unfold TV at *
  intro F s h r
  obtain ⟨F', r', o⟩ := thaw_one r dl
  obtain ⟨pre, old, post, e1, e2⟩ := bp.eq
  obtain ⟨vs, h1, h2⟩ := r.boxOf (B := B) (b := p) (x := .cells cs bt bx) ⟨by
    obtain ⟨q1, q2, q3, q4⟩ := dl.eq
    have := bi.mem
    rw [q4] at this
    rw [q3]
    rcases List.mem_append.1 this with h | h <;> simp [h]⟩
  refine k F' s h ?_
  rw [e2]
  rw [e1] at r'
  exact r'.modify rfl (fun i o hi _ => hi) (.inl rfl) ⟨vs, fz.eq F F' h o vs h1, h2⟩
/-! ### What a function answers -/
def RetT (P : Program) (σ : Nat → Tr) (B : Boxes) (rs : List ResultVar) (ts : List Tr) : Prop := ∀ X F s h E, TR X F σ B s h → ∀ G, ThawOk F G B h → ∃ vs, iresults P (Env.st E s h) rs = some vs ∧ RepL G ts vs
class RetIs (P : Program) (σ : Nat → Tr) (B : Boxes) (rs : List ResultVar) (ts : outParam (List Tr)) : Prop where eq : RetT P σ B rs ts
instance RetIs.nil : RetIs P σ B [] [] := ⟨fun X F s h E r G o => ⟨[], rfl, RepL.nil⟩⟩
instance RetIs.tmp {i : Nat} {t t' : Tr} {rs : List ResultVar} {ts : List Tr} [g : TGet σ i t] [fz : Frz B t t'] [k : RetIs P σ B rs ts] : RetIs P σ B (.tmp i :: rs) (t' :: ts) := ⟨fun X F s h E r G o => by
  obtain ⟨vs, h1, h2⟩ := k.eq X F s h E r G o
  refine ⟨s i :: vs, by simp only [Env.st] at h1 ⊢; simp only [iresults, h1, Option.map_some], RepL.cons (fz.eq F G h o _ ?_) h2⟩
  rw [← g.eq]; exact r.slot i⟩
instance RetIs.cell_agg {i ct b off n bt : Nat} {bx : Bool} {cs r1 r2 r3 : List Tr} {rs : List ResultVar} {ts : List Tr} [g : TGet σ i (.v (.pointer (some (ad b off))))] [a : AggIs P ct true] [z : SizeIs P ct n] [bi : BoxIs B b (.cells cs bt bx)] [dr : DropT cs off r1] [tk : TakeT r1 n r2] [fz : FrzL B r2 r3] [k : RetIs P σ B rs ts] : RetIs P σ B (.cell i ct :: rs) (.agg r3 :: ts) := ⟨fun X F s h E r G o => by
  obtain ⟨vs, h1, h2⟩ := k.eq X F s h E r G o
  have h3 := (g.is r).eq
  obtain ⟨us, h4, h5⟩ := r.boxOf bi
  obtain ⟨ws, h6, h7⟩ := h4.row h5 dr tk
  refine ⟨.agg ws.toArray :: vs, ?_, RepL.cons ?_ h2⟩
  · simp only [Env.st] at h1 ⊢; simp only [iresults, h1, Option.map_some, h3, iload, a.eq, Option.bind_some, z.eq, h6.eq]
  · simp only [Rep]; exact ⟨ws, rfl, fz.eq F G h o _ h7⟩⟩
instance RetIs.cell {i ct b off bt : Nat} {bx : Bool} {cs : List Tr} {t t' : Tr} {rs : List ResultVar} {ts : List Tr} [g : TGet σ i (.v (.pointer (some (ad b off))))] [a : AggIs P ct false] [bi : BoxIs B b (.cells cs bt bx)] [ng : NthG cs off t] [fz : Frz B t t'] [k : RetIs P σ B rs ts] : RetIs P σ B (.cell i ct :: rs) (t' :: ts) := ⟨fun X F s h E r G o => by
  obtain ⟨vs, h1, h2⟩ := k.eq X F s h E r G o
  have h3 := (g.is r).eq
  obtain ⟨us, h4, h5⟩ := r.boxOf bi
  obtain ⟨v, h6, h7⟩ := h4.get ng.eq
  refine ⟨v :: vs, ?_, RepL.cons (fz.eq F G h o _ h7) h2⟩
  simp only [Env.st] at h1 ⊢
  simp only [iresults, h1, Option.map_some, h3, iload, a.eq, Option.bind_some, h5.cell, h6]⟩
def tret : List Tr → Tr
  | [t] => t
  | ts => .tup ts
@[irreducible] def retT (P : Program) (rs : List ResultVar) (Φ : Tr → Prop) : IExit → TK := fun e σ B => (e = .normal ∨ e = .ret) ∧ ∃ ts, RetT P σ B rs ts ∧ Φ (tret ts)
theorem retT_go {rs : List ResultVar} {Φ : Tr → Prop} {e : IExit} {ts : List Tr} [r : RetIs P σ B rs ts] (he : e = .normal ∨ e = .ret) (k : Φ (tret ts)) : retT P rs Φ e σ B := by unfold retT; exact ⟨he, ts, r.eq, k⟩
def argT (args : List Tr) : Nat → Tr := fun i => args.getD i (.v undef)
instance TGet.arg {args : List Tr} {i : Nat} {t : Tr} [n : NthG args i t] : TGet (argT args) i t := ⟨by simp [argT, List.getD, n.eq]⟩
theorem Fn_of {f : FuncId} {fn : Func} {c : Code} {args : List Tr} {Φ : Tr → Prop} (hf : P.funcs[f]? = some fn) (hb : fn.body = some c) (hsz : args.length ≤ fn.ntmps)
    (hw : ∀ X, TV X P ⟨fn.ntmps, [], false⟩ c (retT P fn.results.toList Φ) (argT args) []) : Fn P f args Φ := by
  unfold Fn
  intro F0 h vs h1 h2
  have hr : TR ⟨h, F0, []⟩ F0 (argT args) [] (argS vs) h := ⟨Ext.refl h, Sub.refl F0, h1, fun b off v hf => .inl hf, by simp, by simp, by simp, by simp, fun i => by
    by_cases hi : i < args.length
    · obtain ⟨v, h3, h4⟩ := h2.get (List.getElem?_eq_getElem hi)
      have h5 : argS vs i = v := by
        have hi2 := (List.getElem?_eq_some_iff.1 h3).1
        simp only [argS, Array.getD]
        rw [dif_pos (by simpa using hi2)]
        rw [List.getElem?_eq_getElem hi2] at h3
        simpa using Option.some.inj h3
      have h6 : argT args i = args[i] := by simp [argT, List.getD, hi]
      rw [h5, h6]; exact h4
    · have h5 : argS vs i = undef := by
        have := h2.len
        simp only [argS, Array.getD]
        rw [dif_neg (by simp; omega)]
      have h6 : argT args i = .v undef := by simp [argT, List.getD, hi]
      rw [h5, h6]; exact rep_v _⟩
  have hw := hw ⟨h, F0, []⟩
  unfold TV at hw
  refine EvX_of hf hb (by rw [h2.len]; exact hsz) (V_mono ?_ (hw F0 _ h hr))
  rintro e s' h' ⟨F', σ', B', r', hk⟩
  unfold retT at hk
  obtain ⟨he, ts, h3, h4⟩ := hk
  obtain ⟨ws, h5, h6⟩ := h3 _ F' s' h' ⟨fn.ntmps, [], false⟩ r' (thaw F' B' h') r'.thawOk
  unfold retK
  refine ⟨he, ws, h5, r'.ext, thaw F' B' h', tret ts, r'.base.trans r'.thawOk.sub, r'.thawSub, fun b off v hf => ?_, ?_, h4⟩
  · rcases r'.thawOwn b off v hf with h7 | h7
    · exact r'.own b off v h7
    · exact .inr h7
  · have hl := h6.len
    match ts, ws, h6, hl with
    | [], [], _, _ => simp only [tret, iret, Rep]; exact ⟨[], rfl, RepL.nil⟩
    | [t], [v], h6, _ =>
      simp only [RepL] at h6
      obtain ⟨v', ws', h7, h8, _⟩ := h6
      simp only [List.cons.injEq] at h7
      obtain ⟨rfl, rfl⟩ := h7
      exact h8
    | t :: t2 :: ts, v :: v2 :: vs, h6, _ => simp only [tret, iret, Rep]; exact ⟨_, rfl, h6⟩
end Go.Ideal

-- IdealTj
set_option linter.unusedSimpArgs false
set_option linter.unusedVariables false
namespace Go.Ideal
open Go Go.RowKit
variable {P : Program} {X : Cx} {E : Env} {σ : Nat → Tr} {B B' : Boxes} {ops : Array Oper} {K : TK} {l : List Oper} {d : Option Tmp} {ty : TypeId} {pos : String} {af : Array Edge} {H : List (Nat × Nat)} {F : Mem} {s : Nat → Value} {h : IHp} {held : Held} {plan : List PStep} {ph : Bool}

/-! ### Regions that draw their order -/
/-- cells that are the same in all the heaps since the region began; the number of cells is told in the entry's number -/
def PinOk (H : List (Nat × Nat)) (pins : Held) (snaps : List IHp) : Prop := ∀ b n, (1000000 + n, b) ∈ H → ∀ j, j < n → ∃ v, (1000000 + n, b, j, v) ∈ pins ∧ ∀ hs ∈ snaps, hs.cell? b j = some v
theorem pinOk_nil {pins : Held} {snaps : List IHp} : PinOk [] pins snaps := fun b n h => by cases h
@[irreducible] def TD (X : Cx) (P : Program) (E : Env) (ops : Array Oper) (K : TK) (plan : List PStep) (H : List (Nat × Nat)) (ph : Bool) (σ : Nat → Tr) (B : Boxes) : Prop :=
  ∀ F s h held snaps pins, TR X F σ B s h → HeldOk F B H h (held ++ pins) → (ph = true → snaps = [h]) → PinOk H pins snaps → WD P E ops (fun s' h' => ∃ F' σ' B', TR X F' σ' B' s' h' ∧ K σ' B') plan held snaps s h
theorem TV_draw {id : Nat} {l : List Oper} {Q : IExit → TK} {plan : List PStep} (hp : planOf l.toArray = some plan) (k : TD X P E l.toArray (Q .normal) plan [] true σ B) : TV X P E (.region id l.toArray true) Q σ B := by
  unfold TV; unfold TD at k
  intro F s h r
  exact V_draw hp (k F s h [] [h] [] r (fun e he => by cases he) (fun _ => rfl) pinOk_nil)
theorem TD_nil (k : K σ B) : TD X P E ops K [] H ph σ B := by
  unfold TD; intro F s h held snaps pins r hh hp hq; exact WD_nil ⟨F, σ, B, r, k⟩
theorem TD_take {i : Nat} {op : Op} {t : Tr} (ho : ops[i]? = some ⟨d, op, ty, pos, af, none⟩) (hq : (isQuiet op && !isLoad op) = true) [p : Pu P σ B op t] (k : TD X P E ops K plan H ph (putT σ d t) B) : TD X P E ops K (.take i :: plan) H ph σ B := by
  unfold TD at *
  intro F s h held snaps pins r hh hp hpin
  refine WD_take ho (by simpa using hq) (p.eq r fun v hv => WS_nil ?_)
  unfold WDT
  exact k F _ h held snaps pins (r.put hv) hh hp hpin
theorem TD_takew {i : Nat} {op : Op} {t : Tr} (ho : ops[i]? = some ⟨d, op, ty, pos, af, none⟩) (hq : (isQuiet op && !isLoad op) = true) (p : Pu P σ B op t) (k : TD X P E ops K plan H ph (putT σ d t) B) : TD X P E ops K (.take i :: plan) H ph σ B := TD_take ho hq (p := p) k
theorem TD_take_on {i j : Nat} {op : Op} {t : Tr} {u b : Bool} {x : Tmp} (ho : ops[i]? = some ⟨d, op, ty, pos, af, some (j, u)⟩) (hd : (ops[j]?).bind (·.dst) = some x) [g : TGet σ x (.v (.bool b))] (hb : b = u) (hq : (isQuiet op && !isLoad op) = true) [p : Pu P σ B op t] (k : TD X P E ops K plan H ph (putT σ d t) B) : TD X P E ops K (.take i :: plan) H ph σ B := by
  unfold TD at *
  intro F s h held snaps pins r hh hp hpin
  have := g.is r
  refine WD_take_on ho hd hb hq (p.eq r fun v hv => WS_nil ?_)
  unfold WDT
  exact k F _ h held snaps pins (r.put hv) hh hp hpin
theorem TD_off {i j : Nat} {op : Op} {u b : Bool} {x : Tmp} (ho : ops[i]? = some ⟨d, op, ty, pos, af, some (j, u)⟩) (hd : (ops[j]?).bind (·.dst) = some x) [g : TGet σ x (.v (.bool b))] (hb : b = !u) (k : TD X P E ops K plan H ph (putT σ d (.v undef)) B) : TD X P E ops K (.take i :: plan) H ph σ B := by
  unfold TD at *
  intro F s h held snaps pins r hh hp hpin
  have := g.is r
  exact WD_take_off ho hd hb (k F _ h held snaps pins (r.put (rep_v _)) hh hp hpin)
theorem TD_guard {i j : Nat} {op : Op} {u b : Bool} {x : Tmp} (ho : ops[i]? = some ⟨d, op, ty, pos, af, some (j, u)⟩) (hd : (ops[j]?).bind (·.dst) = some x) [g : TGet σ x (.v (.bool b))] (k1 : b = u → TD X P E ops K (.take i :: plan) H ph σ B) (k2 : b = !u → TD X P E ops K (.take i :: plan) H ph σ B) : TD X P E ops K (.take i :: plan) H ph σ B := by
  by_cases ht : b = u
  · exact k1 ht
  · exact k2 (by cases b <;> cases u <;> simp_all)

/-! loads that are taken first: the place, what is read, and whether it lies in own memory -/
/-- a load's reading; bs: the own block that is read, if any -/
class Lo (P : Program) (σ : Nat → Tr) (B : Boxes) (op : Op) (t : outParam Tr) (bs : outParam (List Nat)) : Prop where
  eq : ∀ {X : Cx} {F : Mem} {s : Nat → Value} {h : IHp}, TR X F σ B s h → ∃ ty x b off us, op = .load ty x ∧ EvalIs s x (.pointer (some (ad b off))) ∧ h.row b off us.length = some us ∧ (∀ u ∈ us, veq u u = true) ∧
    ((AggIs P ty false ∧ ∃ u, us = [u] ∧ Rep F t u) ∨ (AggIs P ty true ∧ SizeIs P ty us.length ∧ Rep F t (.agg us.toArray))) ∧ ((∀ i, i < us.length → F b (off + i) = us[i]?) ∨ (bs = [b] ∧ b ∈ B.map Prod.fst ∧ b % 2 = 0))
class VR (t : Tr) : Prop where eq : ∀ F v, Rep F t v → veq v v = true
instance VR.val {x : Value} [r : VRefl x] : VR (.v x) := ⟨fun F v h => by simp only [Rep] at h; subst h; exact r.eq⟩
instance VRefl.gsv {b n : Nat} : VRefl (gsv b n) := ⟨by unfold Go.Ideal.gsv; split <;> simp [veq]⟩
instance VRefl.elp {b m i j : Nat} : VRefl (elp b m i j) := ⟨by unfold Go.Ideal.elp; simp [veq]⟩
instance VR.sl {m : Nat} {rows : List (List Tr)} : VR (.sl m rows) := ⟨fun F v h => by simp only [Rep] at h; obtain ⟨a, n, c, rfl, _⟩ := h; simp [veq]⟩
instance VR.pf {cs : List Tr} : VR (.pf cs) := ⟨fun F v h => by simp only [Rep] at h; obtain ⟨b, o, vs, rfl, _⟩ := h; simp [veq]⟩
class VRL (ts : List Tr) : Prop where eq : ∀ F vs, RepL F ts vs → ∀ v ∈ vs, veq v v = true
instance VRL.nil : VRL [] := ⟨fun F vs h v hv => by simp only [RepL] at h; subst h; cases hv⟩
instance VRL.cons {t : Tr} {ts : List Tr} [a : VR t] [b : VRL ts] : VRL (t :: ts) := ⟨fun F vs h v hv => by
  simp only [RepL] at h
  obtain ⟨w, ws, rfl, h1, h2⟩ := h
  rcases List.mem_cons.1 hv with rfl | hv
  · exact a.eq F _ h1
  · exact b.eq F ws h2 v hv⟩
theorem row_len {h : IHp} {b off n : Nat} {us : List Value} (hr : h.row b off n = some us) : us.length = n := by rw [row_rowM] at hr; exact rowM_len hr
theorem TR.even (r : TR X F σ B s h) {b : Nat} {cs : List Tr} {t : Nat} {x : Bool} (bi : BoxIs B b (.cells cs t x)) : b % 2 = 0 ∧ b ∈ B.map Prod.fst := by
  obtain ⟨vs, _, o⟩ := r.boxOf bi
  exact ⟨o.even, List.mem_map.2 ⟨_, bi.mem, rfl⟩⟩
instance Lo.box {x : Operand} {t : TypeId} {b off bt : Nat} {bx : Bool} {cs : List Tr} {u : Tr} [e : TEval σ x (.v (.pointer (some (ad b off))))] [a : AggIs P t false] [bi : BoxIs B b (.cells cs bt bx)] [n : NthG cs off u] [vr : VR u] : Lo P σ B (.load t x) u [b] := ⟨fun {X F s h} q => by
  have h0 := e.is q.slot
  obtain ⟨vs, h1, h2⟩ := q.boxOf bi
  obtain ⟨v, h3, h4⟩ := h1.get n.eq
  refine ⟨t, x, b, off, [v], rfl, h0, ?_, ?_, .inl ⟨a, v, rfl, h4⟩, .inr ⟨rfl, (q.even bi).2, (q.even bi).1⟩⟩
  · have hlt := (List.getElem?_eq_some_iff.1 h3).1
    rw [List.length_singleton, row_obj h2 off (by omega)]
    rw [List.drop_eq_getElem_cons hlt]
    rw [List.getElem?_eq_getElem hlt] at h3
    simp [Option.some.inj h3]
  · intro w hw; simp at hw; subst hw; exact vr.eq F _ h4⟩
instance Lo.pf {x : Operand} {t : TypeId} {u : Tr} {cs : List Tr} [e : TEval σ x (.pf (u :: cs))] [a : AggIs P t false] [vr : VR u] : Lo P σ B (.load t x) u [] := ⟨fun {X F s h} q => by
  have h1 := evalIs_self (s := s) (x := x) (h := h)
  have h2 := e.eq F s q.slot h 0 [] false
  simp only [Rep] at h2
  obtain ⟨b, off, vs, h3, h4, h5⟩ := h2
  rw [h3] at h1
  simp only [RepL] at h5
  obtain ⟨v, ws, rfl, h6, h7⟩ := h5
  refine ⟨t, x, b, off, [v], rfl, h1, ?_, ?_, .inl ⟨a, v, rfl, h6⟩, .inl ?_⟩
  · have := rowM_part h4 0 1 (by simp)
    rw [row_rowM]
    exact rowM_sub q.sub (by simpa using this)
  · intro w hw; simp at hw; subst hw; exact vr.eq F _ h6
  · intro i hi
    have : i = 0 := by simpa using hi
    subst this
    have := rowM_get h4 0 (by simp)
    simpa using this⟩
instance Lo.box_agg {x : Operand} {t : TypeId} {b off n bt : Nat} {bx : Bool} {cs r1 r2 : List Tr} [e : TEval σ x (.v (.pointer (some (ad b off))))] [a : AggIs P t true] [z : SizeIs P t n] [bi : BoxIs B b (.cells cs bt bx)] [dr : DropT cs off r1] [tk : TakeT r1 n r2] [vr : VRL r2] : Lo P σ B (.load t x) (.agg r2) [b] := ⟨fun {X F s h} q => by
  have h0 := e.is q.slot
  obtain ⟨vs, h1, h2⟩ := q.boxOf bi
  obtain ⟨us, h3, h4⟩ := h1.row h2 dr tk
  have hl := row_len h3.eq
  refine ⟨t, x, b, off, us, rfl, h0, by rw [hl]; exact h3.eq, vr.eq F us h4, .inr ⟨a, by rw [hl]; exact z, by simp only [Rep]; exact ⟨us, rfl, h4⟩⟩, .inr ⟨rfl, (q.even bi).2, (q.even bi).1⟩⟩⟩
instance Lo.pf_agg {x : Operand} {t : TypeId} {n : Nat} {cs r : List Tr} [e : TEval σ x (.pf cs)] [a : AggIs P t true] [z : SizeIs P t n] [tk : TakeT cs n r] [vr : VRL r] : Lo P σ B (.load t x) (.agg r) [] := ⟨fun {X F s h} q => by
  have h1 := evalIs_self (s := s) (x := x) (h := h)
  have h2 := e.eq F s q.slot h 0 [] false
  simp only [Rep] at h2
  obtain ⟨b, off, vs, h3, h4, h5⟩ := h2
  rw [h3] at h1
  have h6 : RepL F r (vs.take n) := by rw [← tk.eq]; exact h5.take n
  have hl : (vs.take n).length = n := by have := rowM_len h4; have := tk.le; simp; omega
  have h7 : rowM F b off n = some (vs.take n) := by have := rowM_part h4 0 n (by have := tk.le; omega); simpa using this
  refine ⟨t, x, b, off, vs.take n, rfl, h1, ?_, vr.eq F _ h6, .inr ⟨a, by rw [hl]; exact z, by simp only [Rep]; exact ⟨_, rfl, h6⟩⟩, .inl ?_⟩
  · rw [hl, row_rowM]; exact rowM_sub q.sub h7
  · rw [hl]; exact fun i hi => rowM_get h7 i hi⟩
theorem TR.evenA (r : TR X F σ B s h) {b m : Nat} {rows : List (List Tr)} {t : Nat} {x : Bool} (bi : BoxIs B b (.arr m rows t x)) {i : Nat} {row : List Tr} (hr : rows[i]? = some row) : b % 2 = 0 ∧ b ∈ B.map Prod.fst := by
  obtain ⟨vs, _, o, _⟩ := Box.len_of (r.boxOf bi) hr
  exact ⟨o.even, List.mem_map.2 ⟨_, bi.mem, rfl⟩⟩
instance Lo.arr {x : Operand} {t : TypeId} {b m i j bt : Nat} {bx : Bool} {rows : List (List Tr)} {row : List Tr} {u : Tr} [e : TEval σ x (.v (elp b m i j))] [a : AggIs P t false] [bi : BoxIs B b (.arr m rows bt bx)] [ng : NthG rows i row] [n : NthG row j u] [vr : VR u] : Lo P σ B (.load t x) u [b] := ⟨fun {X F s h} q => by
  have h0 := e.is q.slot
  unfold elp at h0
  obtain ⟨us, h1, h2⟩ := arr_row (q.boxOf bi) ng.eq
  obtain ⟨v, h3, h4⟩ := h2.get n.eq
  have hj := (List.getElem?_eq_some_iff.1 h3).1
  have hm := row_len h1
  refine ⟨t, x, b, i * m + j, [v], rfl, h0, ?_, ?_, .inl ⟨a, v, rfl, h4⟩, .inr ⟨rfl, (q.evenA bi ng.eq).2, (q.evenA bi ng.eq).1⟩⟩
  · rw [List.length_singleton, row_part h1 j 1 (by omega), List.drop_eq_getElem_cons hj]
    rw [List.getElem?_eq_getElem hj] at h3
    simp [Option.some.inj h3]
  · intro w hw; simp at hw; subst hw; exact vr.eq F _ h4⟩
instance Lo.arr_agg {x : Operand} {t : TypeId} {b m i j n bt : Nat} {bx : Bool} {rows : List (List Tr)} {row r1 r2 : List Tr} [e : TEval σ x (.v (elp b m i j))] [a : AggIs P t true] [z : SizeIs P t n] [bi : BoxIs B b (.arr m rows bt bx)] [ng : NthG rows i row] [dr : DropT row j r1] [tk : TakeT r1 n r2] [vr : VRL r2] : Lo P σ B (.load t x) (.agg r2) [b] := ⟨fun {X F s h} q => by
  have h0 := e.is q.slot
  unfold elp at h0
  obtain ⟨us, h1, h2⟩ := arr_row (q.boxOf bi) ng.eq
  have hm := row_len h1
  have hl := h2.len
  have h3 := tk.le
  rw [← dr.eq, List.length_drop] at h3
  have h5 := dr.le
  have h6 : RepL F r2 ((us.drop j).take n) := by rw [← tk.eq, ← dr.eq]; exact (h2.drop j).take n
  have h7 : ((us.drop j).take n).length = n := by simp; omega
  refine ⟨t, x, b, i * m + j, _, rfl, h0, by rw [h7]; exact row_part h1 j n (by omega), vr.eq F _ h6, .inr ⟨a, by rw [h7]; exact z, by simp only [Rep]; exact ⟨_, rfl, h6⟩⟩, .inr ⟨rfl, (q.evenA bi ng.eq).2, (q.evenA bi ng.eq).1⟩⟩⟩
theorem cellsOf_at {i b : Nat} : ∀ {us : List Value} {off : Nat} {e : Nat × Nat × Nat × Value}, e ∈ cellsOf i b off us → ∃ j, j < us.length ∧ e.1 = i ∧ e.2.1 = b ∧ e.2.2.1 = off + j ∧ us[j]? = some e.2.2.2 := by
  intro us
  induction us with
  | nil => intro off e he; cases he
  | cons u us ih =>
    intro off e he
    simp only [cellsOf, List.mem_cons] at he
    rcases he with rfl | he
    · exact ⟨0, by simp, rfl, rfl, rfl, rfl⟩
    · obtain ⟨j, h1, h2, h3, h4, h5⟩ := ih he
      exact ⟨j + 1, by simp; omega, h2, h3, by rw [h4]; omega, by simpa using h5⟩
theorem held_more {i b off : Nat} {us : List Value} {bs : List Nat} (hh : HeldOk F B H h held) (hr : h.row b off us.length = some us) (hv : ∀ u ∈ us, veq u u = true) (hm : (∀ j, j < us.length → F b (off + j) = us[j]?) ∨ (bs = [b] ∧ b ∈ B.map Prod.fst ∧ b % 2 = 0)) : HeldOk F B (bs.map (fun b => (i, b)) ++ H) h (cellsOf i b off us ++ held) := by
  intro e he
  rcases List.mem_append.1 he with h1 | h1
  · obtain ⟨j, h2, h3, h4, h5, h6⟩ := cellsOf_at h1
    refine ⟨hv _ (List.mem_of_getElem? h6), ?_, ?_⟩
    · rw [h4, h5, row_cell hr j h2]; exact h6
    · rcases hm with hm | ⟨rfl, h7, h8⟩
      · exact .inl (by rw [h4, h5, hm j h2]; exact h6)
      · exact .inr ⟨by rw [h3, h4]; simp, by rw [h4]; exact h7, by rw [h4]; exact h8⟩
  · obtain ⟨h2, h3, h4⟩ := hh e h1
    refine ⟨h2, h3, ?_⟩
    rcases h4 with h4 | ⟨h4, h5⟩
    · exact .inl h4
    · exact .inr ⟨List.mem_append_right _ h4, h5⟩
theorem heldIn_cells {i b off : Nat} {us : List Value} (hr : h.row b off us.length = some us) (hv : ∀ u ∈ us, veq u u = true) : heldIn h (cellsOf i b off us) = true := by
  simp only [heldIn, List.all_eq_true]
  rintro ⟨i', b', o', v⟩ he
  obtain ⟨j, h2, h3, h4, h5, h6⟩ := cellsOf_at he
  simp only at h3 h4 h5 h6
  subst h3; subst h4; subst h5
  have hc := row_cell hr j h2
  rw [h6] at hc
  simp only [hc]
  exact hv _ (List.mem_of_getElem? h6)
theorem WD_loadG {K : SK} {i b off : Nat} {t : TypeId} {x : Operand} {us : List Value} {v : Value} {o : Oper} {snaps : List IHp} (ho : ops[i]? = some o) (hop : o.op = .load t x) (hw : iwanted ops s o = true) (e : EvalIs s x (.pointer (some (ad b off)))) (hr : h.row b off us.length = some us) (hv : ∀ u ∈ us, veq u u = true)
    (hc : (AggIs P t false ∧ us = [v]) ∨ (AggIs P t true ∧ SizeIs P t us.length ∧ v = .agg us.toArray)) (hs : snaps = [h]) (k : WD P E ops K plan (cellsOf i b off us ++ held) snaps (putS s o.dst v) h) : WD P E ops K (.take i :: plan) held snaps s h := by
  unfold WD at k ⊢
  obtain ⟨n, st', h5, h6⟩ := k
  refine ⟨n, st', ?_, h6⟩
  have he := ev_eq (E := E) (h := h) (x := x) (s := s)
  simp only [iplan, ho, Option.bind_some]
  rw [if_pos (show iwanted ops (E.st s h).s o = true from hw)]
  have hheld := heldIn_cells (i := i) hr hv
  simp only [Env.st] at he h5 ⊢
  subst hs
  rcases hc with ⟨ha, rfl⟩ | ⟨ha, hz, rfl⟩
  · have hcell : h.cell? b off = some v := by
      have := row_cell hr 0 (by simp)
      simpa using this
    have h7 : heldOf P h (St.eval { s := s, h := h, nt := E.nt, marks := E.marks, rd := E.rd }) i o = some (cellsOf i b off [v]) := by
      simp only [heldOf, hop, he, ha.eq, Option.bind_some, hcell, Option.map_some, cellsOf]
    have h8 : iheap P h (St.eval { s := s, h := h, nt := E.nt, marks := E.marks, rd := E.rd }) o = some (v, h) := by
      simp only [iheap, hop, he, iload, ha.eq, Option.bind_some, hcell, Option.map_some]
    rw [h7]
    simp only [Option.bind_some, List.all_cons, List.all_nil, Bool.and_true, hheld, if_true, h8]
    exact h5
  · have h7 : heldOf P h (St.eval { s := s, h := h, nt := E.nt, marks := E.marks, rd := E.rd }) i o = some (cellsOf i b off us) := by
      simp only [heldOf, hop, he, ha.eq, Option.bind_some, hz.eq, hr, Option.map_some]
    have h8 : iheap P h (St.eval { s := s, h := h, nt := E.nt, marks := E.marks, rd := E.rd }) o = some (.agg us.toArray, h) := by
      simp only [iheap, hop, he, iload, ha.eq, Option.bind_some, hz.eq, hr, Option.map_some]
    rw [h7]
    simp only [Option.bind_some, List.all_cons, List.all_nil, Bool.and_true, hheld, if_true, h8]
    exact h5
theorem PinOk.more {i : Nat} {bs : List Nat} {pins : Held} {snaps : List IHp} (x : PinOk H pins snaps) (hi : ∀ n, i ≠ 1000000 + n) : PinOk (bs.map (fun b => (i, b)) ++ H) pins snaps := fun b n hb j hj => by
  rcases List.mem_append.1 hb with h | h
  · obtain ⟨c, _, hc⟩ := List.mem_map.1 h
    simp only [Prod.mk.injEq] at hc
    exact absurd hc.1 (hi n)
  · exact x b n h j hj
theorem TD_loadG {i : Nat} {op : Op} {t : Tr} {bs : List Nat} {g : Option (Nat × Bool)} (ho : ops[i]? = some ⟨d, op, ty, pos, af, g⟩) (hlt : Nat.ble i 999999 = true) (hw : ∀ {X F s h}, TR X F σ B s h → iwanted ops s ⟨d, op, ty, pos, af, g⟩ = true) (p : Lo P σ B op t bs) (k : TD X P E ops K plan (bs.map (fun b => (i, b)) ++ H) true (putT σ d t) B) : TD X P E ops K (.take i :: plan) H true σ B := by
  unfold TD at *
  intro F s h held snaps pins r hh hp hpin
  obtain ⟨ty', x, b, off, us, h1, h2, h3, h4, h5, h6⟩ := p.eq r
  subst h1
  have hh' := held_more (i := i) (bs := bs) hh h3 h4 h6
  rw [← List.append_assoc] at hh'
  have hpin' : PinOk (bs.map (fun b => (i, b)) ++ H) pins snaps := hpin.more (by
    intro n hn
    simp only [Nat.ble_eq] at hlt
    omega)
  rcases h5 with ⟨ha, u, rfl, hu⟩ | ⟨ha, hz, hu⟩
  · exact WD_loadG (v := u) ho rfl (hw r) h2 h3 h4 (.inl ⟨ha, rfl⟩) (hp rfl) (k F _ h _ snaps pins (r.put hu) hh' hp hpin')
  · exact WD_loadG (v := .agg us.toArray) ho rfl (hw r) h2 h3 h4 (.inr ⟨ha, hz, rfl⟩) (hp rfl) (k F _ h _ snaps pins (r.put hu) hh' hp hpin')
theorem TD_load {i : Nat} {op : Op} {t : Tr} {bs : List Nat} (ho : ops[i]? = some ⟨d, op, ty, pos, af, none⟩) (hlt : Nat.ble i 999999 = true) [p : Lo P σ B op t bs] (k : TD X P E ops K plan (bs.map (fun b => (i, b)) ++ H) true (putT σ d t) B) : TD X P E ops K (.take i :: plan) H true σ B :=
  TD_loadG ho hlt (fun r => by simp [iwanted, Region.wanted]) p k
theorem TD_load_on {i j : Nat} {op : Op} {t : Tr} {bs : List Nat} {u b : Bool} {x : Tmp} (ho : ops[i]? = some ⟨d, op, ty, pos, af, some (j, u)⟩) (hd : (ops[j]?).bind (·.dst) = some x) [g : TGet σ x (.v (.bool b))] (hb : b = u) (hlt : Nat.ble i 999999 = true) [p : Lo P σ B op t bs] (k : TD X P E ops K plan (bs.map (fun b => (i, b)) ++ H) true (putT σ d t) B) : TD X P E ops K (.take i :: plan) H true σ B :=
  TD_loadG ho hlt (fun r => by have := (g.is r).eq; simp [iwanted, Region.wanted, iyielded, hd, this, hb]) p k
@[irreducible] def TDK (X : Cx) (P : Program) (E : Env) (ops : Array Oper) (K : TK) (plan : List PStep) (H : List (Nat × Nat)) : TK := fun σ B => TD X P E ops K plan H false σ B
theorem TDK_go (k : TD X P E ops K plan H false σ B) : TDK X P E ops K plan H σ B := by unfold TDK; exact k
@[irreducible] def FiltT (ops : Array Oper) (i : Nat) (H : List (Nat × Nat)) (C : List (Nat × Nat) → Prop) : Prop := C (H.filter fun e => Nat.ble 1000000 e.1 || quietAt ops i || !waitsL ops i e.1)
theorem FiltT_nil {i : Nat} {C : List (Nat × Nat) → Prop} (k : C []) : FiltT ops i [] C := by unfold FiltT; exact k
theorem FiltT_drop {i j b : Nat} {C : List (Nat × Nat) → Prop} (hk : (Nat.ble 1000000 j || quietAt ops i || !waitsL ops i j) = false) (k : FiltT ops i H C) : FiltT ops i ((j, b) :: H) C := by
  unfold FiltT at *; rw [List.filter_cons, if_neg (by simp only; rw [hk]; decide)]; exact k
theorem FiltT_keep {i j b : Nat} {C : List (Nat × Nat) → Prop} (hk : (Nat.ble 1000000 j || quietAt ops i || !waitsL ops i j) = true) (k : FiltT ops i H (fun r => C ((j, b) :: r))) : FiltT ops i ((j, b) :: H) C := by
  unfold FiltT at *; rw [List.filter_cons, if_pos (by simp only; exact hk)]; exact k
theorem TD_one {i : Nat} {op : Op} {g : Option (Nat × Bool)} (ho : ops[i]? = some ⟨d, op, ty, pos, af, g⟩) (k : FiltT ops i H (fun H' => TS X P E ops (TDK X P E ops K plan H') [⟨d, op, ty, pos, af, g⟩] H' σ B)) : TD X P E ops K (.one i :: plan) H ph σ B := by
  unfold TD
  unfold FiltT at k
  unfold TS at k
  intro F s h held snaps pins r hh hp hpin
  refine WD_one_of (held' := heldBut ops i held) ho (fun e he => he) (WS_mono ?_ (k F s h (heldBut ops i held ++ pins.filter fun e => Nat.ble 1000000 e.1) r ?_))
  · rintro s' h' ⟨F', σ', B', r', hh', hk⟩
    unfold TDK at hk
    unfold TD at hk
    unfold WDK
    have hh1 : HeldOk F' B' (H.filter fun e => Nat.ble 1000000 e.1 || quietAt ops i || !waitsL ops i e.1) h' (heldBut ops i held) := fun e he => hh' e (List.mem_append_left _ he)
    refine ⟨hh1.heldIn, hk F' s' h' _ _ _ r' hh' (by simp) fun b n hb j hj => ?_⟩
    obtain ⟨v, h1, h2⟩ := hpin b n (List.mem_filter.1 hb).1 j hj
    have h3 : (1000000 + n, b, j, v) ∈ pins.filter fun e => Nat.ble 1000000 e.1 := List.mem_filter.2 ⟨h1, by simp [Nat.ble_eq]⟩
    refine ⟨v, h3, fun hs hm => ?_⟩
    rcases List.mem_cons.1 hm with rfl | hm
    · exact (hh' _ (List.mem_append_right _ h3)).2.1
    · exact h2 hs hm
  · intro e he
    have he' : e ∈ held ++ pins ∧ (Nat.ble 1000000 e.1 || quietAt ops i || !waitsL ops i e.1) = true := by
      rcases List.mem_append.1 he with he | he
      · rw [waitsL_eq]
        unfold heldBut at he
        split at he
        · rename_i hq; exact ⟨List.mem_append_left _ he, by rw [hq]; simp⟩
        · have := List.mem_filter.1 he; exact ⟨List.mem_append_left _ this.1, by rw [this.2]; simp⟩
      · have := List.mem_filter.1 he
        exact ⟨List.mem_append_right _ this.1, by rw [this.2]; simp⟩
    obtain ⟨h1, h2, h3⟩ := hh e he'.1
    refine ⟨h1, h2, ?_⟩
    rcases h3 with h3 | ⟨h3, h4⟩
    · exact .inl h3
    · exact .inr ⟨List.mem_filter.2 ⟨h3, he'.2⟩, h4⟩
/-- a struct of one's own that stays as it is in the whole region -/
theorem TD_pin (b n : Nat) {cs : List Tr} {bt : Nat} {bx : Bool} [bi : BoxIs B b (.cells cs bt bx)] [vl : VRL cs] [ln : LenT cs n] (k : TD X P E ops K plan ((1000000 + n, b) :: H) true σ B) : TD X P E ops K plan H true σ B := by
  unfold TD at *
  intro F s h held snaps pins r hh hp hpin
  obtain ⟨vs, h1, h2⟩ := r.boxOf bi
  have hlv : vs.length = n := by rw [h1.len]; exact ln.eq
  have hrow : h.row b 0 vs.length = some vs := by have := row_obj (n := vs.length) h2 0 (by omega); simpa using this
  have hm := held_more (i := 1000000 + n) (bs := [b]) hh hrow (vl.eq F vs h1) (.inr ⟨rfl, (r.even bi).2, (r.even bi).1⟩)
  have hh2 : HeldOk F B ((1000000 + n, b) :: H) h (held ++ (cellsOf (1000000 + n) b 0 vs ++ pins)) := by
    intro e he
    refine hm e ?_
    rcases List.mem_append.1 he with he | he
    · exact List.mem_append_right _ (List.mem_append_left _ he)
    · rcases List.mem_append.1 he with he | he
      · exact List.mem_append_left _ he
      · exact List.mem_append_right _ (List.mem_append_right _ he)
  refine k F s h held snaps _ r hh2 hp fun b' n' hb j hj => ?_
  rcases List.mem_cons.1 hb with hb | hb
  · simp only [Prod.mk.injEq] at hb
    obtain ⟨hb1, rfl⟩ := hb
    have hnn : n' = n := by omega
    subst hnn
    obtain ⟨v, hv⟩ : ∃ v, vs[j]? = some v := ⟨_, List.getElem?_eq_getElem (by omega)⟩
    refine ⟨v, List.mem_append_left _ ?_, fun hs hmm => ?_⟩
    · have : ∀ (us : List Value) (off j : Nat) (v : Value), us[j]? = some v → (1000000 + n', b', off + j, v) ∈ cellsOf (1000000 + n') b' off us := by
        intro us
        induction us with
        | nil => intro off j v h; simp at h
        | cons u us ih =>
          intro off j v h
          cases j with
          | zero => simp at h; subst h; exact List.mem_cons_self
          | succ j => have := ih (off + 1) j v (by simpa using h); rw [show off + 1 + j = off + (j + 1) by omega] at this; exact List.mem_cons_of_mem _ this
      have := this vs 0 j v hv
      simpa using this
    · rw [hp rfl] at hmm
      simp at hmm
      subst hmm
      rw [h2.cell]; exact hv
  · obtain ⟨v, g1, g2⟩ := hpin b' n' hb j hj
    exact ⟨v, List.mem_append_right _ g1, g2⟩
class PinIn (H : List (Nat × Nat)) (b n : Nat) : Prop where mem : (1000000 + n, b) ∈ H
class IsPin (i n : Nat) : Prop where eq : i = 1000000 + n
instance IsPin.of {n : Nat} : IsPin (1000000 + n) n := ⟨rfl⟩
instance (priority := 1000) PinIn.head {b n i : Nat} [p : IsPin i n] : PinIn ((i, b) :: H) b n := ⟨by rw [← p.eq]; exact List.mem_cons_self⟩
instance (priority := 900) PinIn.tail {p : Nat × Nat} {b n : Nat} [k : PinIn H b n] : PinIn (p :: H) b n := ⟨List.mem_cons_of_mem _ k.mem⟩
/-- a load, behind other operations, of what has stayed as it was since the region began -/
theorem TD_loadP_on {i j b bt n : Nat} {bx : Bool} {t : TypeId} {x : Operand} {cs r2 : List Tr} {u tt : Bool} {y : Tmp} (ho : ops[i]? = some ⟨d, .load t x, ty, pos, af, some (j, u)⟩) (hd : (ops[j]?).bind (·.dst) = some y) [g : TGet σ y (.v (.bool tt))] (ht : tt = u) (hlt : Nat.ble i 999999 = true)
    [e : TEval σ x (.v (.pointer (some (ad b 0))))] [a : AggIs P t true] [z : SizeIs P t n] [bi : BoxIs B b (.cells cs bt bx)] [tk : TakeT cs n r2] [vr : VRL r2] [pn : PinIn H b n] (k : TD X P E ops K plan ((i, b) :: H) ph (putT σ d (.agg r2)) B) : TD X P E ops K (.take i :: plan) H ph σ B := by
  unfold TD at *
  intro F s h held snaps pins r hh hp hpin
  have hg := (g.is r).eq
  have h0 := e.is r.slot
  obtain ⟨vs, h1, h2⟩ := r.boxOf bi
  obtain ⟨us, h3, h4⟩ := h1.row h2 (off := 0) ⟨by simp, Nat.zero_le _⟩ tk
  have hl := row_len h3.eq
  have hrow : h.row b 0 us.length = some us := by rw [hl]; exact h3.eq
  have hv := vr.eq F us h4
  have hm := held_more (i := i) (bs := [b]) hh hrow hv (.inr ⟨rfl, (r.even bi).2, (r.even bi).1⟩)
  rw [← List.append_assoc] at hm
  have hsn : snaps.all (heldIn · (cellsOf i b 0 us)) = true := by
    rw [List.all_eq_true]
    intro hs hmm
    simp only [heldIn, List.all_eq_true]
    rintro ⟨i', b', o', v⟩ he
    obtain ⟨j', e2, e3, e4, e5, e6⟩ := cellsOf_at he
    simp only at e3 e4 e5 e6
    subst e3; subst e4; subst e5
    obtain ⟨w, g1, g2⟩ := hpin b' n pn.mem j' (by omega)
    have g3 := (hh _ (List.mem_append_right _ g1)).2.1
    simp only at g3
    have g4 := row_cell hrow j' e2
    rw [e6, Nat.zero_add, g3] at g4
    cases g4
    rw [Nat.zero_add]
    simp only [g2 hs hmm]
    exact hv _ (List.mem_of_getElem? e6)
  have k1 := k F _ h (cellsOf i b 0 us ++ held) snaps pins (r.put (t := .agg r2) (v := .agg us.toArray) (by simp only [Rep]; exact ⟨us, rfl, h4⟩)) hm hp (by
    intro b' n' hb j' hj
    rcases List.mem_cons.1 hb with hb | hb
    · simp only [Prod.mk.injEq] at hb
      simp only [Nat.ble_eq] at hlt
      omega
    · exact hpin b' n' hb j' hj)
  have e0 : ad b 0 = ad b 0 := rfl
  have l0 : CellsL i b 0 us [] (cellsOf i b 0 us) := ⟨List.append_nil _⟩
  have l1 : CellsL i b 0 us held (cellsOf i b 0 us ++ held) := ⟨rfl⟩
  have sn : SnapsIs snaps (cellsOf i b 0 us) := ⟨hsn⟩
  have gg : Get s y (.bool tt) := ⟨hg⟩
  exact WD_load_agg_on (n := n) ho hd ht (c := ⟨h3.eq⟩) k1
/-- an alloc ahead of its time -/
theorem TD_virt {i : Nat} {t : TypeId} {z : Value} {ws : List Value} {wt : List Tr} (ho : ops[i]? = some ⟨d, .alloc t, ty, pos, af, none⟩) (hlt : Nat.ble i 999999 = true) [zi : ZeroIs P t z] [cs : CellsOf z ws] [vt : ValsT ws wt] [vl : VRL wt] (hpos : ws.isEmpty = false) (k : ∀ b, TD X P E ops K plan ((i, b) :: H) false (putT σ d (.v (.pointer (some (ad b 0))))) ((b, .cells wt t true) :: B)) : TD X P E ops K (.virt i :: plan) H ph σ B := by
  unfold TD at *
  intro F s h held snaps pins r hh hp hpin
  have r' := r.push (x' := .cells wt t true) (o := .cells ws t true) ⟨ws, repL_of_vals vt, inferInstance⟩
  have o' : ObjIs (h.push (.cells ws t true)) h.fresh ws t true := inferInstance
  have hrow : (h.push (.cells ws t true)).row h.fresh 0 ws.length = some ws := by
    have := row_obj (n := ws.length) o' 0 (by omega)
    simpa using this
  have hh1 : HeldOk F ((h.fresh, Box.cells wt t true) :: B) H (h.push (.cells ws t true)) (held ++ pins) := hh.keys (fun b off v hc => cell_ext (Ext.push h _) hc) (Sub.refl F) (fun b hb => by rw [List.map_cons]; exact List.mem_cons_of_mem _ hb)
  have hh2 := held_more (i := i) (bs := [h.fresh]) hh1 hrow (vl.eq F ws (repL_of_vals vt)) (.inr ⟨rfl, by simp, o'.even⟩)
  rw [← List.append_assoc] at hh2
  have k1 := k h.fresh F _ _ (cellsOf i h.fresh 0 ws ++ held) ((h.push (.cells ws t true)) :: snaps) pins (r'.put (rep_v _)) hh2 (by simp) (by
    intro b' n' hb j' hj
    rcases List.mem_cons.1 hb with hb | hb
    · simp only [Prod.mk.injEq] at hb
      simp only [Nat.ble_eq] at hlt
      omega
    · obtain ⟨v, g1, g2⟩ := hpin b' n' hb j' hj
      refine ⟨v, g1, fun hs hm => ?_⟩
      rcases List.mem_cons.1 hm with rfl | hm
      · exact cell_ext (Ext.push h _) (hh _ (List.mem_append_right _ g1)).2.1
      · exact g2 hs hm)
  have l1 : CellsL i h.fresh 0 ws held (cellsOf i h.fresh 0 ws ++ held) := ⟨rfl⟩
  have hi : HeldIs (h.push (.cells ws t true)) (cellsOf i h.fresh 0 ws ++ held) := ⟨HeldOk.heldIn (H := (i, h.fresh) :: H) (B := (h.fresh, Box.cells wt t true) :: B) (F := F) fun e he => hh2 e (List.mem_append_left _ he)⟩
  exact WD_virt ho hpos k1
end Go.Ideal

-- IdealTk
set_option linter.unusedSimpArgs false
set_option linter.unusedVariables false
namespace Go.Ideal
open Go Go.RowKit
variable {P : Program} {X : Cx} {E : Env} {σ : Nat → Tr} {B B' : Boxes} {ops : Array Oper} {K : TK} {l : List Oper} {d : Option Tmp} {ty : TypeId} {pos : String} {af : Array Edge} {H : List (Nat × Nat)} {F : Mem} {s : Nat → Value} {h : IHp} {held : Held} {plan : List PStep} {ph : Bool}

/-! ### Boxes that are kept -/
class SubB (B' B : Boxes) : Prop where eq : B'.Sublist B
instance (priority := 1000) SubB.nil : SubB [] B := ⟨List.nil_sublist B⟩
instance (priority := 900) SubB.keep {p : Nat × Box} [i : SubB B' B] : SubB (p :: B') (p :: B) := ⟨i.eq.cons_cons p⟩
instance (priority := 800) SubB.skip {p : Nat × Box} [i : SubB B' B] : SubB B' (p :: B) := ⟨i.eq.cons p⟩

instance (priority := 950) SubB.same : SubB B B := ⟨List.Sublist.refl B⟩
theorem TR.perm (r : TR X F σ B s h) (p : B.Perm B') : TR X F σ B' s h :=
  ⟨r.ext, r.base, r.sub, r.own, fun q hq => r.box q (p.mem_iff.2 hq), fun q hq => r.sep q (p.mem_iff.2 hq), (p.map Prod.fst).nodup_iff.1 r.dis, r.gd, r.slot⟩
/-- B' is among B, in whatever order -/
class SubP (B B' : Boxes) : Prop where eq : ∃ C, B.Perm (B' ++ C)
instance (priority := 2000) SubP.nil : SubP B [] := ⟨B, List.Perm.refl B⟩
instance (priority := 1900) SubP.same : SubP B B := ⟨[], by simp⟩
instance (priority := 1000) SubP.cons {b : Nat} {x : Box} {B1 : Boxes} [d : BoxDel B b x B1] [k : SubP B1 B'] : SubP B ((b, x) :: B') := ⟨by
  obtain ⟨pre, post, h1, h2⟩ := d.eq
  obtain ⟨C, h3⟩ := k.eq
  refine ⟨C, ?_⟩
  rw [h1]
  refine List.perm_middle.trans ?_
  rw [← h2]
  exact h3.cons _⟩
instance (priority := 900) SubP.skip {p : Nat × Box} [k : SubP B B'] : SubP (p :: B) B' := ⟨by
  obtain ⟨C, h3⟩ := k.eq
  exact ⟨p :: C, (h3.cons p).trans List.perm_middle.symm⟩⟩
theorem SubP.last {k : Nat × Box} {L : Boxes} (h : SubP B (k :: L)) : SubP B (L ++ [k]) := ⟨by
  obtain ⟨C, h1⟩ := h.eq
  exact ⟨C, h1.trans ((List.perm_append_singleton k L).symm.append_right C)⟩⟩
theorem TR.keep (r : TR X F σ B s h) (k : SubP B B') : TR X F σ B' s h := by
  obtain ⟨C, h3⟩ := k.eq
  exact (r.perm h3).drop (List.sublist_append_left _ _)
theorem TV_keep {c : Code} {Q : IExit → TK} (B' : Boxes) [p : SubP B B'] (k : TV X P E c Q σ B') : TV X P E c Q σ B := by
  unfold TV at *; intro F s h r; exact k F s h (r.keep p)
/-- x == nil, of a slice that is read alone: it may be so if there is nothing in it -/
theorem TS_isnil {x : Operand} {t yt te : TypeId} {m : Nat} {rows : List (List Tr)} [e : TEval σ x (.sl m rows)] [u : UnderIs P t (.slice te)] (k : ∀ b : Bool, (b = true → rows = []) → TS X P E ops K l H (putT σ d (.v (.bool b))) B) : TS X P E ops K (⟨d, .binOp .eql t x (.const (.slice none 0 0)) yt, ty, pos, af, none⟩ :: l) H σ B := by
  unfold TS at *
  intro F s h held r hh
  have h1 := evalIs_self (s := s) (x := x) (h := h)
  have h2 := e.eq F s r.slot h 0 [] false
  simp only [Rep] at h2
  obtain ⟨a, n, c, h3, h4, h5, h6, h7, h8⟩ := h2
  rw [h3] at h1
  refine WS_isnil (k a.isNone (fun ha => ?_) F _ h held (r.put (rep_v _)) hh)
  cases a with
  | none => simp only at h8; exact List.eq_nil_of_length_eq_zero (by omega)
  | some a => cases ha

/-! ### One step, found by the goal's form -/
class StepC (goal : Prop) (next : outParam Prop) : Prop where go : next → goal
instance {a b : Code} {Q : IExit → TK} : StepC (TV X P E (.seq a b) Q σ B) (TV X P E a (TseqK X P E b Q) σ B) := ⟨TV_seq⟩
instance {id : Nat} {b : Code} {Q : IExit → TK} : StepC (TV X P E (.block id b) Q σ B) (TV X P E b (TblockK id Q) σ B) := ⟨TV_block⟩
instance {Q : IExit → TK} : StepC (TV X P E .skip Q σ B) (Q .normal σ B) := ⟨TV_skip⟩
instance {Q : IExit → TK} {id : Nat} : StepC (TV X P E (.exit id) Q σ B) (Q (.exit id) σ B) := ⟨TV_exit⟩
instance {Q : IExit → TK} : StepC (TV X P E .ret Q σ B) (Q .ret σ B) := ⟨TV_ret⟩
instance {id : Nat} {l : List Oper} {Q : IExit → TK} : StepC (TV X P E (.region id l.toArray false) Q σ B) (TS X P E l.toArray (Q .normal) l [] σ B) := ⟨TV_region⟩
instance {b : Code} {Q : IExit → TK} : StepC (TseqK X P E b Q .normal σ B) (TV X P E b Q σ B) := ⟨TSQ_normal⟩
instance {b : Code} {Q : IExit → TK} {j : Nat} : StepC (TseqK X P E b Q (.exit j) σ B) (Q (.exit j) σ B) := ⟨TSQ_exit⟩
instance {b : Code} {Q : IExit → TK} : StepC (TseqK X P E b Q .ret σ B) (Q .ret σ B) := ⟨TSQ_ret⟩
instance {id : Nat} {Q : IExit → TK} : StepC (TblockK id Q .normal σ B) (Q .normal σ B) := ⟨TB_normal⟩
instance {id : Nat} {Q : IExit → TK} : StepC (TblockK id Q .ret σ B) (Q .ret σ B) := ⟨TB_ret⟩
instance (priority := 1100) {id : Nat} {Q : IExit → TK} : StepC (TblockK id Q (.exit id) σ B) (Q .normal σ B) := ⟨TB_exit⟩
instance (priority := 900) {id j : Nat} {Q : IExit → TK} [n : BeqIs j id false] : StepC (TblockK id Q (.exit j) σ B) (Q (.exit j) σ B) := ⟨TB_pass n.eq⟩
instance {I : TK} {K : IExit → TK} : StepC (TcutK I K .normal σ B) (I σ B) := ⟨TC_normal⟩
instance {I : TK} {K : IExit → TK} {j : Nat} : StepC (TcutK I K (.exit j) σ B) (K (.exit j) σ B) := ⟨TC_exit⟩
instance {I : TK} {K : IExit → TK} : StepC (TcutK I K .ret σ B) (K .ret σ B) := ⟨TC_ret⟩
instance : StepC (TS X P E ops K [] H σ B) (K σ B) := ⟨TS_nil⟩
instance (priority := 100) {op : Op} {t : Tr} [p : Pu P σ B op t] : StepC (TS X P E ops K (⟨d, op, ty, pos, af, none⟩ :: l) H σ B) (TS X P E ops K l H (putT σ d t) B) := ⟨TS_pu⟩
instance {t : TypeId} {z : Value} {ws : List Value} {wt : List Tr} [zi : ZeroIs P t z] [cs : CellsOf z ws] [vt : ValsT ws wt] : StepC (TS X P E ops K (⟨d, .alloc t, ty, pos, af, none⟩ :: l) H σ B) (∀ b, TS X P E ops K l H (putT σ d (.v (.pointer (some (ad b 0))))) ((b, .cells wt t true) :: B)) := ⟨TS_alloc⟩
instance {t : TypeId} {x : Operand} {u : Tr} {cs : List Tr} [e : TEval σ x u] [c : CellsT u cs] : StepC (TS X P E ops K (⟨d, .box t x, ty, pos, af, none⟩ :: l) H σ B) (∀ b, TS X P E ops K l H (putT σ d (.v (.pointer (some (ad b 0))))) ((b, .cells cs t true) :: B)) := ⟨TS_box⟩
instance {x y : Operand} {t : TypeId} {b off n : Nat} {u : Tr} {ws cs r' : List Tr} {bt : Nat} {bx : Bool} [e1 : TEval σ x (.v (.pointer (some (ad b off))))] [e2 : TEval σ y u] [z : SizeIs P t n] [c : CellsT u ws] [bi : BoxIs B b (.cells cs bt bx)] [ln : LenT ws n] [si : SetT cs off ws r'] [bp : BoxPut B b b (.cells r' bt bx) B'] [ap : Apart B b H] : StepC (TS X P E ops K (⟨d, .store t x y, ty, pos, af, none⟩ :: l) H σ B) (TS X P E ops K l H (putT σ d (.v undef)) B') := ⟨TS_store⟩
instance {x y : Operand} {t : TypeId} {b m i j n : Nat} {u : Tr} {ws row row' : List Tr} {rows rows' : List (List Tr)} {bt : Nat} {bx : Bool} [e1 : TEval σ x (.v (elp b m i j))] [e2 : TEval σ y u] [z : SizeIs P t n] [c : CellsT u ws] [bi : BoxIs B b (.arr m rows bt bx)] [ng : NthG rows i row] [ln : LenT ws n] [si : SetT row j ws row'] [sr : SetR rows i row' rows'] [bp : BoxPut B b b (.arr m rows' bt bx) B'] [ap : Apart B b H] : StepC (TS X P E ops K (⟨d, .store t x y, ty, pos, af, none⟩ :: l) H σ B) (TS X P E ops K l H (putT σ d (.v undef)) B') := ⟨TS_store_arr⟩
theorem buildSlice_side {m len : Nat} (h1 : Nat.beq m 0 = false) (h2 : Nat.ble (len * m) 16777216 = true) : (m != 0 && decide (len * m ≤ 2 ^ 24)) = true := by
  simp only [Nat.ble_eq] at h2
  have : m ≠ 0 := fun h => by subst h; simp at h1
  simp [this]; omega
instance {t e : TypeId} {len m : Nat} {ps : List (Nat × Operand)} {pt : List (Nat × Tr)} {ts : List Tr} {rows : List (List Tr)} {z : Value} {wz : List Value} [u : UnderIs P t (.slice e)] [zi : SizeIs P e m] [ze : ZeroIs P e z] [cz : CellsOf z wz] [lz : LenT wz m] [p : TParts σ ps pt] [en : EnumT 0 pt ts] [ro : RowsT m ts rows] [lt : LenT ts len] [s1 : BeqIs m 0 false] [s2 : LeIs (len * m) 16777216 true] : StepC (TS X P E ops K (⟨d, .buildSlice t len ps.toArray, ty, pos, af, none⟩ :: l) H σ B) (∀ b, TS X P E ops K l H (putT σ d (.v (.slice (some (ad b 0)) len len))) ((b, .arr m rows e true) :: B)) := ⟨TS_buildSlice (buildSlice_side s1.eq s2.eq)⟩
instance : StepC (TDK X P E ops K plan H σ B) (TD X P E ops K plan H false σ B) := ⟨TDK_go⟩
instance : StepC (TD X P E ops K [] H ph σ B) (K σ B) := ⟨TD_nil⟩

/-! ### Parts of slices -/
theorem islice_hi {t e m len cap : Nat} {a : Addr} {j : Nat} {k : IntKind} [u : UnderIs P t (.slice e)] [z : SizeIs P e m] (hs : a.spot = none) (hj : j ≤ cap) (h : IHp) : islice P h t (.slice (some a) len cap) none (some (.int k j)) none = some (.slice (some (ad a.block a.off)) j cap) := by
  have ha : (ad a.block a.off) = a := by cases a; simp_all
  simp only [islice, u.eq, spotted, hs, Option.isSome_none, Bool.false_eq_true, if_false, ibounds, ibound]
  rw [if_pos (by omega)]
  simp [z.eq, hj]
/-- x[:j], of a slice of something -/
theorem Pu.slice_hi {x y : Operand} {t e m j : Nat} {rows : List (List Tr)} {k : IntKind} {i : Int} [e1 : TEval σ x (.sl m rows)] [e2 : TEval σ y (.v (.int k i))] [a : AsNat i j] [u : UnderIs P t (.slice e)] [z : SizeIs P e m] (hne : rows ≠ []) (hj : j ≤ rows.length) : Pu P σ B (.slice t x none (some y) none) (.sl m (rows.take j)) := ⟨fun {X F s h} q {_ _ _ _ _ _ _ _} kk => by
  have h1 := evalIs_self (s := s) (x := x) (h := h)
  have h2 := e1.eq F s q.slot h 0 [] false
  have h9 := e2.is q.slot
  rw [a.eq] at h9
  simp only [Rep] at h2
  obtain ⟨sa, n, c, h3, h4, h5, h6, h7, h8⟩ := h2
  rw [h3] at h1
  cases sa with
  | none => simp only at h8; have : rows = [] := List.eq_nil_of_length_eq_zero (by omega); exact absurd this hne
  | some a =>
    have hpos : 0 < rows.length := List.length_pos_iff.2 hne
    have hsp : a.spot = none := by
      rcases h7 a rfl with h | h
      · exact h
      · omega
    have e1' := h1.eq h
    refine WS_pure rfl rfl (v := .slice (some (ad a.block a.off)) j c) ?_ (kk _ ?_)
    · have g1 := ev_eq (E := by assumption) (h := h) (x := x) (s := s)
      have g2 := ev_eq (E := by assumption) (h := h) (x := y) (s := s)
      simp only [ipure, Option.map_none, Option.map_some, g1, g2]
      exact islice_hi hsp (by omega) h
    · simp only [Rep]
      refine ⟨_, j, c, rfl, by simp; omega, by omega, h6, fun d hd => ?_, ?_⟩
      · cases hd; exact .inl rfl
      · exact h8.take j⟩
/-! ### Bounds that lie in what is handed in -/
theorem TV_fact (i : Nat) {c : Code} {Q : IExit → TK} {t : Tr} [g : TGet σ i t] {p : Prop} (hp : ∀ F v, Rep F t v → p) (k : p → TV X P E c Q σ B) : TV X P E c Q σ B := by
  unfold TV at *
  intro F s h r
  exact k (hp F (s i) (by rw [← g.eq]; exact r.slot i)) F s h r
theorem rep_small {m : Nat} {rows : List (List Tr)} {v : Value} (h : Rep F (.sl m rows) v) : rows.length < 2 ^ 63 := by
  simp only [Rep] at h
  obtain ⟨a, n, c, _, h2, h3, h4, _⟩ := h
  omega
theorem rep_agg_at {cs : List Tr} {v : Value} (h : Rep F (.agg cs) v) {i : Nat} {t : Tr} (hi : cs[i]? = some t) : ∃ w, Rep F t w := by
  simp only [Rep] at h
  obtain ⟨vs, _, h1⟩ := h
  obtain ⟨w, _, h2⟩ := h1.get hi
  exact ⟨w, h2⟩
/-- a slice of nothing reads as no rows -/
class Cv (t t' : Tr) : Prop where eq : ∀ F v, Rep F t v → Rep F t' v
class CvL (ts ts' : List Tr) : Prop where eq : ∀ F vs, RepL F ts vs → RepL F ts' vs
instance (priority := 2000) Cv.refl {t : Tr} : Cv t t := ⟨fun _ _ h => h⟩
instance Cv.nil {m : Nat} : Cv (.v (.slice none 0 0)) (.sl m []) := ⟨fun F v h => by
  simp only [Rep] at h
  subst h
  rw [Rep]
  exact ⟨none, 0, 0, rfl, rfl, Nat.le_refl _, by decide, (fun d hd => by cases hd), rfl⟩⟩
instance (priority := 2000) CvL.nil : CvL [] [] := ⟨fun _ _ h => h⟩
instance CvL.cons {t t' : Tr} {ts ts' : List Tr} [a : Cv t t'] [b : CvL ts ts'] : CvL (t :: ts) (t' :: ts') := ⟨fun F vs h => by
  simp only [RepL] at h
  obtain ⟨v, ws, rfl, h1, h2⟩ := h
  exact RepL.cons (a.eq F v h1) (b.eq F ws h2)⟩
instance Cv.agg {ts ts' : List Tr} [a : CvL ts ts'] : Cv (.agg ts) (.agg ts') := ⟨fun F v h => by
  simp only [Rep] at *
  obtain ⟨vs, rfl, h1⟩ := h
  exact ⟨vs, rfl, a.eq F vs h1⟩⟩
theorem RetIs.conv {rs : List ResultVar} {ts ts' : List Tr} (r : RetIs P σ B rs ts) (c : CvL ts ts') : RetIs P σ B rs ts' := ⟨fun X F s h E q G o => by
  obtain ⟨vs, h1, h2⟩ := r.eq X F s h E q G o
  exact ⟨vs, h1, c.eq G vs h2⟩⟩
theorem retT_1c {a : ResultVar} {Φ : Tr → Prop} {e : IExit} {ts : List Tr} [r : RetIs P σ B [a] ts] (ts' : List Tr) [c : CvL ts ts'] (he : e = .normal ∨ e = .ret) (k : Φ (tret ts')) : retT P [a] Φ e σ B := retT_go (r := r.conv c) he k
theorem retT_2c {a b : ResultVar} {Φ : Tr → Prop} {e : IExit} {ts : List Tr} [r : RetIs P σ B [a, b] ts] (ts' : List Tr) [c : CvL ts ts'] (he : e = .normal ∨ e = .ret) (k : Φ (tret ts')) : retT P [a, b] Φ e σ B := retT_go (r := r.conv c) he k
theorem retT_1 {a : ResultVar} {Φ : Tr → Prop} {e : IExit} {ts : List Tr} [r : RetIs P σ B [a] ts] (he : e = .normal ∨ e = .ret) (k : Φ (tret ts)) : retT P [a] Φ e σ B := retT_go he k
theorem retT_2 {a b : ResultVar} {Φ : Tr → Prop} {e : IExit} {ts : List Tr} [r : RetIs P σ B [a, b] ts] (he : e = .normal ∨ e = .ret) (k : Φ (tret ts)) : retT P [a, b] Φ e σ B := retT_go he k
theorem retT_4 {a b c d : ResultVar} {Φ : Tr → Prop} {e : IExit} {ts : List Tr} [r : RetIs P σ B [a, b, c, d] ts] (he : e = .normal ∨ e = .ret) (k : Φ (tret ts)) : retT P [a, b, c, d] Φ e σ B := retT_go he k
end Go.Ideal

-- IdealTl
set_option linter.unusedSimpArgs false
set_option linter.unusedVariables false
namespace Go.Ideal
open Go Go.RowKit
variable {P : Program} {X : Cx} {E : Env} {σ : Nat → Tr} {B B' : Boxes} {ops : Array Oper} {K : TK} {l : List Oper} {d : Option Tmp} {ty : TypeId} {pos : String} {af : Array Edge} {H : List (Nat × Nat)} {F : Mem} {s : Nat → Value} {h : IHp} {held : Held}

/-! ### Loops over slices.Backward -/
/-- what is no cells may change -/
theorem TR.other {b : Nat} {o o' : IObj} (r : TR X F σ B s h) (a : AtIs h b o) (hn : ∀ c e x, o ≠ .cells c e x) (hb : X.h.fresh ≤ b) (hg : ∀ g ∈ X.G, g.1 / 2 ≠ b / 2) : TR X F σ B s (h.putObj b o') := by
  have hcell : ∀ b' off v, h.cell? b' off = some v → (h.putObj b o').cell? b' off = some v := by
    intro b' off v hc
    unfold IHp.cell? at *
    simp only [IHp.putObj]
    split
    · rename_i hbo; rw [if_pos hbo] at hc; exact hc
    · rename_i hbo
      rw [if_neg hbo] at hc
      have hne : b' / 2 ≠ b / 2 := by
        intro he
        rw [he, a.eq] at hc
        cases o with
        | cells c e x => exact hn _ _ _ rfl
        | _ => cases hc
      rw [List.getElem?_set_ne (fun h => hne h.symm)]; exact hc
  have hobj : ∀ b' vs t x, ObjIs h b' vs t x → ObjIs (h.putObj b o') b' vs t x := by
    intro b' vs t x oi
    have : NeB b' b := ⟨fun he => by
      have h1 := oi.eq
      rw [he, a.eq] at h1
      exact hn _ _ _ (Option.some.inj h1)⟩
    infer_instance
  refine ⟨r.ext.putObj hb, r.base, fun b' off v hf => hcell _ _ _ (r.sub _ _ _ hf), r.own, fun p hp => ?_, r.sep, r.dis, fun g hgm => ⟨⟨(r.gd g hgm).1.even, by
    simp only [IHp.putObj]
    rw [List.getElem?_set_ne (fun h => hg g hgm h.symm)]; exact (r.gd g hgm).1.eq⟩, (r.gd g hgm).2⟩, r.slot⟩
  have h1 := r.box p hp
  cases hx : p.2 with
  | cells cs t y => rw [hx] at h1; obtain ⟨vs, h2, h3⟩ := h1; exact ⟨vs, h2, hobj _ _ _ _ h3⟩
  | arr m rows t y =>
    rw [hx] at h1
    simp only [BoxRep] at h1 ⊢
    refine ⟨h1.1, ?_⟩
    rcases h1.2 with h2 | ⟨vs, h2, h3⟩
    · exact .inl h2
    · exact .inr ⟨vs, h2, hobj _ _ _ _ h3⟩
theorem TR.pushO {o : IObj} (r : TR X F σ B s h) : TR X F σ B s (h.push o) :=
  r.grow (Ext.push h o) (Sub.refl F) (fun b off v hf => cell_ext (Ext.push h o) (r.sub _ _ _ hf)) (fun b off v hf => .inl hf)
def FnPost (X : Cx) (Φ : Tr → Prop) : Value → IHp → Prop := fun v h' => Ext X.h h' ∧ ∃ F r, Sub X.F F ∧ Sub F h'.cell? ∧ (∀ b off v, F b off = some v → X.F b off = some v ∨ X.h.fresh ≤ b) ∧ Rep F r v ∧ Φ r
@[irreducible] def rangeT (X : Cx) (P : Program) (nt : Nat) (rs : List ResultVar) (f : Operand) (ps : Array Tmp) (ac bd t : Code) (Φ : Tr → Prop) : IExit → TK
  | .normal, σ, B => ∀ F s h, TR X F σ B s h → rangeK P nt rs f ps ac bd t (FnPost X Φ) .normal s h
  | e, σ, B => retT P rs Φ e σ B
theorem rangeT_ret {nt : Nat} {rs : List ResultVar} {f : Operand} {ps : Array Tmp} {ac bd t : Code} {Φ : Tr → Prop} (k : retT P rs Φ .ret σ B) : rangeT X P nt rs f ps ac bd t Φ .ret σ B := by unfold rangeT; exact k
/-- from the results' trees to what is asked of a function's end -/
theorem retK_of_retT {rs : List ResultVar} {Φ : Tr → Prop} {e : IExit} (r : TR X F σ B s h) (hk : retT P rs Φ e σ B) : retK P E rs (FnPost X Φ) e s h := by
  unfold retT at hk
  obtain ⟨he, ts, h3, h4⟩ := hk
  obtain ⟨ws, h5, h6⟩ := h3 _ F s h E r (thaw F B h) r.thawOk
  unfold retK
  refine ⟨he, ws, h5, r.ext, thaw F B h, tret ts, r.base.trans r.thawOk.sub, r.thawSub, fun b off v hf => ?_, ?_, h4⟩
  · rcases r.thawOwn b off v hf with h7 | h7
    · exact r.own b off v h7
    · exact .inr h7
  · have hl := h6.len
    match ts, ws, h6, hl with
    | [], [], _, _ => simp only [tret, iret, Rep]; exact ⟨[], rfl, RepL.nil⟩
    | [t], [v], h6, _ =>
      simp only [RepL] at h6
      obtain ⟨v', ws', h7, h8, _⟩ := h6
      simp only [List.cons.injEq] at h7
      obtain ⟨rfl, rfl⟩ := h7
      exact h8
    | t :: t2 :: ts, v :: v2 :: vs, h6, _ => simp only [tret, iret, Rep]; exact ⟨_, rfl, h6⟩
theorem TR.start {args : List Tr} {vs : List Value} {F0 : Mem} (h1 : Sub F0 h.cell?) (h2 : RepL F0 args vs) : TR ⟨h, F0, []⟩ F0 (argT args) [] (argS vs) h :=
  ⟨Ext.refl h, Sub.refl F0, h1, fun b off v hf => .inl hf, by simp, by simp, by simp, by simp, fun i => by
    by_cases hi : i < args.length
    · obtain ⟨v, h3, h4⟩ := h2.get (List.getElem?_eq_getElem hi)
      have h5 : argS vs i = v := by
        have hi2 := (List.getElem?_eq_some_iff.1 h3).1
        simp only [argS, Array.getD]
        rw [dif_pos (by simpa using hi2)]
        rw [List.getElem?_eq_getElem hi2] at h3
        simpa using Option.some.inj h3
      have h6 : argT args i = args[i] := by simp [argT, List.getD, hi]
      rw [h5, h6]; exact h4
    · have h5 : argS vs i = undef := by
        have := h2.len
        simp only [argS, Array.getD]
        rw [dif_neg (by simp; omega)]
      have h6 : argT args i = .v undef := by simp [argT, List.getD, hi]
      rw [h5, h6]; exact rep_v _⟩
theorem Fn_of_range {fid : FuncId} {fn : Func} {c a : Code} {id : Nat} {f : Operand} {ps : Array Tmp} {ac bd t : Code} {args : List Tr} {Φ : Tr → Prop} (hf : P.funcs[fid]? = some fn) (hb : fn.body = some c)
    (hs : splitR c = some (a, id, f, ps, ac, bd, t)) (hsz : args.length ≤ fn.ntmps)
    (hw : ∀ X, TV X P ⟨fn.ntmps, [], false⟩ a (rangeT X P fn.ntmps fn.results.toList f ps ac bd t Φ) (argT args) []) : Fn P fid args Φ := by
  unfold Fn
  intro F0 h vs h1 h2
  have hw := hw ⟨h, F0, []⟩
  unfold TV at hw
  refine EvX_of_range (Φ := FnPost ⟨h, F0, []⟩ Φ) hf hb hs (by rw [h2.len]; exact hsz) (V_mono ?_ (hw F0 _ h (TR.start h1 h2)))
  rintro e s' h' ⟨F', σ', B', r', hk⟩
  unfold rangeT at hk
  cases e with
  | normal => exact hk F' s' h' r'
  | exit j => simp only at hk; unfold retT at hk; obtain ⟨he, _⟩ := hk; rcases he with he | he <;> cases he
  | ret => unfold rangeK; exact retK_of_retT r' hk
/-- what slices.Backward's function does: from the last to the first -/
def BackSpec (P : Program) (G m : Nat) : Prop := ∀ (y bx off n cap : Nat) (sa : Option Addr) (cs : Nat → List Value) (I : Nat → IHp → Prop) (h : IHp), n < 2 ^ 62 →
    (∀ i h, i ≤ n → I i h → CellIs h bx off (.slice sa n cap)) → (∀ i h, i < n → I (i + 1) h → ∃ a, sa = some a ∧ RowIs h a.block (a.off + i * m) m (cs i)) →
    (∀ i h, i < n → I (i + 1) h → EvY P y [.int .i64 (i : Int), .agg (cs i).toArray].toArray h (fun v h' => v = .bool true ∧ I i h')) → I n h →
    EvX P G [.func (.yield y) #[] #[], .pointer (some (ad bx off))].toArray h (fun _ h' => I 0 h')
/-- a loop over slices.Backward of a slice that is read alone: the boxes change, the slots don't -/
theorem rangeT_back {nt G m : Nat} {rs : List ResultVar} {f : Operand} {p0 p1 : Tmp} {ac bd t : Code} {Φ : Tr → Prop} {rows : List (List Tr)} [cg : CallIs P G] (spec : BackSpec P G m) [e : TEval σ f (.fn G [] [.pf [.sl m rows]])] (J : Nat → Boxes → Prop) (hn : rows.length < 2 ^ 62)
    (first : J rows.length B)
    (round : ∀ X1 X2 i row B, rows[i]? = some row → J (i + 1) B → TV X1 P ⟨nt, [], true⟩ ac (fun e σ' B' => e = .normal ∧ TV X2 P ⟨nt, [], true⟩ bd (fun e σ' B' => e = .normal ∧ J i B') σ' B') (putT (putT σ (some p0) (.v (.int .i64 (i : Int)))) (some p1) (.agg row)) B)
    (last : ∀ B mk, J 0 B → ∀ X2, TV X2 P ⟨nt, [mk], false⟩ t (retT P rs Φ) σ B) : rangeT X P nt rs f #[p0, p1] ac bd t Φ .normal σ B := by
  unfold rangeT
  intro F s h r
  have hf := evalIs_self (s := s) (x := f) (h := h)
  have hf2 := e.eq F s r.slot h 0 [] false
  simp only [Rep, RepL] at hf2
  obtain ⟨va, vb, hf3, rfl, v1, _, rfl, ⟨bx, off, us, rfl, hrow, v2, _, rfl, ⟨sa, n, cap, rfl, hl, hc, _, _, hsa⟩, rfl⟩, rfl⟩ := hf2
  rw [hf3] at hf
  subst hl
  -- the rows' values
  have hcs : ∀ i, ∃ vs, ∀ row, rows[i]? = some row → RepL F row vs ∧ ∃ a, sa = some a ∧ rowM F a.block (a.off + i * m) m = some vs := by
    intro i
    cases hi : rows[i]? with
    | none => exact ⟨[], fun row hr => by cases hr⟩
    | some row =>
      cases sa with
      | none =>
        simp only at hsa
        have := (List.getElem?_eq_some_iff.1 hi).1
        omega
      | some a =>
        obtain ⟨vs, h1, h2⟩ := RepR.get hsa hi
        exact ⟨vs, fun row' hr => by cases hr; exact ⟨h2, a, rfl, h1⟩⟩
  obtain ⟨cs, hcs⟩ := Classical.axiomOfChoice hcs
  have hcell : F bx off = some (.slice sa rows.length cap) := by
    have := rowM_get hrow 0 (by simp)
    simpa using this
  obtain ⟨L, hL⟩ : ∃ L, L = IObj.loop nt s #[p0, p1] ac bd .ready none := ⟨_, rfl⟩
  obtain ⟨LB, hLB⟩ : ∃ L, L = IObj.loop nt s #[p0, p1] ac bd .busy none := ⟨_, rfl⟩
  have hLc : ∀ c e x, L ≠ .cells c e x := by intro c e x he; rw [hL] at he; cases he
  have hLBc : ∀ c e x, LB ≠ .cells c e x := by intro c e x he; rw [hLB] at he; cases he
  have hDc : ∀ c e x, IObj.defr ≠ .cells c e x := by intro c e x he; cases he
  have hlp : X.h.fresh ≤ h.fresh + 2 := Nat.le_trans r.ext.fresh (Nat.le_add_right _ _)
  have ndl : NeB h.fresh (h.fresh + 2) := ⟨by omega⟩
  have ndl' : NeB (h.fresh + 2) h.fresh := ⟨by omega⟩
  have hgl : ∀ g ∈ X.G, g.1 < h.fresh := fun g hg => (r.gd g hg).1.lt
  have hgne : ∀ g ∈ X.G, g.1 / 2 ≠ (h.fresh + 2) / 2 := fun g hg => by have := hgl g hg; unfold IHp.fresh at *; omega
  have hgnd : ∀ g ∈ X.G, g.1 / 2 ≠ h.fresh / 2 := fun g hg => by have := hgl g hg; unfold IHp.fresh at *; omega
  let I : Nat → IHp → Prop := fun i h' => ∃ F' B', TR X F' σ B' s h' ∧ Sub F F' ∧ J i B' ∧ AtIs h' h.fresh .defr ∧ AtIs h' (h.fresh + 2) L
  refine rangeK_go (g := G) (a := #[]) (c := #[.pointer (some (ad bx off))]) (Ψ := fun _ h3 => I 0 h3) ?_ ?_
  · have hA : ((#[] : Array Value) ++ #[.func (.yield (h.fresh + 2)) #[] #[]]) ++ #[.pointer (some (ad bx off))] = [.func (.yield (h.fresh + 2)) #[] #[], .pointer (some (ad bx off))].toArray := rfl
    rw [hA]
    refine spec (h.fresh + 2) bx off rows.length cap sa cs I _ hn ?_ ?_ ?_ ?_
    · rintro i h' _ ⟨F', B', r', hs, _, _, _⟩
      exact ⟨r'.sub _ _ _ (hs _ _ _ hcell)⟩
    · rintro i h' hi ⟨F', B', r', hs, _, _, _⟩
      obtain ⟨_, a, h2, h3⟩ := hcs i rows[i] (List.getElem?_eq_getElem hi)
      exact ⟨a, h2, r'.rowF (rowM_sub hs h3)⟩
    · rintro i h' hi ⟨F', B', r', hs, hJ, hD, hLo⟩
      obtain ⟨hrep, _⟩ := hcs i rows[i] (List.getElem?_eq_getElem hi)
      rw [hL] at hLo
      have hslots : putAll s ([p0, p1].zip [.int .i64 (i : Int), .agg (cs i).toArray]) = putS (putS s (some p0) (.int .i64 (i : Int))) (some p1) (.agg (cs i).toArray) := rfl
      refine EvY_of hLo rfl ?_
      show V P ⟨nt, [], true⟩ ac _ (putAll s ([p0, p1].zip [.int .i64 (i : Int), .agg (cs i).toArray])) h'
      rw [hslots]
      have r1 := (r'.put (d := some p0) (rep_v (.int .i64 (i : Int)))).put (d := some p1) (t := .agg rows[i]) (v := .agg (cs i).toArray) (by simp only [Rep]; exact ⟨_, rfl, hrep.sub hs⟩)
      have hround := round ⟨X.h, F, (h.fresh, .defr) :: (h.fresh + 2, L) :: X.G⟩ ⟨X.h, F, (h.fresh, .defr) :: (h.fresh + 2, LB) :: X.G⟩ i rows[i] B' (List.getElem?_eq_getElem hi) hJ
      unfold TV at hround
      have own1 : ∀ {F'' : Mem}, (∀ b off v, F'' b off = some v → X.F b off = some v ∨ X.h.fresh ≤ b) → ∀ b off v, F'' b off = some v → F b off = some v ∨ X.h.fresh ≤ b := fun ho b off v hf => by
        rcases ho b off v hf with h1 | h1
        · exact .inl (r.base _ _ _ h1)
        · exact .inr h1
      have own2 : ∀ {F'' : Mem}, (∀ b off v, F'' b off = some v → F b off = some v ∨ X.h.fresh ≤ b) → ∀ b off v, F'' b off = some v → X.F b off = some v ∨ X.h.fresh ≤ b := fun ho b off v hf => by
        rcases ho b off v hf with h1 | h1
        · exact r.own _ _ _ h1
        · exact .inr h1
      rw [← hL] at hLo
      have r2 : TR ⟨X.h, F, (h.fresh, .defr) :: (h.fresh + 2, L) :: X.G⟩ F' (putT (putT σ (some p0) (.v (.int .i64 (i : Int)))) (some p1) (.agg rows[i])) B' (putS (putS s (some p0) (.int .i64 (i : Int))) (some p1) (.agg (cs i).toArray)) h' :=
        ⟨r1.ext, hs, r1.sub, own1 r1.own, r1.box, r1.sep, r1.dis, fun g hg => by
          rcases List.mem_cons.1 hg with rfl | hg
          · exact ⟨hD, hDc⟩
          · rcases List.mem_cons.1 hg with rfl | hg
            · exact ⟨hLo, hLc⟩
            · exact r1.gd g hg, r1.slot⟩
      refine V_mono ?_ (hround F' _ h' r2)
      rintro e s2 h2 ⟨F2, σ2, B2, t2, rfl, hbd⟩
      have a2 := (t2.gd (h.fresh + 2, L) (by simp)).1
      have d2 := (t2.gd (h.fresh, .defr) (by simp)).1
      rw [hL] at a2
      refine roundK_go (i := a2) ?_
      rw [← hLB]
      rw [← hL] at a2
      have t3 : TR ⟨X.h, F, (h.fresh, .defr) :: (h.fresh + 2, LB) :: X.G⟩ F2 σ2 B2 s2 (h2.putObj (h.fresh + 2) LB) := by
        have u : TR ⟨X.h, F, X.G⟩ F2 σ2 B2 s2 h2 := ⟨t2.ext, t2.base, t2.sub, t2.own, t2.box, t2.sep, t2.dis, fun g hg => t2.gd g (List.mem_cons_of_mem _ (List.mem_cons_of_mem _ hg)), t2.slot⟩
        have u2 := u.other (o' := LB) a2 hLc hlp hgne
        refine ⟨u2.ext, u2.base, u2.sub, u2.own, u2.box, u2.sep, u2.dis, fun g hg => ?_, u2.slot⟩
        rcases List.mem_cons.1 hg with rfl | hg
        · exact ⟨inferInstance, hDc⟩
        · rcases List.mem_cons.1 hg with rfl | hg
          · exact ⟨a2.put, hLBc⟩
          · exact u2.gd g hg
      refine V_mono ?_ (hbd F2 s2 _ t3)
      rintro e s4 h4 ⟨F4, σ4, B4, t4, rfl, hJ4⟩
      have a4 := (t4.gd (h.fresh + 2, LB) (by simp)).1
      have d4 := (t4.gd (h.fresh, .defr) (by simp)).1
      rw [hLB] at a4
      refine roundK2_go (i := a4) ⟨rfl, ?_⟩
      rw [← hL]
      rw [← hLB] at a4
      have u4 : TR ⟨X.h, F, X.G⟩ F4 σ4 B4 s4 h4 := ⟨t4.ext, t4.base, t4.sub, t4.own, t4.box, t4.sep, t4.dis, fun g hg => t4.gd g (List.mem_cons_of_mem _ (List.mem_cons_of_mem _ hg)), t4.slot⟩
      have u5 := u4.other (o' := L) a4 hLBc hlp hgne
      exact ⟨F4, B4, ⟨u5.ext, r.base.trans u5.base, u5.sub, own2 u5.own, u5.box, u5.sep, u5.dis, u5.gd, fun j => (r.slot j).sub u5.base⟩, u5.base, hJ4, inferInstance, a4.put⟩
    · exact ⟨F, B, r.pushO.pushO, Sub.refl F, first, inferInstance, by
        have hf2 : (h.push .defr).fresh = h.fresh + 2 := push_fresh _ _
        rw [hL, ← hf2]; infer_instance⟩
  · rintro v h3 ⟨F', B', r', hs, hJ, hD, hLo⟩
    rw [hL] at hLo
    refine ⟨_, _, _, _, _, hLo, rfl, ?_⟩
    rw [← hL] at hLo
    obtain ⟨LE, hLE⟩ : ∃ L, L = IObj.loop nt s #[p0, p1] ac bd .exhausted none := ⟨_, rfl⟩
    rw [← hLE]
    have r2 := r'.other (o' := LE) hLo hLc hlp hgne
    have hl := last B' (h.fresh / 2) hJ ⟨X.h, X.F, (h.fresh, .defr) :: X.G⟩
    unfold TV at hl
    have r3 : TR ⟨X.h, X.F, (h.fresh, .defr) :: X.G⟩ F' σ B' s (h3.putObj (h.fresh + 2) LE) := ⟨r2.ext, r2.base, r2.sub, r2.own, r2.box, r2.sep, r2.dis, fun g hg => by
      rcases List.mem_cons.1 hg with rfl | hg
      · exact ⟨inferInstance, hDc⟩
      · exact r2.gd g hg, r2.slot⟩
    refine V_mono ?_ (hl F' s _ r3)
    rintro e s5 h5 ⟨F5, σ5, B5, t5, hk⟩
    have d5 := (t5.gd (h.fresh, .defr) (by simp)).1
    refine tailK_go (i := d5) ?_
    have u5 : TR X F5 σ5 B5 s5 h5 := ⟨t5.ext, t5.base, t5.sub, t5.own, t5.box, t5.sep, t5.dis, fun g hg => t5.gd g (List.mem_cons_of_mem _ hg), t5.slot⟩
    exact retK_of_retT (u5.other (o' := .dead) d5 hDc r.ext.fresh hgnd) hk
end Go.Ideal

-- IdealTm
set_option linter.unusedSimpArgs false
set_option linter.unusedVariables false
namespace Go.Ideal
open Go Go.RowKit
variable {P : Program} {X : Cx} {E : Env} {σ : Nat → Tr} {B B' : Boxes} {ops : Array Oper} {K : TK} {l : List Oper} {d : Option Tmp} {ty : TypeId} {pos : String} {af : Array Edge} {H : List (Nat × Nat)} {F : Mem} {s : Nat → Value} {h : IHp} {held : Held}

/-! ### Room: cap, parts of own slices, append of a made slice, append that stays -/
instance Pu.cap_nil {x : Operand} {t te : TypeId} [e : TEval σ x (.v (.slice none 0 0))] [u : UnderIs P t (.slice te)] : Pu P σ B (.call ⟨.builtin .cap, #[x], #[t]⟩) (.v (.int .i64 0)) := ⟨fun {X F s h} q {E' _ _ _ _ _ _ _} kk => by
  have := e.is q.slot
  refine WS_pure rfl rfl ?_ (kk _ (rep_v _))
  have h1 := ev_eq (E := E') (h := h) (x := x) (s := s)
  simp [ipure, u.eq, h1]⟩
theorem Pu.slice_own {x y : Operand} {t e m j b len cap : Nat} {k : IntKind} {i : Int} [e1 : TEval σ x (.v (.slice (some (ad b 0)) len cap))] [e2 : TEval σ y (.v (.int k i))] [a : AsNat i j] [u : UnderIs P t (.slice e)] [z : SizeIs P e m] (hj : j ≤ cap) : Pu P σ B (.slice t x none (some y) none) (.v (.slice (some (ad b 0)) j cap)) := ⟨fun {X F s h} q {E' _ _ _ _ _ _ _} kk => by
  have h1 := e1.is q.slot
  have h9 := e2.is q.slot
  rw [a.eq] at h9
  have g1 := ev_eq (E := E') (h := h) (x := x) (s := s)
  have g2 := ev_eq (E := E') (h := h) (x := y) (s := s)
  refine WS_pure rfl rfl ?_ (kk _ (rep_v _))
  simp only [ipure, Option.map_none, Option.map_some, g1, g2]
  exact islice_hi rfl hj h⟩
theorem Pu.slice_nil {x y : Operand} {t e m : Nat} {k : IntKind} [e1 : TEval σ x (.v (.slice none 0 0))] [e2 : TEval σ y (.v (.int k 0))] [u : UnderIs P t (.slice e)] [z : SizeIs P e m] : Pu P σ B (.slice t x none (some y) none) (.v (.slice none 0 0)) := ⟨fun {X F s h} q {E' _ _ _ _ _ _ _} kk => by
  have h1 := e1.is q.slot
  have h9 := e2.is q.slot
  have g1 := ev_eq (E := E') (h := h) (x := x) (s := s)
  have g2 := ev_eq (E := E') (h := h) (x := y) (s := s)
  refine WS_pure rfl rfl ?_ (kk _ (rep_v _))
  simp only [ipure, Option.map_none, Option.map_some, g1, g2]
  simp [islice, u.eq, z.eq, spotted, ibounds, ibound]⟩
theorem TS_append_make {x y : Operand} {t t1 e by_ m : Nat} {k1 : IntKind} {n : Int} {j : Nat} {z : Value} {wz : List Value} {wt : List Tr} [e1 : TEval σ x (.v (.slice none 0 0))] [e2 : TEval σ y (.v (.int .i64 n))] [a : AsNat n j] [u : UnderIs P t (.slice e)] [u1 : UnderIs P t1 (.int k1)] [bi : BytesIs P e m by_] [zi : ZeroIs P e z] [cz : CellsOf z wz] [lz : LenT wz m] [vt : ValsT wz wt] (hj : j ≠ 0) (h1 : j * by_ ≤ 2 ^ 40)
    (k : ∀ b, TS X P E ops K l H (putT σ d (.v (.slice (some (ad b 0)) j j))) ((b, .arr m (List.replicate j wt) e false) :: B)) : TS X P E ops K (⟨d, .call ⟨.builtin .append, #[x, y], #[t, t1]⟩, ty, pos, af, none⟩ :: l) H σ B := by
  unfold TS at *
  intro F s h held r hh
  obtain ⟨ei, z', i1, i2, i3, i4, i5, i6, i7⟩ := bi.eq
  have e1' := e1.is r.slot
  have e2' := e2.is r.slot
  rw [a.eq] at e2'
  have hz : z.cells = wz.toArray := cz.eq
  have hrow : isRowV z = true := by unfold isRowV; rw [hz]; exact cz.ok
  have hlz := lz.eq
  have hs : z.cells.size = m := by rw [hz]; simpa using hlz
  have hne : wz ≠ [] := by intro h0; subst h0; simp at hlz; omega
  have hiz : izeros z.cells (j * m) = (List.replicate j wz).flatten := by rw [hz, ← hlz]; exact izeros_rows wz hne j
  refine WS_heap rfl (v := .slice (some (ad h.fresh 0)) j j) (h' := h.push (.cells (List.replicate j wz).flatten e false)) ?_ (k h.fresh F _ _ held ((r.push (x' := .arr m (List.replicate j wt) e false) ?_).put (rep_v _)) ?_)
  · have e1'' := ev_eq (E := E) (h := h) (x := x) (s := s)
    have e2'' := ev_eq (E := E) (h := h) (x := y) (s := s)
    show (if (#[x, y].size = 2) then iappend P h #[t, t1] (#[x, y].map (E.st s h).eval) else none) = _
    rw [if_pos (show #[x, y].size = 2 from rfl)]
    simp only [List.map_toArray, List.map_cons, List.map_nil, e1'', e2'', iappend, List.getElem?_toArray, List.getElem?_cons_zero, List.getElem?_cons_succ, u.eq, u1.eq, Int.toNat_natCast]
    rw [if_pos (by omega)]
    simp only [iappmake, i1, Option.bind_some, zi.eq, hs, i3, hrow]
    rw [if_neg (by simp; omega), if_pos ⟨by first | rfl | trivial, by first | rfl | trivial, by first | rfl | trivial, hj, by rw [i4]; omega, by rw [i4]; exact h1⟩, hiz]
  · simp only [BoxRep]
    refine ⟨fun row hr => ?_, .inr ⟨_, ?_, inferInstance⟩⟩
    · rw [(List.mem_replicate.1 hr).2, ← vt.eq]; simpa using hlz
    · rw [← vt.eq]
      clear h1 hj hiz e1' e2' k a e1 e2
      induction j with
      | zero => simpa using RepL.nil
      | succ j ih => simp only [List.replicate_succ, List.flatten_cons]; exact (repL_vals wz).append ih
  · exact hh.keys (fun b off v hc => cell_ext (Ext.push h _) hc) (Sub.refl F) (fun b hb => by rw [List.map_cons]; exact List.mem_cons_of_mem _ hb)
theorem setAllT_mid {α : Type} : ∀ (ws a b c : List α), b.length = ws.length → setAllT (a ++ (b ++ c)) a.length ws = a ++ (ws ++ c) := by
  intro ws
  induction ws with
  | nil => intro a b c h; have := List.eq_nil_of_length_eq_zero h; subst this; rfl
  | cons w ws ih =>
    intro a b c h
    cases b with
    | nil => simp at h
    | cons b0 b =>
      have h1 : (a ++ (b0 :: b ++ c)).set a.length w = (a ++ [w]) ++ (b ++ c) := by simp
      have h2 := ih (a ++ [w]) b c (by simpa using h)
      simp only [setAllT, h1]
      rw [show a.length + 1 = (a ++ [w]).length by simp, h2]
      simp
/-- append within the room that is there -/
theorem TS_append_in {x y : Operand} {t e by_ m b n cp n2 : Nat} {y' : Tr} {rows rows2 : List (List Tr)} {bx : Bool} [e1 : TEval σ x (.v (.slice (some (ad b 0)) n cp))] [e2 : TEval σ y y'] [u : UnderIs P t (.slice e)] [bi : BytesIs P e m by_] [bb : BoxIs B b (.arr m rows e bx)] [rx : RealX rows bx] [ln : LenT rows cp] [sr : SrcT B y' m rows2] [ln2 : LenO rows2 n2] [ap : Apart B b H] [bp : BoxPut B b b (.arr m (rows.take n ++ (rows2 ++ rows.drop (n + n2))) e bx) B'] (hc : n + n2 ≤ cp) (hr : (n + n2) * by_ ≤ 2 ^ 47 + 2 ^ 20)
    (k : TS X P E ops K l H (putT σ d (.v (.slice (some (ad b 0)) (n + n2) cp))) B') : TS X P E ops K (⟨d, .call ⟨.builtin .append, #[x, y], #[t, t]⟩, ty, pos, af, none⟩ :: l) H σ B := by
  unfold TS at *
  intro F s h held r hh
  have e1' := e1.is r.slot
  have e2' := evalIs_self (s := s) (x := y) (h := h)
  obtain ⟨a, n2', c, us, h1, h2, h3, h4, h5⟩ := sr.eq X F σ s h r _ (e2.eq F s r.slot h 0 [] false)
  rw [h1] at e2'
  rw [ln2.eq] at h2
  have h2 := h2.symm
  subst h2
  have hb := r.boxOf bb
  have hl := ln.eq
  have hl2 := ln2.eq
  obtain ⟨vs, g1, g2⟩ := rx.even hb
  simp only [BoxRep] at hb
  have hvl : vs.length = cp * m := by rw [g1.len, flat_len hb.1, hl]
  obtain ⟨ei, z', i1, i2, i3, i4, i5, i6, i7⟩ := bi.eq
  have hul : us.length = n2 * m := by rw [h4.len, flat_len h5, hl2]
  have hin : n * m + us.length ≤ vs.length := by
    rw [hul, hvl, ← Nat.add_mul]; exact Nat.mul_le_mul_right m hc
  have hset := setRow_obj us g2 (n * m) hin
  have hsplit : rows.flatten = (rows.take n).flatten ++ (((rows.drop n).take n2).flatten ++ (rows.drop (n + n2)).flatten) := by
    rw [← List.flatten_append, ← List.flatten_append]
    congr 1
    conv => lhs; rw [← List.take_append_drop n rows, ← List.take_append_drop n2 (rows.drop n), List.drop_drop]
  have hA : ∀ row ∈ rows.take n, row.length = m := fun row hr => hb.1 row (List.mem_of_mem_take hr)
  have hM : ∀ row ∈ (rows.drop n).take n2, row.length = m := fun row hr => hb.1 row (List.mem_of_mem_drop (List.mem_of_mem_take hr))
  have hfl : setAllT rows.flatten (n * m) rows2.flatten = (rows.take n ++ (rows2 ++ rows.drop (n + n2))).flatten := by
    have e3 : (rows.take n).flatten.length = n * m := by rw [flat_len hA, List.length_take, Nat.min_eq_left (by omega)]
    have e4 : ((rows.drop n).take n2).flatten.length = rows2.flatten.length := by
      rw [flat_len hM, flat_len h5, List.length_take, List.length_drop, hl2, Nat.min_eq_left (by omega)]
    rw [hsplit, ← e3, setAllT_mid _ _ _ _ e4, List.flatten_append, List.flatten_append]
  have hrep : BoxRep F (h.put b (setAll vs (n * m) us) e bx) b (.arr m (rows.take n ++ (rows2 ++ rows.drop (n + n2))) e bx) := by
    simp only [BoxRep]
    refine ⟨all_app hA (all_app h5 fun row hr => hb.1 row (List.mem_of_mem_drop hr)), .inr ⟨_, ?_, g2.put⟩⟩
    rw [← hfl]
    exact RepL.setAll h4 g1
  have r' : TR X F σ B' s (h.put b (setAll vs (n * m) us) e bx) := by
    obtain ⟨pre, old, post, p1, p2⟩ := bp.eq
    rw [p2]
    rw [p1] at r
    exact r.modify rfl (put_keep g2.even) (.inl rfl) hrep
  refine WS_heap rfl (heap_append e1' e2' ?_) (k F _ _ held (r'.put (rep_v _)) (hh.modify bp r r' ap rfl (put_keep g2.even)))
  have hroom : roomOk ((n + n2) * by_) = true := by simp [roomOk]; omega
  simp only [iappend, List.getElem?_toArray, List.getElem?_cons_zero, List.getElem?_cons_succ, u.eq, i1, i2, i3, i4, h3, Option.bind_some, i5, i6, i7]
  simp [spotted, hroom, hc, hset, i5, i6, i7]

/-! ### Functions that answer own memory -/
@[irreducible] def FnO (P : Program) (f : FuncId) (args : List Tr) (Φ : Tr → Boxes → Prop) : Prop := ∀ (F0 : Mem) (h : IHp) (vs : List Value), Sub F0 h.cell? → RepL F0 args vs → EvX P f vs.toArray h (fun v h' => ∃ F r B, TR ⟨h, F0, []⟩ F (fun _ => r) B (fun _ => v) h' ∧ (∀ p ∈ B, p.1 % 2 = 0) ∧ Φ r B)
theorem TR.join {F1 : Mem} {h' : IHp} {r1 : Tr} {B1 : Boxes} {v : Value} (r : TR X F σ B s h) (q : TR ⟨h, F, []⟩ F1 (fun _ => r1) B1 (fun _ => v) h') (ev : ∀ p ∈ B1, p.1 % 2 = 0) : TR X F1 (putT σ d r1) (B1 ++ B) (putS s d v) h' := by
  have g := (r.grow q.ext q.base q.sub q.own).put (d := d) (q.slot 0)
  refine ⟨g.ext, g.base, g.sub, g.own, fun p hp => ?_, fun p hp he => ?_, ?_, g.gd, g.slot⟩
  · rcases List.mem_append.1 hp with h1 | h1
    · exact q.box p h1
    · exact g.box p h1
  · rcases List.mem_append.1 hp with h1 | h1
    · have := q.sep p h1 he
      exact ⟨Nat.le_trans r.ext.fresh this.1, this.2⟩
    · exact g.sep p h1 he
  · rw [List.map_append, List.nodup_append]
    refine ⟨q.dis, r.dis, ?_⟩
    intro a ha b hb hab
    subst hab
    obtain ⟨p, hp, rfl⟩ := List.mem_map.1 ha
    obtain ⟨p2, hp2, he⟩ := List.mem_map.1 hb
    have h1 := ev p hp
    have h2 := (q.sep p hp h1).1
    have h3 := (r.box p2 hp2).lt (by rw [he]; exact h1)
    simp only at h2
    omega
theorem TS_callO {f : FuncId} {ps : List Operand} {ts : List Tr} {at_ : Array TypeId} {Φ : Tr → Boxes → Prop} [c : CallIs P f] [e : TEvals σ ps ts] (hc : FnO P f ts Φ) (k : ∀ r B1, Φ r B1 → TS X P E ops K l H (putT σ d r) (B1 ++ B)) :
    TS X P E ops K (⟨d, .call ⟨.value (.func f), ps.toArray, at_⟩, ty, pos, af, none⟩ :: l) H σ B := by
  unfold TS at *
  unfold FnO at hc
  intro F s h held r hh
  have he : EvalsIs s ps (ps.map (St.eval ⟨s, h, 0, [], false⟩)) := ⟨fun h' nt mk rd => by
    apply List.map_congr_left
    intro x _
    exact (evalIs_self (s := s) (x := x) (h := h)).eq h' nt mk rd⟩
  refine WS_call (hc F h _ r.sub (e.eq F s r.slot h 0 [] false)) ?_
  rintro v h' ⟨F1, r1, B1, q, ev, a5⟩
  exact k r1 B1 a5 F1 _ h' held (r.join q ev) (hh.keys (fun b off v hc => cell_ext q.ext hc) q.base (fun b hb => by rw [List.map_append]; exact List.mem_append_right _ hb))
/-- the answer holds a slice that may grow -/
theorem TS_callG {f : FuncId} {ps : List Operand} {ts : List Tr} {at_ : Array TypeId} {n m e : Nat} {rows : List (List Tr)} (g : Value → Tr) [c : CallIs P f] [ev : TEvals σ ps ts] (hc : FnO P f ts (fun r B => ∃ b, r = g (gsv b n) ∧ B = (if n = 0 then [] else [(b, .arr m rows e false)]))) (h0 : n = 0 → rows = []) (k : ∀ b, TS X P E ops K l H (putT σ d (g (gsv b n))) ((b, .arr m rows e false) :: B)) :
    TS X P E ops K (⟨d, .call ⟨.value (.func f), ps.toArray, at_⟩, ty, pos, af, none⟩ :: l) H σ B := by
  refine TS_callO hc ?_
  rintro _ B1 ⟨b, rfl, rfl⟩
  by_cases hn : n = 0
  · rw [if_pos hn, List.nil_append]
    refine TS_ghost m e fun b' => ?_
    have h1 : gsv b n = gsv b' n := by simp [gsv, hn]
    rw [h1, ← h0 hn]
    exact k b'
  · rw [if_neg hn, List.singleton_append]
    exact k b
/-- results as they are, own memory and all -/
def RetTO (P : Program) (σ : Nat → Tr) (B : Boxes) (rs : List ResultVar) (ts : List Tr) : Prop := ∀ X F s h E, TR X F σ B s h → ∃ vs, iresults P (Env.st E s h) rs = some vs ∧ RepL F ts vs
class RetIsO (P : Program) (σ : Nat → Tr) (B : Boxes) (rs : List ResultVar) (ts : outParam (List Tr)) : Prop where eq : RetTO P σ B rs ts
instance RetIsO.nil : RetIsO P σ B [] [] := ⟨fun X F s h E r => ⟨[], rfl, RepL.nil⟩⟩
instance RetIsO.tmp {i : Nat} {t : Tr} {rs : List ResultVar} {ts : List Tr} [g : TGet σ i t] [k : RetIsO P σ B rs ts] : RetIsO P σ B (.tmp i :: rs) (t :: ts) := ⟨fun X F s h E r => by
  obtain ⟨vs, h1, h2⟩ := k.eq X F s h E r
  refine ⟨s i :: vs, by simp only [Env.st] at h1 ⊢; simp only [iresults, h1, Option.map_some], RepL.cons ?_ h2⟩
  rw [← g.eq]; exact r.slot i⟩
instance RetIsO.cell_agg {i ct b off n bt : Nat} {bx : Bool} {cs r1 r2 : List Tr} {rs : List ResultVar} {ts : List Tr} [g : TGet σ i (.v (.pointer (some (ad b off))))] [a : AggIs P ct true] [z : SizeIs P ct n] [bi : BoxIs B b (.cells cs bt bx)] [dr : DropT cs off r1] [tk : TakeT r1 n r2] [k : RetIsO P σ B rs ts] : RetIsO P σ B (.cell i ct :: rs) (.agg r2 :: ts) := ⟨fun X F s h E r => by
  obtain ⟨vs, h1, h2⟩ := k.eq X F s h E r
  have h3 := (g.is r).eq
  obtain ⟨us, h4, h5⟩ := r.boxOf bi
  obtain ⟨ws, h6, h7⟩ := h4.row h5 dr tk
  refine ⟨.agg ws.toArray :: vs, ?_, RepL.cons ?_ h2⟩
  · simp only [Env.st] at h1 ⊢; simp only [iresults, h1, Option.map_some, h3, iload, a.eq, Option.bind_some, z.eq, h6.eq]
  · simp only [Rep]; exact ⟨ws, rfl, h7⟩⟩
instance RetIsO.cell {i ct b off bt : Nat} {bx : Bool} {cs : List Tr} {t : Tr} {rs : List ResultVar} {ts : List Tr} [g : TGet σ i (.v (.pointer (some (ad b off))))] [a : AggIs P ct false] [bi : BoxIs B b (.cells cs bt bx)] [ng : NthG cs off t] [k : RetIsO P σ B rs ts] : RetIsO P σ B (.cell i ct :: rs) (t :: ts) := ⟨fun X F s h E r => by
  obtain ⟨vs, h1, h2⟩ := k.eq X F s h E r
  have h3 := (g.is r).eq
  obtain ⟨us, h4, h5⟩ := r.boxOf bi
  obtain ⟨v, h6, h7⟩ := h4.get ng.eq
  refine ⟨v :: vs, ?_, RepL.cons h7 h2⟩
  simp only [Env.st] at h1 ⊢
  simp only [iresults, h1, Option.map_some, h3, iload, a.eq, Option.bind_some, h5.cell, h6]⟩
/-- no ghost -/
def BoxReal : Box → Prop
  | .cells _ _ _ => True
  | .arr _ rows _ x => rows = [] → x = true
theorem BoxRep.real {b : Nat} {x : Box} (r : BoxRep F h b x) (hr : BoxReal x) : b % 2 = 0 := by
  cases x with
  | cells cs t y => obtain ⟨vs, _, o⟩ := r; exact o.even
  | arr m rows t y =>
    simp only [BoxRep] at r
    rcases r.2 with ⟨h1, h2, _⟩ | ⟨vs, _, o⟩
    · have := hr h1; rw [h2] at this; cases this
    · exact o.even
@[irreducible] def retTO (P : Program) (rs : List ResultVar) (Φ : Tr → Boxes → Prop) : IExit → TK := fun e σ B => (e = .normal ∨ e = .ret) ∧ ∃ ts B', RetTO P σ B rs ts ∧ SubP B B' ∧ (∀ p ∈ B', BoxReal p.2) ∧ Φ (tret ts) B'
theorem retO_go {rs : List ResultVar} {Φ : Tr → Boxes → Prop} {e : IExit} {ts : List Tr} (B' : Boxes) [r : RetIsO P σ B rs ts] [sp : SubP B B'] (he : e = .normal ∨ e = .ret) (hb : ∀ p ∈ B', BoxReal p.2) (k : Φ (tret ts) B') : retTO P rs Φ e σ B := by unfold retTO; exact ⟨he, ts, B', r.eq, sp, hb, k⟩
theorem retO_1 {a : ResultVar} {Φ : Tr → Boxes → Prop} {e : IExit} {ts : List Tr} (B' : Boxes) [r : RetIsO P σ B [a] ts] [sp : SubP B B'] (he : e = .normal ∨ e = .ret) (hb : ∀ p ∈ B', BoxReal p.2) (k : Φ (tret ts) B') : retTO P [a] Φ e σ B := retO_go B' he hb k
theorem retO_2 {a b : ResultVar} {Φ : Tr → Boxes → Prop} {e : IExit} {ts : List Tr} (B' : Boxes) [r : RetIsO P σ B [a, b] ts] [sp : SubP B B'] (he : e = .normal ∨ e = .ret) (hb : ∀ p ∈ B', BoxReal p.2) (k : Φ (tret ts) B') : retTO P [a, b] Φ e σ B := retO_go B' he hb k
theorem FnO_of {f : FuncId} {fn : Func} {c : Code} {args : List Tr} {Φ : Tr → Boxes → Prop} (hf : P.funcs[f]? = some fn) (hb : fn.body = some c) (hsz : args.length ≤ fn.ntmps)
    (hw : ∀ X, TV X P ⟨fn.ntmps, [], false⟩ c (retTO P fn.results.toList Φ) (argT args) []) : FnO P f args Φ := by
  unfold FnO
  intro F0 h vs h1 h2
  have hr : TR ⟨h, F0, []⟩ F0 (argT args) [] (argS vs) h := ⟨Ext.refl h, Sub.refl F0, h1, fun b off v hf => .inl hf, by simp, by simp, by simp, by simp, fun i => by
    by_cases hi : i < args.length
    · obtain ⟨v, h3, h4⟩ := h2.get (List.getElem?_eq_getElem hi)
      have h5 : argS vs i = v := by
        have hi2 := (List.getElem?_eq_some_iff.1 h3).1
        simp only [argS, Array.getD]
        rw [dif_pos (by simpa using hi2)]
        rw [List.getElem?_eq_getElem hi2] at h3
        simpa using Option.some.inj h3
      have h6 : argT args i = args[i] := by simp [argT, List.getD, hi]
      rw [h5, h6]; exact h4
    · have h5 : argS vs i = undef := by
        have := h2.len
        simp only [argS, Array.getD]
        rw [dif_neg (by simp; omega)]
      have h6 : argT args i = .v undef := by simp [argT, List.getD, hi]
      rw [h5, h6]; exact rep_v _⟩
  have hw := hw ⟨h, F0, []⟩
  unfold TV at hw
  refine EvX_of hf hb (by rw [h2.len]; exact hsz) (V_mono ?_ (hw F0 _ h hr))
  rintro e s' h' ⟨F', σ', B', r', hk⟩
  unfold retTO at hk
  obtain ⟨he, ts, B2, h3, sp, hbr, h4⟩ := hk
  obtain ⟨ws, h5, h6⟩ := h3 _ F' s' h' ⟨fn.ntmps, [], false⟩ r'
  have r2 := r'.keep sp
  unfold retK
  refine ⟨he, ws, h5, F', tret ts, B2, ⟨r2.ext, r2.base, r2.sub, r2.own, r2.box, r2.sep, r2.dis, by simp, fun _ => ?_⟩, fun p hp => (r2.box p hp).real (hbr p hp), h4⟩
  have hl := h6.len
  match ts, ws, h6, hl with
  | [], [], _, _ => simp only [tret, iret, Rep]; exact ⟨[], rfl, RepL.nil⟩
  | [t], [v], h6, _ =>
    simp only [RepL] at h6
    obtain ⟨v', ws', h7, h8, _⟩ := h6
    simp only [List.cons.injEq] at h7
    obtain ⟨rfl, rfl⟩ := h7
    exact h8
  | t :: t2 :: ts, v :: v2 :: vs, h6, _ => simp only [tret, iret, Rep]; exact ⟨_, rfl, h6⟩
end Go.Ideal

-- IdealTn
set_option linter.unusedSimpArgs false
set_option linter.unusedVariables false
namespace Go.Ideal
open Go Go.RowKit
variable {P : Program} {X : Cx} {E : Env} {σ : Nat → Tr} {B B' : Boxes} {ops : Array Oper} {K : TK} {l : List Oper} {d : Option Tmp} {ty : TypeId} {pos : String} {af : Array Edge} {H : List (Nat × Nat)} {F : Mem} {s : Nat → Value} {h : IHp} {held : Held}

/-! ### Parts of own slices from a place on -/
theorem SrcT.mark {m c : Nat} {a : Addr} : SrcT B (.v (.slice (some a) 0 c)) m [] := ⟨fun X F σ s h r v hv => by
  simp only [Rep] at hv
  subst hv
  exact ⟨some a, 0, c, [], rfl, rfl, by simp [IHp.rowAt, IHp.row], by simpa using RepL.nil, by simp⟩⟩
theorem SrcT.part {m b j n c bt : Nat} {bx : Bool} {rows : List (List Tr)} [bi : BoxIs B b (.arr m rows bt bx)] [rx : RealX rows bx] (hn : j + n ≤ rows.length) : SrcT B (.v (.slice (some (ad b (j * m))) n c)) m ((rows.drop j).take n) := ⟨fun X F σ s h r v hv => by
  simp only [Rep] at hv
  subst hv
  have hb := r.boxOf bi
  obtain ⟨vs, g1, g2⟩ := rx.even hb
  simp only [BoxRep] at hb
  have hA : ∀ row ∈ rows.take j, row.length = m := fun row hr => hb.1 row (List.mem_of_mem_take hr)
  have hM : ∀ row ∈ (rows.drop j).take n, row.length = m := fun row hr => hb.1 row (List.mem_of_mem_drop (List.mem_of_mem_take hr))
  have hvl : vs.length = rows.length * m := by rw [g1.len, flat_len hb.1]
  have hle : j * m + n * m ≤ vs.length := by rw [hvl, ← Nat.add_mul]; exact Nat.mul_le_mul_right m hn
  have hsplit : rows.flatten = (rows.take j).flatten ++ (((rows.drop j).take n).flatten ++ (rows.drop (j + n)).flatten) := by
    rw [← List.flatten_append, ← List.flatten_append]
    congr 1
    conv => lhs; rw [← List.take_append_drop j rows, ← List.take_append_drop n (rows.drop j), List.drop_drop]
  have e3 : (rows.take j).flatten.length = j * m := by rw [flat_len hA, List.length_take, Nat.min_eq_left (by omega)]
  have e4 : ((rows.drop j).take n).flatten.length = n * m := by rw [flat_len hM, List.length_take, List.length_drop, Nat.min_eq_left (by omega)]
  refine ⟨some (ad b (j * m)), n, c, (vs.drop (j * m)).take (n * m), rfl, by simp; omega, ?_, ?_, hM⟩
  · simp only [IHp.rowAt]
    exact row_obj g2 (j * m) hle
  · have h5 : ((rows.drop j).take n).flatten = (rows.flatten.drop (j * m)).take (n * m) := by
      rw [hsplit, ← e3, List.drop_left, ← e4, List.take_left]
    rw [h5]
    exact (g1.drop _).take _⟩
end Go.Ideal

-- IdealTo
set_option linter.unusedSimpArgs false
set_option linter.unusedVariables false
namespace Go.Ideal
open Go Go.RowKit
variable {P : Program} {X : Cx} {E : Env} {σ : Nat → Tr} {B B' : Boxes} {ops : Array Oper} {K : TK} {l : List Oper} {d : Option Tmp} {ty : TypeId} {pos : String} {af : Array Edge} {H : List (Nat × Nat)} {F : Mem} {s : Nat → Value} {h : IHp} {held : Held}
/-! ### A place in an own slice that has room behind it -/
end Go.Ideal

-- IdealTp
set_option linter.unusedSimpArgs false
set_option linter.unusedVariables false
namespace Go.Ideal
open Go Go.RowKit
variable {P : Program} {X : Cx} {E : Env} {σ : Nat → Tr} {B B' : Boxes} {ops : Array Oper} {K : TK} {l : List Oper} {d : Option Tmp} {ty : TypeId} {pos : String} {af : Array Edge} {H : List (Nat × Nat)} {F : Mem} {s : Nat → Value} {h : IHp} {held : Held}
/-! ### Functions that change memory that they are handed -/
end Go.Ideal

-- IdealTq
set_option linter.unusedSimpArgs false
set_option linter.unusedVariables false
namespace Go.Ideal
open Go Go.RowKit
variable {P : Program} {X : Cx} {E : Env} {σ : Nat → Tr} {B B' : Boxes} {ops : Array Oper} {K : TK} {l : List Oper} {d : Option Tmp} {ty : TypeId} {pos : String} {af : Array Edge} {H : List (Nat × Nat)} {F : Mem} {s : Nat → Value} {h : IHp} {held : Held}
/-! ### Pointers that are not nil -/
instance Pu.nilCheck_v {x : Operand} {b off : Nat} [e : TEval σ x (.v (.pointer (some (ad b off))))] : Pu P σ B (.nilCheck x) (.v (.pointer (some (ad b off)))) := ⟨fun {X F s h} q {E' _ _ _ _ _ _ _} kk => by
  have h1 := e.is q.slot
  have g1 := ev_eq (E := E') (h := h) (x := x) (s := s)
  refine WS_pure rfl rfl ?_ (kk _ (rep_v _))
  simp only [ipure, g1]⟩
instance Pu.nilCheck_pf {x : Operand} {cs : List Tr} [e : TEval σ x (.pf cs)] : Pu P σ B (.nilCheck x) (.pf cs) := ⟨fun {X F s h} q {E' _ _ _ _ _ _ _} kk => by
  have h1 := evalIs_self (s := s) (x := x) (h := h)
  have h2 := e.eq F s q.slot h 0 [] false
  have h3 := h2
  simp only [Rep] at h2
  obtain ⟨b, off, vs, h4, h5, h6⟩ := h2
  rw [h4] at h1 h3
  have g1 := ev_eq (E := E') (h := h) (x := x) (s := s)
  refine WS_pure rfl rfl ?_ (kk _ h3)
  simp only [ipure, g1]⟩
end Go.Ideal

-- IdealTr
set_option linter.unusedSimpArgs false
set_option linter.unusedVariables false
namespace Go.Ideal
open Go Go.RowKit
variable {P : Program} {X : Cx} {E : Env} {σ : Nat → Tr} {B B' : Boxes} {ops : Array Oper} {K : TK} {l : List Oper} {d : Option Tmp} {ty : TypeId} {pos : String} {af : Array Edge} {H : List (Nat × Nat)} {F : Mem} {s : Nat → Value} {h : IHp} {held : Held}
/-! ### == of structs of numbers -/
end Go.Ideal

-- IdealTs
set_option linter.unusedSimpArgs false
set_option linter.unusedVariables false
namespace Go.Ideal
open Go
section
variable {P : Program} {E : ICall} {σ : Nat → Tr} {B : Boxes}
/-! ### A slice from its start on -/
end
end Go.Ideal

-- IdealTu
set_option linter.unusedSimpArgs false
set_option linter.unusedVariables false
namespace Go.Ideal
open Go Go.RowKit
variable {P : Program} {X : Cx} {E : Env} {σ : Nat → Tr} {B B' : Boxes} {ops : Array Oper} {K : TK} {l : List Oper} {d : Option Tmp} {ty : TypeId} {pos : String} {af : Array Edge} {H : List (Nat × Nat)} {F : Mem} {s : Nat → Value} {h : IHp} {held : Held}
/-! ### Own answers: frozen, or taken while what is handed in stays one's own -/
def FlatB : Box → Prop
  | .cells cs _ _ => FlatL cs
  | .arr _ rows _ _ => FlatL rows.flatten
theorem FlatL.app {a b : List Tr} (x : FlatL a) (y : FlatL b) : FlatL (a ++ b) := ⟨fun F G vs hv => by
  obtain ⟨p, q, rfl, h1, h2⟩ := hv.split
  exact (x.eq F G _ h1).append (y.eq F G _ h2)⟩
theorem FlatL.rows : ∀ {rows : List (List Tr)}, (∀ row ∈ rows, FlatL row) → FlatL rows.flatten := by
  intro rows
  induction rows with
  | nil => intro _; exact FlatL.nil
  | cons r rows ih => intro h; exact (h r (List.mem_cons_self ..)).app (ih fun row hr => h row (List.mem_cons_of_mem _ hr))
theorem BoxRep.flat {G : Mem} {b : Nat} {x : Box} (r : BoxRep F h b x) (fl : FlatB x) : BoxRep G h b x := by
  cases x with
  | cells cs t y =>
    obtain ⟨vs, h1, h2⟩ := r
    exact ⟨vs, FlatL.eq (self := fl) F G vs h1, h2⟩
  | arr m rows t y =>
    simp only [BoxRep] at r ⊢
    refine ⟨r.1, ?_⟩
    rcases r.2 with h1 | ⟨vs, h1, h2⟩
    · exact .inl h1
    · exact .inr ⟨vs, FlatL.eq (self := fl) F G vs h1, h2⟩
/-- a call whose answer is own memory with nothing but plain values in it; what is handed in may be own memory and stays so -/
theorem TS_callOE {f : FuncId} {ps : List Operand} {ts ts' : List Tr} {at_ : Array TypeId} {Φ : Tr → Boxes → Prop} [c : CallIs P f] [e : TEvals σ ps ts] [fz : FrzL B ts ts'] (hc : FnO P f ts' Φ) (fl : ∀ r B1, Φ r B1 → FlatT r ∧ ∀ p ∈ B1, FlatB p.2) (k : ∀ r B1, Φ r B1 → TS X P E ops K l H (putT σ d r) (B1 ++ B)) :
    TS X P E ops K (⟨d, .call ⟨.value (.func f), ps.toArray, at_⟩, ty, pos, af, none⟩ :: l) H σ B := by
  unfold TS at *
  unfold FnO at hc
  intro F s h held r hh
  have he : EvalsIs s ps (ps.map (St.eval ⟨s, h, 0, [], false⟩)) := ⟨fun h' nt mk rd => by
    apply List.map_congr_left
    intro x _
    exact (evalIs_self (s := s) (x := x) (h := h)).eq h' nt mk rd⟩
  refine WS_call (hc (thaw F B h) h _ r.thawSub (fz.eq F _ h r.thawOk _ (e.eq F s r.slot h 0 [] false))) ?_
  rintro v h' ⟨F1, r1, B1, q, ev, a5⟩
  obtain ⟨fl1, fl2⟩ := fl r1 B1 a5
  have g := (r.grow q.ext (Sub.refl F) (fun b off v hf => cell_ext q.ext (r.sub b off v hf)) (fun b off v hf => .inl hf)).put (d := d) (fl1.eq F1 F v (q.slot 0))
  refine k r1 B1 a5 F _ h' held ⟨g.ext, g.base, g.sub, g.own, fun p hp => ?_, fun p hp he => ?_, ?_, g.gd, g.slot⟩ (hh.keys (fun b off v hc => cell_ext q.ext hc) (Sub.refl F) (fun b hb => by rw [List.map_append]; exact List.mem_append_right _ hb))
  · rcases List.mem_append.1 hp with h1 | h1
    · exact (q.box p h1).flat (fl2 p h1)
    · exact g.box p h1
  · rcases List.mem_append.1 hp with h1 | h1
    · have := q.sep p h1 he
      refine ⟨Nat.le_trans r.ext.fresh this.1, fun off => ?_⟩
      cases hF : F p.1 off with
      | none => rfl
      | some v =>
        have h9 := q.base _ _ _ (r.thawOk.sub _ _ _ hF)
        rw [this.2 off] at h9
        cases h9
    · exact g.sep p h1 he
  · rw [List.map_append, List.nodup_append]
    refine ⟨q.dis, r.dis, ?_⟩
    intro a ha b hb hab
    subst hab
    obtain ⟨p, hp, rfl⟩ := List.mem_map.1 ha
    obtain ⟨p2, hp2, he⟩ := List.mem_map.1 hb
    have h1 := ev p hp
    have h2 := (q.sep p hp h1).1
    have h3 := (r.box p2 hp2).lt (by rw [he]; exact h1)
    simp only at h2
    omega
end Go.Ideal

-- IdealTv
set_option linter.unusedSimpArgs false
set_option linter.unusedVariables false
namespace Go.Ideal
open Go Go.RowKit
variable {P : Program} {X : Cx} {E : Env} {σ : Nat → Tr} {B B' : Boxes} {ops : Array Oper} {K : TK} {l : List Oper} {d : Option Tmp} {ty : TypeId} {pos : String} {af : Array Edge} {H : List (Nat × Nat)} {F : Mem} {s : Nat → Value} {h : IHp} {held : Held}
/-! ### Own slices with room behind, handed in; answers that may grow, borrowed -/
class PreR (rows : List (List Tr)) (n c : Nat) (r : outParam (List (List Tr))) : Prop where
  eq : rows.take n = r
  le : n ≤ rows.length
  cap : n ≤ c
instance (priority := 50) Frz.pre {b m n c : Nat} {rows r : List (List Tr)} {bt : Nat} {bx : Bool} [bi : BoxIs B b (.arr m rows bt bx)] [p : PreR rows n c r] [sm : Sm63 c] [rx : RealX rows bx] : Frz B (.v (.slice (some (ad b 0)) n c)) (.sl m r) := ⟨fun F G h o v hv => by
  have hN : rows.length < 2 ^ 63 ∨ True := .inr trivial
  simp only [Rep] at hv
  subst hv
  have hb := o.box _ bi.mem
  have hb' := hb
  simp only [BoxRep] at hb
  obtain ⟨vs, h1, h2⟩ := rx.even hb'
  simp only [Rep]
  have hl : r.length = n := by rw [← p.eq, List.length_take, Nat.min_eq_left p.le]
  refine ⟨_, n, c, rfl, hl, p.cap, sm.lt, fun d hd => ?_, ?_⟩
  · cases hd; exact .inl rfl
  · have h3 : RepR G b m rows 0 := frz_rows (fr := FrzR.same) o hb.1 h1 fun i hi => by
      rw [rowM_congr (F := h.cell?) (o.cell _ bi.mem h2.even), ← row_rowM]
      exact row_obj h2 i hi
    rw [← p.eq]
    exact h3.take n⟩
theorem FnO.mono {f : FuncId} {args : List Tr} {Φ Ψ : Tr → Boxes → Prop} (x : FnO P f args Φ) (k : ∀ r B, Φ r B → Ψ r B) : FnO P f args Ψ := by
  unfold FnO at *
  intro F0 h vs h1 h2
  exact (x F0 h vs h1 h2).mono fun v h' ⟨F, r, B, a1, a2, a3⟩ => ⟨F, r, B, a1, a2, k r B a3⟩
theorem TR.freezeL {C : Boxes} (r : TR X F σ (C ++ B) s h) : ThawOk F (thaw F C h) C h ∧ TR X (thaw F C h) σ B s h := by
  have r1 : TR X F σ C s h := r.drop (List.sublist_append_left _ _)
  have r2 : TR X F σ B s h := r.drop (List.sublist_append_right _ _)
  have hd := r.dis
  rw [List.map_append, List.nodup_append] at hd
  obtain ⟨_, _, d3⟩ := hd
  have hs := r1.thawOk.sub
  refine ⟨r1.thawOk, r.ext, r.base.trans hs, r1.thawSub, fun b' off v hf => ?_, fun p hp => (r2.box p hp).sub hs, fun p hp he => ⟨(r2.sep p hp he).1, fun off => ?_⟩, r2.dis, r.gd, fun i => (r.slot i).sub hs⟩
  · rcases r1.thawOwn b' off v hf with h1 | h1
    · exact r.own _ _ _ h1
    · exact .inr h1
  · unfold thaw
    rw [if_neg]
    · exact (r2.sep p hp he).2 off
    · rintro ⟨_, h1⟩
      exact d3 p.1 h1 p.1 (List.mem_map.2 ⟨p, hp, rfl⟩) rfl
/-- a call whose answer is new memory that is read alone from now on; what is handed in may be own memory and stays so -/
theorem TS_callN {f : FuncId} {ps : List Operand} {ts ts' : List Tr} {at_ : Array TypeId} {Φ : Tr → Boxes → Prop} {Ψ : Tr → Prop} [c : CallIs P f] [e : TEvals σ ps ts] [fz : FrzL B ts ts'] (hc : FnO P f ts' Φ) (fl : ∀ r B1, Φ r B1 → FlatT r ∧ ∀ p ∈ B1, FlatB p.2)
    (fr : ∀ r B1, Φ r B1 → ∃ t, (∀ F G h, ThawOk F G B1 h → ∀ v, Rep F r v → Rep G t v) ∧ Ψ t) (k : ∀ t, Ψ t → TS X P E ops K l H (putT σ d t) B) :
    TS X P E ops K (⟨d, .call ⟨.value (.func f), ps.toArray, at_⟩, ty, pos, af, none⟩ :: l) H σ B := by
  unfold TS at *
  unfold FnO at hc
  intro F s h held r hh
  have he : EvalsIs s ps (ps.map (St.eval ⟨s, h, 0, [], false⟩)) := ⟨fun h' nt mk rd => by
    apply List.map_congr_left
    intro x _
    exact (evalIs_self (s := s) (x := x) (h := h)).eq h' nt mk rd⟩
  refine WS_call (hc (thaw F B h) h _ r.thawSub (fz.eq F _ h r.thawOk _ (e.eq F s r.slot h 0 [] false))) ?_
  rintro v h' ⟨F1, r1, B1, q, ev, a5⟩
  obtain ⟨fl1, fl2⟩ := fl r1 B1 a5
  obtain ⟨t, fr1, fr2⟩ := fr r1 B1 a5
  have g := (r.grow q.ext (Sub.refl F) (fun b off v hf => cell_ext q.ext (r.sub b off v hf)) (fun b off v hf => .inl hf))
  have g2 : TR X F σ (B1 ++ B) s h' := ⟨g.ext, g.base, g.sub, g.own, fun p hp => by
    rcases List.mem_append.1 hp with h1 | h1
    · exact (q.box p h1).flat (fl2 p h1)
    · exact g.box p h1, fun p hp he => by
    rcases List.mem_append.1 hp with h1 | h1
    · have := q.sep p h1 he
      refine ⟨Nat.le_trans r.ext.fresh this.1, fun off => ?_⟩
      cases hF : F p.1 off with
      | none => rfl
      | some v =>
        have h9 := q.base _ _ _ (r.thawOk.sub _ _ _ hF)
        rw [this.2 off] at h9
        cases h9
    · exact g.sep p h1 he, by
    rw [List.map_append, List.nodup_append]
    refine ⟨q.dis, r.dis, ?_⟩
    intro a ha b hb hab
    subst hab
    obtain ⟨p, hp, rfl⟩ := List.mem_map.1 ha
    obtain ⟨p2, hp2, he⟩ := List.mem_map.1 hb
    have h1 := ev p hp
    have h2 := (q.sep p hp h1).1
    have h3 := (r.box p2 hp2).lt (by rw [he]; exact h1)
    simp only at h2
    omega, g.gd, g.slot⟩
  obtain ⟨o, g3⟩ := g2.freezeL
  exact k t fr2 _ _ h' held (g3.put (fr1 F _ h' o v (fl1.eq F1 F v (q.slot 0)))) (hh.keys (fun b off v hc => cell_ext q.ext hc) o.sub (fun b hb => hb))
/-! ### A cut that nothing passes but the way on: the goals ahead of it stay small -/
@[irreducible] def TnormK (I : TK) : IExit → TK := fun e σ B => e = .normal ∧ I σ B
theorem TN_normal {I : TK} (k : I σ B) : TnormK I .normal σ B := by unfold TnormK; exact ⟨rfl, k⟩
instance {I : TK} : StepC (TnormK I .normal σ B) (I σ B) := ⟨TN_normal⟩
theorem TV_cutN {a b : Code} {Q : IExit → TK} (I : TK) (k1 : TV X P E a (TnormK I) σ B) (k2 : ∀ σ' B', I σ' B' → TV X P E b Q σ' B') : TV X P E a (TseqK X P E b Q) σ B := by
  refine TV_mono ?_ k1
  intro e σ' B' hk
  unfold TnormK at hk
  obtain ⟨rfl, hi⟩ := hk
  exact TSQ_normal (k2 σ' B' hi)
end Go.Ideal

-- IdealTw
set_option linter.unusedSimpArgs false
set_option linter.unusedVariables false
namespace Go.Ideal
open Go Go.RowKit
variable {P : Program} {X : Cx} {E : Env} {σ : Nat → Tr} {B B' : Boxes} {ops : Array Oper} {K : TK} {l : List Oper} {d : Option Tmp} {ty : TypeId} {pos : String} {af : Array Edge} {H : List (Nat × Nat)} {F : Mem} {s : Nat → Value} {h : IHp} {held : Held}
/-! ### Pointers and nil -/
instance Pu.ptr_nil {x : Operand} {t te yt : TypeId} {a : Option Addr} [e : TEval σ x (.v (.pointer a))] [u : UnderIs P t (.pointer te)] : Pu P σ B (.binOp .eql t x (.const (.pointer none)) yt) (.v (.bool a.isNone)) := ⟨fun {X F s h} q {E' _ _ _ _ _ _ _} kk => by
  have h1 := e.is q.slot
  have g1 := ev_eq (E := E') (h := h) (x := x) (s := s)
  have g2 : (E'.st s h).eval (.const (.pointer none)) = .pointer none := rfl
  refine WS_pure rfl rfl ?_ (kk _ (rep_v _))
  simp only [ipure, isNilConst, if_true, inil, u.eq, g1, g2]⟩
instance Pu.pf_nil {x : Operand} {t te yt : TypeId} {cs : List Tr} [e : TEval σ x (.pf cs)] [u : UnderIs P t (.pointer te)] : Pu P σ B (.binOp .eql t x (.const (.pointer none)) yt) (.v (.bool false)) := ⟨fun {X F s h} q {E' _ _ _ _ _ _ _} kk => by
  have h1 := evalIs_self (s := s) (x := x) (h := h)
  have h2 := e.eq F s q.slot h 0 [] false
  simp only [Rep] at h2
  obtain ⟨b, off, vs, h4, h5, h6⟩ := h2
  rw [h4] at h1
  have g1 := ev_eq (E := E') (h := h) (x := x) (s := s)
  have g2 : (E'.st s h).eval (.const (.pointer none)) = .pointer none := rfl
  refine WS_pure rfl rfl ?_ (kk _ (rep_v _))
  simp only [ipure, isNilConst, if_true, inil, u.eq, g1, g2]
  rfl⟩
end Go.Ideal

-- IdealTx
set_option linter.unusedSimpArgs false
set_option linter.unusedVariables false
namespace Go.Ideal
open Go Go.RowKit
variable {P : Program} {X : Cx} {E : Env} {σ : Nat → Tr} {B B' : Boxes} {F : Mem} {s : Nat → Value} {h : IHp}
/-! ### From a walk over values to one over trees, midway -/
def LiftQ (X : Cx) (Q' : IExit → TK) (Q : IExit → SK) : Prop := ∀ e F σ B s h, TR X F σ B s h → Q' e σ B → Q e s h
theorem V_of_TV {c : Code} {Q' : IExit → TK} {Q : IExit → SK} (r : TR X F σ B s h) (l : LiftQ X Q' Q) (k : TV X P E c Q' σ B) : V P E c Q s h := by
  unfold TV at k
  exact V_mono (fun e s h ⟨F', σ', B', r', hk⟩ => l e F' σ' B' s h r' hk) (k F s h r)
theorem LiftQ.seq {b : Code} {Q' : IExit → TK} {Q : IExit → SK} (l : LiftQ X Q' Q) : LiftQ X (TseqK X P E b Q') (VseqK P E b Q) := by
  intro e F σ B s h r hk
  unfold TseqK at hk
  unfold VseqK
  cases e with
  | normal => exact V_of_TV r l hk
  | exit j => exact l _ _ _ _ _ _ r hk
  | ret => exact l _ _ _ _ _ _ r hk
theorem LiftQ.ret {rs : List ResultVar} {Φ : Tr → Prop} {Ψ : Value → IHp → Prop} (hΨ : ∀ F r v h', Rep F r v → Φ r → Ψ v h') : LiftQ X (retT P rs Φ) (retK P E rs Ψ) := by
  intro e F' σ' B' s' h' r' hk
  unfold retT at hk
  obtain ⟨he, ts, h3, h4⟩ := hk
  obtain ⟨ws, h5, h6⟩ := h3 _ F' s' h' E r' (thaw F' B' h') r'.thawOk
  unfold retK
  refine ⟨he, ws, h5, hΨ (thaw F' B' h') (tret ts) _ _ ?_ h4⟩
  have hl := h6.len
  match ts, ws, h6, hl with
  | [], [], _, _ => simp only [tret, iret, Rep]; exact ⟨[], rfl, RepL.nil⟩
  | [t], [v], h6, _ =>
    simp only [RepL] at h6
    obtain ⟨v', ws', h7, h8, _⟩ := h6
    simp only [List.cons.injEq] at h7
    obtain ⟨rfl, rfl⟩ := h7
    exact h8
  | t :: t2 :: ts, v :: v2 :: vs, h6, _ => simp only [tret, iret, Rep]; exact ⟨_, rfl, h6⟩
/-- one object of one's own, all slots as they are -/
theorem TR.enter {h0 : IHp} {b t : Nat} {x : Bool} {cs : List Tr} {vs : List Value} (e : Ext h0 h) (hb : h0.fresh ≤ b) (o : ObjIs h b vs t x) (hr : RepL h0.cell? cs vs) : TR ⟨h0, h0.cell?, []⟩ h0.cell? (fun i => .v (s i)) [(b, .cells cs t x)] s h := by
  refine ⟨e, Sub.refl _, fun b off v hf => cell_ext e hf, fun b off v hf => .inl hf, fun p hp => ?_, fun p hp he => ?_, by simp, by simp, fun i => rep_v _⟩
  · rw [List.mem_singleton.1 hp]; exact ⟨vs, hr, o⟩
  · rw [List.mem_singleton.1 hp]
    refine ⟨hb, fun off => ?_⟩
    have he : b % 2 = 0 := o.even
    cases hc : h0.cell? b off with
    | none => rfl
    | some v =>
      simp only [IHp.cell?] at hc
      rw [if_neg (by omega)] at hc
      have : h0.new[b / 2]? = none := List.getElem?_eq_none (by unfold IHp.fresh at hb; omega)
      rw [this] at hc
      cases hc
end Go.Ideal

-- IdealBr
set_option linter.unusedSimpArgs false
set_option linter.unusedVariables false
namespace Go.Ideal
open Go Go.RowKit

/-! ### What a reading of the arguments says of the ideal heap -/
def up (v : Value) : Value := (upv v).getD undef
def IRd (P : Program) (h : IHp) : Nat → TypeId → List Value → Prop
  | 0, _, _ => False
  | n + 1, t, cs =>
    match P.underlying t with
    | some .bool => ∃ b, cs = [.bool b]
    | some (.int k) => ∃ i, cs = [.int k i] ∧ (Lit.int k i).wf = true
    | some .string => ∃ s, cs = [.string s] ∧ s.size ≤ maxLen
    | some (.slice e) => cs = [.slice none 0 0] ∨ ∃ a l c, cs = [.slice (some a) l c] ∧ l ≤ c ∧ c ≤ maxLen ∧ (a.spot = none ∨ c = 0) ∧ ∀ i, i < c → ∃ row, h.row a.block (a.off + i * P.cellsOf e) (P.cellsOf e) = some row ∧ IRd P h n e row
    | some (.struct fs) => cs.length = P.cellsOf t ∧ ∀ (i : Nat) (f : Field), fs[i]? = some f → IRd P h n f.type ((cs.drop f.offset).take (P.cellsOf f.type))
    | _ => False
/-- the fields lie one behind the other -/
def tiles (P : Program) : List Field → Nat → Nat → Bool
  | [], at_, all => at_ == all
  | f :: fs, at_, all => f.offset == at_ && tiles P fs (at_ + P.cellsOf f.type) all
/-- plain data -/
def plainT (P : Program) : Nat → TypeId → Bool
  | 0, _ => false
  | n + 1, t =>
    match P.underlying t with
    | some .bool | some (.int _) | some .string => true
    | some (.slice e) => P.cellsOf e != 0 && plainT P n e
    | some (.struct fs) => tiles P fs.toList 0 (P.cellsOf t) && fs.toList.all fun f => plainT P n f.type
    | _ => false
theorem tiles_mem {P : Program} {cs : List Value} : ∀ (fs : List Field) (at_ : Nat), tiles P fs at_ cs.length = true → ∀ v ∈ cs.drop at_, ∃ f ∈ fs, v ∈ (cs.drop f.offset).take (P.cellsOf f.type) := by
  intro fs
  induction fs with
  | nil =>
    intro at_ h v hv
    simp only [tiles, beq_iff_eq] at h
    rw [List.drop_of_length_le (by omega)] at hv
    cases hv
  | cons f fs ih =>
    intro at_ h v hv
    simp only [tiles, Bool.and_eq_true, beq_iff_eq] at h
    obtain ⟨h1, h2⟩ := h
    rw [← List.take_append_drop (P.cellsOf f.type) (cs.drop at_)] at hv
    rcases List.mem_append.1 hv with h3 | h3
    · exact ⟨f, List.mem_cons_self, by rw [h1]; exact h3⟩
    · rw [List.drop_drop] at h3
      obtain ⟨g, h4, h5⟩ := ih _ h2 v h3
      exact ⟨g, List.mem_cons_of_mem _ h4, h5⟩
theorem up_of {v u : Value} (h : upv v = some u) : up v = u := by simp [up, h]
theorem mapM_cells {w : World} {a : Addr} (hs : a.spot = none) : ∀ (n k : Nat) (row : List Value), ((List.range' k n).mapM fun i => w.cell? (a.add i)) = some row → (∀ v ∈ row, (upv v).isSome = true) → (heapOf w).row (2 * a.block + 1) (a.off + k) n = some (row.map up) := by
  intro n
  induction n with
  | zero => intro k row h _; simp at h; subst h; rfl
  | succ n ih =>
    intro k row h hup
    rw [List.range'_succ, List.mapM_cons] at h
    cases h1 : w.cell? (a.add k) with
    | none => simp [h1] at h
    | some v =>
      cases h2 : (List.range' (k + 1) n).mapM fun i => w.cell? (a.add i) with
      | none => simp [h1, h2] at h
      | some vs =>
        simp [h1, h2] at h
        subst h
        have h3 := ih (k + 1) vs h2 (fun v hv => hup v (List.mem_cons_of_mem _ hv))
        obtain ⟨u, hu⟩ := Option.isSome_iff_exists.1 (hup v List.mem_cons_self)
        have hadd : a.add k = ⟨a.block, a.off + k, none⟩ := by
          unfold Addr.add
          split
          · rename_i h0; subst h0; cases a; simp at hs; subst hs; rfl
          · rfl
        rw [hadd] at h1
        have hb : a.block < w.heap.size := by
          simp only [World.cell?] at h1
          split at h1
          · rename_i hx; exact (Array.getElem?_eq_some_iff.1 hx).1
          · cases h1
        have h4 : (heapOf w).cell? (2 * a.block + 1) (a.off + k) = some u := by
          simp only [IHp.cell?, heapOf]
          rw [if_pos (by omega), show (2 * a.block + 1) / 2 = a.block by omega, if_pos hb, h1]
          exact hu
        simp only [IHp.row, h4, Option.bind_some, show a.off + k + 1 = a.off + (k + 1) by omega, h3, List.map_cons, up_of hu]
theorem irow {w : World} {a : Addr} {n : Nat} {row : List Value} (hs : a.spot = none) (h : w.cells? 0 a n = some row) (hup : ∀ v ∈ row, (upv v).isSome = true) : (heapOf w).row (2 * a.block + 1) a.off n = some (row.map up) := by
  simp only [World.cells?, Nat.zero_le, if_true] at h
  rw [List.range_eq_range'] at h
  simpa using mapM_cells hs n 0 row h hup
section
variable {H : Type} {enc : TypeId × Value → H} {P : Program} {w : World} {held : Bool}
theorem bridge : ∀ (N : Nat) (t : TypeId) (fuel : Nat) (cs : List Value) (x : DataW H × List MemPlace), plainT P N t = true → DataW.trod enc P w 0 (fun _ => true) held fuel t cs = some x → (∀ v ∈ cs, (upv v).isSome = true) ∧ IRd P (heapOf w) N t (cs.map up) := by
  intro N
  induction N with
  | zero => intro t fuel cs x h; simp [plainT] at h
  | succ N ih =>
    intro t fuel cs x hp h
    rw [plainT] at hp
    rw [IRd]
    split at hp
    · rename_i hu
      obtain ⟨b, rfl, _⟩ := DataW.trod_bool hu h
      exact ⟨by simp [upv], b, by simp [up, upv]⟩
    · rename_i k hu
      obtain ⟨i, rfl, _, hw⟩ := DataW.trod_int hu h
      exact ⟨by simp [upv], i, by simp [up, upv], hw⟩
    · rename_i hu
      obtain ⟨s, rfl, _, hw⟩ := DataW.trod_string hu h
      exact ⟨by simp [upv], s, by simp [up, upv], hw⟩
    · rename_i e hu
      simp only [Bool.and_eq_true, bne_iff_ne, ne_eq] at hp
      obtain ⟨hn, hpe⟩ := hp
      rcases DataW.trod_slice hu h with ⟨rfl, _⟩ | ⟨a, l, c, elems, rest, m, rfl, rfl, _, _, hlc, hcm, hel, he, hr, _⟩
      · exact ⟨by simp [upv], .inl (by simp [up, upv])⟩
      · obtain ⟨hrl, hr⟩ := hr rfl
        have hat : ∀ i, i < c → ∃ row y, w.cells? 0 (a.add (i * P.cellsOf e)) (P.cellsOf e) = some row ∧ DataW.trod enc P w 0 (fun _ => true) held m e row = some y := by
          intro i hi
          by_cases hil : i < l
          · have h1 := he i hil
            rw [List.getElem?_eq_getElem (by omega)] at h1
            simp only [Option.bind_eq_some_iff] at h1
            obtain ⟨row, h2, h3⟩ := h1
            exact ⟨row, _, h2, h3⟩
          · have h1 := hr (i - l) (by omega)
            rw [List.getElem?_eq_getElem (by omega), show l + (i - l) = i by omega] at h1
            simp only [Option.bind_eq_some_iff] at h1
            obtain ⟨row, h2, h3⟩ := h1
            exact ⟨row, _, h2, h3⟩
        by_cases hs : a.spot = none
        · have hup : upv (.slice (some a) l c) = some (.slice (some { block := 2 * a.block + 1, off := a.off }) l c) := by simp [upv, hs]
          refine ⟨by simp [hup], .inr ⟨{ block := 2 * a.block + 1, off := a.off }, l, c, by simp [up_of hup], hlc, hcm, .inl rfl, fun i hi => ?_⟩⟩
          obtain ⟨row, y, h1, h2⟩ := hat i hi
          obtain ⟨h3, h4⟩ := ih e m row y hpe h2
          refine ⟨row.map up, ?_, h4⟩
          have hsp : (a.add (i * P.cellsOf e)).spot = none := by unfold Addr.add; split <;> simp [hs]
          have h5 := irow hsp h1 h3
          have hblk : (a.add (i * P.cellsOf e)).block = a.block := by unfold Addr.add; split <;> rfl
          have hoff : (a.add (i * P.cellsOf e)).off = a.off + i * P.cellsOf e := by unfold Addr.add; split <;> simp_all
          rw [hblk, hoff] at h5
          exact h5
        · have hc0 : c = 0 := by
            apply Decidable.byContradiction
            intro hc
            obtain ⟨row, y, h1, _⟩ := hat 0 (by omega)
            have ha0 : a.add (0 * P.cellsOf e) = a := by simp [Addr.add]
            rw [ha0] at h1
            simp only [World.cells?, Nat.zero_le, if_true] at h1
            obtain ⟨m', hm'⟩ : ∃ m', P.cellsOf e = m' + 1 := ⟨P.cellsOf e - 1, by omega⟩
            rw [hm', List.range_succ_eq_map, List.mapM_cons] at h1
            have : w.cell? (a.add 0) = none := by
              simp only [World.cell?, Addr.add, if_true]
              split
              · rw [if_pos]; cases hsp : a.spot with
                | none => exact absurd hsp hs
                | some _ => rfl
              · rfl
            rw [this] at h1
            simp at h1
          have hl0 : l = 0 := by omega
          subst hc0; subst hl0
          have hup : upv (.slice (some a) 0 0) = some (.slice (some a) 0 0) := by simp [upv, hs]
          exact ⟨by simp [hup], .inr ⟨a, 0, 0, by simp [up_of hup], Nat.le_refl _, Nat.zero_le _, .inr rfl, fun i hi => absurd hi (Nat.not_lt_zero i)⟩⟩
    · rename_i fs hu
      simp only [Bool.and_eq_true, List.all_eq_true] at hp
      obtain ⟨htile, hall⟩ := hp
      obtain ⟨xs, m, rfl, _, hlen, hxl, hf⟩ := DataW.trod_struct hu h
      have hfield : ∀ (i : Nat) (f : Field), fs[i]? = some f → (∀ v ∈ (cs.drop f.offset).take (P.cellsOf f.type), (upv v).isSome = true) ∧ IRd P (heapOf w) N f.type (((cs.drop f.offset).take (P.cellsOf f.type)).map up) := by
        intro i f hfi
        have h1 := hf i f hfi
        have hi : i < xs.length := by rw [hxl]; exact (Array.getElem?_eq_some_iff.1 hfi).1
        rw [List.getElem?_eq_getElem hi] at h1
        exact ih _ _ _ _ (hall f (by rw [Array.mem_toList_iff]; exact Array.mem_of_getElem? hfi)) h1
      refine ⟨fun v hv => ?_, by simpa using hlen, fun i f hfi => ?_⟩
      · rw [← hlen] at htile
        obtain ⟨f, h1, h2⟩ := tiles_mem fs.toList 0 htile v (by simpa using hv)
        obtain ⟨i, hi⟩ := Array.mem_iff_getElem?.1 (Array.mem_toList_iff.1 h1)
        exact (hfield i f hi).1 v h2
      · have := (hfield i f hfi).2
        simpa [List.map_take, List.map_drop] using this
    · cases hp
/-- an argument -/
def upA : Value → Value
  | .agg cs => .agg (cs.toList.map up).toArray
  | v => up v
theorem RA_up {ρ : RM} {cs : Array Value} (h : ∀ v ∈ cs.toList, (upv v).isSome = true) : RA ρ (cs.toList.map up).toArray cs := by
  refine ⟨by simp, fun i hi => ?_⟩
  have hi' : i < cs.size := by simpa using hi
  obtain ⟨u, hu⟩ := Option.isSome_iff_exists.1 (h cs[i] (by simp))
  have h1 : (cs.toList.map up).toArray[i] = u := by simp [up_of hu]
  rw [h1]
  have h2 : cs.getD i undef = cs[i] := by simp [Array.getD, hi']
  rw [h2]
  exact upv_R hu
theorem bridge_struct {N base : Nat} {t : TypeId} {fs : Array Field} {v : Value} {d : DataW H} {p : List MemPlace} (hu : P.underlying t = some (.struct fs)) (hp : plainT P N t = true) (hv : Value.okWide P w .any base t v) (h : DataW.Trod enc P w 0 (fun _ => true) held t v d p) :
    R RM0 (upA v) v ∧ ∃ cs : List Value, upA v = .agg cs.toArray ∧ IRd P (heapOf w) N t cs := by
  simp only [Value.okWide, hu] at hv
  obtain ⟨cs, rfl, _, _⟩ := hv
  obtain ⟨fuel, h⟩ := h
  obtain ⟨h1, h2⟩ := bridge N t fuel _ _ hp h
  exact ⟨by rw [upA, R_agg]; exact ⟨cs, rfl, RA_up h1⟩, _, rfl, h2⟩
theorem bridge_cell {N : Nat} {t : TypeId} {v : Value} {d : DataW H} {p : List MemPlace} (hc : v.cells = #[v]) (hag : ∀ cs, v ≠ .agg cs) (hp : plainT P N t = true) (h : DataW.Trod enc P w 0 (fun _ => true) held t v d p) :
    R RM0 (upA v) v ∧ IRd P (heapOf w) N t [upA v] := by
  obtain ⟨fuel, h⟩ := h
  rw [hc] at h
  obtain ⟨h1, h2⟩ := bridge N t fuel _ _ hp h
  obtain ⟨u, hu⟩ := Option.isSome_iff_exists.1 (h1 v (by simp))
  have e : upA v = u := by
    cases v <;> first | exact up_of hu | exact absurd rfl (hag _)
  rw [e]
  refine ⟨upv_R hu, ?_⟩
  simpa [up_of hu] using h2
end
end Go.Ideal

-- IdealTy
set_option linter.unusedSimpArgs false
set_option linter.unusedVariables false
namespace Go.Ideal
open Go Go.RowKit
/-! ### Slices of structs among the arguments, as trees -/
end Go.Ideal

-- IdealTz
set_option linter.unusedSimpArgs false
set_option linter.unusedVariables false
namespace Go.Ideal
open Go Go.RowKit
section
variable {H : Type} {enc : TypeId × Value → H} {P : Program} {w : World} {held : Bool}
end
end Go.Ideal

-- IdealUa
set_option linter.unusedSimpArgs false
set_option linter.unusedVariables false
namespace Go.Ideal
open Go Go.RowKit
variable {P : Program} {X : Cx} {E : Env} {σ : Nat → Tr} {B B' : Boxes} {ops : Array Oper} {K : TK} {l : List Oper} {d : Option Tmp} {ty : TypeId} {pos : String} {af : Array Edge} {H : List (Nat × Nat)} {F : Mem} {s : Nat → Value} {h : IHp} {held : Held}
/-! ### Loops over functions in functions that answer own memory -/
def FnPostO (X : Cx) (Φ : Tr → Boxes → Prop) : Value → IHp → Prop := fun v h' => ∃ F r B, TR ⟨X.h, X.F, []⟩ F (fun _ => r) B (fun _ => v) h' ∧ (∀ p ∈ B, p.1 % 2 = 0) ∧ Φ r B
@[irreducible] def rangeTO (X : Cx) (P : Program) (nt : Nat) (rs : List ResultVar) (f : Operand) (ps : Array Tmp) (ac bd t : Code) (Φ : Tr → Boxes → Prop) : IExit → TK
  | .normal, σ, B => ∀ F s h, TR X F σ B s h → rangeK P nt rs f ps ac bd t (FnPostO X Φ) .normal s h
  | e, σ, B => retTO P rs Φ e σ B
theorem rangeTO_ret {nt : Nat} {rs : List ResultVar} {f : Operand} {ps : Array Tmp} {ac bd t : Code} {Φ : Tr → Boxes → Prop} (k : retTO P rs Φ .ret σ B) : rangeTO X P nt rs f ps ac bd t Φ .ret σ B := by unfold rangeTO; exact k
theorem retK_of_retTO {rs : List ResultVar} {Φ : Tr → Boxes → Prop} {e : IExit} (r : TR X F σ B s h) (hk : retTO P rs Φ e σ B) : retK P E rs (FnPostO X Φ) e s h := by
  unfold retTO at hk
  obtain ⟨he, ts, B2, h3, sp, hbr, h4⟩ := hk
  obtain ⟨ws, h5, h6⟩ := h3 X F s h E r
  have r2 := r.keep sp
  unfold retK
  refine ⟨he, ws, h5, F, tret ts, B2, ⟨r2.ext, r2.base, r2.sub, r2.own, r2.box, r2.sep, r2.dis, by simp, fun _ => ?_⟩, fun p hp => (r2.box p hp).real (hbr p hp), h4⟩
  have hl := h6.len
  match ts, ws, h6, hl with
  | [], [], _, _ => simp only [tret, iret, Rep]; exact ⟨[], rfl, RepL.nil⟩
  | [t], [v], h6, _ =>
    simp only [RepL] at h6
    obtain ⟨v', ws', h7, h8, _⟩ := h6
    simp only [List.cons.injEq] at h7
    obtain ⟨rfl, rfl⟩ := h7
    exact h8
  | t :: t2 :: ts, v :: v2 :: vs, h6, _ => simp only [tret, iret, Rep]; exact ⟨_, rfl, h6⟩
theorem FnO_of_range {fid : FuncId} {fn : Func} {c a : Code} {id : Nat} {f : Operand} {ps : Array Tmp} {ac bd t : Code} {args : List Tr} {Φ : Tr → Boxes → Prop} (hf : P.funcs[fid]? = some fn) (hb : fn.body = some c)
    (hs : splitR c = some (a, id, f, ps, ac, bd, t)) (hsz : args.length ≤ fn.ntmps)
    (hw : ∀ X, TV X P ⟨fn.ntmps, [], false⟩ a (rangeTO X P fn.ntmps fn.results.toList f ps ac bd t Φ) (argT args) []) : FnO P fid args Φ := by
  unfold FnO
  intro F0 h vs h1 h2
  have hw := hw ⟨h, F0, []⟩
  unfold TV at hw
  refine EvX_of_range (Φ := FnPostO ⟨h, F0, []⟩ Φ) hf hb hs (by rw [h2.len]; exact hsz) (V_mono ?_ (hw F0 _ h (TR.start h1 h2)))
  rintro e s' h' ⟨F', σ', B', r', hk⟩
  unfold rangeTO at hk
  cases e with
  | normal => exact hk F' s' h' r'
  | exit j => simp only at hk; unfold retTO at hk; obtain ⟨he, _⟩ := hk; rcases he with he | he <;> cases he
  | ret => unfold rangeK; exact retK_of_retTO r' hk
/-- a loop over slices.Backward of a slice that is read alone: the boxes change, the slots don't -/
theorem rangeTO_back {nt G m : Nat} {rs : List ResultVar} {f : Operand} {p0 p1 : Tmp} {ac bd t : Code} {Φ : Tr → Boxes → Prop} {rows : List (List Tr)} [cg : CallIs P G] (spec : BackSpec P G m) [e : TEval σ f (.fn G [] [.pf [.sl m rows]])] (J : Nat → Boxes → Prop) (hn : rows.length < 2 ^ 62)
    (first : J rows.length B)
    (round : ∀ X1 X2 i row B, rows[i]? = some row → J (i + 1) B → TV X1 P ⟨nt, [], true⟩ ac (fun e σ' B' => e = .normal ∧ TV X2 P ⟨nt, [], true⟩ bd (fun e σ' B' => e = .normal ∧ J i B') σ' B') (putT (putT σ (some p0) (.v (.int .i64 (i : Int)))) (some p1) (.agg row)) B)
    (last : ∀ B mk, J 0 B → ∀ X2, TV X2 P ⟨nt, [mk], false⟩ t (retTO P rs Φ) σ B) : rangeTO X P nt rs f #[p0, p1] ac bd t Φ .normal σ B := by
  unfold rangeTO
  intro F s h r
  have hf := evalIs_self (s := s) (x := f) (h := h)
  have hf2 := e.eq F s r.slot h 0 [] false
  simp only [Rep, RepL] at hf2
  obtain ⟨va, vb, hf3, rfl, v1, _, rfl, ⟨bx, off, us, rfl, hrow, v2, _, rfl, ⟨sa, n, cap, rfl, hl, hc, _, _, hsa⟩, rfl⟩, rfl⟩ := hf2
  rw [hf3] at hf
  subst hl
  -- the rows' values
  have hcs : ∀ i, ∃ vs, ∀ row, rows[i]? = some row → RepL F row vs ∧ ∃ a, sa = some a ∧ rowM F a.block (a.off + i * m) m = some vs := by
    intro i
    cases hi : rows[i]? with
    | none => exact ⟨[], fun row hr => by cases hr⟩
    | some row =>
      cases sa with
      | none =>
        simp only at hsa
        have := (List.getElem?_eq_some_iff.1 hi).1
        omega
      | some a =>
        obtain ⟨vs, h1, h2⟩ := RepR.get hsa hi
        exact ⟨vs, fun row' hr => by cases hr; exact ⟨h2, a, rfl, h1⟩⟩
  obtain ⟨cs, hcs⟩ := Classical.axiomOfChoice hcs
  have hcell : F bx off = some (.slice sa rows.length cap) := by
    have := rowM_get hrow 0 (by simp)
    simpa using this
  obtain ⟨L, hL⟩ : ∃ L, L = IObj.loop nt s #[p0, p1] ac bd .ready none := ⟨_, rfl⟩
  obtain ⟨LB, hLB⟩ : ∃ L, L = IObj.loop nt s #[p0, p1] ac bd .busy none := ⟨_, rfl⟩
  have hLc : ∀ c e x, L ≠ .cells c e x := by intro c e x he; rw [hL] at he; cases he
  have hLBc : ∀ c e x, LB ≠ .cells c e x := by intro c e x he; rw [hLB] at he; cases he
  have hDc : ∀ c e x, IObj.defr ≠ .cells c e x := by intro c e x he; cases he
  have hlp : X.h.fresh ≤ h.fresh + 2 := Nat.le_trans r.ext.fresh (Nat.le_add_right _ _)
  have ndl : NeB h.fresh (h.fresh + 2) := ⟨by omega⟩
  have ndl' : NeB (h.fresh + 2) h.fresh := ⟨by omega⟩
  have hgl : ∀ g ∈ X.G, g.1 < h.fresh := fun g hg => (r.gd g hg).1.lt
  have hgne : ∀ g ∈ X.G, g.1 / 2 ≠ (h.fresh + 2) / 2 := fun g hg => by have := hgl g hg; unfold IHp.fresh at *; omega
  have hgnd : ∀ g ∈ X.G, g.1 / 2 ≠ h.fresh / 2 := fun g hg => by have := hgl g hg; unfold IHp.fresh at *; omega
  let I : Nat → IHp → Prop := fun i h' => ∃ F' B', TR X F' σ B' s h' ∧ Sub F F' ∧ J i B' ∧ AtIs h' h.fresh .defr ∧ AtIs h' (h.fresh + 2) L
  refine rangeK_go (g := G) (a := #[]) (c := #[.pointer (some (ad bx off))]) (Ψ := fun _ h3 => I 0 h3) ?_ ?_
  · have hA : ((#[] : Array Value) ++ #[.func (.yield (h.fresh + 2)) #[] #[]]) ++ #[.pointer (some (ad bx off))] = [.func (.yield (h.fresh + 2)) #[] #[], .pointer (some (ad bx off))].toArray := rfl
    rw [hA]
    refine spec (h.fresh + 2) bx off rows.length cap sa cs I _ hn ?_ ?_ ?_ ?_
    · rintro i h' _ ⟨F', B', r', hs, _, _, _⟩
      exact ⟨r'.sub _ _ _ (hs _ _ _ hcell)⟩
    · rintro i h' hi ⟨F', B', r', hs, _, _, _⟩
      obtain ⟨_, a, h2, h3⟩ := hcs i rows[i] (List.getElem?_eq_getElem hi)
      exact ⟨a, h2, r'.rowF (rowM_sub hs h3)⟩
    · rintro i h' hi ⟨F', B', r', hs, hJ, hD, hLo⟩
      obtain ⟨hrep, _⟩ := hcs i rows[i] (List.getElem?_eq_getElem hi)
      rw [hL] at hLo
      have hslots : putAll s ([p0, p1].zip [.int .i64 (i : Int), .agg (cs i).toArray]) = putS (putS s (some p0) (.int .i64 (i : Int))) (some p1) (.agg (cs i).toArray) := rfl
      refine EvY_of hLo rfl ?_
      show V P ⟨nt, [], true⟩ ac _ (putAll s ([p0, p1].zip [.int .i64 (i : Int), .agg (cs i).toArray])) h'
      rw [hslots]
      have r1 := (r'.put (d := some p0) (rep_v (.int .i64 (i : Int)))).put (d := some p1) (t := .agg rows[i]) (v := .agg (cs i).toArray) (by simp only [Rep]; exact ⟨_, rfl, hrep.sub hs⟩)
      have hround := round ⟨X.h, F, (h.fresh, .defr) :: (h.fresh + 2, L) :: X.G⟩ ⟨X.h, F, (h.fresh, .defr) :: (h.fresh + 2, LB) :: X.G⟩ i rows[i] B' (List.getElem?_eq_getElem hi) hJ
      unfold TV at hround
      have own1 : ∀ {F'' : Mem}, (∀ b off v, F'' b off = some v → X.F b off = some v ∨ X.h.fresh ≤ b) → ∀ b off v, F'' b off = some v → F b off = some v ∨ X.h.fresh ≤ b := fun ho b off v hf => by
        rcases ho b off v hf with h1 | h1
        · exact .inl (r.base _ _ _ h1)
        · exact .inr h1
      have own2 : ∀ {F'' : Mem}, (∀ b off v, F'' b off = some v → F b off = some v ∨ X.h.fresh ≤ b) → ∀ b off v, F'' b off = some v → X.F b off = some v ∨ X.h.fresh ≤ b := fun ho b off v hf => by
        rcases ho b off v hf with h1 | h1
        · exact r.own _ _ _ h1
        · exact .inr h1
      rw [← hL] at hLo
      have r2 : TR ⟨X.h, F, (h.fresh, .defr) :: (h.fresh + 2, L) :: X.G⟩ F' (putT (putT σ (some p0) (.v (.int .i64 (i : Int)))) (some p1) (.agg rows[i])) B' (putS (putS s (some p0) (.int .i64 (i : Int))) (some p1) (.agg (cs i).toArray)) h' :=
        ⟨r1.ext, hs, r1.sub, own1 r1.own, r1.box, r1.sep, r1.dis, fun g hg => by
          rcases List.mem_cons.1 hg with rfl | hg
          · exact ⟨hD, hDc⟩
          · rcases List.mem_cons.1 hg with rfl | hg
            · exact ⟨hLo, hLc⟩
            · exact r1.gd g hg, r1.slot⟩
      refine V_mono ?_ (hround F' _ h' r2)
      rintro e s2 h2 ⟨F2, σ2, B2, t2, rfl, hbd⟩
      have a2 := (t2.gd (h.fresh + 2, L) (by simp)).1
      have d2 := (t2.gd (h.fresh, .defr) (by simp)).1
      rw [hL] at a2
      refine roundK_go (i := a2) ?_
      rw [← hLB]
      rw [← hL] at a2
      have t3 : TR ⟨X.h, F, (h.fresh, .defr) :: (h.fresh + 2, LB) :: X.G⟩ F2 σ2 B2 s2 (h2.putObj (h.fresh + 2) LB) := by
        have u : TR ⟨X.h, F, X.G⟩ F2 σ2 B2 s2 h2 := ⟨t2.ext, t2.base, t2.sub, t2.own, t2.box, t2.sep, t2.dis, fun g hg => t2.gd g (List.mem_cons_of_mem _ (List.mem_cons_of_mem _ hg)), t2.slot⟩
        have u2 := u.other (o' := LB) a2 hLc hlp hgne
        refine ⟨u2.ext, u2.base, u2.sub, u2.own, u2.box, u2.sep, u2.dis, fun g hg => ?_, u2.slot⟩
        rcases List.mem_cons.1 hg with rfl | hg
        · exact ⟨inferInstance, hDc⟩
        · rcases List.mem_cons.1 hg with rfl | hg
          · exact ⟨a2.put, hLBc⟩
          · exact u2.gd g hg
      refine V_mono ?_ (hbd F2 s2 _ t3)
      rintro e s4 h4 ⟨F4, σ4, B4, t4, rfl, hJ4⟩
      have a4 := (t4.gd (h.fresh + 2, LB) (by simp)).1
      have d4 := (t4.gd (h.fresh, .defr) (by simp)).1
      rw [hLB] at a4
      refine roundK2_go (i := a4) ⟨rfl, ?_⟩
      rw [← hL]
      rw [← hLB] at a4
      have u4 : TR ⟨X.h, F, X.G⟩ F4 σ4 B4 s4 h4 := ⟨t4.ext, t4.base, t4.sub, t4.own, t4.box, t4.sep, t4.dis, fun g hg => t4.gd g (List.mem_cons_of_mem _ (List.mem_cons_of_mem _ hg)), t4.slot⟩
      have u5 := u4.other (o' := L) a4 hLBc hlp hgne
      exact ⟨F4, B4, ⟨u5.ext, r.base.trans u5.base, u5.sub, own2 u5.own, u5.box, u5.sep, u5.dis, u5.gd, fun j => (r.slot j).sub u5.base⟩, u5.base, hJ4, inferInstance, a4.put⟩
    · exact ⟨F, B, r.pushO.pushO, Sub.refl F, first, inferInstance, by
        have hf2 : (h.push .defr).fresh = h.fresh + 2 := push_fresh _ _
        rw [hL, ← hf2]; infer_instance⟩
  · rintro v h3 ⟨F', B', r', hs, hJ, hD, hLo⟩
    rw [hL] at hLo
    refine ⟨_, _, _, _, _, hLo, rfl, ?_⟩
    rw [← hL] at hLo
    obtain ⟨LE, hLE⟩ : ∃ L, L = IObj.loop nt s #[p0, p1] ac bd .exhausted none := ⟨_, rfl⟩
    rw [← hLE]
    have r2 := r'.other (o' := LE) hLo hLc hlp hgne
    have hl := last B' (h.fresh / 2) hJ ⟨X.h, X.F, (h.fresh, .defr) :: X.G⟩
    unfold TV at hl
    have r3 : TR ⟨X.h, X.F, (h.fresh, .defr) :: X.G⟩ F' σ B' s (h3.putObj (h.fresh + 2) LE) := ⟨r2.ext, r2.base, r2.sub, r2.own, r2.box, r2.sep, r2.dis, fun g hg => by
      rcases List.mem_cons.1 hg with rfl | hg
      · exact ⟨inferInstance, hDc⟩
      · exact r2.gd g hg, r2.slot⟩
    refine V_mono ?_ (hl F' s _ r3)
    rintro e s5 h5 ⟨F5, σ5, B5, t5, hk⟩
    have d5 := (t5.gd (h.fresh, .defr) (by simp)).1
    refine tailK_go (i := d5) ?_
    have u5 : TR X F5 σ5 B5 s5 h5 := ⟨t5.ext, t5.base, t5.sub, t5.own, t5.box, t5.sep, t5.dis, fun g hg => t5.gd g (List.mem_cons_of_mem _ hg), t5.slot⟩
    exact retK_of_retTO (u5.other (o' := .dead) d5 hDc r.ext.fresh hgnd) hk
end Go.Ideal

-- R4Ty
set_option linter.unusedSimpArgs false
set_option linter.unusedVariables false
namespace Go.Ideal
open Go Go.Proofs
instance : SizeIs Try.prog 1 1 := ⟨by kernel_rfl⟩
instance : AggIs Try.prog 1 false := ⟨by kernel_rfl⟩
instance : ZeroIs Try.prog 1 (Value.nilFunc) := ⟨by kernel_rfl⟩
instance : BytesIs Try.prog 1 1 8 := ⟨Try.t1, _, by kernel_rfl, rfl, rfl, rfl, rfl, by decide, by decide⟩
instance : UnderIs Try.prog 2 (.int IntKind.i64) := ⟨Try.underlying2⟩
instance : SizeIs Try.prog 2 1 := ⟨by kernel_rfl⟩
instance : AggIs Try.prog 2 false := ⟨by kernel_rfl⟩
instance : ZeroIs Try.prog 2 ((Value.int IntKind.i64 0)) := ⟨by kernel_rfl⟩
instance : BytesIs Try.prog 2 1 8 := ⟨Try.t2, _, by kernel_rfl, rfl, rfl, rfl, rfl, by decide, by decide⟩
instance : UnderIs Try.prog 3 (.int IntKind.i64) := ⟨Try.underlying3⟩
instance : SizeIs Try.prog 3 1 := ⟨by kernel_rfl⟩
instance : AggIs Try.prog 3 false := ⟨by kernel_rfl⟩
instance : ZeroIs Try.prog 3 ((Value.int IntKind.i64 0)) := ⟨by kernel_rfl⟩
instance : BytesIs Try.prog 3 1 8 := ⟨Try.t3, _, by kernel_rfl, rfl, rfl, rfl, rfl, by decide, by decide⟩
instance : UnderIs Try.prog 4 (.bool) := ⟨Try.underlying4⟩
instance : SizeIs Try.prog 4 1 := ⟨by kernel_rfl⟩
instance : AggIs Try.prog 4 false := ⟨by kernel_rfl⟩
instance : ZeroIs Try.prog 4 ((Value.bool false)) := ⟨by kernel_rfl⟩
instance : BytesIs Try.prog 4 1 1 := ⟨Try.t4, _, by kernel_rfl, rfl, rfl, rfl, rfl, by decide, by decide⟩
instance : UnderIs Try.prog 5 (.int IntKind.u8) := ⟨Try.underlying5⟩
instance : SizeIs Try.prog 5 1 := ⟨by kernel_rfl⟩
instance : AggIs Try.prog 5 false := ⟨by kernel_rfl⟩
instance : ZeroIs Try.prog 5 ((Value.int IntKind.u8 0)) := ⟨by kernel_rfl⟩
instance : BytesIs Try.prog 5 1 1 := ⟨Try.t5, _, by kernel_rfl, rfl, rfl, rfl, rfl, by decide, by decide⟩
instance : UnderIs Try.prog 6 (.int IntKind.u8) := ⟨Try.underlying6⟩
instance : SizeIs Try.prog 6 1 := ⟨by kernel_rfl⟩
instance : AggIs Try.prog 6 false := ⟨by kernel_rfl⟩
instance : ZeroIs Try.prog 6 ((Value.int IntKind.u8 0)) := ⟨by kernel_rfl⟩
instance : BytesIs Try.prog 6 1 1 := ⟨Try.t6, _, by kernel_rfl, rfl, rfl, rfl, rfl, by decide, by decide⟩
instance : FieldIs Try.prog 7 0 0 2 1 := ⟨_, _, Try.underlying7, rfl, rfl, rfl, by kernel_rfl, by decide⟩
instance : FieldIs Try.prog 7 1 1 3 1 := ⟨_, _, Try.underlying7, rfl, rfl, rfl, by kernel_rfl, by decide⟩
instance : FieldIs Try.prog 7 2 2 4 1 := ⟨_, _, Try.underlying7, rfl, rfl, rfl, by kernel_rfl, by decide⟩
instance : FieldIs Try.prog 7 3 3 6 1 := ⟨_, _, Try.underlying7, rfl, rfl, rfl, by kernel_rfl, by decide⟩
instance : StructOk Try.prog 7 := ⟨_, Try.underlying7, by kernel_rfl⟩
instance : SizeIs Try.prog 7 4 := ⟨by kernel_rfl⟩
instance : AggIs Try.prog 7 true := ⟨by kernel_rfl⟩
instance : ZeroIs Try.prog 7 ((Value.agg #[Value.int IntKind.i64 0, Value.int IntKind.i64 0, Value.bool false, Value.int IntKind.u8 0])) := ⟨by kernel_rfl⟩
instance : BytesIs Try.prog 7 4 24 := ⟨Try.t7, _, by kernel_rfl, rfl, rfl, rfl, rfl, by decide, by decide⟩
instance : FieldIs Try.prog 8 0 0 2 1 := ⟨_, _, Try.underlying8, rfl, rfl, rfl, by kernel_rfl, by decide⟩
instance : FieldIs Try.prog 8 1 1 3 1 := ⟨_, _, Try.underlying8, rfl, rfl, rfl, by kernel_rfl, by decide⟩
instance : FieldIs Try.prog 8 2 2 4 1 := ⟨_, _, Try.underlying8, rfl, rfl, rfl, by kernel_rfl, by decide⟩
instance : FieldIs Try.prog 8 3 3 6 1 := ⟨_, _, Try.underlying8, rfl, rfl, rfl, by kernel_rfl, by decide⟩
instance : StructOk Try.prog 8 := ⟨_, Try.underlying8, by kernel_rfl⟩
instance : SizeIs Try.prog 8 4 := ⟨by kernel_rfl⟩
instance : AggIs Try.prog 8 true := ⟨by kernel_rfl⟩
instance : ZeroIs Try.prog 8 ((Value.agg #[Value.int IntKind.i64 0, Value.int IntKind.i64 0, Value.bool false, Value.int IntKind.u8 0])) := ⟨by kernel_rfl⟩
instance : BytesIs Try.prog 8 4 24 := ⟨Try.t8, _, by kernel_rfl, rfl, rfl, rfl, rfl, by decide, by decide⟩
instance : UnderIs Try.prog 9 (.string) := ⟨Try.underlying9⟩
instance : SizeIs Try.prog 9 1 := ⟨by kernel_rfl⟩
instance : AggIs Try.prog 9 false := ⟨by kernel_rfl⟩
instance : ZeroIs Try.prog 9 ((Value.string ByteArray.empty)) := ⟨by kernel_rfl⟩
instance : BytesIs Try.prog 9 1 16 := ⟨Try.t9, _, by kernel_rfl, rfl, rfl, rfl, rfl, by decide, by decide⟩
instance : UnderIs Try.prog 10 (.string) := ⟨Try.underlying10⟩
instance : SizeIs Try.prog 10 1 := ⟨by kernel_rfl⟩
instance : AggIs Try.prog 10 false := ⟨by kernel_rfl⟩
instance : ZeroIs Try.prog 10 ((Value.string ByteArray.empty)) := ⟨by kernel_rfl⟩
instance : BytesIs Try.prog 10 1 16 := ⟨Try.t10, _, by kernel_rfl, rfl, rfl, rfl, rfl, by decide, by decide⟩
instance : UnderIs Try.prog 11 (.string) := ⟨Try.underlying11⟩
instance : SizeIs Try.prog 11 1 := ⟨by kernel_rfl⟩
instance : AggIs Try.prog 11 false := ⟨by kernel_rfl⟩
instance : ZeroIs Try.prog 11 ((Value.string ByteArray.empty)) := ⟨by kernel_rfl⟩
instance : BytesIs Try.prog 11 1 16 := ⟨Try.t11, _, by kernel_rfl, rfl, rfl, rfl, rfl, by decide, by decide⟩
instance : UnderIs Try.prog 12 (.int IntKind.u64) := ⟨Try.underlying12⟩
instance : SizeIs Try.prog 12 1 := ⟨by kernel_rfl⟩
instance : AggIs Try.prog 12 false := ⟨by kernel_rfl⟩
instance : ZeroIs Try.prog 12 ((Value.int IntKind.u64 0)) := ⟨by kernel_rfl⟩
instance : BytesIs Try.prog 12 1 8 := ⟨Try.t12, _, by kernel_rfl, rfl, rfl, rfl, rfl, by decide, by decide⟩
instance : FieldIs Try.prog 13 0 0 9 1 := ⟨_, _, Try.underlying13, rfl, rfl, rfl, by kernel_rfl, by decide⟩
instance : FieldIs Try.prog 13 1 1 12 1 := ⟨_, _, Try.underlying13, rfl, rfl, rfl, by kernel_rfl, by decide⟩
instance : StructOk Try.prog 13 := ⟨_, Try.underlying13, by kernel_rfl⟩
instance : SizeIs Try.prog 13 2 := ⟨by kernel_rfl⟩
instance : AggIs Try.prog 13 true := ⟨by kernel_rfl⟩
instance : ZeroIs Try.prog 13 ((Value.agg #[Value.string ByteArray.empty, Value.int IntKind.u64 0])) := ⟨by kernel_rfl⟩
instance : BytesIs Try.prog 13 2 24 := ⟨Try.t13, _, by kernel_rfl, rfl, rfl, rfl, rfl, by decide, by decide⟩
instance : FieldIs Try.prog 14 0 0 9 1 := ⟨_, _, Try.underlying14, rfl, rfl, rfl, by kernel_rfl, by decide⟩
instance : FieldIs Try.prog 14 1 1 12 1 := ⟨_, _, Try.underlying14, rfl, rfl, rfl, by kernel_rfl, by decide⟩
instance : StructOk Try.prog 14 := ⟨_, Try.underlying14, by kernel_rfl⟩
instance : SizeIs Try.prog 14 2 := ⟨by kernel_rfl⟩
instance : AggIs Try.prog 14 true := ⟨by kernel_rfl⟩
instance : ZeroIs Try.prog 14 ((Value.agg #[Value.string ByteArray.empty, Value.int IntKind.u64 0])) := ⟨by kernel_rfl⟩
instance : BytesIs Try.prog 14 2 24 := ⟨Try.t14, _, by kernel_rfl, rfl, rfl, rfl, rfl, by decide, by decide⟩
instance : UnderIs Try.prog 15 (.pointer 137) := ⟨Try.underlying15⟩
instance : SizeIs Try.prog 15 1 := ⟨by kernel_rfl⟩
instance : AggIs Try.prog 15 false := ⟨by kernel_rfl⟩
instance : ZeroIs Try.prog 15 ((Value.pointer none)) := ⟨by kernel_rfl⟩
instance : BytesIs Try.prog 15 1 8 := ⟨Try.t15, _, by kernel_rfl, rfl, rfl, rfl, rfl, by decide, by decide⟩
instance : UnderIs Try.prog 16 (.pointer 140) := ⟨Try.underlying16⟩
instance : SizeIs Try.prog 16 1 := ⟨by kernel_rfl⟩
instance : AggIs Try.prog 16 false := ⟨by kernel_rfl⟩
instance : ZeroIs Try.prog 16 ((Value.pointer none)) := ⟨by kernel_rfl⟩
instance : BytesIs Try.prog 16 1 8 := ⟨Try.t16, _, by kernel_rfl, rfl, rfl, rfl, rfl, by decide, by decide⟩
instance : UnderIs Try.prog 17 (.pointer 150) := ⟨Try.underlying17⟩
instance : SizeIs Try.prog 17 1 := ⟨by kernel_rfl⟩
instance : AggIs Try.prog 17 false := ⟨by kernel_rfl⟩
instance : ZeroIs Try.prog 17 ((Value.pointer none)) := ⟨by kernel_rfl⟩
instance : BytesIs Try.prog 17 1 8 := ⟨Try.t17, _, by kernel_rfl, rfl, rfl, rfl, rfl, by decide, by decide⟩
instance : FieldIs Try.prog 18 0 0 17 1 := ⟨_, _, Try.underlying18, rfl, rfl, rfl, by kernel_rfl, by decide⟩
instance : StructOk Try.prog 18 := ⟨_, Try.underlying18, by kernel_rfl⟩
instance : SizeIs Try.prog 18 1 := ⟨by kernel_rfl⟩
instance : AggIs Try.prog 18 true := ⟨by kernel_rfl⟩
instance : ZeroIs Try.prog 18 ((Value.agg #[Value.pointer none])) := ⟨by kernel_rfl⟩
instance : BytesIs Try.prog 18 1 8 := ⟨Try.t18, _, by kernel_rfl, rfl, rfl, rfl, rfl, by decide, by decide⟩
instance : FieldIs Try.prog 19 0 0 17 1 := ⟨_, _, Try.underlying19, rfl, rfl, rfl, by kernel_rfl, by decide⟩
instance : StructOk Try.prog 19 := ⟨_, Try.underlying19, by kernel_rfl⟩
instance : SizeIs Try.prog 19 1 := ⟨by kernel_rfl⟩
instance : AggIs Try.prog 19 true := ⟨by kernel_rfl⟩
instance : ZeroIs Try.prog 19 ((Value.agg #[Value.pointer none])) := ⟨by kernel_rfl⟩
instance : BytesIs Try.prog 19 1 8 := ⟨Try.t19, _, by kernel_rfl, rfl, rfl, rfl, rfl, by decide, by decide⟩
instance : UnderIs Try.prog 21 (.int IntKind.i32) := ⟨Try.underlying21⟩
instance : SizeIs Try.prog 21 1 := ⟨by kernel_rfl⟩
instance : AggIs Try.prog 21 false := ⟨by kernel_rfl⟩
instance : ZeroIs Try.prog 21 ((Value.int IntKind.i32 0)) := ⟨by kernel_rfl⟩
instance : BytesIs Try.prog 21 1 4 := ⟨Try.t21, _, by kernel_rfl, rfl, rfl, rfl, rfl, by decide, by decide⟩
instance : UnderIs Try.prog 22 (.slice 29) := ⟨Try.underlying22⟩
instance : SizeIs Try.prog 22 1 := ⟨by kernel_rfl⟩
instance : AggIs Try.prog 22 false := ⟨by kernel_rfl⟩
instance : ZeroIs Try.prog 22 ((Value.slice none 0 0)) := ⟨by kernel_rfl⟩
instance : BytesIs Try.prog 22 1 24 := ⟨Try.t22, _, by kernel_rfl, rfl, rfl, rfl, rfl, by decide, by decide⟩
instance : FieldIs Try.prog 23 0 0 3 1 := ⟨_, _, Try.underlying23, rfl, rfl, rfl, by kernel_rfl, by decide⟩
instance : FieldIs Try.prog 23 1 1 3 1 := ⟨_, _, Try.underlying23, rfl, rfl, rfl, by kernel_rfl, by decide⟩
instance : FieldIs Try.prog 23 2 2 22 1 := ⟨_, _, Try.underlying23, rfl, rfl, rfl, by kernel_rfl, by decide⟩
instance : StructOk Try.prog 23 := ⟨_, Try.underlying23, by kernel_rfl⟩
instance : SizeIs Try.prog 23 3 := ⟨by kernel_rfl⟩
instance : AggIs Try.prog 23 true := ⟨by kernel_rfl⟩
instance : ZeroIs Try.prog 23 ((Value.agg #[Value.int IntKind.i64 0, Value.int IntKind.i64 0, Value.slice none 0 0])) := ⟨by kernel_rfl⟩
instance : BytesIs Try.prog 23 3 40 := ⟨Try.t23, _, by kernel_rfl, rfl, rfl, rfl, rfl, by decide, by decide⟩
instance : FieldIs Try.prog 24 0 0 3 1 := ⟨_, _, Try.underlying24, rfl, rfl, rfl, by kernel_rfl, by decide⟩
instance : FieldIs Try.prog 24 1 1 3 1 := ⟨_, _, Try.underlying24, rfl, rfl, rfl, by kernel_rfl, by decide⟩
instance : FieldIs Try.prog 24 2 2 22 1 := ⟨_, _, Try.underlying24, rfl, rfl, rfl, by kernel_rfl, by decide⟩
instance : StructOk Try.prog 24 := ⟨_, Try.underlying24, by kernel_rfl⟩
instance : SizeIs Try.prog 24 3 := ⟨by kernel_rfl⟩
instance : AggIs Try.prog 24 true := ⟨by kernel_rfl⟩
instance : ZeroIs Try.prog 24 ((Value.agg #[Value.int IntKind.i64 0, Value.int IntKind.i64 0, Value.slice none 0 0])) := ⟨by kernel_rfl⟩
instance : BytesIs Try.prog 24 3 40 := ⟨Try.t24, _, by kernel_rfl, rfl, rfl, rfl, rfl, by decide, by decide⟩
instance : UnderIs Try.prog 25 (.slice 3) := ⟨Try.underlying25⟩
instance : SizeIs Try.prog 25 1 := ⟨by kernel_rfl⟩
instance : AggIs Try.prog 25 false := ⟨by kernel_rfl⟩
instance : ZeroIs Try.prog 25 ((Value.slice none 0 0)) := ⟨by kernel_rfl⟩
instance : BytesIs Try.prog 25 1 24 := ⟨Try.t25, _, by kernel_rfl, rfl, rfl, rfl, rfl, by decide, by decide⟩
instance : SizeIs Try.prog 26 1 := ⟨by kernel_rfl⟩
instance : AggIs Try.prog 26 false := ⟨by kernel_rfl⟩
instance : ZeroIs Try.prog 26 (Value.nilFunc) := ⟨by kernel_rfl⟩
instance : BytesIs Try.prog 26 1 8 := ⟨Try.t26, _, by kernel_rfl, rfl, rfl, rfl, rfl, by decide, by decide⟩
instance : UnderIs Try.prog 27 (.int IntKind.u64) := ⟨Try.underlying27⟩
instance : SizeIs Try.prog 27 1 := ⟨by kernel_rfl⟩
instance : AggIs Try.prog 27 false := ⟨by kernel_rfl⟩
instance : ZeroIs Try.prog 27 ((Value.int IntKind.u64 0)) := ⟨by kernel_rfl⟩
instance : BytesIs Try.prog 27 1 8 := ⟨Try.t27, _, by kernel_rfl, rfl, rfl, rfl, rfl, by decide, by decide⟩
instance : FieldIs Try.prog 28 0 0 3 1 := ⟨_, _, Try.underlying28, rfl, rfl, rfl, by kernel_rfl, by decide⟩
instance : FieldIs Try.prog 28 1 1 9 1 := ⟨_, _, Try.underlying28, rfl, rfl, rfl, by kernel_rfl, by decide⟩
instance : FieldIs Try.prog 28 2 2 25 1 := ⟨_, _, Try.underlying28, rfl, rfl, rfl, by kernel_rfl, by decide⟩
instance : FieldIs Try.prog 28 3 3 3 1 := ⟨_, _, Try.underlying28, rfl, rfl, rfl, by kernel_rfl, by decide⟩
instance : FieldIs Try.prog 28 4 4 4 1 := ⟨_, _, Try.underlying28, rfl, rfl, rfl, by kernel_rfl, by decide⟩
instance : FieldIs Try.prog 28 5 5 27 1 := ⟨_, _, Try.underlying28, rfl, rfl, rfl, by kernel_rfl, by decide⟩
instance : FieldIs Try.prog 28 6 6 27 1 := ⟨_, _, Try.underlying28, rfl, rfl, rfl, by kernel_rfl, by decide⟩
instance : StructOk Try.prog 28 := ⟨_, Try.underlying28, by kernel_rfl⟩
instance : SizeIs Try.prog 28 7 := ⟨by kernel_rfl⟩
instance : AggIs Try.prog 28 true := ⟨by kernel_rfl⟩
instance : ZeroIs Try.prog 28 ((Value.agg #[Value.int IntKind.i64 0, Value.string ByteArray.empty, Value.slice none 0 0, Value.int IntKind.i64 0, Value.bool false, Value.int IntKind.u64 0, Value.int IntKind.u64 0])) := ⟨by kernel_rfl⟩
instance : BytesIs Try.prog 28 7 80 := ⟨Try.t28, _, by kernel_rfl, rfl, rfl, rfl, rfl, by decide, by decide⟩
instance : FieldIs Try.prog 29 0 0 3 1 := ⟨_, _, Try.underlying29, rfl, rfl, rfl, by kernel_rfl, by decide⟩
instance : FieldIs Try.prog 29 1 1 9 1 := ⟨_, _, Try.underlying29, rfl, rfl, rfl, by kernel_rfl, by decide⟩
instance : FieldIs Try.prog 29 2 2 25 1 := ⟨_, _, Try.underlying29, rfl, rfl, rfl, by kernel_rfl, by decide⟩
instance : FieldIs Try.prog 29 3 3 3 1 := ⟨_, _, Try.underlying29, rfl, rfl, rfl, by kernel_rfl, by decide⟩
instance : FieldIs Try.prog 29 4 4 4 1 := ⟨_, _, Try.underlying29, rfl, rfl, rfl, by kernel_rfl, by decide⟩
instance : FieldIs Try.prog 29 5 5 27 1 := ⟨_, _, Try.underlying29, rfl, rfl, rfl, by kernel_rfl, by decide⟩
instance : FieldIs Try.prog 29 6 6 27 1 := ⟨_, _, Try.underlying29, rfl, rfl, rfl, by kernel_rfl, by decide⟩
instance : StructOk Try.prog 29 := ⟨_, Try.underlying29, by kernel_rfl⟩
instance : SizeIs Try.prog 29 7 := ⟨by kernel_rfl⟩
instance : AggIs Try.prog 29 true := ⟨by kernel_rfl⟩
instance : ZeroIs Try.prog 29 ((Value.agg #[Value.int IntKind.i64 0, Value.string ByteArray.empty, Value.slice none 0 0, Value.int IntKind.i64 0, Value.bool false, Value.int IntKind.u64 0, Value.int IntKind.u64 0])) := ⟨by kernel_rfl⟩
instance : BytesIs Try.prog 29 7 80 := ⟨Try.t29, _, by kernel_rfl, rfl, rfl, rfl, rfl, by decide, by decide⟩
instance : SizeIs Try.prog 30 1 := ⟨by kernel_rfl⟩
instance : AggIs Try.prog 30 false := ⟨by kernel_rfl⟩
instance : ZeroIs Try.prog 30 (Value.nilFunc) := ⟨by kernel_rfl⟩
instance : BytesIs Try.prog 30 1 8 := ⟨Try.t30, _, by kernel_rfl, rfl, rfl, rfl, rfl, by decide, by decide⟩
instance : UnderIs Try.prog 31 (.int IntKind.i64) := ⟨Try.underlying31⟩
instance : SizeIs Try.prog 31 1 := ⟨by kernel_rfl⟩
instance : AggIs Try.prog 31 false := ⟨by kernel_rfl⟩
instance : ZeroIs Try.prog 31 ((Value.int IntKind.i64 0)) := ⟨by kernel_rfl⟩
instance : BytesIs Try.prog 31 1 8 := ⟨Try.t31, _, by kernel_rfl, rfl, rfl, rfl, rfl, by decide, by decide⟩
instance : SizeIs Try.prog 33 1 := ⟨by kernel_rfl⟩
instance : AggIs Try.prog 33 false := ⟨by kernel_rfl⟩
instance : ZeroIs Try.prog 33 (Value.nilFunc) := ⟨by kernel_rfl⟩
instance : BytesIs Try.prog 33 1 8 := ⟨Try.t33, _, by kernel_rfl, rfl, rfl, rfl, rfl, by decide, by decide⟩
instance : SizeIs Try.prog 34 1 := ⟨by kernel_rfl⟩
instance : AggIs Try.prog 34 false := ⟨by kernel_rfl⟩
instance : ZeroIs Try.prog 34 (Value.nilFunc) := ⟨by kernel_rfl⟩
instance : BytesIs Try.prog 34 1 8 := ⟨Try.t34, _, by kernel_rfl, rfl, rfl, rfl, rfl, by decide, by decide⟩
instance : SizeIs Try.prog 35 1 := ⟨by kernel_rfl⟩
instance : AggIs Try.prog 35 false := ⟨by kernel_rfl⟩
instance : ZeroIs Try.prog 35 (Value.nilFunc) := ⟨by kernel_rfl⟩
instance : BytesIs Try.prog 35 1 8 := ⟨Try.t35, _, by kernel_rfl, rfl, rfl, rfl, rfl, by decide, by decide⟩
instance : UnderIs Try.prog 36 (.slice 25) := ⟨Try.underlying36⟩
instance : SizeIs Try.prog 36 1 := ⟨by kernel_rfl⟩
instance : AggIs Try.prog 36 false := ⟨by kernel_rfl⟩
instance : ZeroIs Try.prog 36 ((Value.slice none 0 0)) := ⟨by kernel_rfl⟩
instance : BytesIs Try.prog 36 1 24 := ⟨Try.t36, _, by kernel_rfl, rfl, rfl, rfl, rfl, by decide, by decide⟩
instance : SizeIs Try.prog 38 1 := ⟨by kernel_rfl⟩
instance : AggIs Try.prog 38 false := ⟨by kernel_rfl⟩
instance : ZeroIs Try.prog 38 (Value.nilFunc) := ⟨by kernel_rfl⟩
instance : BytesIs Try.prog 38 1 8 := ⟨Try.t38, _, by kernel_rfl, rfl, rfl, rfl, rfl, by decide, by decide⟩
instance : SizeIs Try.prog 39 1 := ⟨by kernel_rfl⟩
instance : AggIs Try.prog 39 false := ⟨by kernel_rfl⟩
instance : ZeroIs Try.prog 39 (Value.nilFunc) := ⟨by kernel_rfl⟩
instance : BytesIs Try.prog 39 1 8 := ⟨Try.t39, _, by kernel_rfl, rfl, rfl, rfl, rfl, by decide, by decide⟩
instance : SizeIs Try.prog 41 1 := ⟨by kernel_rfl⟩
instance : AggIs Try.prog 41 false := ⟨by kernel_rfl⟩
instance : ZeroIs Try.prog 41 (Value.nilFunc) := ⟨by kernel_rfl⟩
instance : BytesIs Try.prog 41 1 8 := ⟨Try.t41, _, by kernel_rfl, rfl, rfl, rfl, rfl, by decide, by decide⟩
instance : SizeIs Try.prog 42 1 := ⟨by kernel_rfl⟩
instance : AggIs Try.prog 42 false := ⟨by kernel_rfl⟩
instance : ZeroIs Try.prog 42 (Value.nilFunc) := ⟨by kernel_rfl⟩
instance : BytesIs Try.prog 42 1 8 := ⟨Try.t42, _, by kernel_rfl, rfl, rfl, rfl, rfl, by decide, by decide⟩
instance : SizeIs Try.prog 43 1 := ⟨by kernel_rfl⟩
instance : AggIs Try.prog 43 false := ⟨by kernel_rfl⟩
instance : ZeroIs Try.prog 43 (Value.nilFunc) := ⟨by kernel_rfl⟩
instance : BytesIs Try.prog 43 1 8 := ⟨Try.t43, _, by kernel_rfl, rfl, rfl, rfl, rfl, by decide, by decide⟩
instance : SizeIs Try.prog 45 1 := ⟨by kernel_rfl⟩
instance : AggIs Try.prog 45 false := ⟨by kernel_rfl⟩
instance : ZeroIs Try.prog 45 (Value.nilFunc) := ⟨by kernel_rfl⟩
instance : BytesIs Try.prog 45 1 8 := ⟨Try.t45, _, by kernel_rfl, rfl, rfl, rfl, rfl, by decide, by decide⟩
instance : SizeIs Try.prog 46 1 := ⟨by kernel_rfl⟩
instance : AggIs Try.prog 46 false := ⟨by kernel_rfl⟩
instance : ZeroIs Try.prog 46 (Value.nilFunc) := ⟨by kernel_rfl⟩
instance : BytesIs Try.prog 46 1 8 := ⟨Try.t46, _, by kernel_rfl, rfl, rfl, rfl, rfl, by decide, by decide⟩
instance : SizeIs Try.prog 47 1 := ⟨by kernel_rfl⟩
instance : AggIs Try.prog 47 false := ⟨by kernel_rfl⟩
instance : ZeroIs Try.prog 47 (Value.nilFunc) := ⟨by kernel_rfl⟩
instance : BytesIs Try.prog 47 1 8 := ⟨Try.t47, _, by kernel_rfl, rfl, rfl, rfl, rfl, by decide, by decide⟩
instance : UnderIs Try.prog 48 (.slice 27) := ⟨Try.underlying48⟩
instance : SizeIs Try.prog 48 1 := ⟨by kernel_rfl⟩
instance : AggIs Try.prog 48 false := ⟨by kernel_rfl⟩
instance : ZeroIs Try.prog 48 ((Value.slice none 0 0)) := ⟨by kernel_rfl⟩
instance : BytesIs Try.prog 48 1 24 := ⟨Try.t48, _, by kernel_rfl, rfl, rfl, rfl, rfl, by decide, by decide⟩
instance : FieldIs Try.prog 49 0 0 3 1 := ⟨_, _, Try.underlying49, rfl, rfl, rfl, by kernel_rfl, by decide⟩
instance : FieldIs Try.prog 49 1 1 48 1 := ⟨_, _, Try.underlying49, rfl, rfl, rfl, by kernel_rfl, by decide⟩
instance : StructOk Try.prog 49 := ⟨_, Try.underlying49, by kernel_rfl⟩
instance : SizeIs Try.prog 49 2 := ⟨by kernel_rfl⟩
instance : AggIs Try.prog 49 true := ⟨by kernel_rfl⟩
instance : ZeroIs Try.prog 49 ((Value.agg #[Value.int IntKind.i64 0, Value.slice none 0 0])) := ⟨by kernel_rfl⟩
instance : BytesIs Try.prog 49 2 32 := ⟨Try.t49, _, by kernel_rfl, rfl, rfl, rfl, rfl, by decide, by decide⟩
instance : FieldIs Try.prog 50 0 0 3 1 := ⟨_, _, Try.underlying50, rfl, rfl, rfl, by kernel_rfl, by decide⟩
instance : FieldIs Try.prog 50 1 1 48 1 := ⟨_, _, Try.underlying50, rfl, rfl, rfl, by kernel_rfl, by decide⟩
instance : StructOk Try.prog 50 := ⟨_, Try.underlying50, by kernel_rfl⟩
instance : SizeIs Try.prog 50 2 := ⟨by kernel_rfl⟩
instance : AggIs Try.prog 50 true := ⟨by kernel_rfl⟩
instance : ZeroIs Try.prog 50 ((Value.agg #[Value.int IntKind.i64 0, Value.slice none 0 0])) := ⟨by kernel_rfl⟩
instance : BytesIs Try.prog 50 2 32 := ⟨Try.t50, _, by kernel_rfl, rfl, rfl, rfl, rfl, by decide, by decide⟩
instance : SizeIs Try.prog 52 1 := ⟨by kernel_rfl⟩
instance : AggIs Try.prog 52 false := ⟨by kernel_rfl⟩
instance : ZeroIs Try.prog 52 (Value.nilFunc) := ⟨by kernel_rfl⟩
instance : BytesIs Try.prog 52 1 8 := ⟨Try.t52, _, by kernel_rfl, rfl, rfl, rfl, rfl, by decide, by decide⟩
instance : SizeIs Try.prog 54 1 := ⟨by kernel_rfl⟩
instance : AggIs Try.prog 54 false := ⟨by kernel_rfl⟩
instance : ZeroIs Try.prog 54 (Value.nilFunc) := ⟨by kernel_rfl⟩
instance : BytesIs Try.prog 54 1 8 := ⟨Try.t54, _, by kernel_rfl, rfl, rfl, rfl, rfl, by decide, by decide⟩
instance : SizeIs Try.prog 55 1 := ⟨by kernel_rfl⟩
instance : AggIs Try.prog 55 false := ⟨by kernel_rfl⟩
instance : ZeroIs Try.prog 55 (Value.nilFunc) := ⟨by kernel_rfl⟩
instance : BytesIs Try.prog 55 1 8 := ⟨Try.t55, _, by kernel_rfl, rfl, rfl, rfl, rfl, by decide, by decide⟩
instance : SizeIs Try.prog 56 1 := ⟨by kernel_rfl⟩
instance : AggIs Try.prog 56 false := ⟨by kernel_rfl⟩
instance : ZeroIs Try.prog 56 (Value.nilFunc) := ⟨by kernel_rfl⟩
instance : BytesIs Try.prog 56 1 8 := ⟨Try.t56, _, by kernel_rfl, rfl, rfl, rfl, rfl, by decide, by decide⟩
instance : SizeIs Try.prog 58 1 := ⟨by kernel_rfl⟩
instance : AggIs Try.prog 58 false := ⟨by kernel_rfl⟩
instance : ZeroIs Try.prog 58 (Value.nilFunc) := ⟨by kernel_rfl⟩
instance : BytesIs Try.prog 58 1 8 := ⟨Try.t58, _, by kernel_rfl, rfl, rfl, rfl, rfl, by decide, by decide⟩
instance : SizeIs Try.prog 59 1 := ⟨by kernel_rfl⟩
instance : AggIs Try.prog 59 false := ⟨by kernel_rfl⟩
instance : ZeroIs Try.prog 59 (Value.nilFunc) := ⟨by kernel_rfl⟩
instance : BytesIs Try.prog 59 1 8 := ⟨Try.t59, _, by kernel_rfl, rfl, rfl, rfl, rfl, by decide, by decide⟩
instance : SizeIs Try.prog 61 1 := ⟨by kernel_rfl⟩
instance : AggIs Try.prog 61 false := ⟨by kernel_rfl⟩
instance : ZeroIs Try.prog 61 (Value.nilFunc) := ⟨by kernel_rfl⟩
instance : BytesIs Try.prog 61 1 8 := ⟨Try.t61, _, by kernel_rfl, rfl, rfl, rfl, rfl, by decide, by decide⟩
instance : SizeIs Try.prog 62 1 := ⟨by kernel_rfl⟩
instance : AggIs Try.prog 62 false := ⟨by kernel_rfl⟩
instance : ZeroIs Try.prog 62 (Value.nilFunc) := ⟨by kernel_rfl⟩
instance : BytesIs Try.prog 62 1 8 := ⟨Try.t62, _, by kernel_rfl, rfl, rfl, rfl, rfl, by decide, by decide⟩
instance : SizeIs Try.prog 63 1 := ⟨by kernel_rfl⟩
instance : AggIs Try.prog 63 false := ⟨by kernel_rfl⟩
instance : ZeroIs Try.prog 63 (Value.nilFunc) := ⟨by kernel_rfl⟩
instance : BytesIs Try.prog 63 1 8 := ⟨Try.t63, _, by kernel_rfl, rfl, rfl, rfl, rfl, by decide, by decide⟩
instance : SizeIs Try.prog 64 1 := ⟨by kernel_rfl⟩
instance : AggIs Try.prog 64 false := ⟨by kernel_rfl⟩
instance : ZeroIs Try.prog 64 (Value.nilFunc) := ⟨by kernel_rfl⟩
instance : BytesIs Try.prog 64 1 8 := ⟨Try.t64, _, by kernel_rfl, rfl, rfl, rfl, rfl, by decide, by decide⟩
instance : SizeIs Try.prog 65 1 := ⟨by kernel_rfl⟩
instance : AggIs Try.prog 65 false := ⟨by kernel_rfl⟩
instance : ZeroIs Try.prog 65 (Value.nilFunc) := ⟨by kernel_rfl⟩
instance : BytesIs Try.prog 65 1 8 := ⟨Try.t65, _, by kernel_rfl, rfl, rfl, rfl, rfl, by decide, by decide⟩
instance : SizeIs Try.prog 66 1 := ⟨by kernel_rfl⟩
instance : AggIs Try.prog 66 false := ⟨by kernel_rfl⟩
instance : ZeroIs Try.prog 66 (Value.nilFunc) := ⟨by kernel_rfl⟩
instance : BytesIs Try.prog 66 1 8 := ⟨Try.t66, _, by kernel_rfl, rfl, rfl, rfl, rfl, by decide, by decide⟩
instance : SizeIs Try.prog 68 1 := ⟨by kernel_rfl⟩
instance : AggIs Try.prog 68 false := ⟨by kernel_rfl⟩
instance : ZeroIs Try.prog 68 (Value.nilFunc) := ⟨by kernel_rfl⟩
instance : BytesIs Try.prog 68 1 8 := ⟨Try.t68, _, by kernel_rfl, rfl, rfl, rfl, rfl, by decide, by decide⟩
instance : SizeIs Try.prog 69 1 := ⟨by kernel_rfl⟩
instance : AggIs Try.prog 69 false := ⟨by kernel_rfl⟩
instance : ZeroIs Try.prog 69 (Value.nilFunc) := ⟨by kernel_rfl⟩
instance : BytesIs Try.prog 69 1 8 := ⟨Try.t69, _, by kernel_rfl, rfl, rfl, rfl, rfl, by decide, by decide⟩
instance : SizeIs Try.prog 70 1 := ⟨by kernel_rfl⟩
instance : AggIs Try.prog 70 false := ⟨by kernel_rfl⟩
instance : ZeroIs Try.prog 70 (Value.nilFunc) := ⟨by kernel_rfl⟩
instance : BytesIs Try.prog 70 1 8 := ⟨Try.t70, _, by kernel_rfl, rfl, rfl, rfl, rfl, by decide, by decide⟩
instance : SizeIs Try.prog 71 1 := ⟨by kernel_rfl⟩
instance : AggIs Try.prog 71 false := ⟨by kernel_rfl⟩
instance : ZeroIs Try.prog 71 (Value.nilFunc) := ⟨by kernel_rfl⟩
instance : BytesIs Try.prog 71 1 8 := ⟨Try.t71, _, by kernel_rfl, rfl, rfl, rfl, rfl, by decide, by decide⟩
instance : SizeIs Try.prog 72 1 := ⟨by kernel_rfl⟩
instance : AggIs Try.prog 72 false := ⟨by kernel_rfl⟩
instance : ZeroIs Try.prog 72 (Value.nilFunc) := ⟨by kernel_rfl⟩
instance : BytesIs Try.prog 72 1 8 := ⟨Try.t72, _, by kernel_rfl, rfl, rfl, rfl, rfl, by decide, by decide⟩
instance : SizeIs Try.prog 73 1 := ⟨by kernel_rfl⟩
instance : AggIs Try.prog 73 false := ⟨by kernel_rfl⟩
instance : ZeroIs Try.prog 73 (Value.nilFunc) := ⟨by kernel_rfl⟩
instance : BytesIs Try.prog 73 1 8 := ⟨Try.t73, _, by kernel_rfl, rfl, rfl, rfl, rfl, by decide, by decide⟩
instance : SizeIs Try.prog 75 1 := ⟨by kernel_rfl⟩
instance : AggIs Try.prog 75 false := ⟨by kernel_rfl⟩
instance : ZeroIs Try.prog 75 (Value.nilFunc) := ⟨by kernel_rfl⟩
instance : BytesIs Try.prog 75 1 8 := ⟨Try.t75, _, by kernel_rfl, rfl, rfl, rfl, rfl, by decide, by decide⟩
instance : UnderIs Try.prog 76 (.slice 24) := ⟨Try.underlying76⟩
instance : SizeIs Try.prog 76 1 := ⟨by kernel_rfl⟩
instance : AggIs Try.prog 76 false := ⟨by kernel_rfl⟩
instance : ZeroIs Try.prog 76 ((Value.slice none 0 0)) := ⟨by kernel_rfl⟩
instance : BytesIs Try.prog 76 1 24 := ⟨Try.t76, _, by kernel_rfl, rfl, rfl, rfl, rfl, by decide, by decide⟩
instance : SizeIs Try.prog 77 1 := ⟨by kernel_rfl⟩
instance : AggIs Try.prog 77 false := ⟨by kernel_rfl⟩
instance : ZeroIs Try.prog 77 (Value.nilFunc) := ⟨by kernel_rfl⟩
instance : BytesIs Try.prog 77 1 8 := ⟨Try.t77, _, by kernel_rfl, rfl, rfl, rfl, rfl, by decide, by decide⟩
instance : UnderIs Try.prog 78 (.slice 4) := ⟨Try.underlying78⟩
instance : SizeIs Try.prog 78 1 := ⟨by kernel_rfl⟩
instance : AggIs Try.prog 78 false := ⟨by kernel_rfl⟩
instance : ZeroIs Try.prog 78 ((Value.slice none 0 0)) := ⟨by kernel_rfl⟩
instance : BytesIs Try.prog 78 1 24 := ⟨Try.t78, _, by kernel_rfl, rfl, rfl, rfl, rfl, by decide, by decide⟩
instance : SizeIs Try.prog 79 1 := ⟨by kernel_rfl⟩
instance : AggIs Try.prog 79 false := ⟨by kernel_rfl⟩
instance : ZeroIs Try.prog 79 (Value.nilFunc) := ⟨by kernel_rfl⟩
instance : BytesIs Try.prog 79 1 8 := ⟨Try.t79, _, by kernel_rfl, rfl, rfl, rfl, rfl, by decide, by decide⟩
instance : SizeIs Try.prog 80 1 := ⟨by kernel_rfl⟩
instance : AggIs Try.prog 80 false := ⟨by kernel_rfl⟩
instance : ZeroIs Try.prog 80 (Value.nilFunc) := ⟨by kernel_rfl⟩
instance : BytesIs Try.prog 80 1 8 := ⟨Try.t80, _, by kernel_rfl, rfl, rfl, rfl, rfl, by decide, by decide⟩
instance : SizeIs Try.prog 82 1 := ⟨by kernel_rfl⟩
instance : AggIs Try.prog 82 false := ⟨by kernel_rfl⟩
instance : ZeroIs Try.prog 82 (Value.nilFunc) := ⟨by kernel_rfl⟩
instance : BytesIs Try.prog 82 1 8 := ⟨Try.t82, _, by kernel_rfl, rfl, rfl, rfl, rfl, by decide, by decide⟩
instance : SizeIs Try.prog 83 1 := ⟨by kernel_rfl⟩
instance : AggIs Try.prog 83 false := ⟨by kernel_rfl⟩
instance : ZeroIs Try.prog 83 (Value.nilFunc) := ⟨by kernel_rfl⟩
instance : BytesIs Try.prog 83 1 8 := ⟨Try.t83, _, by kernel_rfl, rfl, rfl, rfl, rfl, by decide, by decide⟩
instance : SizeIs Try.prog 85 1 := ⟨by kernel_rfl⟩
instance : AggIs Try.prog 85 false := ⟨by kernel_rfl⟩
instance : ZeroIs Try.prog 85 (Value.nilFunc) := ⟨by kernel_rfl⟩
instance : BytesIs Try.prog 85 1 8 := ⟨Try.t85, _, by kernel_rfl, rfl, rfl, rfl, rfl, by decide, by decide⟩
instance : SizeIs Try.prog 86 1 := ⟨by kernel_rfl⟩
instance : AggIs Try.prog 86 false := ⟨by kernel_rfl⟩
instance : ZeroIs Try.prog 86 (Value.nilFunc) := ⟨by kernel_rfl⟩
instance : BytesIs Try.prog 86 1 8 := ⟨Try.t86, _, by kernel_rfl, rfl, rfl, rfl, rfl, by decide, by decide⟩
instance : SizeIs Try.prog 87 1 := ⟨by kernel_rfl⟩
instance : AggIs Try.prog 87 false := ⟨by kernel_rfl⟩
instance : ZeroIs Try.prog 87 (Value.nilFunc) := ⟨by kernel_rfl⟩
instance : BytesIs Try.prog 87 1 8 := ⟨Try.t87, _, by kernel_rfl, rfl, rfl, rfl, rfl, by decide, by decide⟩
instance : UnderIs Try.prog 88 (.slice 93) := ⟨Try.underlying88⟩
instance : SizeIs Try.prog 88 1 := ⟨by kernel_rfl⟩
instance : AggIs Try.prog 88 false := ⟨by kernel_rfl⟩
instance : ZeroIs Try.prog 88 ((Value.slice none 0 0)) := ⟨by kernel_rfl⟩
instance : BytesIs Try.prog 88 1 24 := ⟨Try.t88, _, by kernel_rfl, rfl, rfl, rfl, rfl, by decide, by decide⟩
instance : SizeIs Try.prog 90 1 := ⟨by kernel_rfl⟩
instance : AggIs Try.prog 90 false := ⟨by kernel_rfl⟩
instance : ZeroIs Try.prog 90 (Value.nilFunc) := ⟨by kernel_rfl⟩
instance : BytesIs Try.prog 90 1 8 := ⟨Try.t90, _, by kernel_rfl, rfl, rfl, rfl, rfl, by decide, by decide⟩
instance : SizeIs Try.prog 91 1 := ⟨by kernel_rfl⟩
instance : AggIs Try.prog 91 false := ⟨by kernel_rfl⟩
instance : ZeroIs Try.prog 91 (Value.nilFunc) := ⟨by kernel_rfl⟩
instance : BytesIs Try.prog 91 1 8 := ⟨Try.t91, _, by kernel_rfl, rfl, rfl, rfl, rfl, by decide, by decide⟩
instance : FieldIs Try.prog 92 0 0 3 1 := ⟨_, _, Try.underlying92, rfl, rfl, rfl, by kernel_rfl, by decide⟩
instance : FieldIs Try.prog 92 1 1 3 1 := ⟨_, _, Try.underlying92, rfl, rfl, rfl, by kernel_rfl, by decide⟩
instance : StructOk Try.prog 92 := ⟨_, Try.underlying92, by kernel_rfl⟩
instance : SizeIs Try.prog 92 2 := ⟨by kernel_rfl⟩
instance : AggIs Try.prog 92 true := ⟨by kernel_rfl⟩
instance : ZeroIs Try.prog 92 ((Value.agg #[Value.int IntKind.i64 0, Value.int IntKind.i64 0])) := ⟨by kernel_rfl⟩
instance : BytesIs Try.prog 92 2 16 := ⟨Try.t92, _, by kernel_rfl, rfl, rfl, rfl, rfl, by decide, by decide⟩
instance : FieldIs Try.prog 93 0 0 3 1 := ⟨_, _, Try.underlying93, rfl, rfl, rfl, by kernel_rfl, by decide⟩
instance : FieldIs Try.prog 93 1 1 3 1 := ⟨_, _, Try.underlying93, rfl, rfl, rfl, by kernel_rfl, by decide⟩
instance : StructOk Try.prog 93 := ⟨_, Try.underlying93, by kernel_rfl⟩
instance : SizeIs Try.prog 93 2 := ⟨by kernel_rfl⟩
instance : AggIs Try.prog 93 true := ⟨by kernel_rfl⟩
instance : ZeroIs Try.prog 93 ((Value.agg #[Value.int IntKind.i64 0, Value.int IntKind.i64 0])) := ⟨by kernel_rfl⟩
instance : BytesIs Try.prog 93 2 16 := ⟨Try.t93, _, by kernel_rfl, rfl, rfl, rfl, rfl, by decide, by decide⟩
instance : SizeIs Try.prog 94 1 := ⟨by kernel_rfl⟩
instance : AggIs Try.prog 94 false := ⟨by kernel_rfl⟩
instance : ZeroIs Try.prog 94 (Value.nilFunc) := ⟨by kernel_rfl⟩
instance : BytesIs Try.prog 94 1 8 := ⟨Try.t94, _, by kernel_rfl, rfl, rfl, rfl, rfl, by decide, by decide⟩
instance : SizeIs Try.prog 95 1 := ⟨by kernel_rfl⟩
instance : AggIs Try.prog 95 false := ⟨by kernel_rfl⟩
instance : ZeroIs Try.prog 95 (Value.nilFunc) := ⟨by kernel_rfl⟩
instance : BytesIs Try.prog 95 1 8 := ⟨Try.t95, _, by kernel_rfl, rfl, rfl, rfl, rfl, by decide, by decide⟩
instance : SizeIs Try.prog 96 1 := ⟨by kernel_rfl⟩
instance : AggIs Try.prog 96 false := ⟨by kernel_rfl⟩
instance : ZeroIs Try.prog 96 (Value.nilFunc) := ⟨by kernel_rfl⟩
instance : BytesIs Try.prog 96 1 8 := ⟨Try.t96, _, by kernel_rfl, rfl, rfl, rfl, rfl, by decide, by decide⟩
instance : SizeIs Try.prog 97 1 := ⟨by kernel_rfl⟩
instance : AggIs Try.prog 97 false := ⟨by kernel_rfl⟩
instance : ZeroIs Try.prog 97 (Value.nilFunc) := ⟨by kernel_rfl⟩
instance : BytesIs Try.prog 97 1 8 := ⟨Try.t97, _, by kernel_rfl, rfl, rfl, rfl, rfl, by decide, by decide⟩
instance : SizeIs Try.prog 98 1 := ⟨by kernel_rfl⟩
instance : AggIs Try.prog 98 false := ⟨by kernel_rfl⟩
instance : ZeroIs Try.prog 98 (Value.nilFunc) := ⟨by kernel_rfl⟩
instance : BytesIs Try.prog 98 1 8 := ⟨Try.t98, _, by kernel_rfl, rfl, rfl, rfl, rfl, by decide, by decide⟩
instance : SizeIs Try.prog 99 1 := ⟨by kernel_rfl⟩
instance : AggIs Try.prog 99 false := ⟨by kernel_rfl⟩
instance : ZeroIs Try.prog 99 (Value.nilFunc) := ⟨by kernel_rfl⟩
instance : BytesIs Try.prog 99 1 8 := ⟨Try.t99, _, by kernel_rfl, rfl, rfl, rfl, rfl, by decide, by decide⟩
instance : SizeIs Try.prog 100 1 := ⟨by kernel_rfl⟩
instance : AggIs Try.prog 100 false := ⟨by kernel_rfl⟩
instance : ZeroIs Try.prog 100 (Value.nilFunc) := ⟨by kernel_rfl⟩
instance : BytesIs Try.prog 100 1 8 := ⟨Try.t100, _, by kernel_rfl, rfl, rfl, rfl, rfl, by decide, by decide⟩
instance : SizeIs Try.prog 101 1 := ⟨by kernel_rfl⟩
instance : AggIs Try.prog 101 false := ⟨by kernel_rfl⟩
instance : ZeroIs Try.prog 101 (Value.nilFunc) := ⟨by kernel_rfl⟩
instance : BytesIs Try.prog 101 1 8 := ⟨Try.t101, _, by kernel_rfl, rfl, rfl, rfl, rfl, by decide, by decide⟩
instance : SizeIs Try.prog 102 1 := ⟨by kernel_rfl⟩
instance : AggIs Try.prog 102 false := ⟨by kernel_rfl⟩
instance : ZeroIs Try.prog 102 (Value.nilFunc) := ⟨by kernel_rfl⟩
instance : BytesIs Try.prog 102 1 8 := ⟨Try.t102, _, by kernel_rfl, rfl, rfl, rfl, rfl, by decide, by decide⟩
instance : SizeIs Try.prog 103 1 := ⟨by kernel_rfl⟩
instance : AggIs Try.prog 103 false := ⟨by kernel_rfl⟩
instance : ZeroIs Try.prog 103 (Value.nilFunc) := ⟨by kernel_rfl⟩
instance : BytesIs Try.prog 103 1 8 := ⟨Try.t103, _, by kernel_rfl, rfl, rfl, rfl, rfl, by decide, by decide⟩
instance : SizeIs Try.prog 104 1 := ⟨by kernel_rfl⟩
instance : AggIs Try.prog 104 false := ⟨by kernel_rfl⟩
instance : ZeroIs Try.prog 104 (Value.nilFunc) := ⟨by kernel_rfl⟩
instance : BytesIs Try.prog 104 1 8 := ⟨Try.t104, _, by kernel_rfl, rfl, rfl, rfl, rfl, by decide, by decide⟩
instance : SizeIs Try.prog 105 1 := ⟨by kernel_rfl⟩
instance : AggIs Try.prog 105 false := ⟨by kernel_rfl⟩
instance : ZeroIs Try.prog 105 (Value.nilFunc) := ⟨by kernel_rfl⟩
instance : BytesIs Try.prog 105 1 8 := ⟨Try.t105, _, by kernel_rfl, rfl, rfl, rfl, rfl, by decide, by decide⟩
instance : SizeIs Try.prog 106 1 := ⟨by kernel_rfl⟩
instance : AggIs Try.prog 106 false := ⟨by kernel_rfl⟩
instance : ZeroIs Try.prog 106 (Value.nilFunc) := ⟨by kernel_rfl⟩
instance : BytesIs Try.prog 106 1 8 := ⟨Try.t106, _, by kernel_rfl, rfl, rfl, rfl, rfl, by decide, by decide⟩
instance : SizeIs Try.prog 107 1 := ⟨by kernel_rfl⟩
instance : AggIs Try.prog 107 false := ⟨by kernel_rfl⟩
instance : ZeroIs Try.prog 107 (Value.nilFunc) := ⟨by kernel_rfl⟩
instance : BytesIs Try.prog 107 1 8 := ⟨Try.t107, _, by kernel_rfl, rfl, rfl, rfl, rfl, by decide, by decide⟩
instance : FieldIs Try.prog 108 0 0 3 1 := ⟨_, _, Try.underlying108, rfl, rfl, rfl, by kernel_rfl, by decide⟩
instance : FieldIs Try.prog 108 1 1 3 1 := ⟨_, _, Try.underlying108, rfl, rfl, rfl, by kernel_rfl, by decide⟩
instance : FieldIs Try.prog 108 2 2 4 1 := ⟨_, _, Try.underlying108, rfl, rfl, rfl, by kernel_rfl, by decide⟩
instance : FieldIs Try.prog 108 3 3 4 1 := ⟨_, _, Try.underlying108, rfl, rfl, rfl, by kernel_rfl, by decide⟩
instance : FieldIs Try.prog 108 4 4 9 1 := ⟨_, _, Try.underlying108, rfl, rfl, rfl, by kernel_rfl, by decide⟩
instance : FieldIs Try.prog 108 5 5 107 1 := ⟨_, _, Try.underlying108, rfl, rfl, rfl, by kernel_rfl, by decide⟩
instance : StructOk Try.prog 108 := ⟨_, Try.underlying108, by kernel_rfl⟩
instance : SizeIs Try.prog 108 6 := ⟨by kernel_rfl⟩
instance : AggIs Try.prog 108 true := ⟨by kernel_rfl⟩
instance : ZeroIs Try.prog 108 ((Value.agg #[Value.int IntKind.i64 0, Value.int IntKind.i64 0, Value.bool false, Value.bool false, Value.string ByteArray.empty, Value.nilFunc])) := ⟨by kernel_rfl⟩
instance : BytesIs Try.prog 108 6 48 := ⟨Try.t108, _, by kernel_rfl, rfl, rfl, rfl, rfl, by decide, by decide⟩
instance : FieldIs Try.prog 109 0 0 3 1 := ⟨_, _, Try.underlying109, rfl, rfl, rfl, by kernel_rfl, by decide⟩
instance : FieldIs Try.prog 109 1 1 3 1 := ⟨_, _, Try.underlying109, rfl, rfl, rfl, by kernel_rfl, by decide⟩
instance : FieldIs Try.prog 109 2 2 4 1 := ⟨_, _, Try.underlying109, rfl, rfl, rfl, by kernel_rfl, by decide⟩
instance : FieldIs Try.prog 109 3 3 4 1 := ⟨_, _, Try.underlying109, rfl, rfl, rfl, by kernel_rfl, by decide⟩
instance : FieldIs Try.prog 109 4 4 9 1 := ⟨_, _, Try.underlying109, rfl, rfl, rfl, by kernel_rfl, by decide⟩
instance : FieldIs Try.prog 109 5 5 107 1 := ⟨_, _, Try.underlying109, rfl, rfl, rfl, by kernel_rfl, by decide⟩
instance : StructOk Try.prog 109 := ⟨_, Try.underlying109, by kernel_rfl⟩
instance : SizeIs Try.prog 109 6 := ⟨by kernel_rfl⟩
instance : AggIs Try.prog 109 true := ⟨by kernel_rfl⟩
instance : ZeroIs Try.prog 109 ((Value.agg #[Value.int IntKind.i64 0, Value.int IntKind.i64 0, Value.bool false, Value.bool false, Value.string ByteArray.empty, Value.nilFunc])) := ⟨by kernel_rfl⟩
instance : BytesIs Try.prog 109 6 48 := ⟨Try.t109, _, by kernel_rfl, rfl, rfl, rfl, rfl, by decide, by decide⟩
instance : UnderIs Try.prog 111 (.map 9 109) := ⟨Try.underlying111⟩
instance : SizeIs Try.prog 111 1 := ⟨by kernel_rfl⟩
instance : AggIs Try.prog 111 false := ⟨by kernel_rfl⟩
instance : ZeroIs Try.prog 111 ((Value.map none)) := ⟨by kernel_rfl⟩
instance : BytesIs Try.prog 111 1 8 := ⟨Try.t111, _, by kernel_rfl, rfl, rfl, rfl, rfl, by decide, by decide⟩
instance : SizeIs Try.prog 112 1 := ⟨by kernel_rfl⟩
instance : AggIs Try.prog 112 false := ⟨by kernel_rfl⟩
instance : ZeroIs Try.prog 112 (Value.nilFunc) := ⟨by kernel_rfl⟩
instance : BytesIs Try.prog 112 1 8 := ⟨Try.t112, _, by kernel_rfl, rfl, rfl, rfl, rfl, by decide, by decide⟩
instance : UnderIs Try.prog 113 (.slice 22) := ⟨Try.underlying113⟩
instance : SizeIs Try.prog 113 1 := ⟨by kernel_rfl⟩
instance : AggIs Try.prog 113 false := ⟨by kernel_rfl⟩
instance : ZeroIs Try.prog 113 ((Value.slice none 0 0)) := ⟨by kernel_rfl⟩
instance : BytesIs Try.prog 113 1 24 := ⟨Try.t113, _, by kernel_rfl, rfl, rfl, rfl, rfl, by decide, by decide⟩
instance : SizeIs Try.prog 114 1 := ⟨by kernel_rfl⟩
instance : AggIs Try.prog 114 false := ⟨by kernel_rfl⟩
instance : ZeroIs Try.prog 114 (Value.nilFunc) := ⟨by kernel_rfl⟩
instance : BytesIs Try.prog 114 1 8 := ⟨Try.t114, _, by kernel_rfl, rfl, rfl, rfl, rfl, by decide, by decide⟩
instance : SizeIs Try.prog 116 1 := ⟨by kernel_rfl⟩
instance : AggIs Try.prog 116 false := ⟨by kernel_rfl⟩
instance : ZeroIs Try.prog 116 (Value.nilFunc) := ⟨by kernel_rfl⟩
instance : BytesIs Try.prog 116 1 8 := ⟨Try.t116, _, by kernel_rfl, rfl, rfl, rfl, rfl, by decide, by decide⟩
instance : SizeIs Try.prog 117 1 := ⟨by kernel_rfl⟩
instance : AggIs Try.prog 117 false := ⟨by kernel_rfl⟩
instance : ZeroIs Try.prog 117 (Value.nilFunc) := ⟨by kernel_rfl⟩
instance : BytesIs Try.prog 117 1 8 := ⟨Try.t117, _, by kernel_rfl, rfl, rfl, rfl, rfl, by decide, by decide⟩
instance : SizeIs Try.prog 118 1 := ⟨by kernel_rfl⟩
instance : AggIs Try.prog 118 false := ⟨by kernel_rfl⟩
instance : ZeroIs Try.prog 118 (Value.nilFunc) := ⟨by kernel_rfl⟩
instance : BytesIs Try.prog 118 1 8 := ⟨Try.t118, _, by kernel_rfl, rfl, rfl, rfl, rfl, by decide, by decide⟩
instance : SizeIs Try.prog 119 1 := ⟨by kernel_rfl⟩
instance : AggIs Try.prog 119 false := ⟨by kernel_rfl⟩
instance : ZeroIs Try.prog 119 (Value.nilFunc) := ⟨by kernel_rfl⟩
instance : BytesIs Try.prog 119 1 8 := ⟨Try.t119, _, by kernel_rfl, rfl, rfl, rfl, rfl, by decide, by decide⟩
instance : SizeIs Try.prog 120 1 := ⟨by kernel_rfl⟩
instance : AggIs Try.prog 120 false := ⟨by kernel_rfl⟩
instance : ZeroIs Try.prog 120 (Value.nilFunc) := ⟨by kernel_rfl⟩
instance : BytesIs Try.prog 120 1 8 := ⟨Try.t120, _, by kernel_rfl, rfl, rfl, rfl, rfl, by decide, by decide⟩
instance : SizeIs Try.prog 121 1 := ⟨by kernel_rfl⟩
instance : AggIs Try.prog 121 false := ⟨by kernel_rfl⟩
instance : ZeroIs Try.prog 121 (Value.nilFunc) := ⟨by kernel_rfl⟩
instance : BytesIs Try.prog 121 1 8 := ⟨Try.t121, _, by kernel_rfl, rfl, rfl, rfl, rfl, by decide, by decide⟩
instance : SizeIs Try.prog 122 1 := ⟨by kernel_rfl⟩
instance : AggIs Try.prog 122 false := ⟨by kernel_rfl⟩
instance : ZeroIs Try.prog 122 (Value.nilFunc) := ⟨by kernel_rfl⟩
instance : BytesIs Try.prog 122 1 8 := ⟨Try.t122, _, by kernel_rfl, rfl, rfl, rfl, rfl, by decide, by decide⟩
instance : SizeIs Try.prog 123 1 := ⟨by kernel_rfl⟩
instance : AggIs Try.prog 123 false := ⟨by kernel_rfl⟩
instance : ZeroIs Try.prog 123 (Value.nilFunc) := ⟨by kernel_rfl⟩
instance : BytesIs Try.prog 123 1 8 := ⟨Try.t123, _, by kernel_rfl, rfl, rfl, rfl, rfl, by decide, by decide⟩
instance : SizeIs Try.prog 124 1 := ⟨by kernel_rfl⟩
instance : AggIs Try.prog 124 false := ⟨by kernel_rfl⟩
instance : ZeroIs Try.prog 124 (Value.nilFunc) := ⟨by kernel_rfl⟩
instance : BytesIs Try.prog 124 1 8 := ⟨Try.t124, _, by kernel_rfl, rfl, rfl, rfl, rfl, by decide, by decide⟩
instance : SizeIs Try.prog 125 1 := ⟨by kernel_rfl⟩
instance : AggIs Try.prog 125 false := ⟨by kernel_rfl⟩
instance : ZeroIs Try.prog 125 (Value.nilFunc) := ⟨by kernel_rfl⟩
instance : BytesIs Try.prog 125 1 8 := ⟨Try.t125, _, by kernel_rfl, rfl, rfl, rfl, rfl, by decide, by decide⟩
instance : SizeIs Try.prog 126 1 := ⟨by kernel_rfl⟩
instance : AggIs Try.prog 126 false := ⟨by kernel_rfl⟩
instance : ZeroIs Try.prog 126 (Value.nilFunc) := ⟨by kernel_rfl⟩
instance : BytesIs Try.prog 126 1 8 := ⟨Try.t126, _, by kernel_rfl, rfl, rfl, rfl, rfl, by decide, by decide⟩
instance : SizeIs Try.prog 127 1 := ⟨by kernel_rfl⟩
instance : AggIs Try.prog 127 false := ⟨by kernel_rfl⟩
instance : ZeroIs Try.prog 127 (Value.nilFunc) := ⟨by kernel_rfl⟩
instance : BytesIs Try.prog 127 1 8 := ⟨Try.t127, _, by kernel_rfl, rfl, rfl, rfl, rfl, by decide, by decide⟩
instance : SizeIs Try.prog 128 1 := ⟨by kernel_rfl⟩
instance : AggIs Try.prog 128 false := ⟨by kernel_rfl⟩
instance : ZeroIs Try.prog 128 (Value.nilFunc) := ⟨by kernel_rfl⟩
instance : BytesIs Try.prog 128 1 8 := ⟨Try.t128, _, by kernel_rfl, rfl, rfl, rfl, rfl, by decide, by decide⟩
instance : SizeIs Try.prog 129 1 := ⟨by kernel_rfl⟩
instance : AggIs Try.prog 129 false := ⟨by kernel_rfl⟩
instance : ZeroIs Try.prog 129 (Value.nilFunc) := ⟨by kernel_rfl⟩
instance : BytesIs Try.prog 129 1 8 := ⟨Try.t129, _, by kernel_rfl, rfl, rfl, rfl, rfl, by decide, by decide⟩
instance : UnderIs Try.prog 130 (.int IntKind.u64) := ⟨Try.underlying130⟩
instance : SizeIs Try.prog 130 1 := ⟨by kernel_rfl⟩
instance : AggIs Try.prog 130 false := ⟨by kernel_rfl⟩
instance : ZeroIs Try.prog 130 ((Value.int IntKind.u64 0)) := ⟨by kernel_rfl⟩
instance : BytesIs Try.prog 130 1 8 := ⟨Try.t130, _, by kernel_rfl, rfl, rfl, rfl, rfl, by decide, by decide⟩
instance : SizeIs Try.prog 131 1 := ⟨by kernel_rfl⟩
instance : AggIs Try.prog 131 false := ⟨by kernel_rfl⟩
instance : ZeroIs Try.prog 131 (Value.nilFunc) := ⟨by kernel_rfl⟩
instance : BytesIs Try.prog 131 1 8 := ⟨Try.t131, _, by kernel_rfl, rfl, rfl, rfl, rfl, by decide, by decide⟩
instance : UnderIs Try.prog 132 (.slice 134) := ⟨Try.underlying132⟩
instance : SizeIs Try.prog 132 1 := ⟨by kernel_rfl⟩
instance : AggIs Try.prog 132 false := ⟨by kernel_rfl⟩
instance : ZeroIs Try.prog 132 ((Value.slice none 0 0)) := ⟨by kernel_rfl⟩
instance : BytesIs Try.prog 132 1 24 := ⟨Try.t132, _, by kernel_rfl, rfl, rfl, rfl, rfl, by decide, by decide⟩
instance : FieldIs Try.prog 133 0 0 3 1 := ⟨_, _, Try.underlying133, rfl, rfl, rfl, by kernel_rfl, by decide⟩
instance : FieldIs Try.prog 133 1 1 3 1 := ⟨_, _, Try.underlying133, rfl, rfl, rfl, by kernel_rfl, by decide⟩
instance : FieldIs Try.prog 133 2 2 3 1 := ⟨_, _, Try.underlying133, rfl, rfl, rfl, by kernel_rfl, by decide⟩
instance : StructOk Try.prog 133 := ⟨_, Try.underlying133, by kernel_rfl⟩
instance : SizeIs Try.prog 133 3 := ⟨by kernel_rfl⟩
instance : AggIs Try.prog 133 true := ⟨by kernel_rfl⟩
instance : ZeroIs Try.prog 133 ((Value.agg #[Value.int IntKind.i64 0, Value.int IntKind.i64 0, Value.int IntKind.i64 0])) := ⟨by kernel_rfl⟩
instance : BytesIs Try.prog 133 3 24 := ⟨Try.t133, _, by kernel_rfl, rfl, rfl, rfl, rfl, by decide, by decide⟩
instance : FieldIs Try.prog 134 0 0 3 1 := ⟨_, _, Try.underlying134, rfl, rfl, rfl, by kernel_rfl, by decide⟩
instance : FieldIs Try.prog 134 1 1 3 1 := ⟨_, _, Try.underlying134, rfl, rfl, rfl, by kernel_rfl, by decide⟩
instance : FieldIs Try.prog 134 2 2 3 1 := ⟨_, _, Try.underlying134, rfl, rfl, rfl, by kernel_rfl, by decide⟩
instance : StructOk Try.prog 134 := ⟨_, Try.underlying134, by kernel_rfl⟩
instance : SizeIs Try.prog 134 3 := ⟨by kernel_rfl⟩
instance : AggIs Try.prog 134 true := ⟨by kernel_rfl⟩
instance : ZeroIs Try.prog 134 ((Value.agg #[Value.int IntKind.i64 0, Value.int IntKind.i64 0, Value.int IntKind.i64 0])) := ⟨by kernel_rfl⟩
instance : BytesIs Try.prog 134 3 24 := ⟨Try.t134, _, by kernel_rfl, rfl, rfl, rfl, rfl, by decide, by decide⟩
instance : SizeIs Try.prog 135 1 := ⟨by kernel_rfl⟩
instance : AggIs Try.prog 135 false := ⟨by kernel_rfl⟩
instance : ZeroIs Try.prog 135 (Value.nilFunc) := ⟨by kernel_rfl⟩
instance : BytesIs Try.prog 135 1 8 := ⟨Try.t135, _, by kernel_rfl, rfl, rfl, rfl, rfl, by decide, by decide⟩
instance : FieldIs Try.prog 136 0 0 17 1 := ⟨_, _, Try.underlying136, rfl, rfl, rfl, by kernel_rfl, by decide⟩
instance : FieldIs Try.prog 136 1 1 17 1 := ⟨_, _, Try.underlying136, rfl, rfl, rfl, by kernel_rfl, by decide⟩
instance : FieldIs Try.prog 136 2 2 17 1 := ⟨_, _, Try.underlying136, rfl, rfl, rfl, by kernel_rfl, by decide⟩
instance : FieldIs Try.prog 136 3 3 9 1 := ⟨_, _, Try.underlying136, rfl, rfl, rfl, by kernel_rfl, by decide⟩
instance : StructOk Try.prog 136 := ⟨_, Try.underlying136, by kernel_rfl⟩
instance : SizeIs Try.prog 136 4 := ⟨by kernel_rfl⟩
instance : AggIs Try.prog 136 true := ⟨by kernel_rfl⟩
instance : ZeroIs Try.prog 136 ((Value.agg #[Value.pointer none, Value.pointer none, Value.pointer none, Value.string ByteArray.empty])) := ⟨by kernel_rfl⟩
instance : BytesIs Try.prog 136 4 40 := ⟨Try.t136, _, by kernel_rfl, rfl, rfl, rfl, rfl, by decide, by decide⟩
instance : FieldIs Try.prog 137 0 0 17 1 := ⟨_, _, Try.underlying137, rfl, rfl, rfl, by kernel_rfl, by decide⟩
instance : FieldIs Try.prog 137 1 1 17 1 := ⟨_, _, Try.underlying137, rfl, rfl, rfl, by kernel_rfl, by decide⟩
instance : FieldIs Try.prog 137 2 2 17 1 := ⟨_, _, Try.underlying137, rfl, rfl, rfl, by kernel_rfl, by decide⟩
instance : FieldIs Try.prog 137 3 3 9 1 := ⟨_, _, Try.underlying137, rfl, rfl, rfl, by kernel_rfl, by decide⟩
instance : StructOk Try.prog 137 := ⟨_, Try.underlying137, by kernel_rfl⟩
instance : SizeIs Try.prog 137 4 := ⟨by kernel_rfl⟩
instance : AggIs Try.prog 137 true := ⟨by kernel_rfl⟩
instance : ZeroIs Try.prog 137 ((Value.agg #[Value.pointer none, Value.pointer none, Value.pointer none, Value.string ByteArray.empty])) := ⟨by kernel_rfl⟩
instance : BytesIs Try.prog 137 4 40 := ⟨Try.t137, _, by kernel_rfl, rfl, rfl, rfl, rfl, by decide, by decide⟩
instance : UnderIs Try.prog 138 (.array 0 16) := ⟨Try.underlying138⟩
instance : SizeIs Try.prog 138 0 := ⟨by kernel_rfl⟩
instance : AggIs Try.prog 138 true := ⟨by kernel_rfl⟩
instance : StructOk Try.prog 139 := ⟨_, Try.underlying139, by kernel_rfl⟩
instance : SizeIs Try.prog 139 0 := ⟨by kernel_rfl⟩
instance : AggIs Try.prog 139 true := ⟨by kernel_rfl⟩
instance : StructOk Try.prog 140 := ⟨_, Try.underlying140, by kernel_rfl⟩
instance : SizeIs Try.prog 140 0 := ⟨by kernel_rfl⟩
instance : AggIs Try.prog 140 true := ⟨by kernel_rfl⟩
instance : SizeIs Try.prog 141 1 := ⟨by kernel_rfl⟩
instance : AggIs Try.prog 141 false := ⟨by kernel_rfl⟩
instance : ZeroIs Try.prog 141 (Value.nilFunc) := ⟨by kernel_rfl⟩
instance : BytesIs Try.prog 141 1 8 := ⟨Try.t141, _, by kernel_rfl, rfl, rfl, rfl, rfl, by decide, by decide⟩
instance : UnderIs Try.prog 142 (.int IntKind.u32) := ⟨Try.underlying142⟩
instance : SizeIs Try.prog 142 1 := ⟨by kernel_rfl⟩
instance : AggIs Try.prog 142 false := ⟨by kernel_rfl⟩
instance : ZeroIs Try.prog 142 ((Value.int IntKind.u32 0)) := ⟨by kernel_rfl⟩
instance : BytesIs Try.prog 142 1 4 := ⟨Try.t142, _, by kernel_rfl, rfl, rfl, rfl, rfl, by decide, by decide⟩
instance : UnderIs Try.prog 143 (.int IntKind.u8) := ⟨Try.underlying143⟩
instance : SizeIs Try.prog 143 1 := ⟨by kernel_rfl⟩
instance : AggIs Try.prog 143 false := ⟨by kernel_rfl⟩
instance : ZeroIs Try.prog 143 ((Value.int IntKind.u8 0)) := ⟨by kernel_rfl⟩
instance : BytesIs Try.prog 143 1 1 := ⟨Try.t143, _, by kernel_rfl, rfl, rfl, rfl, rfl, by decide, by decide⟩
instance : UnderIs Try.prog 144 (.int IntKind.u8) := ⟨Try.underlying144⟩
instance : SizeIs Try.prog 144 1 := ⟨by kernel_rfl⟩
instance : AggIs Try.prog 144 false := ⟨by kernel_rfl⟩
instance : ZeroIs Try.prog 144 ((Value.int IntKind.u8 0)) := ⟨by kernel_rfl⟩
instance : BytesIs Try.prog 144 1 1 := ⟨Try.t144, _, by kernel_rfl, rfl, rfl, rfl, rfl, by decide, by decide⟩
instance : SizeIs Try.prog 145 1 := ⟨by kernel_rfl⟩
instance : AggIs Try.prog 145 false := ⟨by kernel_rfl⟩
instance : ZeroIs Try.prog 145 (Value.nilFunc) := ⟨by kernel_rfl⟩
instance : BytesIs Try.prog 145 1 8 := ⟨Try.t145, _, by kernel_rfl, rfl, rfl, rfl, rfl, by decide, by decide⟩
instance : UnderIs Try.prog 146 (.pointer 5) := ⟨Try.underlying146⟩
instance : SizeIs Try.prog 146 1 := ⟨by kernel_rfl⟩
instance : AggIs Try.prog 146 false := ⟨by kernel_rfl⟩
instance : ZeroIs Try.prog 146 ((Value.pointer none)) := ⟨by kernel_rfl⟩
instance : BytesIs Try.prog 146 1 8 := ⟨Try.t146, _, by kernel_rfl, rfl, rfl, rfl, rfl, by decide, by decide⟩
instance : UnderIs Try.prog 147 (.int IntKind.i32) := ⟨Try.underlying147⟩
instance : SizeIs Try.prog 147 1 := ⟨by kernel_rfl⟩
instance : AggIs Try.prog 147 false := ⟨by kernel_rfl⟩
instance : ZeroIs Try.prog 147 ((Value.int IntKind.i32 0)) := ⟨by kernel_rfl⟩
instance : BytesIs Try.prog 147 1 4 := ⟨Try.t147, _, by kernel_rfl, rfl, rfl, rfl, rfl, by decide, by decide⟩
instance : UnderIs Try.prog 148 (.int IntKind.i32) := ⟨Try.underlying148⟩
instance : SizeIs Try.prog 148 1 := ⟨by kernel_rfl⟩
instance : AggIs Try.prog 148 false := ⟨by kernel_rfl⟩
instance : ZeroIs Try.prog 148 ((Value.int IntKind.i32 0)) := ⟨by kernel_rfl⟩
instance : BytesIs Try.prog 148 1 4 := ⟨Try.t148, _, by kernel_rfl, rfl, rfl, rfl, rfl, by decide, by decide⟩
instance : FieldIs Try.prog 149 0 0 12 1 := ⟨_, _, Try.underlying149, rfl, rfl, rfl, by kernel_rfl, by decide⟩
instance : FieldIs Try.prog 149 1 1 12 1 := ⟨_, _, Try.underlying149, rfl, rfl, rfl, by kernel_rfl, by decide⟩
instance : FieldIs Try.prog 149 2 2 142 1 := ⟨_, _, Try.underlying149, rfl, rfl, rfl, by kernel_rfl, by decide⟩
instance : FieldIs Try.prog 149 3 3 143 1 := ⟨_, _, Try.underlying149, rfl, rfl, rfl, by kernel_rfl, by decide⟩
instance : FieldIs Try.prog 149 4 4 5 1 := ⟨_, _, Try.underlying149, rfl, rfl, rfl, by kernel_rfl, by decide⟩
instance : FieldIs Try.prog 149 5 5 5 1 := ⟨_, _, Try.underlying149, rfl, rfl, rfl, by kernel_rfl, by decide⟩
instance : FieldIs Try.prog 149 6 6 144 1 := ⟨_, _, Try.underlying149, rfl, rfl, rfl, by kernel_rfl, by decide⟩
instance : FieldIs Try.prog 149 7 7 145 1 := ⟨_, _, Try.underlying149, rfl, rfl, rfl, by kernel_rfl, by decide⟩
instance : FieldIs Try.prog 149 8 8 146 1 := ⟨_, _, Try.underlying149, rfl, rfl, rfl, by kernel_rfl, by decide⟩
instance : FieldIs Try.prog 149 9 9 147 1 := ⟨_, _, Try.underlying149, rfl, rfl, rfl, by kernel_rfl, by decide⟩
instance : FieldIs Try.prog 149 10 10 148 1 := ⟨_, _, Try.underlying149, rfl, rfl, rfl, by kernel_rfl, by decide⟩
instance : StructOk Try.prog 149 := ⟨_, Try.underlying149, by kernel_rfl⟩
instance : SizeIs Try.prog 149 11 := ⟨by kernel_rfl⟩
instance : AggIs Try.prog 149 true := ⟨by kernel_rfl⟩
instance : ZeroIs Try.prog 149 ((Value.agg #[Value.int IntKind.u64 0, Value.int IntKind.u64 0, Value.int IntKind.u32 0, Value.int IntKind.u8 0, Value.int IntKind.u8 0, Value.int IntKind.u8 0, Value.int IntKind.u8 0, Value.nilFunc, Value.pointer none, Value.int IntKind.i32 0, Value.int IntKind.i32 0])) := ⟨by kernel_rfl⟩
instance : BytesIs Try.prog 149 11 48 := ⟨Try.t149, _, by kernel_rfl, rfl, rfl, rfl, rfl, by decide, by decide⟩
instance : FieldIs Try.prog 150 0 0 12 1 := ⟨_, _, Try.underlying150, rfl, rfl, rfl, by kernel_rfl, by decide⟩
instance : FieldIs Try.prog 150 1 1 12 1 := ⟨_, _, Try.underlying150, rfl, rfl, rfl, by kernel_rfl, by decide⟩
instance : FieldIs Try.prog 150 2 2 142 1 := ⟨_, _, Try.underlying150, rfl, rfl, rfl, by kernel_rfl, by decide⟩
instance : FieldIs Try.prog 150 3 3 143 1 := ⟨_, _, Try.underlying150, rfl, rfl, rfl, by kernel_rfl, by decide⟩
instance : FieldIs Try.prog 150 4 4 5 1 := ⟨_, _, Try.underlying150, rfl, rfl, rfl, by kernel_rfl, by decide⟩
instance : FieldIs Try.prog 150 5 5 5 1 := ⟨_, _, Try.underlying150, rfl, rfl, rfl, by kernel_rfl, by decide⟩
instance : FieldIs Try.prog 150 6 6 144 1 := ⟨_, _, Try.underlying150, rfl, rfl, rfl, by kernel_rfl, by decide⟩
instance : FieldIs Try.prog 150 7 7 145 1 := ⟨_, _, Try.underlying150, rfl, rfl, rfl, by kernel_rfl, by decide⟩
instance : FieldIs Try.prog 150 8 8 146 1 := ⟨_, _, Try.underlying150, rfl, rfl, rfl, by kernel_rfl, by decide⟩
instance : FieldIs Try.prog 150 9 9 147 1 := ⟨_, _, Try.underlying150, rfl, rfl, rfl, by kernel_rfl, by decide⟩
instance : FieldIs Try.prog 150 10 10 148 1 := ⟨_, _, Try.underlying150, rfl, rfl, rfl, by kernel_rfl, by decide⟩
instance : StructOk Try.prog 150 := ⟨_, Try.underlying150, by kernel_rfl⟩
instance : SizeIs Try.prog 150 11 := ⟨by kernel_rfl⟩
instance : AggIs Try.prog 150 true := ⟨by kernel_rfl⟩
instance : ZeroIs Try.prog 150 ((Value.agg #[Value.int IntKind.u64 0, Value.int IntKind.u64 0, Value.int IntKind.u32 0, Value.int IntKind.u8 0, Value.int IntKind.u8 0, Value.int IntKind.u8 0, Value.int IntKind.u8 0, Value.nilFunc, Value.pointer none, Value.int IntKind.i32 0, Value.int IntKind.i32 0])) := ⟨by kernel_rfl⟩
instance : BytesIs Try.prog 150 11 48 := ⟨Try.t150, _, by kernel_rfl, rfl, rfl, rfl, rfl, by decide, by decide⟩
instance : SizeIs Try.prog 151 1 := ⟨by kernel_rfl⟩
instance : AggIs Try.prog 151 false := ⟨by kernel_rfl⟩
instance : ZeroIs Try.prog 151 (Value.nilFunc) := ⟨by kernel_rfl⟩
instance : BytesIs Try.prog 151 1 8 := ⟨Try.t151, _, by kernel_rfl, rfl, rfl, rfl, rfl, by decide, by decide⟩
instance : FieldIs Try.prog 154 0 0 153 1 := ⟨_, _, Try.underlying154, rfl, rfl, rfl, by kernel_rfl, by decide⟩
instance : FieldIs Try.prog 154 1 1 153 1 := ⟨_, _, Try.underlying154, rfl, rfl, rfl, by kernel_rfl, by decide⟩
instance : StructOk Try.prog 154 := ⟨_, Try.underlying154, by kernel_rfl⟩
instance : SizeIs Try.prog 154 2 := ⟨by kernel_rfl⟩
instance : AggIs Try.prog 154 true := ⟨by kernel_rfl⟩
instance : FieldIs Try.prog 155 0 0 153 1 := ⟨_, _, Try.underlying155, rfl, rfl, rfl, by kernel_rfl, by decide⟩
instance : FieldIs Try.prog 155 1 1 153 1 := ⟨_, _, Try.underlying155, rfl, rfl, rfl, by kernel_rfl, by decide⟩
instance : StructOk Try.prog 155 := ⟨_, Try.underlying155, by kernel_rfl⟩
instance : SizeIs Try.prog 155 2 := ⟨by kernel_rfl⟩
instance : AggIs Try.prog 155 true := ⟨by kernel_rfl⟩
instance : FieldIs Try.prog 156 0 0 155 2 := ⟨_, _, Try.underlying156, rfl, rfl, rfl, by kernel_rfl, by decide⟩
instance : FieldIs Try.prog 156 1 2 3 1 := ⟨_, _, Try.underlying156, rfl, rfl, rfl, by kernel_rfl, by decide⟩
instance : StructOk Try.prog 156 := ⟨_, Try.underlying156, by kernel_rfl⟩
instance : SizeIs Try.prog 156 3 := ⟨by kernel_rfl⟩
instance : AggIs Try.prog 156 true := ⟨by kernel_rfl⟩
instance : FieldIs Try.prog 157 0 0 155 2 := ⟨_, _, Try.underlying157, rfl, rfl, rfl, by kernel_rfl, by decide⟩
instance : FieldIs Try.prog 157 1 2 3 1 := ⟨_, _, Try.underlying157, rfl, rfl, rfl, by kernel_rfl, by decide⟩
instance : StructOk Try.prog 157 := ⟨_, Try.underlying157, by kernel_rfl⟩
instance : SizeIs Try.prog 157 3 := ⟨by kernel_rfl⟩
instance : AggIs Try.prog 157 true := ⟨by kernel_rfl⟩
end Go.Ideal

-- La
set_option linter.unusedSimpArgs false
set_option linter.unusedVariables false
namespace Go.Ideal
open Go Go.Proofs
/-! ### Words of 64 bits -/
theorem wrap_u64_id {z : Int} (h0 : 0 ≤ z) (h : z < 2 ^ 64) : IntKind.u64.wrap z = z := by
  simp only [IntKind.wrap, IntKind.bits, IntKind.signed]; simp; omega
theorem shr_u64 {a : Nat} {n : Int} (h0 : 0 ≤ n) (ha : a < 2 ^ 64) : ((a : Int)).fdiv (2 ^ min n.toNat IntKind.u64.bits) = (a >>> n.toNat : Nat) := by
  have hb : IntKind.u64.bits = 64 := rfl
  rw [hb, Nat.shiftRight_eq_div_pow]
  have h2 : (2 : Int) ^ min n.toNat 64 = ((2 ^ min n.toNat 64 : Nat) : Int) := by simp
  rw [h2, Int.fdiv_eq_ediv_of_nonneg _ (Int.natCast_nonneg _), ← Int.natCast_ediv]
  congr 1
  by_cases hn : n.toNat ≤ 64
  · rw [Nat.min_eq_left hn]
  · rw [Nat.min_eq_right (by omega), Nat.div_eq_of_lt ha, Nat.div_eq_of_lt]
    exact Nat.lt_of_lt_of_le ha (Nat.pow_le_pow_right (by decide) (by omega))
instance : CallIs Try.prog 71 := .of Try.func71 rfl rfl
instance : CallIs Try.prog 67 := .of Try.func67 rfl rfl
instance : CallIs Try.prog 43 := .of Try.func43 rfl rfl
theorem shl_one {i : Int} (h0 : 0 ≤ i) (h1 : i < 64) : IntKind.u64.wrap (1 * 2 ^ min i.toNat IntKind.u64.bits) = (2 ^ i.toNat : Nat) := by
  have h2 : min i.toNat IntKind.u64.bits = i.toNat := by simp only [IntKind.bits]; omega
  have h3 : (2 : Int) ^ i.toNat < 2 ^ 64 := Int.pow_lt_pow_of_lt (by decide) (by omega)
  have h4 : (0 : Int) ≤ 2 ^ i.toNat := Int.pow_nonneg (by decide)
  rw [h2, Int.one_mul, wrap_u64_id h4 h3]
  simp
instance : CallIs Try.prog 46 := .of Try.func46 rfl rfl
end Go.Ideal
