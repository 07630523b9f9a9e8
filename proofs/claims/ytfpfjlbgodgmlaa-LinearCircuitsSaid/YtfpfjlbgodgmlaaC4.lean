/- Part 4 of what the proof stands on: an interpreter over an ideal memory that is proved sound, steps over it, and contracts of the functions that are called. No condition: no law is claimed here. -/
import Derived.Test.YtfpfjlbgodgmlaaC3
import Derived.ChangeArms
import Derived.ChangeShapes
import Derived.WideShapes
import Derived.SizedLaws
-- IdealTh
set_option linter.unusedSimpArgs false
set_option linter.unusedVariables false
namespace Go.Ideal
open Go Go.RowKit
variable {P : Program} {X : Cx} {E : Env} {σ : Nat → Tr} {B B' : Boxes} {ops : Array Oper} {K : TK} {l : List Oper} {d : Option Tmp} {ty : TypeId} {pos : String} {af : Array Edge} {H : List (Nat × Nat)} {F : Mem} {s : Nat → Value} {h : IHp} {held : Held}

/-! ### Own memory that is read alone from now on -/
structure ThawOk (F G : Mem) (B : Boxes) (h : IHp) : Prop where
  sub : Sub F G
  box : ∀ p ∈ B, BoxRep F h p.1 p.2
  cell : ∀ p ∈ B, p.1 % 2 = 0 → ∀ off, G p.1 off = h.cell? p.1 off
def thaw (F : Mem) (B : Boxes) (h : IHp) : Mem := fun b off => if b % 2 = 0 ∧ b ∈ B.map Prod.fst then h.cell? b off else F b off
theorem TR.thawOk (r : TR X F σ B s h) : ThawOk F (thaw F B h) B h :=
  ⟨fun b off v hf => by
    unfold thaw
    split
    · rename_i hb
      obtain ⟨p, hp, rfl⟩ := List.mem_map.1 hb.2
      rw [(r.sep p hp hb.1).2 off] at hf; cases hf
    · exact hf, r.box, fun p hp he off => by unfold thaw; rw [if_pos ⟨he, List.mem_map.2 ⟨p, hp, rfl⟩⟩]⟩
theorem TR.thawSub (r : TR X F σ B s h) : Sub (thaw F B h) h.cell? := fun b off v hf => by
  unfold thaw at hf
  split at hf
  · exact hf
  · exact r.sub _ _ _ hf
theorem TR.thawOwn (r : TR X F σ B s h) : ∀ b off v, thaw F B h b off = some v → F b off = some v ∨ X.h.fresh ≤ b := fun b off v hf => by
  unfold thaw at hf
  split at hf
  · rename_i hb
    obtain ⟨p, hp, rfl⟩ := List.mem_map.1 hb.2
    exact .inr (r.sep p hp hb.1).1
  · exact .inl hf
class Frz (B : Boxes) (t : Tr) (t' : outParam Tr) : Prop where eq : ∀ F G h, ThawOk F G B h → ∀ v, Rep F t v → Rep G t' v
class FrzL (B : Boxes) (ts : List Tr) (ts' : outParam (List Tr)) : Prop where eq : ∀ F G h, ThawOk F G B h → ∀ vs, RepL F ts vs → RepL G ts' vs
class FrzR (B : Boxes) (rows : List (List Tr)) (rows' : outParam (List (List Tr))) : Prop where
  len : rows'.length = rows.length
  eq : ∀ (i : Nat) (row : List Tr), rows[i]? = some row → ∃ row' : List Tr, rows'[i]? = some row' ∧ ∀ F G h, ThawOk F G B h → ∀ vs, RepL F row vs → RepL G row' vs
instance (priority := 10) Frz.same {t : Tr} : Frz B t t := ⟨fun F G h o v hv => hv.sub o.sub⟩
instance (priority := 10) FrzL.same {ts : List Tr} : FrzL B ts ts := ⟨fun F G h o v hv => hv.sub o.sub⟩
instance (priority := 10) FrzR.same {rows : List (List Tr)} : FrzR B rows rows := ⟨rfl, fun i row hr => ⟨row, hr, fun F G h o v hv => hv.sub o.sub⟩⟩
instance FrzL.nil : FrzL B [] [] := ⟨fun F G h o vs hv => hv.sub o.sub⟩
instance FrzL.cons {t t' : Tr} {ts ts' : List Tr} [a : Frz B t t'] [b : FrzL B ts ts'] : FrzL B (t :: ts) (t' :: ts') := ⟨fun F G h o vs hv => by
  simp only [RepL] at hv
  obtain ⟨v, ws, rfl, h1, h2⟩ := hv
  exact RepL.cons (a.eq F G h o v h1) (b.eq F G h o ws h2)⟩
instance FrzR.cons {t t' : List Tr} {ts ts' : List (List Tr)} [a : FrzL B t t'] [b : FrzR B ts ts'] : FrzR B (t :: ts) (t' :: ts') := ⟨by simp [b.len], fun i row hr => by
  cases i with
  | zero => simp at hr; subst hr; exact ⟨t', rfl, a.eq⟩
  | succ i => simpa using b.eq i row (by simpa using hr)⟩
instance Frz.agg {cs cs' : List Tr} [a : FrzL B cs cs'] : Frz B (.agg cs) (.agg cs') := ⟨fun F G h o v hv => by
  simp only [Rep] at hv ⊢
  obtain ⟨vs, rfl, h1⟩ := hv
  exact ⟨vs, rfl, a.eq F G h o vs h1⟩⟩
instance Frz.tup {cs cs' : List Tr} [a : FrzL B cs cs'] : Frz B (.tup cs) (.tup cs') := ⟨fun F G h o v hv => by
  simp only [Rep] at hv ⊢
  obtain ⟨vs, rfl, h1⟩ := hv
  exact ⟨vs, rfl, a.eq F G h o vs h1⟩⟩
instance Frz.fn {f : Nat} {x x' y y' : List Tr} [a : FrzL B x x'] [b : FrzL B y y'] : Frz B (.fn f x y) (.fn f x' y') := ⟨fun F G h o v hv => by
  simp only [Rep] at hv ⊢
  obtain ⟨va, vb, rfl, h1, h2⟩ := hv
  exact ⟨va, vb, rfl, a.eq F G h o va h1, b.eq F G h o vb h2⟩⟩
theorem rowM_congr {F G : Mem} {b : Nat} (hc : ∀ off, G b off = F b off) : ∀ (n off : Nat), rowM G b off n = rowM F b off n := by
  intro n
  induction n with
  | zero => intro off; rfl
  | succ n ih => intro off; simp only [rowM, hc, ih]
theorem frz_rows {G : Mem} {b m : Nat} {rows rows' : List (List Tr)} [fr : FrzR B rows rows'] (o : ThawOk F G B h) {vs : List Value} (hm : ∀ row ∈ rows, row.length = m) (hv : RepL F rows.flatten vs) (hrow : ∀ i, i + m ≤ vs.length → rowM G b i m = some ((vs.drop i).take m)) : RepR G b m rows' 0 := by
  have key : ∀ (rs' : List (List Tr)) (k : Nat), rows'.drop k = rs' → RepR G b m rs' (k * m) := by
    intro rs'
    induction rs' with
    | nil => intro k _; simp [RepR]
    | cons row' rs' ih =>
      intro k hk
      have hk' : rows'[k]? = some row' := by
        have : (rows'.drop k)[0]? = some row' := by rw [hk]; rfl
        simpa using this
      have hkl := (List.getElem?_eq_some_iff.1 hk').1
      have hk2 : k < rows.length := by rw [← fr.len]; exact hkl
      obtain ⟨row2, h1, h2⟩ := fr.eq k rows[k] (List.getElem?_eq_getElem hk2)
      rw [hk'] at h1
      obtain rfl := Option.some.inj h1
      simp only [RepR]
      refine ⟨⟨(vs.drop (k * m)).take m, hrow _ ?_, ?_⟩, ?_⟩
      · rw [hv.len, flat_len hm]
        have : (k + 1) * m ≤ rows.length * m := Nat.mul_le_mul_right m hk2
        rw [Nat.add_mul] at this; omega
      · refine h2 F G h o _ ?_
        rw [← flat_part hm (List.getElem?_eq_getElem hk2)]
        exact (hv.drop _).take m
      · have := ih (k + 1) (by rw [← List.tail_drop, hk]; rfl)
        rw [Nat.add_mul, Nat.one_mul] at this
        exact this
  have := key rows' 0 rfl
  simpa using this
theorem frz_slice {G : Mem} {b m n : Nat} {rows rows' : List (List Tr)} {bt : Nat} {bx : Bool} [fr : FrzR B rows rows'] (bi : BoxIs B b (.arr m rows bt bx)) (o : ThawOk F G B h) (hl : rows.length = n) (hn : n < 2 ^ 63) (hr : n ≠ 0 ∨ RealX rows bx) : Rep G (.sl m rows') (.slice (some (ad b 0)) n n) := by
  have hb := o.box _ bi.mem
  have hb' := hb
  simp only [BoxRep] at hb
  have hreal : ∃ vs, RepL F rows.flatten vs ∧ ObjIs h b vs bt bx := by
    rcases hr with hr | hr
    · rcases hb.2 with ⟨h1, _⟩ | h1
      · subst h1; simp at hl; omega
      · exact h1
    · exact hr.even hb'
  obtain ⟨vs, h1, h2⟩ := hreal
  simp only [Rep]
  refine ⟨_, n, n, rfl, fr.len.trans hl, Nat.le_refl _, hn, fun d hd => ?_, ?_⟩
  · cases hd; exact .inl rfl
  · refine frz_rows o hb.1 h1 fun i hi => ?_
    rw [rowM_congr (F := h.cell?) (o.cell _ bi.mem h2.even), ← row_rowM]
    exact row_obj h2 i hi
class Sm63 (n : Nat) : Prop where lt : n < 2 ^ 63
instance (priority := 100) Sm63.lit {n : Nat} [b : LeIs n 9223372036854775807 true] : Sm63 (no_index (@OfNat.ofNat Nat n (instOfNatNat n))) := ⟨by have h := b.eq; simp only [Nat.ble_eq] at h; exact Nat.lt_of_le_of_lt h (by decide)⟩
instance Frz.gsv {b m n : Nat} {rows rows' : List (List Tr)} {bt : Nat} {bx : Bool} [bi : BoxIs B b (.arr m rows bt bx)] [ln : LenT rows n] [sm : Sm63 n] [fr : FrzR B rows rows'] : Frz B (.v (gsv b n)) (.sl m rows') := ⟨fun F G h o v hv => by
  simp only [Rep] at hv
  subst hv
  unfold Go.Ideal.gsv
  split
  · rename_i h0
    have hl := ln.eq
    rw [h0] at hl
    have h1 : rows = [] := List.eq_nil_of_length_eq_zero hl
    have h2 : rows' = [] := List.eq_nil_of_length_eq_zero (by rw [fr.len, h1]; rfl)
    subst h2
    rw [Rep]
    exact ⟨none, 0, 0, rfl, rfl, Nat.le_refl _, by decide, (fun d hd => by cases hd), rfl⟩
  · rename_i h0
    exact frz_slice bi o ln.eq sm.lt (.inl h0)⟩
instance Frz.own {b m n : Nat} {rows rows' : List (List Tr)} {bt : Nat} {bx : Bool} [bi : BoxIs B b (.arr m rows bt bx)] [ln : LenT rows n] [sm : Sm63 n] [rx : RealX rows bx] [fr : FrzR B rows rows'] : Frz B (.v (.slice (some (ad b 0)) n n)) (.sl m rows') := ⟨fun F G h o v hv => by
  simp only [Rep] at hv
  subst hv
  exact frz_slice bi o ln.eq sm.lt (.inr rx)⟩
instance Frz.ptr {b bt : Nat} {bx : Bool} {cs cs' : List Tr} [bi : BoxIs B b (.cells cs bt bx)] [fr : FrzL B cs cs'] : Frz B (.v (.pointer (some (ad b 0)))) (.pf cs') := ⟨fun F G h o v hv => by
  simp only [Rep] at hv
  subst hv
  obtain ⟨vs, h1, h2⟩ := o.box _ bi.mem
  simp only [Rep]
  have h3 := fr.eq F G h o vs h1
  refine ⟨b, 0, vs, rfl, ?_, h3⟩
  rw [← h3.len, rowM_congr (F := h.cell?) (o.cell _ bi.mem h2.even), ← row_rowM, row_obj h2 0 (by omega)]
  simp⟩

/-! ### Functions -/
/-- called with these trees the function answers a tree of which Φ holds; nothing changes but for new memory -/
@[irreducible] def Fn (P : Program) (f : FuncId) (args : List Tr) (Φ : Tr → Prop) : Prop := ∀ (F0 : Mem) (h : IHp) (vs : List Value), Sub F0 h.cell? → RepL F0 args vs → EvX P f vs.toArray h (fun v h' => Ext h h' ∧ ∃ F r, Sub F0 F ∧ Sub F h'.cell? ∧ (∀ b off v, F b off = some v → F0 b off = some v ∨ h.fresh ≤ b) ∧ Rep F r v ∧ Φ r)
theorem Fn.mono {f : FuncId} {args : List Tr} {Φ Ψ : Tr → Prop} (x : Fn P f args Φ) (k : ∀ r, Φ r → Ψ r) : Fn P f args Ψ := by
  unfold Fn at *
  intro F0 h vs h1 h2
  exact (x F0 h vs h1 h2).mono fun v h' ⟨e, F, r, a1, a2, a3, a4, a5⟩ => ⟨e, F, r, a1, a2, a3, a4, k r a5⟩
/-- from a contract over values, of a function whose answer holds no memory -/
theorem Fn_flat {f : FuncId} {args : List Tr} {w : Value} (x : ∀ (F0 : Mem) (h : IHp) (vs : List Value), Sub F0 h.cell? → RepL F0 args vs → EvX P f vs.toArray h (fun v h' => v = w ∧ Ext h h')) {t : Tr} (ht : ∀ F, Rep F t w) : Fn P f args (fun r => r = t) := by
  unfold Fn
  intro F0 h vs h1 h2
  exact (x F0 h vs h1 h2).mono fun v h' ⟨e, e2⟩ => ⟨e2, F0, t, Sub.refl _, fun b off v hf => cell_ext e2 (h1 b off v hf), fun b off v hf => .inl hf, by rw [e]; exact ht _, rfl⟩
theorem TS_call {f : FuncId} {ps : List Operand} {ts : List Tr} {at_ : Array TypeId} {Φ : Tr → Prop} [c : CallIs P f] [e : TEvals σ ps ts] (hc : Fn P f ts Φ) (k : ∀ r, Φ r → TS X P E ops K l H (putT σ d r) B) :
    TS X P E ops K (⟨d, .call ⟨.value (.func f), ps.toArray, at_⟩, ty, pos, af, none⟩ :: l) H σ B := by
  unfold TS at *
  unfold Fn at hc
  intro F s h held r hh
  have he : EvalsIs s ps (ps.map (St.eval ⟨s, h, 0, [], false⟩)) := ⟨fun h' nt mk rd => by
    apply List.map_congr_left
    intro x _
    exact (evalIs_self (s := s) (x := x) (h := h)).eq h' nt mk rd⟩
  refine WS_call (hc F h _ r.sub (e.eq F s r.slot h 0 [] false)) ?_
  rintro v h' ⟨e1, F1, r1, a1, a2, a3, a4, a5⟩
  refine k r1 a5 F1 _ h' held ((r.grow e1 a1 a2 a3).put a4) (hh.keys (fun b off v hc => cell_ext e1 hc) a1 (fun b hb => hb))
theorem TS_callV {fv : Operand} {f : Nat} {a b : List Tr} {ps : List Operand} {ts : List Tr} {at_ : Array TypeId} {Φ : Tr → Prop} [c : CallIs P f] [ef : TEval σ fv (.fn f a b)] [e : TEvals σ ps ts] (hc : Fn P f ((a ++ ts) ++ b) Φ) (k : ∀ r, Φ r → TS X P E ops K l H (putT σ d r) B) :
    TS X P E ops K (⟨d, .call ⟨.value fv, ps.toArray, at_⟩, ty, pos, af, none⟩ :: l) H σ B := by
  unfold TS at *
  unfold Fn at hc
  intro F s h held r hh
  have he : EvalsIs s ps (ps.map (St.eval ⟨s, h, 0, [], false⟩)) := ⟨fun h' nt mk rd => by
    apply List.map_congr_left
    intro x _
    exact (evalIs_self (s := s) (x := x) (h := h)).eq h' nt mk rd⟩
  have h1 := evalIs_self (s := s) (x := fv) (h := h)
  have h2 := ef.eq F s r.slot h 0 [] false
  simp only [Rep] at h2
  obtain ⟨va, vb, h3, h4, h5⟩ := h2
  rw [h3] at h1
  have hv : (va.toArray ++ (ps.map (St.eval ⟨s, h, 0, [], false⟩)).toArray) ++ vb.toArray = ((va ++ ps.map (St.eval ⟨s, h, 0, [], false⟩)) ++ vb).toArray := by simp
  refine WS_callV (a := va.toArray) (b := vb.toArray) (by rw [hv]; exact hc F h _ r.sub ((h4.append (e.eq F s r.slot h 0 [] false)).append h5)) ?_
  rintro v h' ⟨e1, F1, r1, a1, a2, a3, a4, a5⟩
  refine k r1 a5 F1 _ h' held ((r.grow e1 a1 a2 a3).put a4) (hh.keys (fun b off v hc => cell_ext e1 hc) a1 (fun b hb => hb))
class FlatT (t : Tr) : Prop where eq : ∀ F G v, Rep F t v → Rep G t v
instance FlatT.val {x : Value} : FlatT (.v x) := ⟨fun F G v h => by simp only [Rep] at *; exact h⟩
class FlatL (ts : List Tr) : Prop where eq : ∀ F G vs, RepL F ts vs → RepL G ts vs
instance FlatL.nil : FlatL [] := ⟨fun F G v h => by simp only [RepL] at *; exact h⟩
instance FlatL.cons {t : Tr} {ts : List Tr} [a : FlatT t] [b : FlatL ts] : FlatL (t :: ts) := ⟨fun F G vs h => by
  simp only [RepL] at h
  obtain ⟨v, ws, rfl, h1, h2⟩ := h
  exact RepL.cons (a.eq F G v h1) (b.eq F G ws h2)⟩
instance FlatT.tup {ts : List Tr} [a : FlatL ts] : FlatT (.tup ts) := ⟨fun F G v h => by
  simp only [Rep] at *
  obtain ⟨vs, rfl, h1⟩ := h
  exact ⟨vs, rfl, a.eq F G vs h1⟩⟩
instance FlatT.agg {ts : List Tr} [a : FlatL ts] : FlatT (.agg ts) := ⟨fun F G v h => by
  simp only [Rep] at *
  obtain ⟨vs, rfl, h1⟩ := h
  exact ⟨vs, rfl, a.eq F G vs h1⟩⟩
/-- a call whose answer holds no memory; what is handed in may be own memory -/
theorem TS_callE {f : FuncId} {ps : List Operand} {ts ts' : List Tr} {at_ : Array TypeId} {t : Tr} [c : CallIs P f] [e : TEvals σ ps ts] [fz : FrzL B ts ts'] [fl : FlatT t] (hc : Fn P f ts' (fun r => r = t)) (k : TS X P E ops K l H (putT σ d t) B) :
    TS X P E ops K (⟨d, .call ⟨.value (.func f), ps.toArray, at_⟩, ty, pos, af, none⟩ :: l) H σ B := by
  unfold TS at *
  unfold Fn at hc
  intro F s h held r hh
  have he : EvalsIs s ps (ps.map (St.eval ⟨s, h, 0, [], false⟩)) := ⟨fun h' nt mk rd => by
    apply List.map_congr_left
    intro x _
    exact (evalIs_self (s := s) (x := x) (h := h)).eq h' nt mk rd⟩
  refine WS_call (hc (thaw F B h) h _ r.thawSub (fz.eq F _ h r.thawOk _ (e.eq F s r.slot h 0 [] false))) ?_
  rintro v h' ⟨e1, F1, r1, a1, a2, a3, a4, a5⟩
  subst a5
  exact k F _ h' held ((r.grow e1 (Sub.refl F) (fun b off v hf => cell_ext e1 (r.sub b off v hf)) (fun b off v hf => .inl hf)).put (fl.eq F1 F v a4)) (hh.keys (fun b off v hc => cell_ext e1 hc) (Sub.refl F) (fun b hb => hb))
/-- own memory of which nothing is changed any more -/
theorem TR.freeze {pre post : Boxes} {b : Nat} {x : Box} (r : TR X F σ (pre ++ (b, x) :: post) s h) : TR X (thaw F [(b, x)] h) σ (pre ++ post) s h := by
  have r1 : TR X F σ [(b, x)] s h := r.drop (by
    exact (List.Sublist.cons_cons _ (List.nil_sublist _)).trans (List.sublist_append_right _ _))
  have hd := r.dis
  simp only [List.map_append, List.map_cons, List.nodup_append, List.nodup_cons, List.mem_cons, List.mem_map] at hd
  obtain ⟨d1, ⟨d2, d3⟩, d4⟩ := hd
  have hne : ∀ p ∈ pre ++ post, p.1 ≠ b := by
    intro p hp
    rcases List.mem_append.1 hp with h1 | h1
    · exact d4 p.1 ⟨p, h1, rfl⟩ b (.inl rfl)
    · intro he; exact d2 ⟨p, h1, he⟩
  have hsl : (pre ++ post).Sublist (pre ++ (b, x) :: post) := List.Sublist.append (List.Sublist.refl _) (List.sublist_cons_self _ _)
  have hs := r1.thawOk.sub
  have r2 := r.drop hsl
  refine ⟨r.ext, r.base.trans hs, r1.thawSub, fun b' off v hf => ?_, fun p hp => (r2.box p hp).sub hs, fun p hp he => ⟨(r2.sep p hp he).1, fun off => ?_⟩, r2.dis, r.gd, fun i => (r.slot i).sub hs⟩
  · rcases r1.thawOwn b' off v hf with h1 | h1
    · exact r.own _ _ _ h1
    · exact .inr h1
  · unfold thaw
    rw [if_neg]
    · exact (r2.sep p hp he).2 off
    · rintro ⟨_, h1⟩
      simp at h1
      exact hne p hp h1
end Go.Ideal

-- IdealTi
set_option linter.unusedSimpArgs false
set_option linter.unusedVariables false
namespace Go.Ideal
open Go Go.RowKit
variable {P : Program} {X : Cx} {E : Env} {σ : Nat → Tr} {B B' : Boxes} {ops : Array Oper} {K : TK} {l : List Oper} {d : Option Tmp} {ty : TypeId} {pos : String} {af : Array Edge} {H : List (Nat × Nat)} {F : Mem} {s : Nat → Value} {h : IHp} {held : Held}

/-! ### Code over trees -/
theorem TV_skip {Q : IExit → TK} (k : Q .normal σ B) : TV X P E .skip Q σ B := by unfold TV; intro F s h r; exact V_skip ⟨F, σ, B, r, k⟩
theorem TV_exit {Q : IExit → TK} {id : Nat} (k : Q (.exit id) σ B) : TV X P E (.exit id) Q σ B := by unfold TV; intro F s h r; exact V_exit ⟨F, σ, B, r, k⟩
theorem TV_ret {Q : IExit → TK} (k : Q .ret σ B) : TV X P E .ret Q σ B := by unfold TV; intro F s h r; exact V_ret ⟨F, σ, B, r, k⟩
@[irreducible] def TseqK (X : Cx) (P : Program) (E : Env) (b : Code) (Q : IExit → TK) : IExit → TK
  | .normal, σ, B => TV X P E b Q σ B
  | e, σ, B => Q e σ B
@[irreducible] def TblockK (id : Nat) (Q : IExit → TK) : IExit → TK
  | .exit j, σ, B => if Nat.beq j id then Q .normal σ B else Q (.exit j) σ B
  | e, σ, B => Q e σ B
theorem TV_seq {a b : Code} {Q : IExit → TK} (k : TV X P E a (TseqK X P E b Q) σ B) : TV X P E (.seq a b) Q σ B := by
  unfold TV at k ⊢
  intro F s h r
  refine V_seq (V_mono ?_ (k F s h r))
  rintro e s' h' ⟨F', σ', B', r', hk⟩
  unfold VseqK
  unfold TseqK at hk
  cases e with
  | normal => unfold TV at hk; exact hk F' s' h' r'
  | exit j => exact ⟨F', σ', B', r', hk⟩
  | ret => exact ⟨F', σ', B', r', hk⟩
theorem TV_block {id : Nat} {b : Code} {Q : IExit → TK} (k : TV X P E b (TblockK id Q) σ B) : TV X P E (.block id b) Q σ B := by
  unfold TV at k ⊢
  intro F s h r
  refine V_block (V_mono ?_ (k F s h r))
  rintro e s' h' ⟨F', σ', B', r', hk⟩
  unfold VblockK
  unfold TblockK at hk
  cases e with
  | normal => exact ⟨F', σ', B', r', hk⟩
  | exit j =>
    simp only at hk ⊢
    by_cases hj : Nat.beq j id = true
    · rw [if_pos hj] at hk ⊢; exact ⟨F', σ', B', r', hk⟩
    · rw [if_neg hj] at hk ⊢; exact ⟨F', σ', B', r', hk⟩
  | ret => exact ⟨F', σ', B', r', hk⟩
theorem TV_cond {co : Operand} {a b : Code} {Q : IExit → TK} {t : Bool} [ev : TEval σ co (.v (.bool t))] (k1 : t = true → TV X P E a Q σ B) (k2 : t = false → TV X P E b Q σ B) : TV X P E (.cond co a b) Q σ B := by
  unfold TV at *
  intro F s h r
  have := ev.is r.slot
  exact V_cond (fun ht => k1 ht F s h r) (fun ht => k2 ht F s h r)
theorem TV_cond_t {co : Operand} {a b : Code} {Q : IExit → TK} {t : Bool} [ev : TEval σ co (.v (.bool t))] (ht : t = true) (k : TV X P E a Q σ B) : TV X P E (.cond co a b) Q σ B := TV_cond (fun _ => k) (fun h2 => by rw [ht] at h2; cases h2)
theorem TV_cond_f {co : Operand} {a b : Code} {Q : IExit → TK} {t : Bool} [ev : TEval σ co (.v (.bool t))] (ht : t = false) (k : TV X P E b Q σ B) : TV X P E (.cond co a b) Q σ B := TV_cond (fun h2 => by rw [ht] at h2; cases h2) (fun _ => k)
theorem TV_region {id : Nat} {l : List Oper} {Q : IExit → TK} (k : TS X P E l.toArray (Q .normal) l [] σ B) : TV X P E (.region id l.toArray false) Q σ B := by
  unfold TV; unfold TS at k
  intro F s h r
  refine V_region (WS_mono ?_ (k F s h [] r (fun e he => by cases he)))
  rintro s' h' ⟨F', σ', B', r', _, hk⟩
  exact ⟨F', σ', B', r', hk⟩
theorem TV_loop {b : Code} {Q : IExit → TK} (I : Nat → TK) (d : Nat) (first : I d σ B) (round : ∀ d σ B, I d σ B → TV X P E b (fun e σ' B' => match e with | .normal => ∃ d', d' < d ∧ I d' σ' B' | e => Q e σ' B') σ B) : TV X P E (.loop b) Q σ B := by
  unfold TV at *
  intro F s h r
  refine V_loop (fun d s h => ∃ F σ B, TR X F σ B s h ∧ I d σ B) d ⟨F, σ, B, r, first⟩ ?_
  rintro d s h ⟨F, σ, B, r, hI⟩
  refine V_mono ?_ (round d σ B hI F s h r)
  rintro e s' h' ⟨F', σ', B', r', hk⟩
  cases e with
  | normal => obtain ⟨d', hd, hI'⟩ := hk; exact ⟨d', hd, F', σ', B', r', hI'⟩
  | exit j => exact ⟨F', σ', B', r', hk⟩
  | ret => exact ⟨F', σ', B', r', hk⟩
theorem TV_mono {c : Code} {Q Q' : IExit → TK} (hq : ∀ e σ B, Q e σ B → Q' e σ B) (k : TV X P E c Q σ B) : TV X P E c Q' σ B := by
  unfold TV at *
  intro F s h r
  refine V_mono ?_ (k F s h r)
  rintro e s' h' ⟨F', σ', B', r', hk⟩
  exact ⟨F', σ', B', r', hq _ _ _ hk⟩
theorem TS_mono {K' : TK} (hq : ∀ σ B, K σ B → K' σ B) (k : TS X P E ops K l H σ B) : TS X P E ops K' l H σ B := by
  unfold TS at *
  intro F s h held r hh
  refine WS_mono ?_ (k F s h held r hh)
  rintro s' h' ⟨F', σ', B', r', hh', hk⟩
  exact ⟨F', σ', B', r', hh', hq _ _ hk⟩
theorem TSQ_normal {b : Code} {Q : IExit → TK} (k : TV X P E b Q σ B) : TseqK X P E b Q .normal σ B := by unfold TseqK; exact k
theorem TSQ_exit {b : Code} {Q : IExit → TK} {j : Nat} (k : Q (.exit j) σ B) : TseqK X P E b Q (.exit j) σ B := by unfold TseqK; exact k
theorem TSQ_ret {b : Code} {Q : IExit → TK} (k : Q .ret σ B) : TseqK X P E b Q .ret σ B := by unfold TseqK; exact k
theorem TB_normal {id : Nat} {Q : IExit → TK} (k : Q .normal σ B) : TblockK id Q .normal σ B := by unfold TblockK; exact k
theorem TB_ret {id : Nat} {Q : IExit → TK} (k : Q .ret σ B) : TblockK id Q .ret σ B := by unfold TblockK; exact k
theorem TB_exit {id : Nat} {Q : IExit → TK} (k : Q .normal σ B) : TblockK id Q (.exit id) σ B := by unfold TblockK; simpa using k
theorem TB_pass {id j : Nat} {Q : IExit → TK} (hj : Nat.beq j id = false) (k : Q (.exit j) σ B) : TblockK id Q (.exit j) σ B := by unfold TblockK; simpa [hj] using k
/-- ways meet behind the region (or the code) at hand -/
theorem TS_cut {b : Code} {Q : IExit → TK} (I : TK) (k1 : TS X P E ops I l H σ B) (k2 : ∀ σ' B', I σ' B' → TV X P E b Q σ' B') : TS X P E ops (TseqK X P E b Q .normal) l H σ B := TS_mono (fun σ' B' hi => TSQ_normal (k2 σ' B' hi)) k1
@[irreducible] def TcutK (I : TK) (K : IExit → TK) : IExit → TK
  | .normal, σ, B => I σ B
  | e, σ, B => K e σ B
theorem TC_normal {I : TK} {K : IExit → TK} (k : I σ B) : TcutK I K .normal σ B := by unfold TcutK; exact k
theorem TC_exit {I : TK} {K : IExit → TK} {j : Nat} (k : K (.exit j) σ B) : TcutK I K (.exit j) σ B := by unfold TcutK; exact k
theorem TC_ret {I : TK} {K : IExit → TK} (k : K .ret σ B) : TcutK I K .ret σ B := by unfold TcutK; exact k
theorem TV_cut {a b : Code} {Q : IExit → TK} (I : TK) (k1 : TV X P E a (TcutK I (TseqK X P E b Q)) σ B) (k2 : ∀ σ' B', I σ' B' → TV X P E b Q σ' B') : TV X P E a (TseqK X P E b Q) σ B :=
  TV_mono (fun e σ' B' hi => by
    unfold TcutK at hi
    cases e with
    | normal => exact TSQ_normal (k2 σ' B' hi)
    | exit j => exact hi
    | ret => exact hi) k1
/-- boxes that are needed no more are forgotten -/
theorem TV_drop {c : Code} {Q : IExit → TK} (B' : Boxes) (hs : B'.Sublist B) (k : TV X P E c Q σ B') : TV X P E c Q σ B := by
  unfold TV at *; intro F s h r; exact k F s h (r.drop hs)
theorem tget_as {i : Nat} {t u : Tr} [g : TGet σ i t] (h : t = u) : TGet σ i u := ⟨g.eq.trans h⟩
theorem TV_ghost {c : Code} {Q : IExit → TK} (m e : Nat) (k : ∀ b, TV X P E c Q σ ((b, .arr m [] e false) :: B)) : TV X P E c Q σ B := by
  unfold TV at *
  intro F s h r
  obtain ⟨b, h1, h2⟩ := exists_odd (B.map Prod.fst)
  exact k b F s h (r.ghost h1 h2)
theorem thaw_one {b : Nat} {x : Box} (r : TR X F σ B s h) (d : BoxDel B b x B') : ∃ F', TR X F' σ B' s h ∧ ThawOk F F' [(b, x)] h := by
  obtain ⟨pre, post, h1, h2⟩ := d.eq
  subst h1
  subst h2
  have r1 : TR X F σ [(b, x)] s h := r.drop (by
    exact (List.Sublist.cons_cons _ (List.nil_sublist _)).trans (List.sublist_append_right _ _))
  exact ⟨_, r.freeze, r1.thawOk⟩
theorem TR.putE (r : TR X F σ B s h) {i : Nat} {t u : Tr} (g : TGet σ i t) (hv : Rep F u (s i)) : TR X F (putT σ (some i) u) B s h := by
  have : putS s (some i) (s i) = s := by funext j; simp only [putS]; split <;> simp_all
  rw [← this]
  exact r.put hv
theorem TS_freeze (i : Nat) {v : Value} {x : Box} {t : Tr} [g : TGet σ i (.v v)] (b : Nat) [dl : BoxDel B b x B'] [fz : Frz [(b, x)] (.v v) t] (k : TS X P E ops K l H (putT σ (some i) t) B') : TS X P E ops K l H σ B := by
  unfold TS at *
  intro F s h held r hh
  obtain ⟨F', r', o⟩ := thaw_one r dl
  refine k F' s h held (r'.putE g (fz.eq F F' h o _ ?_)) ?_
  · rw [← g.eq]; exact r.slot i
  · intro e he
    obtain ⟨h1, h2, h3⟩ := hh e he
    refine ⟨h1, h2, ?_⟩
    rcases h3 with h3 | ⟨h3, h4, h5⟩
    · exact .inl (o.sub _ _ _ h3)
    · obtain ⟨pre, post, e1, e2⟩ := dl.eq
      by_cases hb : e.2.1 = b
      · refine .inl ?_
        have := o.cell (b, x) (by simp) (by rw [← hb]; exact h5) e.2.2.1
        rw [hb]; rw [this, ← hb]; exact h2
      · refine .inr ⟨h3, ?_, h5⟩
        rw [e1] at h4
        rw [e2]
        simp only [List.map_append, List.map_cons, List.mem_append, List.mem_cons] at h4 ⊢
        rcases h4 with h4 | h4 | h4
        · exact .inl h4
        · exact absurd h4 hb
        · exact .inr h4
theorem TV_freezeC (p : Nat) (b : Nat) {c : Code} {Q : IExit → TK} {cs cs' : List Tr} {bt : Nat} {bx : Bool} {x : Box} {B1 B2 : Boxes} [dl : BoxDel B b x B1] [bi : BoxIs B1 p (.cells cs bt bx)] [fz : FrzL [(b, x)] cs cs'] [bp : BoxPut B1 p p (.cells cs' bt bx) B2] (k : TV X P E c Q σ B2) : TV X P E c Q σ B := by
  unfold TV at *
  intro F s h r
  obtain ⟨F', r', o⟩ := thaw_one r dl
  obtain ⟨pre, old, post, e1, e2⟩ := bp.eq
  obtain ⟨vs, h1, h2⟩ := r.boxOf (B := B) (b := p) (x := .cells cs bt bx) ⟨by
    obtain ⟨q1, q2, q3, q4⟩ := dl.eq
    have := bi.mem
    rw [q4] at this
    rw [q3]
    rcases List.mem_append.1 this with h | h <;> simp [h]⟩
  refine k F' s h ?_
  rw [e2]
  rw [e1] at r'
  exact r'.modify rfl (fun i o hi _ => hi) (.inl rfl) ⟨vs, fz.eq F F' h o vs h1, h2⟩
/-! ### What a function answers -/
def RetT (P : Program) (σ : Nat → Tr) (B : Boxes) (rs : List ResultVar) (ts : List Tr) : Prop := ∀ X F s h E, TR X F σ B s h → ∀ G, ThawOk F G B h → ∃ vs, iresults P (Env.st E s h) rs = some vs ∧ RepL G ts vs
class RetIs (P : Program) (σ : Nat → Tr) (B : Boxes) (rs : List ResultVar) (ts : outParam (List Tr)) : Prop where eq : RetT P σ B rs ts
instance RetIs.nil : RetIs P σ B [] [] := ⟨fun X F s h E r G o => ⟨[], rfl, RepL.nil⟩⟩
instance RetIs.tmp {i : Nat} {t t' : Tr} {rs : List ResultVar} {ts : List Tr} [g : TGet σ i t] [fz : Frz B t t'] [k : RetIs P σ B rs ts] : RetIs P σ B (.tmp i :: rs) (t' :: ts) := ⟨fun X F s h E r G o => by
  obtain ⟨vs, h1, h2⟩ := k.eq X F s h E r G o
  refine ⟨s i :: vs, by simp only [Env.st] at h1 ⊢; simp only [iresults, h1, Option.map_some], RepL.cons (fz.eq F G h o _ ?_) h2⟩
  rw [← g.eq]; exact r.slot i⟩
instance RetIs.cell_agg {i ct b off n bt : Nat} {bx : Bool} {cs r1 r2 r3 : List Tr} {rs : List ResultVar} {ts : List Tr} [g : TGet σ i (.v (.pointer (some (ad b off))))] [a : AggIs P ct true] [z : SizeIs P ct n] [bi : BoxIs B b (.cells cs bt bx)] [dr : DropT cs off r1] [tk : TakeT r1 n r2] [fz : FrzL B r2 r3] [k : RetIs P σ B rs ts] : RetIs P σ B (.cell i ct :: rs) (.agg r3 :: ts) := ⟨fun X F s h E r G o => by
  obtain ⟨vs, h1, h2⟩ := k.eq X F s h E r G o
  have h3 := (g.is r).eq
  obtain ⟨us, h4, h5⟩ := r.boxOf bi
  obtain ⟨ws, h6, h7⟩ := h4.row h5 dr tk
  refine ⟨.agg ws.toArray :: vs, ?_, RepL.cons ?_ h2⟩
  · simp only [Env.st] at h1 ⊢; simp only [iresults, h1, Option.map_some, h3, iload, a.eq, Option.bind_some, z.eq, h6.eq]
  · simp only [Rep]; exact ⟨ws, rfl, fz.eq F G h o _ h7⟩⟩
instance RetIs.cell {i ct b off bt : Nat} {bx : Bool} {cs : List Tr} {t t' : Tr} {rs : List ResultVar} {ts : List Tr} [g : TGet σ i (.v (.pointer (some (ad b off))))] [a : AggIs P ct false] [bi : BoxIs B b (.cells cs bt bx)] [ng : NthG cs off t] [fz : Frz B t t'] [k : RetIs P σ B rs ts] : RetIs P σ B (.cell i ct :: rs) (t' :: ts) := ⟨fun X F s h E r G o => by
  obtain ⟨vs, h1, h2⟩ := k.eq X F s h E r G o
  have h3 := (g.is r).eq
  obtain ⟨us, h4, h5⟩ := r.boxOf bi
  obtain ⟨v, h6, h7⟩ := h4.get ng.eq
  refine ⟨v :: vs, ?_, RepL.cons (fz.eq F G h o _ h7) h2⟩
  simp only [Env.st] at h1 ⊢
  simp only [iresults, h1, Option.map_some, h3, iload, a.eq, Option.bind_some, h5.cell, h6]⟩
def tret : List Tr → Tr
  | [t] => t
  | ts => .tup ts
@[irreducible] def retT (P : Program) (rs : List ResultVar) (Φ : Tr → Prop) : IExit → TK := fun e σ B => (e = .normal ∨ e = .ret) ∧ ∃ ts, RetT P σ B rs ts ∧ Φ (tret ts)
theorem retT_go {rs : List ResultVar} {Φ : Tr → Prop} {e : IExit} {ts : List Tr} [r : RetIs P σ B rs ts] (he : e = .normal ∨ e = .ret) (k : Φ (tret ts)) : retT P rs Φ e σ B := by unfold retT; exact ⟨he, ts, r.eq, k⟩
def argT (args : List Tr) : Nat → Tr := fun i => args.getD i (.v undef)
instance TGet.arg {args : List Tr} {i : Nat} {t : Tr} [n : NthG args i t] : TGet (argT args) i t := ⟨by simp [argT, List.getD, n.eq]⟩
theorem Fn_of {f : FuncId} {fn : Func} {c : Code} {args : List Tr} {Φ : Tr → Prop} (hf : P.funcs[f]? = some fn) (hb : fn.body = some c) (hsz : args.length ≤ fn.ntmps)
    (hw : ∀ X, TV X P ⟨fn.ntmps, [], false⟩ c (retT P fn.results.toList Φ) (argT args) []) : Fn P f args Φ := by
  unfold Fn
  intro F0 h vs h1 h2
  have hr : TR ⟨h, F0, []⟩ F0 (argT args) [] (argS vs) h := ⟨Ext.refl h, Sub.refl F0, h1, fun b off v hf => .inl hf, by simp, by simp, by simp, by simp, fun i => by
    by_cases hi : i < args.length
    · obtain ⟨v, h3, h4⟩ := h2.get (List.getElem?_eq_getElem hi)
      have h5 : argS vs i = v := by
        have hi2 := (List.getElem?_eq_some_iff.1 h3).1
        simp only [argS, Array.getD]
        rw [dif_pos (by simpa using hi2)]
        rw [List.getElem?_eq_getElem hi2] at h3
        simpa using Option.some.inj h3
      have h6 : argT args i = args[i] := by simp [argT, List.getD, hi]
      rw [h5, h6]; exact h4
    · have h5 : argS vs i = undef := by
        have := h2.len
        simp only [argS, Array.getD]
        rw [dif_neg (by simp; omega)]
      have h6 : argT args i = .v undef := by simp [argT, List.getD, hi]
      rw [h5, h6]; exact rep_v _⟩
  have hw := hw ⟨h, F0, []⟩
  unfold TV at hw
  refine EvX_of hf hb (by rw [h2.len]; exact hsz) (V_mono ?_ (hw F0 _ h hr))
  rintro e s' h' ⟨F', σ', B', r', hk⟩
  unfold retT at hk
  obtain ⟨he, ts, h3, h4⟩ := hk
  obtain ⟨ws, h5, h6⟩ := h3 _ F' s' h' ⟨fn.ntmps, [], false⟩ r' (thaw F' B' h') r'.thawOk
  unfold retK
  refine ⟨he, ws, h5, r'.ext, thaw F' B' h', tret ts, r'.base.trans r'.thawOk.sub, r'.thawSub, fun b off v hf => ?_, ?_, h4⟩
  · rcases r'.thawOwn b off v hf with h7 | h7
    · exact r'.own b off v h7
    · exact .inr h7
  · have hl := h6.len
    match ts, ws, h6, hl with
    | [], [], _, _ => simp only [tret, iret, Rep]; exact ⟨[], rfl, RepL.nil⟩
    | [t], [v], h6, _ =>
      simp only [RepL] at h6
      obtain ⟨v', ws', h7, h8, _⟩ := h6
      simp only [List.cons.injEq] at h7
      obtain ⟨rfl, rfl⟩ := h7
      exact h8
    | t :: t2 :: ts, v :: v2 :: vs, h6, _ => simp only [tret, iret, Rep]; exact ⟨_, rfl, h6⟩
end Go.Ideal

-- IdealTj
set_option linter.unusedSimpArgs false
set_option linter.unusedVariables false
namespace Go.Ideal
open Go Go.RowKit
variable {P : Program} {X : Cx} {E : Env} {σ : Nat → Tr} {B B' : Boxes} {ops : Array Oper} {K : TK} {l : List Oper} {d : Option Tmp} {ty : TypeId} {pos : String} {af : Array Edge} {H : List (Nat × Nat)} {F : Mem} {s : Nat → Value} {h : IHp} {held : Held} {plan : List PStep} {ph : Bool}

/-! ### Regions that draw their order -/
/-- cells that are the same in all the heaps since the region began; the number of cells is told in the entry's number -/
def PinOk (H : List (Nat × Nat)) (pins : Held) (snaps : List IHp) : Prop := ∀ b n, (1000000 + n, b) ∈ H → ∀ j, j < n → ∃ v, (1000000 + n, b, j, v) ∈ pins ∧ ∀ hs ∈ snaps, hs.cell? b j = some v
theorem pinOk_nil {pins : Held} {snaps : List IHp} : PinOk [] pins snaps := fun b n h => by cases h
@[irreducible] def TD (X : Cx) (P : Program) (E : Env) (ops : Array Oper) (K : TK) (plan : List PStep) (H : List (Nat × Nat)) (ph : Bool) (σ : Nat → Tr) (B : Boxes) : Prop :=
  ∀ F s h held snaps pins, TR X F σ B s h → HeldOk F B H h (held ++ pins) → (ph = true → snaps = [h]) → PinOk H pins snaps → WD P E ops (fun s' h' => ∃ F' σ' B', TR X F' σ' B' s' h' ∧ K σ' B') plan held snaps s h
theorem TV_draw {id : Nat} {l : List Oper} {Q : IExit → TK} {plan : List PStep} (hp : planOf l.toArray = some plan) (k : TD X P E l.toArray (Q .normal) plan [] true σ B) : TV X P E (.region id l.toArray true) Q σ B := by
  unfold TV; unfold TD at k
  intro F s h r
  exact V_draw hp (k F s h [] [h] [] r (fun e he => by cases he) (fun _ => rfl) pinOk_nil)
theorem TD_nil (k : K σ B) : TD X P E ops K [] H ph σ B := by
  unfold TD; intro F s h held snaps pins r hh hp hq; exact WD_nil ⟨F, σ, B, r, k⟩
theorem TD_take {i : Nat} {op : Op} {t : Tr} (ho : ops[i]? = some ⟨d, op, ty, pos, af, none⟩) (hq : (isQuiet op && !isLoad op) = true) [nb : NoBts P op] [p : Pu P σ B op t] (k : TD X P E ops K plan H ph (putT σ d t) B) : TD X P E ops K (.take i :: plan) H ph σ B := by
  unfold TD at *
  intro F s h held snaps pins r hh hp hpin
  refine WD_take ho (by simpa using hq) (p.eq r fun v hv => WS_nil ?_)
  unfold WDT
  exact k F _ h held snaps pins (r.put hv) hh hp hpin
theorem TD_takew {i : Nat} {op : Op} {t : Tr} (ho : ops[i]? = some ⟨d, op, ty, pos, af, none⟩) (hq : (isQuiet op && !isLoad op) = true) [nb : NoBts P op] (p : Pu P σ B op t) (k : TD X P E ops K plan H ph (putT σ d t) B) : TD X P E ops K (.take i :: plan) H ph σ B := TD_take ho hq (p := p) k
theorem TD_take_on {i j : Nat} {op : Op} {t : Tr} {u b : Bool} {x : Tmp} (ho : ops[i]? = some ⟨d, op, ty, pos, af, some (j, u)⟩) (hd : (ops[j]?).bind (·.dst) = some x) [g : TGet σ x (.v (.bool b))] (hb : b = u) (hq : (isQuiet op && !isLoad op) = true) [nb : NoBts P op] [p : Pu P σ B op t] (k : TD X P E ops K plan H ph (putT σ d t) B) : TD X P E ops K (.take i :: plan) H ph σ B := by
  unfold TD at *
  intro F s h held snaps pins r hh hp hpin
  have := g.is r
  refine WD_take_on ho hd hb hq (p.eq r fun v hv => WS_nil ?_)
  unfold WDT
  exact k F _ h held snaps pins (r.put hv) hh hp hpin
/-! loads that are taken first: the place, what is read, and whether it lies in own memory -/
/-- a load's reading; bs: the own block that is read, if any -/
class Lo (P : Program) (σ : Nat → Tr) (B : Boxes) (op : Op) (t : outParam Tr) (bs : outParam (List Nat)) : Prop where
  eq : ∀ {X : Cx} {F : Mem} {s : Nat → Value} {h : IHp}, TR X F σ B s h → ∃ ty x b off us, op = .load ty x ∧ EvalIs s x (.pointer (some (ad b off))) ∧ h.row b off us.length = some us ∧ (∀ u ∈ us, veq u u = true) ∧
    ((AggIs P ty false ∧ ∃ u, us = [u] ∧ Rep F t u) ∨ (AggIs P ty true ∧ SizeIs P ty us.length ∧ Rep F t (.agg us.toArray))) ∧ ((∀ i, i < us.length → F b (off + i) = us[i]?) ∨ (bs = [b] ∧ b ∈ B.map Prod.fst ∧ b % 2 = 0))
class VR (t : Tr) : Prop where eq : ∀ F v, Rep F t v → veq v v = true
instance VR.val {x : Value} [r : VRefl x] : VR (.v x) := ⟨fun F v h => by simp only [Rep] at h; subst h; exact r.eq⟩
instance VRefl.gsv {b n : Nat} : VRefl (gsv b n) := ⟨by unfold Go.Ideal.gsv; split <;> simp [veq]⟩
instance VRefl.elp {b m i j : Nat} : VRefl (elp b m i j) := ⟨by unfold Go.Ideal.elp; simp [veq]⟩
instance VR.sl {m : Nat} {rows : List (List Tr)} : VR (.sl m rows) := ⟨fun F v h => by simp only [Rep] at h; obtain ⟨a, n, c, rfl, _⟩ := h; simp [veq]⟩
instance VR.pf {cs : List Tr} : VR (.pf cs) := ⟨fun F v h => by simp only [Rep] at h; obtain ⟨b, o, vs, rfl, _⟩ := h; simp [veq]⟩
class VRL (ts : List Tr) : Prop where eq : ∀ F vs, RepL F ts vs → ∀ v ∈ vs, veq v v = true
instance VRL.nil : VRL [] := ⟨fun F vs h v hv => by simp only [RepL] at h; subst h; cases hv⟩
instance VRL.cons {t : Tr} {ts : List Tr} [a : VR t] [b : VRL ts] : VRL (t :: ts) := ⟨fun F vs h v hv => by
  simp only [RepL] at h
  obtain ⟨w, ws, rfl, h1, h2⟩ := h
  rcases List.mem_cons.1 hv with rfl | hv
  · exact a.eq F _ h1
  · exact b.eq F ws h2 v hv⟩
theorem row_len {h : IHp} {b off n : Nat} {us : List Value} (hr : h.row b off n = some us) : us.length = n := by rw [row_rowM] at hr; exact rowM_len hr
theorem TR.even (r : TR X F σ B s h) {b : Nat} {cs : List Tr} {t : Nat} {x : Bool} (bi : BoxIs B b (.cells cs t x)) : b % 2 = 0 ∧ b ∈ B.map Prod.fst := by
  obtain ⟨vs, _, o⟩ := r.boxOf bi
  exact ⟨o.even, List.mem_map.2 ⟨_, bi.mem, rfl⟩⟩
instance Lo.box {x : Operand} {t : TypeId} {b off bt : Nat} {bx : Bool} {cs : List Tr} {u : Tr} [e : TEval σ x (.v (.pointer (some (ad b off))))] [a : AggIs P t false] [bi : BoxIs B b (.cells cs bt bx)] [n : NthG cs off u] [vr : VR u] : Lo P σ B (.load t x) u [b] := ⟨fun {X F s h} q => by
  have h0 := e.is q.slot
  obtain ⟨vs, h1, h2⟩ := q.boxOf bi
  obtain ⟨v, h3, h4⟩ := h1.get n.eq
  refine ⟨t, x, b, off, [v], rfl, h0, ?_, ?_, .inl ⟨a, v, rfl, h4⟩, .inr ⟨rfl, (q.even bi).2, (q.even bi).1⟩⟩
  · have hlt := (List.getElem?_eq_some_iff.1 h3).1
    rw [List.length_singleton, row_obj h2 off (by omega)]
    rw [List.drop_eq_getElem_cons hlt]
    rw [List.getElem?_eq_getElem hlt] at h3
    simp [Option.some.inj h3]
  · intro w hw; simp at hw; subst hw; exact vr.eq F _ h4⟩
instance Lo.pf {x : Operand} {t : TypeId} {u : Tr} {cs : List Tr} [e : TEval σ x (.pf (u :: cs))] [a : AggIs P t false] [vr : VR u] : Lo P σ B (.load t x) u [] := ⟨fun {X F s h} q => by
  have h1 := evalIs_self (s := s) (x := x) (h := h)
  have h2 := e.eq F s q.slot h 0 [] false
  simp only [Rep] at h2
  obtain ⟨b, off, vs, h3, h4, h5⟩ := h2
  rw [h3] at h1
  simp only [RepL] at h5
  obtain ⟨v, ws, rfl, h6, h7⟩ := h5
  refine ⟨t, x, b, off, [v], rfl, h1, ?_, ?_, .inl ⟨a, v, rfl, h6⟩, .inl ?_⟩
  · have := rowM_part h4 0 1 (by simp)
    rw [row_rowM]
    exact rowM_sub q.sub (by simpa using this)
  · intro w hw; simp at hw; subst hw; exact vr.eq F _ h6
  · intro i hi
    have : i = 0 := by simpa using hi
    subst this
    have := rowM_get h4 0 (by simp)
    simpa using this⟩
instance Lo.box_agg {x : Operand} {t : TypeId} {b off n bt : Nat} {bx : Bool} {cs r1 r2 : List Tr} [e : TEval σ x (.v (.pointer (some (ad b off))))] [a : AggIs P t true] [z : SizeIs P t n] [bi : BoxIs B b (.cells cs bt bx)] [dr : DropT cs off r1] [tk : TakeT r1 n r2] [vr : VRL r2] : Lo P σ B (.load t x) (.agg r2) [b] := ⟨fun {X F s h} q => by
  have h0 := e.is q.slot
  obtain ⟨vs, h1, h2⟩ := q.boxOf bi
  obtain ⟨us, h3, h4⟩ := h1.row h2 dr tk
  have hl := row_len h3.eq
  refine ⟨t, x, b, off, us, rfl, h0, by rw [hl]; exact h3.eq, vr.eq F us h4, .inr ⟨a, by rw [hl]; exact z, by simp only [Rep]; exact ⟨us, rfl, h4⟩⟩, .inr ⟨rfl, (q.even bi).2, (q.even bi).1⟩⟩⟩
instance Lo.pf_agg {x : Operand} {t : TypeId} {n : Nat} {cs r : List Tr} [e : TEval σ x (.pf cs)] [a : AggIs P t true] [z : SizeIs P t n] [tk : TakeT cs n r] [vr : VRL r] : Lo P σ B (.load t x) (.agg r) [] := ⟨fun {X F s h} q => by
  have h1 := evalIs_self (s := s) (x := x) (h := h)
  have h2 := e.eq F s q.slot h 0 [] false
  simp only [Rep] at h2
  obtain ⟨b, off, vs, h3, h4, h5⟩ := h2
  rw [h3] at h1
  have h6 : RepL F r (vs.take n) := by rw [← tk.eq]; exact h5.take n
  have hl : (vs.take n).length = n := by have := rowM_len h4; have := tk.le; simp; omega
  have h7 : rowM F b off n = some (vs.take n) := by have := rowM_part h4 0 n (by have := tk.le; omega); simpa using this
  refine ⟨t, x, b, off, vs.take n, rfl, h1, ?_, vr.eq F _ h6, .inr ⟨a, by rw [hl]; exact z, by simp only [Rep]; exact ⟨_, rfl, h6⟩⟩, .inl ?_⟩
  · rw [hl, row_rowM]; exact rowM_sub q.sub h7
  · rw [hl]; exact fun i hi => rowM_get h7 i hi⟩
theorem TR.evenA (r : TR X F σ B s h) {b m : Nat} {rows : List (List Tr)} {t : Nat} {x : Bool} (bi : BoxIs B b (.arr m rows t x)) {i : Nat} {row : List Tr} (hr : rows[i]? = some row) : b % 2 = 0 ∧ b ∈ B.map Prod.fst := by
  obtain ⟨vs, _, o, _⟩ := Box.len_of (r.boxOf bi) hr
  exact ⟨o.even, List.mem_map.2 ⟨_, bi.mem, rfl⟩⟩
instance Lo.arr {x : Operand} {t : TypeId} {b m i j bt : Nat} {bx : Bool} {rows : List (List Tr)} {row : List Tr} {u : Tr} [e : TEval σ x (.v (elp b m i j))] [a : AggIs P t false] [bi : BoxIs B b (.arr m rows bt bx)] [ng : NthG rows i row] [n : NthG row j u] [vr : VR u] : Lo P σ B (.load t x) u [b] := ⟨fun {X F s h} q => by
  have h0 := e.is q.slot
  unfold elp at h0
  obtain ⟨us, h1, h2⟩ := arr_row (q.boxOf bi) ng.eq
  obtain ⟨v, h3, h4⟩ := h2.get n.eq
  have hj := (List.getElem?_eq_some_iff.1 h3).1
  have hm := row_len h1
  refine ⟨t, x, b, i * m + j, [v], rfl, h0, ?_, ?_, .inl ⟨a, v, rfl, h4⟩, .inr ⟨rfl, (q.evenA bi ng.eq).2, (q.evenA bi ng.eq).1⟩⟩
  · rw [List.length_singleton, row_part h1 j 1 (by omega), List.drop_eq_getElem_cons hj]
    rw [List.getElem?_eq_getElem hj] at h3
    simp [Option.some.inj h3]
  · intro w hw; simp at hw; subst hw; exact vr.eq F _ h4⟩
instance Lo.arr_agg {x : Operand} {t : TypeId} {b m i j n bt : Nat} {bx : Bool} {rows : List (List Tr)} {row r1 r2 : List Tr} [e : TEval σ x (.v (elp b m i j))] [a : AggIs P t true] [z : SizeIs P t n] [bi : BoxIs B b (.arr m rows bt bx)] [ng : NthG rows i row] [dr : DropT row j r1] [tk : TakeT r1 n r2] [vr : VRL r2] : Lo P σ B (.load t x) (.agg r2) [b] := ⟨fun {X F s h} q => by
  have h0 := e.is q.slot
  unfold elp at h0
  obtain ⟨us, h1, h2⟩ := arr_row (q.boxOf bi) ng.eq
  have hm := row_len h1
  have hl := h2.len
  have h3 := tk.le
  rw [← dr.eq, List.length_drop] at h3
  have h5 := dr.le
  have h6 : RepL F r2 ((us.drop j).take n) := by rw [← tk.eq, ← dr.eq]; exact (h2.drop j).take n
  have h7 : ((us.drop j).take n).length = n := by simp; omega
  refine ⟨t, x, b, i * m + j, _, rfl, h0, by rw [h7]; exact row_part h1 j n (by omega), vr.eq F _ h6, .inr ⟨a, by rw [h7]; exact z, by simp only [Rep]; exact ⟨_, rfl, h6⟩⟩, .inr ⟨rfl, (q.evenA bi ng.eq).2, (q.evenA bi ng.eq).1⟩⟩⟩
theorem cellsOf_at {i b : Nat} : ∀ {us : List Value} {off : Nat} {e : Nat × Nat × Nat × Value}, e ∈ cellsOf i b off us → ∃ j, j < us.length ∧ e.1 = i ∧ e.2.1 = b ∧ e.2.2.1 = off + j ∧ us[j]? = some e.2.2.2 := by
  intro us
  induction us with
  | nil => intro off e he; cases he
  | cons u us ih =>
    intro off e he
    simp only [cellsOf, List.mem_cons] at he
    rcases he with rfl | he
    · exact ⟨0, by simp, rfl, rfl, rfl, rfl⟩
    · obtain ⟨j, h1, h2, h3, h4, h5⟩ := ih he
      exact ⟨j + 1, by simp; omega, h2, h3, by rw [h4]; omega, by simpa using h5⟩
theorem held_more {i b off : Nat} {us : List Value} {bs : List Nat} (hh : HeldOk F B H h held) (hr : h.row b off us.length = some us) (hv : ∀ u ∈ us, veq u u = true) (hm : (∀ j, j < us.length → F b (off + j) = us[j]?) ∨ (bs = [b] ∧ b ∈ B.map Prod.fst ∧ b % 2 = 0)) : HeldOk F B (bs.map (fun b => (i, b)) ++ H) h (cellsOf i b off us ++ held) := by
  intro e he
  rcases List.mem_append.1 he with h1 | h1
  · obtain ⟨j, h2, h3, h4, h5, h6⟩ := cellsOf_at h1
    refine ⟨hv _ (List.mem_of_getElem? h6), ?_, ?_⟩
    · rw [h4, h5, row_cell hr j h2]; exact h6
    · rcases hm with hm | ⟨rfl, h7, h8⟩
      · exact .inl (by rw [h4, h5, hm j h2]; exact h6)
      · exact .inr ⟨by rw [h3, h4]; simp, by rw [h4]; exact h7, by rw [h4]; exact h8⟩
  · obtain ⟨h2, h3, h4⟩ := hh e h1
    refine ⟨h2, h3, ?_⟩
    rcases h4 with h4 | ⟨h4, h5⟩
    · exact .inl h4
    · exact .inr ⟨List.mem_append_right _ h4, h5⟩
theorem heldIn_cells {i b off : Nat} {us : List Value} (hr : h.row b off us.length = some us) (hv : ∀ u ∈ us, veq u u = true) : heldIn h (cellsOf i b off us) = true := by
  simp only [heldIn, List.all_eq_true]
  rintro ⟨i', b', o', v⟩ he
  obtain ⟨j, h2, h3, h4, h5, h6⟩ := cellsOf_at he
  simp only at h3 h4 h5 h6
  subst h3; subst h4; subst h5
  have hc := row_cell hr j h2
  rw [h6] at hc
  simp only [hc]
  exact hv _ (List.mem_of_getElem? h6)
theorem WD_loadG {K : SK} {i b off : Nat} {t : TypeId} {x : Operand} {us : List Value} {v : Value} {o : Oper} {snaps : List IHp} (ho : ops[i]? = some o) (hop : o.op = .load t x) (hw : iwanted ops s o = true) (e : EvalIs s x (.pointer (some (ad b off)))) (hr : h.row b off us.length = some us) (hv : ∀ u ∈ us, veq u u = true)
    (hc : (AggIs P t false ∧ us = [v]) ∨ (AggIs P t true ∧ SizeIs P t us.length ∧ v = .agg us.toArray)) (hs : snaps = [h]) (k : WD P E ops K plan (cellsOf i b off us ++ held) snaps (putS s o.dst v) h) : WD P E ops K (.take i :: plan) held snaps s h := by
  unfold WD at k ⊢
  obtain ⟨n, st', h5, h6⟩ := k
  refine ⟨n, st', ?_, h6⟩
  have he := ev_eq (E := E) (h := h) (x := x) (s := s)
  simp only [iplan, ho, Option.bind_some]
  rw [if_pos (show iwanted ops (E.st s h).s o = true from hw)]
  have hheld := heldIn_cells (i := i) hr hv
  simp only [Env.st] at he h5 ⊢
  subst hs
  rcases hc with ⟨ha, rfl⟩ | ⟨ha, hz, rfl⟩
  · have hcell : h.cell? b off = some v := by
      have := row_cell hr 0 (by simp)
      simpa using this
    have h7 : heldOf P h (St.eval { s := s, h := h, nt := E.nt, marks := E.marks, rd := E.rd }) i o = some (cellsOf i b off [v]) := by
      simp only [heldOf, hop, he, ha.eq, Option.bind_some, hcell, Option.map_some, cellsOf]
    have h8 : iheap P h (St.eval { s := s, h := h, nt := E.nt, marks := E.marks, rd := E.rd }) o = some (v, h) := by
      simp only [iheap, hop, he, iload, ha.eq, Option.bind_some, hcell, Option.map_some]
    rw [h7]
    simp only [Option.bind_some, List.all_cons, List.all_nil, Bool.and_true, hheld, if_true, h8]
    exact h5
  · have h7 : heldOf P h (St.eval { s := s, h := h, nt := E.nt, marks := E.marks, rd := E.rd }) i o = some (cellsOf i b off us) := by
      simp only [heldOf, hop, he, ha.eq, Option.bind_some, hz.eq, hr, Option.map_some]
    have h8 : iheap P h (St.eval { s := s, h := h, nt := E.nt, marks := E.marks, rd := E.rd }) o = some (.agg us.toArray, h) := by
      simp only [iheap, hop, he, iload, ha.eq, Option.bind_some, hz.eq, hr, Option.map_some]
    rw [h7]
    simp only [Option.bind_some, List.all_cons, List.all_nil, Bool.and_true, hheld, if_true, h8]
    exact h5
theorem PinOk.more {i : Nat} {bs : List Nat} {pins : Held} {snaps : List IHp} (x : PinOk H pins snaps) (hi : ∀ n, i ≠ 1000000 + n) : PinOk (bs.map (fun b => (i, b)) ++ H) pins snaps := fun b n hb j hj => by
  rcases List.mem_append.1 hb with h | h
  · obtain ⟨c, _, hc⟩ := List.mem_map.1 h
    simp only [Prod.mk.injEq] at hc
    exact absurd hc.1 (hi n)
  · exact x b n h j hj
theorem TD_loadG {i : Nat} {op : Op} {t : Tr} {bs : List Nat} {g : Option (Nat × Bool)} (ho : ops[i]? = some ⟨d, op, ty, pos, af, g⟩) (hlt : Nat.ble i 999999 = true) (hw : ∀ {X F s h}, TR X F σ B s h → iwanted ops s ⟨d, op, ty, pos, af, g⟩ = true) (p : Lo P σ B op t bs) (k : TD X P E ops K plan (bs.map (fun b => (i, b)) ++ H) true (putT σ d t) B) : TD X P E ops K (.take i :: plan) H true σ B := by
  unfold TD at *
  intro F s h held snaps pins r hh hp hpin
  obtain ⟨ty', x, b, off, us, h1, h2, h3, h4, h5, h6⟩ := p.eq r
  subst h1
  have hh' := held_more (i := i) (bs := bs) hh h3 h4 h6
  rw [← List.append_assoc] at hh'
  have hpin' : PinOk (bs.map (fun b => (i, b)) ++ H) pins snaps := hpin.more (by
    intro n hn
    simp only [Nat.ble_eq] at hlt
    omega)
  rcases h5 with ⟨ha, u, rfl, hu⟩ | ⟨ha, hz, hu⟩
  · exact WD_loadG (v := u) ho rfl (hw r) h2 h3 h4 (.inl ⟨ha, rfl⟩) (hp rfl) (k F _ h _ snaps pins (r.put hu) hh' hp hpin')
  · exact WD_loadG (v := .agg us.toArray) ho rfl (hw r) h2 h3 h4 (.inr ⟨ha, hz, rfl⟩) (hp rfl) (k F _ h _ snaps pins (r.put hu) hh' hp hpin')
theorem TD_load {i : Nat} {op : Op} {t : Tr} {bs : List Nat} (ho : ops[i]? = some ⟨d, op, ty, pos, af, none⟩) (hlt : Nat.ble i 999999 = true) [p : Lo P σ B op t bs] (k : TD X P E ops K plan (bs.map (fun b => (i, b)) ++ H) true (putT σ d t) B) : TD X P E ops K (.take i :: plan) H true σ B :=
  TD_loadG ho hlt (fun r => by simp [iwanted, Region.wanted]) p k
theorem TD_load_on {i j : Nat} {op : Op} {t : Tr} {bs : List Nat} {u b : Bool} {x : Tmp} (ho : ops[i]? = some ⟨d, op, ty, pos, af, some (j, u)⟩) (hd : (ops[j]?).bind (·.dst) = some x) [g : TGet σ x (.v (.bool b))] (hb : b = u) (hlt : Nat.ble i 999999 = true) [p : Lo P σ B op t bs] (k : TD X P E ops K plan (bs.map (fun b => (i, b)) ++ H) true (putT σ d t) B) : TD X P E ops K (.take i :: plan) H true σ B :=
  TD_loadG ho hlt (fun r => by have := (g.is r).eq; simp [iwanted, Region.wanted, iyielded, hd, this, hb]) p k
@[irreducible] def TDK (X : Cx) (P : Program) (E : Env) (ops : Array Oper) (K : TK) (plan : List PStep) (H : List (Nat × Nat)) : TK := fun σ B => TD X P E ops K plan H false σ B
theorem TDK_go (k : TD X P E ops K plan H false σ B) : TDK X P E ops K plan H σ B := by unfold TDK; exact k
@[irreducible] def FiltT (ops : Array Oper) (i : Nat) (H : List (Nat × Nat)) (C : List (Nat × Nat) → Prop) : Prop := C (H.filter fun e => Nat.ble 1000000 e.1 || quietAt ops i || !waitsL ops i e.1)
theorem FiltT_nil {i : Nat} {C : List (Nat × Nat) → Prop} (k : C []) : FiltT ops i [] C := by unfold FiltT; exact k
theorem FiltT_drop {i j b : Nat} {C : List (Nat × Nat) → Prop} (hk : (Nat.ble 1000000 j || quietAt ops i || !waitsL ops i j) = false) (k : FiltT ops i H C) : FiltT ops i ((j, b) :: H) C := by
  unfold FiltT at *; rw [List.filter_cons, if_neg (by simp only; rw [hk]; decide)]; exact k
theorem FiltT_keep {i j b : Nat} {C : List (Nat × Nat) → Prop} (hk : (Nat.ble 1000000 j || quietAt ops i || !waitsL ops i j) = true) (k : FiltT ops i H (fun r => C ((j, b) :: r))) : FiltT ops i ((j, b) :: H) C := by
  unfold FiltT at *; rw [List.filter_cons, if_pos (by simp only; exact hk)]; exact k
theorem TD_one {i : Nat} {op : Op} {g : Option (Nat × Bool)} (ho : ops[i]? = some ⟨d, op, ty, pos, af, g⟩) (k : FiltT ops i H (fun H' => TS X P E ops (TDK X P E ops K plan H') [⟨d, op, ty, pos, af, g⟩] H' σ B)) : TD X P E ops K (.one i :: plan) H ph σ B := by
  unfold TD
  unfold FiltT at k
  unfold TS at k
  intro F s h held snaps pins r hh hp hpin
  refine WD_one_of (held' := heldBut ops i held) ho (fun e he => he) (WS_mono ?_ (k F s h (heldBut ops i held ++ pins.filter fun e => Nat.ble 1000000 e.1) r ?_))
  · rintro s' h' ⟨F', σ', B', r', hh', hk⟩
    unfold TDK at hk
    unfold TD at hk
    unfold WDK
    have hh1 : HeldOk F' B' (H.filter fun e => Nat.ble 1000000 e.1 || quietAt ops i || !waitsL ops i e.1) h' (heldBut ops i held) := fun e he => hh' e (List.mem_append_left _ he)
    refine ⟨hh1.heldIn, hk F' s' h' _ _ _ r' hh' (by simp) fun b n hb j hj => ?_⟩
    obtain ⟨v, h1, h2⟩ := hpin b n (List.mem_filter.1 hb).1 j hj
    have h3 : (1000000 + n, b, j, v) ∈ pins.filter fun e => Nat.ble 1000000 e.1 := List.mem_filter.2 ⟨h1, by simp [Nat.ble_eq]⟩
    refine ⟨v, h3, fun hs hm => ?_⟩
    rcases List.mem_cons.1 hm with rfl | hm
    · exact (hh' _ (List.mem_append_right _ h3)).2.1
    · exact h2 hs hm
  · intro e he
    have he' : e ∈ held ++ pins ∧ (Nat.ble 1000000 e.1 || quietAt ops i || !waitsL ops i e.1) = true := by
      rcases List.mem_append.1 he with he | he
      · rw [waitsL_eq]
        unfold heldBut at he
        split at he
        · rename_i hq; exact ⟨List.mem_append_left _ he, by rw [hq]; simp⟩
        · have := List.mem_filter.1 he; exact ⟨List.mem_append_left _ this.1, by rw [this.2]; simp⟩
      · have := List.mem_filter.1 he
        exact ⟨List.mem_append_right _ this.1, by rw [this.2]; simp⟩
    obtain ⟨h1, h2, h3⟩ := hh e he'.1
    refine ⟨h1, h2, ?_⟩
    rcases h3 with h3 | ⟨h3, h4⟩
    · exact .inl h3
    · exact .inr ⟨List.mem_filter.2 ⟨h3, he'.2⟩, h4⟩
class PinIn (H : List (Nat × Nat)) (b n : Nat) : Prop where mem : (1000000 + n, b) ∈ H
class IsPin (i n : Nat) : Prop where eq : i = 1000000 + n
instance IsPin.of {n : Nat} : IsPin (1000000 + n) n := ⟨rfl⟩
instance (priority := 1000) PinIn.head {b n i : Nat} [p : IsPin i n] : PinIn ((i, b) :: H) b n := ⟨by rw [← p.eq]; exact List.mem_cons_self⟩
instance (priority := 900) PinIn.tail {p : Nat × Nat} {b n : Nat} [k : PinIn H b n] : PinIn (p :: H) b n := ⟨List.mem_cons_of_mem _ k.mem⟩
/-- an alloc ahead of its time -/
theorem TD_virt {i : Nat} {t : TypeId} {z : Value} {ws : List Value} {wt : List Tr} (ho : ops[i]? = some ⟨d, .alloc t, ty, pos, af, none⟩) (hlt : Nat.ble i 999999 = true) [zi : ZeroIs P t z] [cs : CellsOf z ws] [vt : ValsT ws wt] [vl : VRL wt] (hpos : ws.isEmpty = false) (k : ∀ b, TD X P E ops K plan ((i, b) :: H) false (putT σ d (.v (.pointer (some (ad b 0))))) ((b, .cells wt t true) :: B)) : TD X P E ops K (.virt i :: plan) H ph σ B := by
  unfold TD at *
  intro F s h held snaps pins r hh hp hpin
  have r' := r.push (x' := .cells wt t true) (o := .cells ws t true) ⟨ws, repL_of_vals vt, inferInstance⟩
  have o' : ObjIs (h.push (.cells ws t true)) h.fresh ws t true := inferInstance
  have hrow : (h.push (.cells ws t true)).row h.fresh 0 ws.length = some ws := by
    have := row_obj (n := ws.length) o' 0 (by omega)
    simpa using this
  have hh1 : HeldOk F ((h.fresh, Box.cells wt t true) :: B) H (h.push (.cells ws t true)) (held ++ pins) := hh.keys (fun b off v hc => cell_ext (Ext.push h _) hc) (Sub.refl F) (fun b hb => by rw [List.map_cons]; exact List.mem_cons_of_mem _ hb)
  have hh2 := held_more (i := i) (bs := [h.fresh]) hh1 hrow (vl.eq F ws (repL_of_vals vt)) (.inr ⟨rfl, by simp, o'.even⟩)
  rw [← List.append_assoc] at hh2
  have k1 := k h.fresh F _ _ (cellsOf i h.fresh 0 ws ++ held) ((h.push (.cells ws t true)) :: snaps) pins (r'.put (rep_v _)) hh2 (by simp) (by
    intro b' n' hb j' hj
    rcases List.mem_cons.1 hb with hb | hb
    · simp only [Prod.mk.injEq] at hb
      simp only [Nat.ble_eq] at hlt
      omega
    · obtain ⟨v, g1, g2⟩ := hpin b' n' hb j' hj
      refine ⟨v, g1, fun hs hm => ?_⟩
      rcases List.mem_cons.1 hm with rfl | hm
      · exact cell_ext (Ext.push h _) (hh _ (List.mem_append_right _ g1)).2.1
      · exact g2 hs hm)
  have l1 : CellsL i h.fresh 0 ws held (cellsOf i h.fresh 0 ws ++ held) := ⟨rfl⟩
  have hi : HeldIs (h.push (.cells ws t true)) (cellsOf i h.fresh 0 ws ++ held) := ⟨HeldOk.heldIn (H := (i, h.fresh) :: H) (B := (h.fresh, Box.cells wt t true) :: B) (F := F) fun e he => hh2 e (List.mem_append_left _ he)⟩
  exact WD_virt ho hpos k1
end Go.Ideal

-- IdealTk
set_option linter.unusedSimpArgs false
set_option linter.unusedVariables false
namespace Go.Ideal
open Go Go.RowKit
variable {P : Program} {X : Cx} {E : Env} {σ : Nat → Tr} {B B' : Boxes} {ops : Array Oper} {K : TK} {l : List Oper} {d : Option Tmp} {ty : TypeId} {pos : String} {af : Array Edge} {H : List (Nat × Nat)} {F : Mem} {s : Nat → Value} {h : IHp} {held : Held} {plan : List PStep} {ph : Bool}

/-! ### Boxes that are kept -/
class SubB (B' B : Boxes) : Prop where eq : B'.Sublist B
instance (priority := 1000) SubB.nil : SubB [] B := ⟨List.nil_sublist B⟩
instance (priority := 900) SubB.keep {p : Nat × Box} [i : SubB B' B] : SubB (p :: B') (p :: B) := ⟨i.eq.cons_cons p⟩
instance (priority := 800) SubB.skip {p : Nat × Box} [i : SubB B' B] : SubB B' (p :: B) := ⟨i.eq.cons p⟩

instance (priority := 950) SubB.same : SubB B B := ⟨List.Sublist.refl B⟩
theorem TR.perm (r : TR X F σ B s h) (p : B.Perm B') : TR X F σ B' s h :=
  ⟨r.ext, r.base, r.sub, r.own, fun q hq => r.box q (p.mem_iff.2 hq), fun q hq => r.sep q (p.mem_iff.2 hq), (p.map Prod.fst).nodup_iff.1 r.dis, r.gd, r.slot⟩
/-- B' is among B, in whatever order -/
class SubP (B B' : Boxes) : Prop where eq : ∃ C, B.Perm (B' ++ C)
instance (priority := 2000) SubP.nil : SubP B [] := ⟨B, List.Perm.refl B⟩
instance (priority := 1900) SubP.same : SubP B B := ⟨[], by simp⟩
instance (priority := 1000) SubP.cons {b : Nat} {x : Box} {B1 : Boxes} [d : BoxDel B b x B1] [k : SubP B1 B'] : SubP B ((b, x) :: B') := ⟨by
  obtain ⟨pre, post, h1, h2⟩ := d.eq
  obtain ⟨C, h3⟩ := k.eq
  refine ⟨C, ?_⟩
  rw [h1]
  refine List.perm_middle.trans ?_
  rw [← h2]
  exact h3.cons _⟩
instance (priority := 900) SubP.skip {p : Nat × Box} [k : SubP B B'] : SubP (p :: B) B' := ⟨by
  obtain ⟨C, h3⟩ := k.eq
  exact ⟨p :: C, (h3.cons p).trans List.perm_middle.symm⟩⟩
theorem SubP.last {k : Nat × Box} {L : Boxes} (h : SubP B (k :: L)) : SubP B (L ++ [k]) := ⟨by
  obtain ⟨C, h1⟩ := h.eq
  exact ⟨C, h1.trans ((List.perm_append_singleton k L).symm.append_right C)⟩⟩
theorem TR.keep (r : TR X F σ B s h) (k : SubP B B') : TR X F σ B' s h := by
  obtain ⟨C, h3⟩ := k.eq
  exact (r.perm h3).drop (List.sublist_append_left _ _)
theorem TV_keep {c : Code} {Q : IExit → TK} (B' : Boxes) [p : SubP B B'] (k : TV X P E c Q σ B') : TV X P E c Q σ B := by
  unfold TV at *; intro F s h r; exact k F s h (r.keep p)
/-- x == nil, of a slice that is read alone: it may be so if there is nothing in it -/
theorem TS_isnil {x : Operand} {t yt te : TypeId} {m : Nat} {rows : List (List Tr)} [e : TEval σ x (.sl m rows)] [u : UnderIs P t (.slice te)] (k : ∀ b : Bool, (b = true → rows = []) → TS X P E ops K l H (putT σ d (.v (.bool b))) B) : TS X P E ops K (⟨d, .binOp .eql t x (.const (.slice none 0 0)) yt, ty, pos, af, none⟩ :: l) H σ B := by
  unfold TS at *
  intro F s h held r hh
  have h1 := evalIs_self (s := s) (x := x) (h := h)
  have h2 := e.eq F s r.slot h 0 [] false
  simp only [Rep] at h2
  obtain ⟨a, n, c, h3, h4, h5, h6, h7, h8⟩ := h2
  rw [h3] at h1
  refine WS_isnil (k a.isNone (fun ha => ?_) F _ h held (r.put (rep_v _)) hh)
  cases a with
  | none => simp only at h8; exact List.eq_nil_of_length_eq_zero (by omega)
  | some a => cases ha

/-! ### One step, found by the goal's form -/
class StepC (goal : Prop) (next : outParam Prop) : Prop where go : next → goal
instance {a b : Code} {Q : IExit → TK} : StepC (TV X P E (.seq a b) Q σ B) (TV X P E a (TseqK X P E b Q) σ B) := ⟨TV_seq⟩
instance {id : Nat} {b : Code} {Q : IExit → TK} : StepC (TV X P E (.block id b) Q σ B) (TV X P E b (TblockK id Q) σ B) := ⟨TV_block⟩
instance {Q : IExit → TK} : StepC (TV X P E .skip Q σ B) (Q .normal σ B) := ⟨TV_skip⟩
instance {Q : IExit → TK} {id : Nat} : StepC (TV X P E (.exit id) Q σ B) (Q (.exit id) σ B) := ⟨TV_exit⟩
instance {Q : IExit → TK} : StepC (TV X P E .ret Q σ B) (Q .ret σ B) := ⟨TV_ret⟩
instance {id : Nat} {l : List Oper} {Q : IExit → TK} : StepC (TV X P E (.region id l.toArray false) Q σ B) (TS X P E l.toArray (Q .normal) l [] σ B) := ⟨TV_region⟩
instance {b : Code} {Q : IExit → TK} : StepC (TseqK X P E b Q .normal σ B) (TV X P E b Q σ B) := ⟨TSQ_normal⟩
instance {b : Code} {Q : IExit → TK} {j : Nat} : StepC (TseqK X P E b Q (.exit j) σ B) (Q (.exit j) σ B) := ⟨TSQ_exit⟩
instance {b : Code} {Q : IExit → TK} : StepC (TseqK X P E b Q .ret σ B) (Q .ret σ B) := ⟨TSQ_ret⟩
instance {id : Nat} {Q : IExit → TK} : StepC (TblockK id Q .normal σ B) (Q .normal σ B) := ⟨TB_normal⟩
instance {id : Nat} {Q : IExit → TK} : StepC (TblockK id Q .ret σ B) (Q .ret σ B) := ⟨TB_ret⟩
instance (priority := 1100) {id : Nat} {Q : IExit → TK} : StepC (TblockK id Q (.exit id) σ B) (Q .normal σ B) := ⟨TB_exit⟩
instance (priority := 900) {id j : Nat} {Q : IExit → TK} [n : BeqIs j id false] : StepC (TblockK id Q (.exit j) σ B) (Q (.exit j) σ B) := ⟨TB_pass n.eq⟩
instance {I : TK} {K : IExit → TK} : StepC (TcutK I K .normal σ B) (I σ B) := ⟨TC_normal⟩
instance {I : TK} {K : IExit → TK} {j : Nat} : StepC (TcutK I K (.exit j) σ B) (K (.exit j) σ B) := ⟨TC_exit⟩
instance {I : TK} {K : IExit → TK} : StepC (TcutK I K .ret σ B) (K .ret σ B) := ⟨TC_ret⟩
instance : StepC (TS X P E ops K [] H σ B) (K σ B) := ⟨TS_nil⟩
instance (priority := 100) {op : Op} {t : Tr} [p : Pu P σ B op t] : StepC (TS X P E ops K (⟨d, op, ty, pos, af, none⟩ :: l) H σ B) (TS X P E ops K l H (putT σ d t) B) := ⟨TS_pu⟩
instance {t : TypeId} {z : Value} {ws : List Value} {wt : List Tr} [zi : ZeroIs P t z] [cs : CellsOf z ws] [vt : ValsT ws wt] : StepC (TS X P E ops K (⟨d, .alloc t, ty, pos, af, none⟩ :: l) H σ B) (∀ b, TS X P E ops K l H (putT σ d (.v (.pointer (some (ad b 0))))) ((b, .cells wt t true) :: B)) := ⟨TS_alloc⟩
instance {t : TypeId} {x : Operand} {u : Tr} {cs : List Tr} [e : TEval σ x u] [c : CellsT u cs] : StepC (TS X P E ops K (⟨d, .box t x, ty, pos, af, none⟩ :: l) H σ B) (∀ b, TS X P E ops K l H (putT σ d (.v (.pointer (some (ad b 0))))) ((b, .cells cs t true) :: B)) := ⟨TS_box⟩
instance {x y : Operand} {t : TypeId} {b off n : Nat} {u : Tr} {ws cs r' : List Tr} {bt : Nat} {bx : Bool} [e1 : TEval σ x (.v (.pointer (some (ad b off))))] [e2 : TEval σ y u] [z : SizeIs P t n] [c : CellsT u ws] [bi : BoxIs B b (.cells cs bt bx)] [ln : LenT ws n] [si : SetT cs off ws r'] [bp : BoxPut B b b (.cells r' bt bx) B'] [ap : Apart B b H] : StepC (TS X P E ops K (⟨d, .store t x y, ty, pos, af, none⟩ :: l) H σ B) (TS X P E ops K l H (putT σ d (.v undef)) B') := ⟨TS_store⟩
instance {x y : Operand} {t : TypeId} {b m i j n : Nat} {u : Tr} {ws row row' : List Tr} {rows rows' : List (List Tr)} {bt : Nat} {bx : Bool} [e1 : TEval σ x (.v (elp b m i j))] [e2 : TEval σ y u] [z : SizeIs P t n] [c : CellsT u ws] [bi : BoxIs B b (.arr m rows bt bx)] [ng : NthG rows i row] [ln : LenT ws n] [si : SetT row j ws row'] [sr : SetR rows i row' rows'] [bp : BoxPut B b b (.arr m rows' bt bx) B'] [ap : Apart B b H] : StepC (TS X P E ops K (⟨d, .store t x y, ty, pos, af, none⟩ :: l) H σ B) (TS X P E ops K l H (putT σ d (.v undef)) B') := ⟨TS_store_arr⟩
theorem buildSlice_side {m len : Nat} (h1 : Nat.beq m 0 = false) (h2 : Nat.ble (len * m) 16777216 = true) : (m != 0 && decide (len * m ≤ 2 ^ 24)) = true := by
  simp only [Nat.ble_eq] at h2
  have : m ≠ 0 := fun h => by subst h; simp at h1
  simp [this]; omega
instance {t e : TypeId} {len m : Nat} {ps : List (Nat × Operand)} {pt : List (Nat × Tr)} {ts : List Tr} {rows : List (List Tr)} {z : Value} {wz : List Value} [u : UnderIs P t (.slice e)] [zi : SizeIs P e m] [ze : ZeroIs P e z] [cz : CellsOf z wz] [lz : LenT wz m] [p : TParts σ ps pt] [en : EnumT 0 pt ts] [ro : RowsT m ts rows] [lt : LenT ts len] [s1 : BeqIs m 0 false] [s2 : LeIs (len * m) 16777216 true] : StepC (TS X P E ops K (⟨d, .buildSlice t len ps.toArray, ty, pos, af, none⟩ :: l) H σ B) (∀ b, TS X P E ops K l H (putT σ d (.v (.slice (some (ad b 0)) len len))) ((b, .arr m rows e true) :: B)) := ⟨TS_buildSlice (buildSlice_side s1.eq s2.eq)⟩
instance : StepC (TDK X P E ops K plan H σ B) (TD X P E ops K plan H false σ B) := ⟨TDK_go⟩
instance : StepC (TD X P E ops K [] H ph σ B) (K σ B) := ⟨TD_nil⟩

/-! ### Parts of slices -/
theorem islice_hi {t e m len cap : Nat} {a : Addr} {j : Nat} {k : IntKind} [u : UnderIs P t (.slice e)] [z : SizeIs P e m] (hs : a.spot = none) (hj : j ≤ cap) (h : IHp) : islice P h t (.slice (some a) len cap) none (some (.int k j)) none = some (.slice (some (ad a.block a.off)) j cap) := by
  have ha : (ad a.block a.off) = a := by cases a; simp_all
  simp only [islice, u.eq, spotted, hs, Option.isSome_none, Bool.false_eq_true, if_false, ibounds, ibound]
  rw [if_pos (by omega)]
  simp [z.eq, hj]
/-- x[:j], of a slice of something -/
theorem Pu.slice_hi {x y : Operand} {t e m j : Nat} {rows : List (List Tr)} {k : IntKind} {i : Int} [e1 : TEval σ x (.sl m rows)] [e2 : TEval σ y (.v (.int k i))] [a : AsNat i j] [u : UnderIs P t (.slice e)] [z : SizeIs P e m] (hne : rows ≠ []) (hj : j ≤ rows.length) : Pu P σ B (.slice t x none (some y) none) (.sl m (rows.take j)) := ⟨fun {X F s h} q {_ _ _ _ _ _ _ _} kk => by
  have h1 := evalIs_self (s := s) (x := x) (h := h)
  have h2 := e1.eq F s q.slot h 0 [] false
  have h9 := e2.is q.slot
  rw [a.eq] at h9
  simp only [Rep] at h2
  obtain ⟨sa, n, c, h3, h4, h5, h6, h7, h8⟩ := h2
  rw [h3] at h1
  cases sa with
  | none => simp only at h8; have : rows = [] := List.eq_nil_of_length_eq_zero (by omega); exact absurd this hne
  | some a =>
    have hpos : 0 < rows.length := List.length_pos_iff.2 hne
    have hsp : a.spot = none := by
      rcases h7 a rfl with h | h
      · exact h
      · omega
    have e1' := h1.eq h
    refine WS_pure rfl rfl (v := .slice (some (ad a.block a.off)) j c) ?_ (kk _ ?_)
    · have g1 := ev_eq (E := by assumption) (h := h) (x := x) (s := s)
      have g2 := ev_eq (E := by assumption) (h := h) (x := y) (s := s)
      simp only [ipure, Option.map_none, Option.map_some, g1, g2]
      exact islice_hi hsp (by omega) h
    · simp only [Rep]
      refine ⟨_, j, c, rfl, by simp; omega, by omega, h6, fun d hd => ?_, ?_⟩
      · cases hd; exact .inl rfl
      · exact h8.take j⟩
/-! ### Bounds that lie in what is handed in -/
theorem TV_fact (i : Nat) {c : Code} {Q : IExit → TK} {t : Tr} [g : TGet σ i t] {p : Prop} (hp : ∀ F v, Rep F t v → p) (k : p → TV X P E c Q σ B) : TV X P E c Q σ B := by
  unfold TV at *
  intro F s h r
  exact k (hp F (s i) (by rw [← g.eq]; exact r.slot i)) F s h r
theorem rep_small {m : Nat} {rows : List (List Tr)} {v : Value} (h : Rep F (.sl m rows) v) : rows.length < 2 ^ 63 := by
  simp only [Rep] at h
  obtain ⟨a, n, c, _, h2, h3, h4, _⟩ := h
  omega
/-- a slice of nothing reads as no rows -/
class Cv (t t' : Tr) : Prop where eq : ∀ F v, Rep F t v → Rep F t' v
class CvL (ts ts' : List Tr) : Prop where eq : ∀ F vs, RepL F ts vs → RepL F ts' vs
instance (priority := 2000) Cv.refl {t : Tr} : Cv t t := ⟨fun _ _ h => h⟩
instance Cv.nil {m : Nat} : Cv (.v (.slice none 0 0)) (.sl m []) := ⟨fun F v h => by
  simp only [Rep] at h
  subst h
  rw [Rep]
  exact ⟨none, 0, 0, rfl, rfl, Nat.le_refl _, by decide, (fun d hd => by cases hd), rfl⟩⟩
instance (priority := 2000) CvL.nil : CvL [] [] := ⟨fun _ _ h => h⟩
instance CvL.cons {t t' : Tr} {ts ts' : List Tr} [a : Cv t t'] [b : CvL ts ts'] : CvL (t :: ts) (t' :: ts') := ⟨fun F vs h => by
  simp only [RepL] at h
  obtain ⟨v, ws, rfl, h1, h2⟩ := h
  exact RepL.cons (a.eq F v h1) (b.eq F ws h2)⟩
instance Cv.agg {ts ts' : List Tr} [a : CvL ts ts'] : Cv (.agg ts) (.agg ts') := ⟨fun F v h => by
  simp only [Rep] at *
  obtain ⟨vs, rfl, h1⟩ := h
  exact ⟨vs, rfl, a.eq F vs h1⟩⟩
theorem RetIs.conv {rs : List ResultVar} {ts ts' : List Tr} (r : RetIs P σ B rs ts) (c : CvL ts ts') : RetIs P σ B rs ts' := ⟨fun X F s h E q G o => by
  obtain ⟨vs, h1, h2⟩ := r.eq X F s h E q G o
  exact ⟨vs, h1, c.eq G vs h2⟩⟩
theorem retT_1c {a : ResultVar} {Φ : Tr → Prop} {e : IExit} {ts : List Tr} [r : RetIs P σ B [a] ts] (ts' : List Tr) [c : CvL ts ts'] (he : e = .normal ∨ e = .ret) (k : Φ (tret ts')) : retT P [a] Φ e σ B := retT_go (r := r.conv c) he k
theorem retT_2c {a b : ResultVar} {Φ : Tr → Prop} {e : IExit} {ts : List Tr} [r : RetIs P σ B [a, b] ts] (ts' : List Tr) [c : CvL ts ts'] (he : e = .normal ∨ e = .ret) (k : Φ (tret ts')) : retT P [a, b] Φ e σ B := retT_go (r := r.conv c) he k
theorem retT_3c {a b d : ResultVar} {Φ : Tr → Prop} {e : IExit} {ts : List Tr} [r : RetIs P σ B [a, b, d] ts] (ts' : List Tr) [c : CvL ts ts'] (he : e = .normal ∨ e = .ret) (k : Φ (tret ts')) : retT P [a, b, d] Φ e σ B := retT_go (r := r.conv c) he k
theorem retT_1 {a : ResultVar} {Φ : Tr → Prop} {e : IExit} {ts : List Tr} [r : RetIs P σ B [a] ts] (he : e = .normal ∨ e = .ret) (k : Φ (tret ts)) : retT P [a] Φ e σ B := retT_go he k
theorem retT_2 {a b : ResultVar} {Φ : Tr → Prop} {e : IExit} {ts : List Tr} [r : RetIs P σ B [a, b] ts] (he : e = .normal ∨ e = .ret) (k : Φ (tret ts)) : retT P [a, b] Φ e σ B := retT_go he k
theorem retT_3 {a b c : ResultVar} {Φ : Tr → Prop} {e : IExit} {ts : List Tr} [r : RetIs P σ B [a, b, c] ts] (he : e = .normal ∨ e = .ret) (k : Φ (tret ts)) : retT P [a, b, c] Φ e σ B := retT_go he k
end Go.Ideal

-- IdealTl
set_option linter.unusedSimpArgs false
set_option linter.unusedVariables false
namespace Go.Ideal
open Go Go.RowKit
variable {P : Program} {X : Cx} {E : Env} {σ : Nat → Tr} {B B' : Boxes} {ops : Array Oper} {K : TK} {l : List Oper} {d : Option Tmp} {ty : TypeId} {pos : String} {af : Array Edge} {H : List (Nat × Nat)} {F : Mem} {s : Nat → Value} {h : IHp} {held : Held}

/-! ### Loops over slices.Backward -/
/-- what is no cells may change -/
theorem TR.other {b : Nat} {o o' : IObj} (r : TR X F σ B s h) (a : AtIs h b o) (hn : ∀ c e x, o ≠ .cells c e x) (hb : X.h.fresh ≤ b) (hg : ∀ g ∈ X.G, g.1 / 2 ≠ b / 2) : TR X F σ B s (h.putObj b o') := by
  have hcell : ∀ b' off v, h.cell? b' off = some v → (h.putObj b o').cell? b' off = some v := by
    intro b' off v hc
    unfold IHp.cell? at *
    simp only [IHp.putObj]
    split
    · rename_i hbo; rw [if_pos hbo] at hc; exact hc
    · rename_i hbo
      rw [if_neg hbo] at hc
      have hne : b' / 2 ≠ b / 2 := by
        intro he
        rw [he, a.eq] at hc
        cases o with
        | cells c e x => exact hn _ _ _ rfl
        | _ => cases hc
      rw [List.getElem?_set_ne (fun h => hne h.symm)]; exact hc
  have hobj : ∀ b' vs t x, ObjIs h b' vs t x → ObjIs (h.putObj b o') b' vs t x := by
    intro b' vs t x oi
    have : NeB b' b := ⟨fun he => by
      have h1 := oi.eq
      rw [he, a.eq] at h1
      exact hn _ _ _ (Option.some.inj h1)⟩
    infer_instance
  refine ⟨r.ext.putObj hb, r.base, fun b' off v hf => hcell _ _ _ (r.sub _ _ _ hf), r.own, fun p hp => ?_, r.sep, r.dis, fun g hgm => ⟨⟨(r.gd g hgm).1.even, by
    simp only [IHp.putObj]
    rw [List.getElem?_set_ne (fun h => hg g hgm h.symm)]; exact (r.gd g hgm).1.eq⟩, (r.gd g hgm).2⟩, r.slot⟩
  have h1 := r.box p hp
  cases hx : p.2 with
  | cells cs t y => rw [hx] at h1; obtain ⟨vs, h2, h3⟩ := h1; exact ⟨vs, h2, hobj _ _ _ _ h3⟩
  | arr m rows t y =>
    rw [hx] at h1
    simp only [BoxRep] at h1 ⊢
    refine ⟨h1.1, ?_⟩
    rcases h1.2 with h2 | ⟨vs, h2, h3⟩
    · exact .inl h2
    · exact .inr ⟨vs, h2, hobj _ _ _ _ h3⟩
theorem TR.pushO {o : IObj} (r : TR X F σ B s h) : TR X F σ B s (h.push o) :=
  r.grow (Ext.push h o) (Sub.refl F) (fun b off v hf => cell_ext (Ext.push h o) (r.sub _ _ _ hf)) (fun b off v hf => .inl hf)
def FnPost (X : Cx) (Φ : Tr → Prop) : Value → IHp → Prop := fun v h' => Ext X.h h' ∧ ∃ F r, Sub X.F F ∧ Sub F h'.cell? ∧ (∀ b off v, F b off = some v → X.F b off = some v ∨ X.h.fresh ≤ b) ∧ Rep F r v ∧ Φ r
@[irreducible] def rangeT (X : Cx) (P : Program) (nt : Nat) (rs : List ResultVar) (f : Operand) (ps : Array Tmp) (ac bd t : Code) (Φ : Tr → Prop) : IExit → TK
  | .normal, σ, B => ∀ F s h, TR X F σ B s h → rangeK P nt rs f ps ac bd t (FnPost X Φ) .normal s h
  | e, σ, B => retT P rs Φ e σ B
theorem rangeT_ret {nt : Nat} {rs : List ResultVar} {f : Operand} {ps : Array Tmp} {ac bd t : Code} {Φ : Tr → Prop} (k : retT P rs Φ .ret σ B) : rangeT X P nt rs f ps ac bd t Φ .ret σ B := by unfold rangeT; exact k
/-- from the results' trees to what is asked of a function's end -/
theorem retK_of_retT {rs : List ResultVar} {Φ : Tr → Prop} {e : IExit} (r : TR X F σ B s h) (hk : retT P rs Φ e σ B) : retK P E rs (FnPost X Φ) e s h := by
  unfold retT at hk
  obtain ⟨he, ts, h3, h4⟩ := hk
  obtain ⟨ws, h5, h6⟩ := h3 _ F s h E r (thaw F B h) r.thawOk
  unfold retK
  refine ⟨he, ws, h5, r.ext, thaw F B h, tret ts, r.base.trans r.thawOk.sub, r.thawSub, fun b off v hf => ?_, ?_, h4⟩
  · rcases r.thawOwn b off v hf with h7 | h7
    · exact r.own b off v h7
    · exact .inr h7
  · have hl := h6.len
    match ts, ws, h6, hl with
    | [], [], _, _ => simp only [tret, iret, Rep]; exact ⟨[], rfl, RepL.nil⟩
    | [t], [v], h6, _ =>
      simp only [RepL] at h6
      obtain ⟨v', ws', h7, h8, _⟩ := h6
      simp only [List.cons.injEq] at h7
      obtain ⟨rfl, rfl⟩ := h7
      exact h8
    | t :: t2 :: ts, v :: v2 :: vs, h6, _ => simp only [tret, iret, Rep]; exact ⟨_, rfl, h6⟩
theorem TR.start {args : List Tr} {vs : List Value} {F0 : Mem} (h1 : Sub F0 h.cell?) (h2 : RepL F0 args vs) : TR ⟨h, F0, []⟩ F0 (argT args) [] (argS vs) h :=
  ⟨Ext.refl h, Sub.refl F0, h1, fun b off v hf => .inl hf, by simp, by simp, by simp, by simp, fun i => by
    by_cases hi : i < args.length
    · obtain ⟨v, h3, h4⟩ := h2.get (List.getElem?_eq_getElem hi)
      have h5 : argS vs i = v := by
        have hi2 := (List.getElem?_eq_some_iff.1 h3).1
        simp only [argS, Array.getD]
        rw [dif_pos (by simpa using hi2)]
        rw [List.getElem?_eq_getElem hi2] at h3
        simpa using Option.some.inj h3
      have h6 : argT args i = args[i] := by simp [argT, List.getD, hi]
      rw [h5, h6]; exact h4
    · have h5 : argS vs i = undef := by
        have := h2.len
        simp only [argS, Array.getD]
        rw [dif_neg (by simp; omega)]
      have h6 : argT args i = .v undef := by simp [argT, List.getD, hi]
      rw [h5, h6]; exact rep_v _⟩
theorem Fn_of_range {fid : FuncId} {fn : Func} {c a : Code} {id : Nat} {f : Operand} {ps : Array Tmp} {ac bd t : Code} {args : List Tr} {Φ : Tr → Prop} (hf : P.funcs[fid]? = some fn) (hb : fn.body = some c)
    (hs : splitR c = some (a, id, f, ps, ac, bd, t)) (hsz : args.length ≤ fn.ntmps)
    (hw : ∀ X, TV X P ⟨fn.ntmps, [], false⟩ a (rangeT X P fn.ntmps fn.results.toList f ps ac bd t Φ) (argT args) []) : Fn P fid args Φ := by
  unfold Fn
  intro F0 h vs h1 h2
  have hw := hw ⟨h, F0, []⟩
  unfold TV at hw
  refine EvX_of_range (Φ := FnPost ⟨h, F0, []⟩ Φ) hf hb hs (by rw [h2.len]; exact hsz) (V_mono ?_ (hw F0 _ h (TR.start h1 h2)))
  rintro e s' h' ⟨F', σ', B', r', hk⟩
  unfold rangeT at hk
  cases e with
  | normal => exact hk F' s' h' r'
  | exit j => simp only at hk; unfold retT at hk; obtain ⟨he, _⟩ := hk; rcases he with he | he <;> cases he
  | ret => unfold rangeK; exact retK_of_retT r' hk
/-- what slices.Backward's function does: from the last to the first -/
def BackSpec (P : Program) (G m : Nat) : Prop := ∀ (y bx off n cap : Nat) (sa : Option Addr) (cs : Nat → List Value) (I : Nat → IHp → Prop) (h : IHp), n < 2 ^ 62 →
    (∀ i h, i ≤ n → I i h → CellIs h bx off (.slice sa n cap)) → (∀ i h, i < n → I (i + 1) h → ∃ a, sa = some a ∧ RowIs h a.block (a.off + i * m) m (cs i)) →
    (∀ i h, i < n → I (i + 1) h → EvY P y [.int .i64 (i : Int), .agg (cs i).toArray].toArray h (fun v h' => v = .bool true ∧ I i h')) → I n h →
    EvX P G [.func (.yield y) #[] #[], .pointer (some (ad bx off))].toArray h (fun _ h' => I 0 h')
/-- a loop over slices.Backward of a slice that is read alone: the boxes change, the slots don't -/
theorem rangeT_back {nt G m : Nat} {rs : List ResultVar} {f : Operand} {p0 p1 : Tmp} {ac bd t : Code} {Φ : Tr → Prop} {rows : List (List Tr)} [cg : CallIs P G] (spec : BackSpec P G m) [e : TEval σ f (.fn G [] [.pf [.sl m rows]])] (J : Nat → Boxes → Prop) (hn : rows.length < 2 ^ 62)
    (first : J rows.length B)
    (round : ∀ X1 X2 i row B, rows[i]? = some row → J (i + 1) B → TV X1 P ⟨nt, [], true⟩ ac (fun e σ' B' => e = .normal ∧ TV X2 P ⟨nt, [], true⟩ bd (fun e σ' B' => e = .normal ∧ J i B') σ' B') (putT (putT σ (some p0) (.v (.int .i64 (i : Int)))) (some p1) (.agg row)) B)
    (last : ∀ B mk, J 0 B → ∀ X2, TV X2 P ⟨nt, [mk], false⟩ t (retT P rs Φ) σ B) : rangeT X P nt rs f #[p0, p1] ac bd t Φ .normal σ B := by
  unfold rangeT
  intro F s h r
  have hf := evalIs_self (s := s) (x := f) (h := h)
  have hf2 := e.eq F s r.slot h 0 [] false
  simp only [Rep, RepL] at hf2
  obtain ⟨va, vb, hf3, rfl, v1, _, rfl, ⟨bx, off, us, rfl, hrow, v2, _, rfl, ⟨sa, n, cap, rfl, hl, hc, _, _, hsa⟩, rfl⟩, rfl⟩ := hf2
  rw [hf3] at hf
  subst hl
  -- the rows' values
  have hcs : ∀ i, ∃ vs, ∀ row, rows[i]? = some row → RepL F row vs ∧ ∃ a, sa = some a ∧ rowM F a.block (a.off + i * m) m = some vs := by
    intro i
    cases hi : rows[i]? with
    | none => exact ⟨[], fun row hr => by cases hr⟩
    | some row =>
      cases sa with
      | none =>
        simp only at hsa
        have := (List.getElem?_eq_some_iff.1 hi).1
        omega
      | some a =>
        obtain ⟨vs, h1, h2⟩ := RepR.get hsa hi
        exact ⟨vs, fun row' hr => by cases hr; exact ⟨h2, a, rfl, h1⟩⟩
  obtain ⟨cs, hcs⟩ := Classical.axiomOfChoice hcs
  have hcell : F bx off = some (.slice sa rows.length cap) := by
    have := rowM_get hrow 0 (by simp)
    simpa using this
  obtain ⟨L, hL⟩ : ∃ L, L = IObj.loop nt s #[p0, p1] ac bd .ready none := ⟨_, rfl⟩
  obtain ⟨LB, hLB⟩ : ∃ L, L = IObj.loop nt s #[p0, p1] ac bd .busy none := ⟨_, rfl⟩
  have hLc : ∀ c e x, L ≠ .cells c e x := by intro c e x he; rw [hL] at he; cases he
  have hLBc : ∀ c e x, LB ≠ .cells c e x := by intro c e x he; rw [hLB] at he; cases he
  have hDc : ∀ c e x, IObj.defr ≠ .cells c e x := by intro c e x he; cases he
  have hlp : X.h.fresh ≤ h.fresh + 2 := Nat.le_trans r.ext.fresh (Nat.le_add_right _ _)
  have ndl : NeB h.fresh (h.fresh + 2) := ⟨by omega⟩
  have ndl' : NeB (h.fresh + 2) h.fresh := ⟨by omega⟩
  have hgl : ∀ g ∈ X.G, g.1 < h.fresh := fun g hg => (r.gd g hg).1.lt
  have hgne : ∀ g ∈ X.G, g.1 / 2 ≠ (h.fresh + 2) / 2 := fun g hg => by have := hgl g hg; unfold IHp.fresh at *; omega
  have hgnd : ∀ g ∈ X.G, g.1 / 2 ≠ h.fresh / 2 := fun g hg => by have := hgl g hg; unfold IHp.fresh at *; omega
  let I : Nat → IHp → Prop := fun i h' => ∃ F' B', TR X F' σ B' s h' ∧ Sub F F' ∧ J i B' ∧ AtIs h' h.fresh .defr ∧ AtIs h' (h.fresh + 2) L
  refine rangeK_go (g := G) (a := #[]) (c := #[.pointer (some (ad bx off))]) (Ψ := fun _ h3 => I 0 h3) ?_ ?_
  · have hA : ((#[] : Array Value) ++ #[.func (.yield (h.fresh + 2)) #[] #[]]) ++ #[.pointer (some (ad bx off))] = [.func (.yield (h.fresh + 2)) #[] #[], .pointer (some (ad bx off))].toArray := rfl
    rw [hA]
    refine spec (h.fresh + 2) bx off rows.length cap sa cs I _ hn ?_ ?_ ?_ ?_
    · rintro i h' _ ⟨F', B', r', hs, _, _, _⟩
      exact ⟨r'.sub _ _ _ (hs _ _ _ hcell)⟩
    · rintro i h' hi ⟨F', B', r', hs, _, _, _⟩
      obtain ⟨_, a, h2, h3⟩ := hcs i rows[i] (List.getElem?_eq_getElem hi)
      exact ⟨a, h2, r'.rowF (rowM_sub hs h3)⟩
    · rintro i h' hi ⟨F', B', r', hs, hJ, hD, hLo⟩
      obtain ⟨hrep, _⟩ := hcs i rows[i] (List.getElem?_eq_getElem hi)
      rw [hL] at hLo
      have hslots : putAll s ([p0, p1].zip [.int .i64 (i : Int), .agg (cs i).toArray]) = putS (putS s (some p0) (.int .i64 (i : Int))) (some p1) (.agg (cs i).toArray) := rfl
      refine EvY_of hLo rfl ?_
      show V P ⟨nt, [], true⟩ ac _ (putAll s ([p0, p1].zip [.int .i64 (i : Int), .agg (cs i).toArray])) h'
      rw [hslots]
      have r1 := (r'.put (d := some p0) (rep_v (.int .i64 (i : Int)))).put (d := some p1) (t := .agg rows[i]) (v := .agg (cs i).toArray) (by simp only [Rep]; exact ⟨_, rfl, hrep.sub hs⟩)
      have hround := round ⟨X.h, F, (h.fresh, .defr) :: (h.fresh + 2, L) :: X.G⟩ ⟨X.h, F, (h.fresh, .defr) :: (h.fresh + 2, LB) :: X.G⟩ i rows[i] B' (List.getElem?_eq_getElem hi) hJ
      unfold TV at hround
      have own1 : ∀ {F'' : Mem}, (∀ b off v, F'' b off = some v → X.F b off = some v ∨ X.h.fresh ≤ b) → ∀ b off v, F'' b off = some v → F b off = some v ∨ X.h.fresh ≤ b := fun ho b off v hf => by
        rcases ho b off v hf with h1 | h1
        · exact .inl (r.base _ _ _ h1)
        · exact .inr h1
      have own2 : ∀ {F'' : Mem}, (∀ b off v, F'' b off = some v → F b off = some v ∨ X.h.fresh ≤ b) → ∀ b off v, F'' b off = some v → X.F b off = some v ∨ X.h.fresh ≤ b := fun ho b off v hf => by
        rcases ho b off v hf with h1 | h1
        · exact r.own _ _ _ h1
        · exact .inr h1
      rw [← hL] at hLo
      have r2 : TR ⟨X.h, F, (h.fresh, .defr) :: (h.fresh + 2, L) :: X.G⟩ F' (putT (putT σ (some p0) (.v (.int .i64 (i : Int)))) (some p1) (.agg rows[i])) B' (putS (putS s (some p0) (.int .i64 (i : Int))) (some p1) (.agg (cs i).toArray)) h' :=
        ⟨r1.ext, hs, r1.sub, own1 r1.own, r1.box, r1.sep, r1.dis, fun g hg => by
          rcases List.mem_cons.1 hg with rfl | hg
          · exact ⟨hD, hDc⟩
          · rcases List.mem_cons.1 hg with rfl | hg
            · exact ⟨hLo, hLc⟩
            · exact r1.gd g hg, r1.slot⟩
      refine V_mono ?_ (hround F' _ h' r2)
      rintro e s2 h2 ⟨F2, σ2, B2, t2, rfl, hbd⟩
      have a2 := (t2.gd (h.fresh + 2, L) (by simp)).1
      have d2 := (t2.gd (h.fresh, .defr) (by simp)).1
      rw [hL] at a2
      refine roundK_go (i := a2) ?_
      rw [← hLB]
      rw [← hL] at a2
      have t3 : TR ⟨X.h, F, (h.fresh, .defr) :: (h.fresh + 2, LB) :: X.G⟩ F2 σ2 B2 s2 (h2.putObj (h.fresh + 2) LB) := by
        have u : TR ⟨X.h, F, X.G⟩ F2 σ2 B2 s2 h2 := ⟨t2.ext, t2.base, t2.sub, t2.own, t2.box, t2.sep, t2.dis, fun g hg => t2.gd g (List.mem_cons_of_mem _ (List.mem_cons_of_mem _ hg)), t2.slot⟩
        have u2 := u.other (o' := LB) a2 hLc hlp hgne
        refine ⟨u2.ext, u2.base, u2.sub, u2.own, u2.box, u2.sep, u2.dis, fun g hg => ?_, u2.slot⟩
        rcases List.mem_cons.1 hg with rfl | hg
        · exact ⟨inferInstance, hDc⟩
        · rcases List.mem_cons.1 hg with rfl | hg
          · exact ⟨a2.put, hLBc⟩
          · exact u2.gd g hg
      refine V_mono ?_ (hbd F2 s2 _ t3)
      rintro e s4 h4 ⟨F4, σ4, B4, t4, rfl, hJ4⟩
      have a4 := (t4.gd (h.fresh + 2, LB) (by simp)).1
      have d4 := (t4.gd (h.fresh, .defr) (by simp)).1
      rw [hLB] at a4
      refine roundK2_go (i := a4) ⟨rfl, ?_⟩
      rw [← hL]
      rw [← hLB] at a4
      have u4 : TR ⟨X.h, F, X.G⟩ F4 σ4 B4 s4 h4 := ⟨t4.ext, t4.base, t4.sub, t4.own, t4.box, t4.sep, t4.dis, fun g hg => t4.gd g (List.mem_cons_of_mem _ (List.mem_cons_of_mem _ hg)), t4.slot⟩
      have u5 := u4.other (o' := L) a4 hLBc hlp hgne
      exact ⟨F4, B4, ⟨u5.ext, r.base.trans u5.base, u5.sub, own2 u5.own, u5.box, u5.sep, u5.dis, u5.gd, fun j => (r.slot j).sub u5.base⟩, u5.base, hJ4, inferInstance, a4.put⟩
    · exact ⟨F, B, r.pushO.pushO, Sub.refl F, first, inferInstance, by
        have hf2 : (h.push .defr).fresh = h.fresh + 2 := push_fresh _ _
        rw [hL, ← hf2]; infer_instance⟩
  · rintro v h3 ⟨F', B', r', hs, hJ, hD, hLo⟩
    rw [hL] at hLo
    refine ⟨_, _, _, _, _, hLo, rfl, ?_⟩
    rw [← hL] at hLo
    obtain ⟨LE, hLE⟩ : ∃ L, L = IObj.loop nt s #[p0, p1] ac bd .exhausted none := ⟨_, rfl⟩
    rw [← hLE]
    have r2 := r'.other (o' := LE) hLo hLc hlp hgne
    have hl := last B' (h.fresh / 2) hJ ⟨X.h, X.F, (h.fresh, .defr) :: X.G⟩
    unfold TV at hl
    have r3 : TR ⟨X.h, X.F, (h.fresh, .defr) :: X.G⟩ F' σ B' s (h3.putObj (h.fresh + 2) LE) := ⟨r2.ext, r2.base, r2.sub, r2.own, r2.box, r2.sep, r2.dis, fun g hg => by
      rcases List.mem_cons.1 hg with rfl | hg
      · exact ⟨inferInstance, hDc⟩
      · exact r2.gd g hg, r2.slot⟩
    refine V_mono ?_ (hl F' s _ r3)
    rintro e s5 h5 ⟨F5, σ5, B5, t5, hk⟩
    have d5 := (t5.gd (h.fresh, .defr) (by simp)).1
    refine tailK_go (i := d5) ?_
    have u5 : TR X F5 σ5 B5 s5 h5 := ⟨t5.ext, t5.base, t5.sub, t5.own, t5.box, t5.sep, t5.dis, fun g hg => t5.gd g (List.mem_cons_of_mem _ hg), t5.slot⟩
    exact retK_of_retT (u5.other (o' := .dead) d5 hDc r.ext.fresh hgnd) hk
end Go.Ideal

-- IdealTm
set_option linter.unusedSimpArgs false
set_option linter.unusedVariables false
namespace Go.Ideal
open Go Go.RowKit
variable {P : Program} {X : Cx} {E : Env} {σ : Nat → Tr} {B B' : Boxes} {ops : Array Oper} {K : TK} {l : List Oper} {d : Option Tmp} {ty : TypeId} {pos : String} {af : Array Edge} {H : List (Nat × Nat)} {F : Mem} {s : Nat → Value} {h : IHp} {held : Held}

/-! ### Room: cap, parts of own slices, append of a made slice, append that stays -/
instance Pu.cap_nil {x : Operand} {t te : TypeId} [e : TEval σ x (.v (.slice none 0 0))] [u : UnderIs P t (.slice te)] : Pu P σ B (.call ⟨.builtin .cap, #[x], #[t]⟩) (.v (.int .i64 0)) := ⟨fun {X F s h} q {E' _ _ _ _ _ _ _} kk => by
  have := e.is q.slot
  refine WS_pure rfl rfl ?_ (kk _ (rep_v _))
  have h1 := ev_eq (E := E') (h := h) (x := x) (s := s)
  simp [ipure, u.eq, h1]⟩
theorem Pu.slice_own {x y : Operand} {t e m j b len cap : Nat} {k : IntKind} {i : Int} [e1 : TEval σ x (.v (.slice (some (ad b 0)) len cap))] [e2 : TEval σ y (.v (.int k i))] [a : AsNat i j] [u : UnderIs P t (.slice e)] [z : SizeIs P e m] (hj : j ≤ cap) : Pu P σ B (.slice t x none (some y) none) (.v (.slice (some (ad b 0)) j cap)) := ⟨fun {X F s h} q {E' _ _ _ _ _ _ _} kk => by
  have h1 := e1.is q.slot
  have h9 := e2.is q.slot
  rw [a.eq] at h9
  have g1 := ev_eq (E := E') (h := h) (x := x) (s := s)
  have g2 := ev_eq (E := E') (h := h) (x := y) (s := s)
  refine WS_pure rfl rfl ?_ (kk _ (rep_v _))
  simp only [ipure, Option.map_none, Option.map_some, g1, g2]
  exact islice_hi rfl hj h⟩
theorem Pu.slice_nil {x y : Operand} {t e m : Nat} {k : IntKind} [e1 : TEval σ x (.v (.slice none 0 0))] [e2 : TEval σ y (.v (.int k 0))] [u : UnderIs P t (.slice e)] [z : SizeIs P e m] : Pu P σ B (.slice t x none (some y) none) (.v (.slice none 0 0)) := ⟨fun {X F s h} q {E' _ _ _ _ _ _ _} kk => by
  have h1 := e1.is q.slot
  have h9 := e2.is q.slot
  have g1 := ev_eq (E := E') (h := h) (x := x) (s := s)
  have g2 := ev_eq (E := E') (h := h) (x := y) (s := s)
  refine WS_pure rfl rfl ?_ (kk _ (rep_v _))
  simp only [ipure, Option.map_none, Option.map_some, g1, g2]
  simp [islice, u.eq, z.eq, spotted, ibounds, ibound]⟩
theorem TS_append_make {x y : Operand} {t t1 e by_ m : Nat} {k1 : IntKind} {n : Int} {j : Nat} {z : Value} {wz : List Value} {wt : List Tr} [e1 : TEval σ x (.v (.slice none 0 0))] [e2 : TEval σ y (.v (.int .i64 n))] [a : AsNat n j] [u : UnderIs P t (.slice e)] [u1 : UnderIs P t1 (.int k1)] [bi : BytesIs P e m by_] [zi : ZeroIs P e z] [cz : CellsOf z wz] [lz : LenT wz m] [vt : ValsT wz wt] (hj : j ≠ 0) (h1 : j * by_ ≤ 2 ^ 40)
    (k : ∀ b, TS X P E ops K l H (putT σ d (.v (.slice (some (ad b 0)) j j))) ((b, .arr m (List.replicate j wt) e false) :: B)) : TS X P E ops K (⟨d, .call ⟨.builtin .append, #[x, y], #[t, t1]⟩, ty, pos, af, none⟩ :: l) H σ B := by
  unfold TS at *
  intro F s h held r hh
  obtain ⟨ei, z', i1, i2, i3, i4, i5, i6, i7⟩ := bi.eq
  have e1' := e1.is r.slot
  have e2' := e2.is r.slot
  rw [a.eq] at e2'
  have hz : z.cells = wz.toArray := cz.eq
  have hrow : isRowV z = true := by unfold isRowV; rw [hz]; exact cz.ok
  have hlz := lz.eq
  have hs : z.cells.size = m := by rw [hz]; simpa using hlz
  have hne : wz ≠ [] := by intro h0; subst h0; simp at hlz; omega
  have hiz : izeros z.cells (j * m) = (List.replicate j wz).flatten := by rw [hz, ← hlz]; exact izeros_rows wz hne j
  refine WS_heap rfl (v := .slice (some (ad h.fresh 0)) j j) (h' := h.push (.cells (List.replicate j wz).flatten e false)) ?_ (k h.fresh F _ _ held ((r.push (x' := .arr m (List.replicate j wt) e false) ?_).put (rep_v _)) ?_)
  · have e1'' := ev_eq (E := E) (h := h) (x := x) (s := s)
    have e2'' := ev_eq (E := E) (h := h) (x := y) (s := s)
    show (if (#[x, y].size = 2) then iappend P h #[t, t1] (#[x, y].map (E.st s h).eval) else none) = _
    rw [if_pos (show #[x, y].size = 2 from rfl)]
    simp only [List.map_toArray, List.map_cons, List.map_nil, e1'', e2'', iappend, List.getElem?_toArray, List.getElem?_cons_zero, List.getElem?_cons_succ, u.eq, u1.eq, Int.toNat_natCast]
    rw [if_pos (by omega)]
    simp only [iappmake, i1, Option.bind_some, zi.eq, hs, i3, hrow]
    rw [if_neg (by simp; omega), if_pos ⟨by first | rfl | trivial, by first | rfl | trivial, by first | rfl | trivial, hj, by rw [i4]; omega, by rw [i4]; exact h1⟩, hiz]
  · simp only [BoxRep]
    refine ⟨fun row hr => ?_, .inr ⟨_, ?_, inferInstance⟩⟩
    · rw [(List.mem_replicate.1 hr).2, ← vt.eq]; simpa using hlz
    · rw [← vt.eq]
      clear h1 hj hiz e1' e2' k a e1 e2
      induction j with
      | zero => simpa using RepL.nil
      | succ j ih => simp only [List.replicate_succ, List.flatten_cons]; exact (repL_vals wz).append ih
  · exact hh.keys (fun b off v hc => cell_ext (Ext.push h _) hc) (Sub.refl F) (fun b hb => by rw [List.map_cons]; exact List.mem_cons_of_mem _ hb)
theorem setAllT_mid {α : Type} : ∀ (ws a b c : List α), b.length = ws.length → setAllT (a ++ (b ++ c)) a.length ws = a ++ (ws ++ c) := by
  intro ws
  induction ws with
  | nil => intro a b c h; have := List.eq_nil_of_length_eq_zero h; subst this; rfl
  | cons w ws ih =>
    intro a b c h
    cases b with
    | nil => simp at h
    | cons b0 b =>
      have h1 : (a ++ (b0 :: b ++ c)).set a.length w = (a ++ [w]) ++ (b ++ c) := by simp
      have h2 := ih (a ++ [w]) b c (by simpa using h)
      simp only [setAllT, h1]
      rw [show a.length + 1 = (a ++ [w]).length by simp, h2]
      simp
/-- append within the room that is there -/
theorem TS_append_in {x y : Operand} {t e by_ m b n cp n2 : Nat} {y' : Tr} {rows rows2 : List (List Tr)} {bx : Bool} [e1 : TEval σ x (.v (.slice (some (ad b 0)) n cp))] [e2 : TEval σ y y'] [u : UnderIs P t (.slice e)] [bi : BytesIs P e m by_] [bb : BoxIs B b (.arr m rows e bx)] [rx : RealX rows bx] [ln : LenT rows cp] [sr : SrcT B y' m rows2] [ln2 : LenO rows2 n2] [ap : Apart B b H] [bp : BoxPut B b b (.arr m (rows.take n ++ (rows2 ++ rows.drop (n + n2))) e bx) B'] (hc : n + n2 ≤ cp) (hr : (n + n2) * by_ ≤ 2 ^ 47 + 2 ^ 20)
    (k : TS X P E ops K l H (putT σ d (.v (.slice (some (ad b 0)) (n + n2) cp))) B') : TS X P E ops K (⟨d, .call ⟨.builtin .append, #[x, y], #[t, t]⟩, ty, pos, af, none⟩ :: l) H σ B := by
  unfold TS at *
  intro F s h held r hh
  have e1' := e1.is r.slot
  have e2' := evalIs_self (s := s) (x := y) (h := h)
  obtain ⟨a, n2', c, us, h1, h2, h3, h4, h5⟩ := sr.eq X F σ s h r _ (e2.eq F s r.slot h 0 [] false)
  rw [h1] at e2'
  rw [ln2.eq] at h2
  have h2 := h2.symm
  subst h2
  have hb := r.boxOf bb
  have hl := ln.eq
  have hl2 := ln2.eq
  obtain ⟨vs, g1, g2⟩ := rx.even hb
  simp only [BoxRep] at hb
  have hvl : vs.length = cp * m := by rw [g1.len, flat_len hb.1, hl]
  obtain ⟨ei, z', i1, i2, i3, i4, i5, i6, i7⟩ := bi.eq
  have hul : us.length = n2 * m := by rw [h4.len, flat_len h5, hl2]
  have hin : n * m + us.length ≤ vs.length := by
    rw [hul, hvl, ← Nat.add_mul]; exact Nat.mul_le_mul_right m hc
  have hset := setRow_obj us g2 (n * m) hin
  have hsplit : rows.flatten = (rows.take n).flatten ++ (((rows.drop n).take n2).flatten ++ (rows.drop (n + n2)).flatten) := by
    rw [← List.flatten_append, ← List.flatten_append]
    congr 1
    conv => lhs; rw [← List.take_append_drop n rows, ← List.take_append_drop n2 (rows.drop n), List.drop_drop]
  have hA : ∀ row ∈ rows.take n, row.length = m := fun row hr => hb.1 row (List.mem_of_mem_take hr)
  have hM : ∀ row ∈ (rows.drop n).take n2, row.length = m := fun row hr => hb.1 row (List.mem_of_mem_drop (List.mem_of_mem_take hr))
  have hfl : setAllT rows.flatten (n * m) rows2.flatten = (rows.take n ++ (rows2 ++ rows.drop (n + n2))).flatten := by
    have e3 : (rows.take n).flatten.length = n * m := by rw [flat_len hA, List.length_take, Nat.min_eq_left (by omega)]
    have e4 : ((rows.drop n).take n2).flatten.length = rows2.flatten.length := by
      rw [flat_len hM, flat_len h5, List.length_take, List.length_drop, hl2, Nat.min_eq_left (by omega)]
    rw [hsplit, ← e3, setAllT_mid _ _ _ _ e4, List.flatten_append, List.flatten_append]
  have hrep : BoxRep F (h.put b (setAll vs (n * m) us) e bx) b (.arr m (rows.take n ++ (rows2 ++ rows.drop (n + n2))) e bx) := by
    simp only [BoxRep]
    refine ⟨all_app hA (all_app h5 fun row hr => hb.1 row (List.mem_of_mem_drop hr)), .inr ⟨_, ?_, g2.put⟩⟩
    rw [← hfl]
    exact RepL.setAll h4 g1
  have r' : TR X F σ B' s (h.put b (setAll vs (n * m) us) e bx) := by
    obtain ⟨pre, old, post, p1, p2⟩ := bp.eq
    rw [p2]
    rw [p1] at r
    exact r.modify rfl (put_keep g2.even) (.inl rfl) hrep
  refine WS_heap rfl (heap_append e1' e2' ?_) (k F _ _ held (r'.put (rep_v _)) (hh.modify bp r r' ap rfl (put_keep g2.even)))
  have hroom : roomOk ((n + n2) * by_) = true := by simp [roomOk]; omega
  simp only [iappend, List.getElem?_toArray, List.getElem?_cons_zero, List.getElem?_cons_succ, u.eq, i1, i2, i3, i4, h3, Option.bind_some, i5, i6, i7]
  simp [spotted, hroom, hc, hset, i5, i6, i7]

/-! ### Functions that answer own memory -/
@[irreducible] def FnO (P : Program) (f : FuncId) (args : List Tr) (Φ : Tr → Boxes → Prop) : Prop := ∀ (F0 : Mem) (h : IHp) (vs : List Value), Sub F0 h.cell? → RepL F0 args vs → EvX P f vs.toArray h (fun v h' => ∃ F r B, TR ⟨h, F0, []⟩ F (fun _ => r) B (fun _ => v) h' ∧ (∀ p ∈ B, p.1 % 2 = 0) ∧ Φ r B)
theorem TR.join {F1 : Mem} {h' : IHp} {r1 : Tr} {B1 : Boxes} {v : Value} (r : TR X F σ B s h) (q : TR ⟨h, F, []⟩ F1 (fun _ => r1) B1 (fun _ => v) h') (ev : ∀ p ∈ B1, p.1 % 2 = 0) : TR X F1 (putT σ d r1) (B1 ++ B) (putS s d v) h' := by
  have g := (r.grow q.ext q.base q.sub q.own).put (d := d) (q.slot 0)
  refine ⟨g.ext, g.base, g.sub, g.own, fun p hp => ?_, fun p hp he => ?_, ?_, g.gd, g.slot⟩
  · rcases List.mem_append.1 hp with h1 | h1
    · exact q.box p h1
    · exact g.box p h1
  · rcases List.mem_append.1 hp with h1 | h1
    · have := q.sep p h1 he
      exact ⟨Nat.le_trans r.ext.fresh this.1, this.2⟩
    · exact g.sep p h1 he
  · rw [List.map_append, List.nodup_append]
    refine ⟨q.dis, r.dis, ?_⟩
    intro a ha b hb hab
    subst hab
    obtain ⟨p, hp, rfl⟩ := List.mem_map.1 ha
    obtain ⟨p2, hp2, he⟩ := List.mem_map.1 hb
    have h1 := ev p hp
    have h2 := (q.sep p hp h1).1
    have h3 := (r.box p2 hp2).lt (by rw [he]; exact h1)
    simp only at h2
    omega
theorem TS_callO {f : FuncId} {ps : List Operand} {ts : List Tr} {at_ : Array TypeId} {Φ : Tr → Boxes → Prop} [c : CallIs P f] [e : TEvals σ ps ts] (hc : FnO P f ts Φ) (k : ∀ r B1, Φ r B1 → TS X P E ops K l H (putT σ d r) (B1 ++ B)) :
    TS X P E ops K (⟨d, .call ⟨.value (.func f), ps.toArray, at_⟩, ty, pos, af, none⟩ :: l) H σ B := by
  unfold TS at *
  unfold FnO at hc
  intro F s h held r hh
  have he : EvalsIs s ps (ps.map (St.eval ⟨s, h, 0, [], false⟩)) := ⟨fun h' nt mk rd => by
    apply List.map_congr_left
    intro x _
    exact (evalIs_self (s := s) (x := x) (h := h)).eq h' nt mk rd⟩
  refine WS_call (hc F h _ r.sub (e.eq F s r.slot h 0 [] false)) ?_
  rintro v h' ⟨F1, r1, B1, q, ev, a5⟩
  exact k r1 B1 a5 F1 _ h' held (r.join q ev) (hh.keys (fun b off v hc => cell_ext q.ext hc) q.base (fun b hb => by rw [List.map_append]; exact List.mem_append_right _ hb))
/-- results as they are, own memory and all -/
def RetTO (P : Program) (σ : Nat → Tr) (B : Boxes) (rs : List ResultVar) (ts : List Tr) : Prop := ∀ X F s h E, TR X F σ B s h → ∃ vs, iresults P (Env.st E s h) rs = some vs ∧ RepL F ts vs
class RetIsO (P : Program) (σ : Nat → Tr) (B : Boxes) (rs : List ResultVar) (ts : outParam (List Tr)) : Prop where eq : RetTO P σ B rs ts
instance RetIsO.nil : RetIsO P σ B [] [] := ⟨fun X F s h E r => ⟨[], rfl, RepL.nil⟩⟩
instance RetIsO.tmp {i : Nat} {t : Tr} {rs : List ResultVar} {ts : List Tr} [g : TGet σ i t] [k : RetIsO P σ B rs ts] : RetIsO P σ B (.tmp i :: rs) (t :: ts) := ⟨fun X F s h E r => by
  obtain ⟨vs, h1, h2⟩ := k.eq X F s h E r
  refine ⟨s i :: vs, by simp only [Env.st] at h1 ⊢; simp only [iresults, h1, Option.map_some], RepL.cons ?_ h2⟩
  rw [← g.eq]; exact r.slot i⟩
instance RetIsO.cell_agg {i ct b off n bt : Nat} {bx : Bool} {cs r1 r2 : List Tr} {rs : List ResultVar} {ts : List Tr} [g : TGet σ i (.v (.pointer (some (ad b off))))] [a : AggIs P ct true] [z : SizeIs P ct n] [bi : BoxIs B b (.cells cs bt bx)] [dr : DropT cs off r1] [tk : TakeT r1 n r2] [k : RetIsO P σ B rs ts] : RetIsO P σ B (.cell i ct :: rs) (.agg r2 :: ts) := ⟨fun X F s h E r => by
  obtain ⟨vs, h1, h2⟩ := k.eq X F s h E r
  have h3 := (g.is r).eq
  obtain ⟨us, h4, h5⟩ := r.boxOf bi
  obtain ⟨ws, h6, h7⟩ := h4.row h5 dr tk
  refine ⟨.agg ws.toArray :: vs, ?_, RepL.cons ?_ h2⟩
  · simp only [Env.st] at h1 ⊢; simp only [iresults, h1, Option.map_some, h3, iload, a.eq, Option.bind_some, z.eq, h6.eq]
  · simp only [Rep]; exact ⟨ws, rfl, h7⟩⟩
instance RetIsO.cell {i ct b off bt : Nat} {bx : Bool} {cs : List Tr} {t : Tr} {rs : List ResultVar} {ts : List Tr} [g : TGet σ i (.v (.pointer (some (ad b off))))] [a : AggIs P ct false] [bi : BoxIs B b (.cells cs bt bx)] [ng : NthG cs off t] [k : RetIsO P σ B rs ts] : RetIsO P σ B (.cell i ct :: rs) (t :: ts) := ⟨fun X F s h E r => by
  obtain ⟨vs, h1, h2⟩ := k.eq X F s h E r
  have h3 := (g.is r).eq
  obtain ⟨us, h4, h5⟩ := r.boxOf bi
  obtain ⟨v, h6, h7⟩ := h4.get ng.eq
  refine ⟨v :: vs, ?_, RepL.cons h7 h2⟩
  simp only [Env.st] at h1 ⊢
  simp only [iresults, h1, Option.map_some, h3, iload, a.eq, Option.bind_some, h5.cell, h6]⟩
/-- no ghost -/
def BoxReal : Box → Prop
  | .cells _ _ _ => True
  | .arr _ rows _ x => rows = [] → x = true
theorem BoxRep.real {b : Nat} {x : Box} (r : BoxRep F h b x) (hr : BoxReal x) : b % 2 = 0 := by
  cases x with
  | cells cs t y => obtain ⟨vs, _, o⟩ := r; exact o.even
  | arr m rows t y =>
    simp only [BoxRep] at r
    rcases r.2 with ⟨h1, h2, _⟩ | ⟨vs, _, o⟩
    · have := hr h1; rw [h2] at this; cases this
    · exact o.even
@[irreducible] def retTO (P : Program) (rs : List ResultVar) (Φ : Tr → Boxes → Prop) : IExit → TK := fun e σ B => (e = .normal ∨ e = .ret) ∧ ∃ ts B', RetTO P σ B rs ts ∧ SubP B B' ∧ (∀ p ∈ B', BoxReal p.2) ∧ Φ (tret ts) B'
theorem retO_go {rs : List ResultVar} {Φ : Tr → Boxes → Prop} {e : IExit} {ts : List Tr} (B' : Boxes) [r : RetIsO P σ B rs ts] [sp : SubP B B'] (he : e = .normal ∨ e = .ret) (hb : ∀ p ∈ B', BoxReal p.2) (k : Φ (tret ts) B') : retTO P rs Φ e σ B := by unfold retTO; exact ⟨he, ts, B', r.eq, sp, hb, k⟩
theorem retO_1 {a : ResultVar} {Φ : Tr → Boxes → Prop} {e : IExit} {ts : List Tr} (B' : Boxes) [r : RetIsO P σ B [a] ts] [sp : SubP B B'] (he : e = .normal ∨ e = .ret) (hb : ∀ p ∈ B', BoxReal p.2) (k : Φ (tret ts) B') : retTO P [a] Φ e σ B := retO_go B' he hb k
theorem FnO_of {f : FuncId} {fn : Func} {c : Code} {args : List Tr} {Φ : Tr → Boxes → Prop} (hf : P.funcs[f]? = some fn) (hb : fn.body = some c) (hsz : args.length ≤ fn.ntmps)
    (hw : ∀ X, TV X P ⟨fn.ntmps, [], false⟩ c (retTO P fn.results.toList Φ) (argT args) []) : FnO P f args Φ := by
  unfold FnO
  intro F0 h vs h1 h2
  have hr : TR ⟨h, F0, []⟩ F0 (argT args) [] (argS vs) h := ⟨Ext.refl h, Sub.refl F0, h1, fun b off v hf => .inl hf, by simp, by simp, by simp, by simp, fun i => by
    by_cases hi : i < args.length
    · obtain ⟨v, h3, h4⟩ := h2.get (List.getElem?_eq_getElem hi)
      have h5 : argS vs i = v := by
        have hi2 := (List.getElem?_eq_some_iff.1 h3).1
        simp only [argS, Array.getD]
        rw [dif_pos (by simpa using hi2)]
        rw [List.getElem?_eq_getElem hi2] at h3
        simpa using Option.some.inj h3
      have h6 : argT args i = args[i] := by simp [argT, List.getD, hi]
      rw [h5, h6]; exact h4
    · have h5 : argS vs i = undef := by
        have := h2.len
        simp only [argS, Array.getD]
        rw [dif_neg (by simp; omega)]
      have h6 : argT args i = .v undef := by simp [argT, List.getD, hi]
      rw [h5, h6]; exact rep_v _⟩
  have hw := hw ⟨h, F0, []⟩
  unfold TV at hw
  refine EvX_of hf hb (by rw [h2.len]; exact hsz) (V_mono ?_ (hw F0 _ h hr))
  rintro e s' h' ⟨F', σ', B', r', hk⟩
  unfold retTO at hk
  obtain ⟨he, ts, B2, h3, sp, hbr, h4⟩ := hk
  obtain ⟨ws, h5, h6⟩ := h3 _ F' s' h' ⟨fn.ntmps, [], false⟩ r'
  have r2 := r'.keep sp
  unfold retK
  refine ⟨he, ws, h5, F', tret ts, B2, ⟨r2.ext, r2.base, r2.sub, r2.own, r2.box, r2.sep, r2.dis, by simp, fun _ => ?_⟩, fun p hp => (r2.box p hp).real (hbr p hp), h4⟩
  have hl := h6.len
  match ts, ws, h6, hl with
  | [], [], _, _ => simp only [tret, iret, Rep]; exact ⟨[], rfl, RepL.nil⟩
  | [t], [v], h6, _ =>
    simp only [RepL] at h6
    obtain ⟨v', ws', h7, h8, _⟩ := h6
    simp only [List.cons.injEq] at h7
    obtain ⟨rfl, rfl⟩ := h7
    exact h8
  | t :: t2 :: ts, v :: v2 :: vs, h6, _ => simp only [tret, iret, Rep]; exact ⟨_, rfl, h6⟩
end Go.Ideal

-- IdealTn
set_option linter.unusedSimpArgs false
set_option linter.unusedVariables false
namespace Go.Ideal
open Go Go.RowKit
variable {P : Program} {X : Cx} {E : Env} {σ : Nat → Tr} {B B' : Boxes} {ops : Array Oper} {K : TK} {l : List Oper} {d : Option Tmp} {ty : TypeId} {pos : String} {af : Array Edge} {H : List (Nat × Nat)} {F : Mem} {s : Nat → Value} {h : IHp} {held : Held}

/-! ### Parts of own slices from a place on -/
theorem SrcT.mark {m c : Nat} {a : Addr} : SrcT B (.v (.slice (some a) 0 c)) m [] := ⟨fun X F σ s h r v hv => by
  simp only [Rep] at hv
  subst hv
  exact ⟨some a, 0, c, [], rfl, rfl, by simp [IHp.rowAt, IHp.row], by simpa using RepL.nil, by simp⟩⟩
theorem SrcT.part {m b j n c bt : Nat} {bx : Bool} {rows : List (List Tr)} [bi : BoxIs B b (.arr m rows bt bx)] [rx : RealX rows bx] (hn : j + n ≤ rows.length) : SrcT B (.v (.slice (some (ad b (j * m))) n c)) m ((rows.drop j).take n) := ⟨fun X F σ s h r v hv => by
  simp only [Rep] at hv
  subst hv
  have hb := r.boxOf bi
  obtain ⟨vs, g1, g2⟩ := rx.even hb
  simp only [BoxRep] at hb
  have hA : ∀ row ∈ rows.take j, row.length = m := fun row hr => hb.1 row (List.mem_of_mem_take hr)
  have hM : ∀ row ∈ (rows.drop j).take n, row.length = m := fun row hr => hb.1 row (List.mem_of_mem_drop (List.mem_of_mem_take hr))
  have hvl : vs.length = rows.length * m := by rw [g1.len, flat_len hb.1]
  have hle : j * m + n * m ≤ vs.length := by rw [hvl, ← Nat.add_mul]; exact Nat.mul_le_mul_right m hn
  have hsplit : rows.flatten = (rows.take j).flatten ++ (((rows.drop j).take n).flatten ++ (rows.drop (j + n)).flatten) := by
    rw [← List.flatten_append, ← List.flatten_append]
    congr 1
    conv => lhs; rw [← List.take_append_drop j rows, ← List.take_append_drop n (rows.drop j), List.drop_drop]
  have e3 : (rows.take j).flatten.length = j * m := by rw [flat_len hA, List.length_take, Nat.min_eq_left (by omega)]
  have e4 : ((rows.drop j).take n).flatten.length = n * m := by rw [flat_len hM, List.length_take, List.length_drop, Nat.min_eq_left (by omega)]
  refine ⟨some (ad b (j * m)), n, c, (vs.drop (j * m)).take (n * m), rfl, by simp; omega, ?_, ?_, hM⟩
  · simp only [IHp.rowAt]
    exact row_obj g2 (j * m) hle
  · have h5 : ((rows.drop j).take n).flatten = (rows.flatten.drop (j * m)).take (n * m) := by
      rw [hsplit, ← e3, List.drop_left, ← e4, List.take_left]
    rw [h5]
    exact (g1.drop _).take _⟩
end Go.Ideal

-- IdealTo
set_option linter.unusedSimpArgs false
set_option linter.unusedVariables false
namespace Go.Ideal
open Go Go.RowKit
variable {P : Program} {X : Cx} {E : Env} {σ : Nat → Tr} {B B' : Boxes} {ops : Array Oper} {K : TK} {l : List Oper} {d : Option Tmp} {ty : TypeId} {pos : String} {af : Array Edge} {H : List (Nat × Nat)} {F : Mem} {s : Nat → Value} {h : IHp} {held : Held}
/-! ### A place in an own slice that has room behind it -/
end Go.Ideal

-- IdealTp
set_option linter.unusedSimpArgs false
set_option linter.unusedVariables false
namespace Go.Ideal
open Go Go.RowKit
variable {P : Program} {X : Cx} {E : Env} {σ : Nat → Tr} {B B' : Boxes} {ops : Array Oper} {K : TK} {l : List Oper} {d : Option Tmp} {ty : TypeId} {pos : String} {af : Array Edge} {H : List (Nat × Nat)} {F : Mem} {s : Nat → Value} {h : IHp} {held : Held}
/-! ### Functions that change memory that they are handed -/
/-- called with these trees and boxes the function answers a tree and leaves boxes of which Φ holds; whatever else there is stays -/
@[irreducible] def FnB (P : Program) (f : FuncId) (args : List Tr) (B : Boxes) (Φ : Tr → Boxes → Prop) : Prop :=
  ∀ (X : Cx) (F : Mem) (σ : Nat → Tr) (s : Nat → Value) (C : Boxes) (h : IHp) (vs : List Value), TR X F σ (B ++ C) s h → RepL F args vs →
    EvX P f vs.toArray h (fun v h' => ∃ F' r B', TR X F' σ (B' ++ C) s h' ∧ Sub F F' ∧ Rep F' r v ∧ Φ r B')
theorem TS_callB {f : FuncId} {ps : List Operand} {ts : List Tr} {at_ : Array TypeId} {b : Nat} {x : Box} {C : Boxes} {Φ : Tr → Boxes → Prop} [c : CallIs P f] [e : TEvals σ ps ts] [dl : BoxDel B b x C] (hc : FnB P f ts [(b, x)] Φ) (k : ∀ r B1, Φ r B1 → TS X P E ops K l [] (putT σ d r) (B1 ++ C)) :
    TS X P E ops K (⟨d, .call ⟨.value (.func f), ps.toArray, at_⟩, ty, pos, af, none⟩ :: l) [] σ B := by
  unfold TS at *
  unfold FnB at hc
  intro F s h held r hh
  have he : EvalsIs s ps (ps.map (St.eval ⟨s, h, 0, [], false⟩)) := ⟨fun h' nt mk rd => by
    apply List.map_congr_left
    intro x _
    exact (evalIs_self (s := s) (x := x) (h := h)).eq h' nt mk rd⟩
  have hp : B.Perm ([(b, x)] ++ C) := by
    obtain ⟨pre, post, rfl, rfl⟩ := dl.eq
    exact List.perm_middle
  have r1 := r.perm hp
  refine WS_call (hc X F σ s C h _ r1 (e.eq F s r.slot h 0 [] false)) ?_
  rintro v h' ⟨F', r2, B1, r3, hs, hr, hk⟩
  refine k r2 B1 hk F' _ h' held (r3.put hr) (fun e he => ?_)
  obtain ⟨h1, h2, h3⟩ := hh e he
  rcases h3 with h3 | ⟨h3, _⟩
  · exact ⟨h1, r3.sub _ _ _ (hs _ _ _ h3), .inl (hs _ _ _ h3)⟩
  · cases h3
/-- one box, changed -/
theorem TS_callM {f : FuncId} {ps : List Operand} {ts : List Tr} {at_ : Array TypeId} {b : Nat} {x x' : Box} {C : Boxes} {t : Tr} [c : CallIs P f] [e : TEvals σ ps ts] [dl : BoxDel B b x C] (hc : FnB P f ts [(b, x)] (fun r B1 => r = t ∧ B1 = [(b, x')])) (k : TS X P E ops K l [] (putT σ d t) ((b, x') :: C)) :
    TS X P E ops K (⟨d, .call ⟨.value (.func f), ps.toArray, at_⟩, ty, pos, af, none⟩ :: l) [] σ B :=
  TS_callB hc (by rintro _ _ ⟨rfl, rfl⟩; exact k)
@[irreducible] def retTB (P : Program) (rs : List ResultVar) (C : Boxes) (Φ : Tr → Boxes → Prop) : IExit → TK := fun e σ B => (e = .normal ∨ e = .ret) ∧ ∃ ts B', RetTO P σ B rs ts ∧ SubP B (B' ++ C) ∧ Φ (tret ts) B'
theorem retB_go {rs : List ResultVar} {C : Boxes} {Φ : Tr → Boxes → Prop} {e : IExit} {ts : List Tr} (B' : Boxes) [r : RetIsO P σ B rs ts] (sp : SubP B (B' ++ C)) (he : e = .normal ∨ e = .ret) (k : Φ (tret ts) B') : retTB P rs C Φ e σ B := by unfold retTB; exact ⟨he, ts, B', r.eq, sp, k⟩
theorem FnB_of {f : FuncId} {fn : Func} {c : Code} {args : List Tr} {B : Boxes} {Φ : Tr → Boxes → Prop} (hf : P.funcs[f]? = some fn) (hb : fn.body = some c) (hsz : args.length ≤ fn.ntmps)
    (hw : ∀ X C, TV X P ⟨fn.ntmps, [], false⟩ c (retTB P fn.results.toList C Φ) (argT args) (B ++ C)) : FnB P f args B Φ := by
  unfold FnB
  intro X F σ s C h vs r h2
  have hr : TR ⟨X.h, F, X.G⟩ F (argT args) (B ++ C) (argS vs) h := ⟨r.ext, Sub.refl F, r.sub, fun b off v hf => .inl hf, r.box, r.sep, r.dis, r.gd, fun i => by
    by_cases hi : i < args.length
    · obtain ⟨v, h3, h4⟩ := h2.get (List.getElem?_eq_getElem hi)
      have h5 : argS vs i = v := by
        have hi2 := (List.getElem?_eq_some_iff.1 h3).1
        simp only [argS, Array.getD]
        rw [dif_pos (by simpa using hi2)]
        rw [List.getElem?_eq_getElem hi2] at h3
        simpa using Option.some.inj h3
      have h6 : argT args i = args[i] := by simp [argT, List.getD, hi]
      rw [h5, h6]; exact h4
    · have h5 : argS vs i = undef := by
        have := h2.len
        simp only [argS, Array.getD]
        rw [dif_neg (by simp; omega)]
      have h6 : argT args i = .v undef := by simp [argT, List.getD, hi]
      rw [h5, h6]; exact rep_v _⟩
  have hw := hw ⟨X.h, F, X.G⟩ C
  unfold TV at hw
  refine EvX_of hf hb (by rw [h2.len]; exact hsz) (V_mono ?_ (hw F _ h hr))
  rintro e s' h' ⟨F', σ', B', r', hk⟩
  unfold retTB at hk
  obtain ⟨he, ts, B2, h3, sp, h4⟩ := hk
  obtain ⟨ws, h5, h6⟩ := h3 _ F' s' h' ⟨fn.ntmps, [], false⟩ r'
  have r2 := r'.keep sp
  unfold retK
  refine ⟨he, ws, h5, F', tret ts, B2, ⟨r2.ext, r.base.trans r2.base, r2.sub, fun b off v hf => ?_, r2.box, r2.sep, r2.dis, r2.gd, fun i => (r.slot i).sub r2.base⟩, r2.base, ?_, h4⟩
  · rcases r2.own b off v hf with h7 | h7
    · exact r.own b off v h7
    · exact .inr h7
  have hl := h6.len
  match ts, ws, h6, hl with
  | [], [], _, _ => simp only [tret, iret, Rep]; exact ⟨[], rfl, RepL.nil⟩
  | [t], [v], h6, _ =>
    simp only [RepL] at h6
    obtain ⟨v', ws', h7, h8, _⟩ := h6
    simp only [List.cons.injEq] at h7
    obtain ⟨rfl, rfl⟩ := h7
    exact h8
  | t :: t2 :: ts, v :: v2 :: vs, h6, _ => simp only [tret, iret, Rep]; exact ⟨_, rfl, h6⟩
end Go.Ideal

-- IdealTq
set_option linter.unusedSimpArgs false
set_option linter.unusedVariables false
namespace Go.Ideal
open Go Go.RowKit
variable {P : Program} {X : Cx} {E : Env} {σ : Nat → Tr} {B B' : Boxes} {ops : Array Oper} {K : TK} {l : List Oper} {d : Option Tmp} {ty : TypeId} {pos : String} {af : Array Edge} {H : List (Nat × Nat)} {F : Mem} {s : Nat → Value} {h : IHp} {held : Held}
/-! ### Pointers that are not nil -/
instance Pu.nilCheck_v {x : Operand} {b off : Nat} [e : TEval σ x (.v (.pointer (some (ad b off))))] : Pu P σ B (.nilCheck x) (.v (.pointer (some (ad b off)))) := ⟨fun {X F s h} q {E' _ _ _ _ _ _ _} kk => by
  have h1 := e.is q.slot
  have g1 := ev_eq (E := E') (h := h) (x := x) (s := s)
  refine WS_pure rfl rfl ?_ (kk _ (rep_v _))
  simp only [ipure, g1]⟩
instance Pu.nilCheck_pf {x : Operand} {cs : List Tr} [e : TEval σ x (.pf cs)] : Pu P σ B (.nilCheck x) (.pf cs) := ⟨fun {X F s h} q {E' _ _ _ _ _ _ _} kk => by
  have h1 := evalIs_self (s := s) (x := x) (h := h)
  have h2 := e.eq F s q.slot h 0 [] false
  have h3 := h2
  simp only [Rep] at h2
  obtain ⟨b, off, vs, h4, h5, h6⟩ := h2
  rw [h4] at h1 h3
  have g1 := ev_eq (E := E') (h := h) (x := x) (s := s)
  refine WS_pure rfl rfl ?_ (kk _ h3)
  simp only [ipure, g1]⟩
theorem FnM_of {f : FuncId} {fn : Func} {c : Code} {args : List Tr} {b : Nat} {x : Box} {Φ : Tr → Boxes → Prop} (hf : P.funcs[f]? = some fn) (hb : fn.body = some c) (hsz : args.length ≤ fn.ntmps)
    (hw : ∀ X C, TV X P ⟨fn.ntmps, [], false⟩ c (retTB P fn.results.toList C Φ) (argT args) ((b, x) :: C)) : FnB P f args [(b, x)] Φ := FnB_of hf hb hsz hw
end Go.Ideal

-- IdealTr
set_option linter.unusedSimpArgs false
set_option linter.unusedVariables false
namespace Go.Ideal
open Go Go.RowKit
variable {P : Program} {X : Cx} {E : Env} {σ : Nat → Tr} {B B' : Boxes} {ops : Array Oper} {K : TK} {l : List Oper} {d : Option Tmp} {ty : TypeId} {pos : String} {af : Array Edge} {H : List (Nat × Nat)} {F : Mem} {s : Nat → Value} {h : IHp} {held : Held}
/-! ### == of structs of numbers -/
theorem pureOf_bind {α β : Type} (f : α → Sem β) : ∀ {s : Sem α} {a : α}, pureOf P s = some a → pureOf P (s >>= f) = pureOf P (f a) := by
  intro s
  induction s with
  | pure a => intro b h; simp [pureOf] at h; subst h; rfl
  | program k ih => intro b h; exact ih P h
  | mark m k ih => intro b h; exact ih h
  | _ => intro b h; simp [pureOf] at h
theorem pureOf_under {t : TypeId} {td : TypeDesc} (u : P.underlying t = some td) : pureOf P (underlying t) = some td := by
  unfold underlying
  refine (pureOf_bind _ (s := program) (a := P) rfl).trans ?_
  rw [u]; rfl
theorem guard_struct {o : BinOp} (ho : o = .eql ∨ o = .neq) {t : TypeId} (hg : P.eqGuardType P.depth t = false) {x y : Operand} {vs ws : Array Value} : pureOf P (eqGuard o t x y (.agg vs) (.agg ws)) = some () := by
  rcases ho with rfl | rfl
  all_goals
    unfold eqGuard
    rw [if_neg (by decide)]
    simp only
    refine (pureOf_bind _ (s := program) (a := P) rfl).trans ?_
    refine (pureOf_bind _ (s := program) (a := P) rfl).trans ?_
    rw [hg]; rfl
theorem repL_vals_inv {F : Mem} : ∀ {vs ws : List Value}, RepL F (vs.map Tr.v) ws → ws = vs := by
  intro vs
  induction vs with
  | nil => intro ws h; simpa only [List.map_nil, RepL] using h
  | cons v vs ih =>
    intro ws h
    simp only [List.map_cons, RepL, Rep] at h
    obtain ⟨u, us, rfl, rfl, h3⟩ := h
    rw [ih h3]
theorem evalIs_agg {x : Operand} {ts : List Tr} {vs : List Value} (e : TEval σ x (.agg ts)) (h : ts = vs.map .v) (hs : ∀ i, Rep F (σ i) (s i)) : EvalIs s x (.agg vs.toArray) := ⟨fun h' nt m rd => by
  have := e.eq F s hs h' nt m rd
  simp only [Rep] at this
  obtain ⟨ws, h1, h2⟩ := this
  rw [h] at h2
  rw [h1, repL_vals_inv h2]⟩
end Go.Ideal

-- IdealTs
set_option linter.unusedSimpArgs false
set_option linter.unusedVariables false
namespace Go.Ideal
open Go
section
variable {P : Program} {E : ICall} {σ : Nat → Tr} {B : Boxes}
/-! ### A slice from its start on -/
end
end Go.Ideal

-- IdealTu
set_option linter.unusedSimpArgs false
set_option linter.unusedVariables false
namespace Go.Ideal
open Go Go.RowKit
variable {P : Program} {X : Cx} {E : Env} {σ : Nat → Tr} {B B' : Boxes} {ops : Array Oper} {K : TK} {l : List Oper} {d : Option Tmp} {ty : TypeId} {pos : String} {af : Array Edge} {H : List (Nat × Nat)} {F : Mem} {s : Nat → Value} {h : IHp} {held : Held}
/-! ### Own answers: frozen, or taken while what is handed in stays one's own -/
theorem FnO.frz {f : FuncId} {args : List Tr} {Φ : Tr → Boxes → Prop} {Ψ : Tr → Prop} (x : FnO P f args Φ) (k : ∀ r B, Φ r B → ∃ t, (∀ F G h, ThawOk F G B h → ∀ v, Rep F r v → Rep G t v) ∧ Ψ t) : Fn P f args Ψ := by
  unfold FnO at x
  unfold Fn
  intro F0 h vs h1 h2
  refine (x F0 h vs h1 h2).mono fun v h' ⟨F, r, B, q, ev, hk⟩ => ?_
  obtain ⟨t, ht, hp⟩ := k r B hk
  refine ⟨q.ext, thaw F B h', t, ?_, q.thawSub, ?_, ht F _ h' q.thawOk v (q.slot 0), hp⟩
  · exact fun b o v hf => q.thawOk.sub _ _ _ (q.base _ _ _ hf)
  · intro b off v hf
    rcases q.thawOwn b off v hf with h3 | h3
    · exact q.own _ _ _ h3
    · exact .inr h3
def FlatB : Box → Prop
  | .cells cs _ _ => FlatL cs
  | .arr _ rows _ _ => FlatL rows.flatten
theorem FlatL.app {a b : List Tr} (x : FlatL a) (y : FlatL b) : FlatL (a ++ b) := ⟨fun F G vs hv => by
  obtain ⟨p, q, rfl, h1, h2⟩ := hv.split
  exact (x.eq F G _ h1).append (y.eq F G _ h2)⟩
theorem FlatL.rows : ∀ {rows : List (List Tr)}, (∀ row ∈ rows, FlatL row) → FlatL rows.flatten := by
  intro rows
  induction rows with
  | nil => intro _; exact FlatL.nil
  | cons r rows ih => intro h; exact (h r (List.mem_cons_self ..)).app (ih fun row hr => h row (List.mem_cons_of_mem _ hr))
theorem BoxRep.flat {G : Mem} {b : Nat} {x : Box} (r : BoxRep F h b x) (fl : FlatB x) : BoxRep G h b x := by
  cases x with
  | cells cs t y =>
    obtain ⟨vs, h1, h2⟩ := r
    exact ⟨vs, FlatL.eq (self := fl) F G vs h1, h2⟩
  | arr m rows t y =>
    simp only [BoxRep] at r ⊢
    refine ⟨r.1, ?_⟩
    rcases r.2 with h1 | ⟨vs, h1, h2⟩
    · exact .inl h1
    · exact .inr ⟨vs, FlatL.eq (self := fl) F G vs h1, h2⟩
end Go.Ideal

-- IdealTv
set_option linter.unusedSimpArgs false
set_option linter.unusedVariables false
namespace Go.Ideal
open Go Go.RowKit
variable {P : Program} {X : Cx} {E : Env} {σ : Nat → Tr} {B B' : Boxes} {ops : Array Oper} {K : TK} {l : List Oper} {d : Option Tmp} {ty : TypeId} {pos : String} {af : Array Edge} {H : List (Nat × Nat)} {F : Mem} {s : Nat → Value} {h : IHp} {held : Held}
/-! ### Own slices with room behind, handed in; answers that may grow, borrowed -/
class PreR (rows : List (List Tr)) (n c : Nat) (r : outParam (List (List Tr))) : Prop where
  eq : rows.take n = r
  le : n ≤ rows.length
  cap : n ≤ c
instance (priority := 50) Frz.pre {b m n c : Nat} {rows r : List (List Tr)} {bt : Nat} {bx : Bool} [bi : BoxIs B b (.arr m rows bt bx)] [p : PreR rows n c r] [sm : Sm63 c] [rx : RealX rows bx] : Frz B (.v (.slice (some (ad b 0)) n c)) (.sl m r) := ⟨fun F G h o v hv => by
  have hN : rows.length < 2 ^ 63 ∨ True := .inr trivial
  simp only [Rep] at hv
  subst hv
  have hb := o.box _ bi.mem
  have hb' := hb
  simp only [BoxRep] at hb
  obtain ⟨vs, h1, h2⟩ := rx.even hb'
  simp only [Rep]
  have hl : r.length = n := by rw [← p.eq, List.length_take, Nat.min_eq_left p.le]
  refine ⟨_, n, c, rfl, hl, p.cap, sm.lt, fun d hd => ?_, ?_⟩
  · cases hd; exact .inl rfl
  · have h3 : RepR G b m rows 0 := frz_rows (fr := FrzR.same) o hb.1 h1 fun i hi => by
      rw [rowM_congr (F := h.cell?) (o.cell _ bi.mem h2.even), ← row_rowM]
      exact row_obj h2 i hi
    rw [← p.eq]
    exact h3.take n⟩
theorem FnO.mono {f : FuncId} {args : List Tr} {Φ Ψ : Tr → Boxes → Prop} (x : FnO P f args Φ) (k : ∀ r B, Φ r B → Ψ r B) : FnO P f args Ψ := by
  unfold FnO at *
  intro F0 h vs h1 h2
  exact (x F0 h vs h1 h2).mono fun v h' ⟨F, r, B, a1, a2, a3⟩ => ⟨F, r, B, a1, a2, k r B a3⟩
/-! ### A cut that nothing passes but the way on: the goals ahead of it stay small -/
@[irreducible] def TnormK (I : TK) : IExit → TK := fun e σ B => e = .normal ∧ I σ B
theorem TN_normal {I : TK} (k : I σ B) : TnormK I .normal σ B := by unfold TnormK; exact ⟨rfl, k⟩
instance {I : TK} : StepC (TnormK I .normal σ B) (I σ B) := ⟨TN_normal⟩
theorem TV_cutN {a b : Code} {Q : IExit → TK} (I : TK) (k1 : TV X P E a (TnormK I) σ B) (k2 : ∀ σ' B', I σ' B' → TV X P E b Q σ' B') : TV X P E a (TseqK X P E b Q) σ B := by
  refine TV_mono ?_ k1
  intro e σ' B' hk
  unfold TnormK at hk
  obtain ⟨rfl, hi⟩ := hk
  exact TSQ_normal (k2 σ' B' hi)
end Go.Ideal

-- IdealTw
set_option linter.unusedSimpArgs false
set_option linter.unusedVariables false
namespace Go.Ideal
open Go Go.RowKit
variable {P : Program} {X : Cx} {E : Env} {σ : Nat → Tr} {B B' : Boxes} {ops : Array Oper} {K : TK} {l : List Oper} {d : Option Tmp} {ty : TypeId} {pos : String} {af : Array Edge} {H : List (Nat × Nat)} {F : Mem} {s : Nat → Value} {h : IHp} {held : Held}
/-! ### Pointers and nil -/
instance Pu.ptr_nil {x : Operand} {t te yt : TypeId} {a : Option Addr} [e : TEval σ x (.v (.pointer a))] [u : UnderIs P t (.pointer te)] : Pu P σ B (.binOp .eql t x (.const (.pointer none)) yt) (.v (.bool a.isNone)) := ⟨fun {X F s h} q {E' _ _ _ _ _ _ _} kk => by
  have h1 := e.is q.slot
  have g1 := ev_eq (E := E') (h := h) (x := x) (s := s)
  have g2 : (E'.st s h).eval (.const (.pointer none)) = .pointer none := rfl
  refine WS_pure rfl rfl ?_ (kk _ (rep_v _))
  simp only [ipure, isNilConst, if_true, inil, u.eq, g1, g2]⟩
instance Pu.pf_nil {x : Operand} {t te yt : TypeId} {cs : List Tr} [e : TEval σ x (.pf cs)] [u : UnderIs P t (.pointer te)] : Pu P σ B (.binOp .eql t x (.const (.pointer none)) yt) (.v (.bool false)) := ⟨fun {X F s h} q {E' _ _ _ _ _ _ _} kk => by
  have h1 := evalIs_self (s := s) (x := x) (h := h)
  have h2 := e.eq F s q.slot h 0 [] false
  simp only [Rep] at h2
  obtain ⟨b, off, vs, h4, h5, h6⟩ := h2
  rw [h4] at h1
  have g1 := ev_eq (E := E') (h := h) (x := x) (s := s)
  have g2 : (E'.st s h).eval (.const (.pointer none)) = .pointer none := rfl
  refine WS_pure rfl rfl ?_ (kk _ (rep_v _))
  simp only [ipure, isNilConst, if_true, inil, u.eq, g1, g2]
  rfl⟩
end Go.Ideal

-- IdealTx
set_option linter.unusedSimpArgs false
set_option linter.unusedVariables false
namespace Go.Ideal
open Go Go.RowKit
variable {P : Program} {X : Cx} {E : Env} {σ : Nat → Tr} {B B' : Boxes} {F : Mem} {s : Nat → Value} {h : IHp}
/-! ### From a walk over values to one over trees, midway -/
def LiftQ (X : Cx) (Q' : IExit → TK) (Q : IExit → SK) : Prop := ∀ e F σ B s h, TR X F σ B s h → Q' e σ B → Q e s h
theorem V_of_TV {c : Code} {Q' : IExit → TK} {Q : IExit → SK} (r : TR X F σ B s h) (l : LiftQ X Q' Q) (k : TV X P E c Q' σ B) : V P E c Q s h := by
  unfold TV at k
  exact V_mono (fun e s h ⟨F', σ', B', r', hk⟩ => l e F' σ' B' s h r' hk) (k F s h r)
theorem LiftQ.seq {b : Code} {Q' : IExit → TK} {Q : IExit → SK} (l : LiftQ X Q' Q) : LiftQ X (TseqK X P E b Q') (VseqK P E b Q) := by
  intro e F σ B s h r hk
  unfold TseqK at hk
  unfold VseqK
  cases e with
  | normal => exact V_of_TV r l hk
  | exit j => exact l _ _ _ _ _ _ r hk
  | ret => exact l _ _ _ _ _ _ r hk
theorem LiftQ.ret {rs : List ResultVar} {Φ : Tr → Prop} {Ψ : Value → IHp → Prop} (hΨ : ∀ F r v h', Rep F r v → Φ r → Ψ v h') : LiftQ X (retT P rs Φ) (retK P E rs Ψ) := by
  intro e F' σ' B' s' h' r' hk
  unfold retT at hk
  obtain ⟨he, ts, h3, h4⟩ := hk
  obtain ⟨ws, h5, h6⟩ := h3 _ F' s' h' E r' (thaw F' B' h') r'.thawOk
  unfold retK
  refine ⟨he, ws, h5, hΨ (thaw F' B' h') (tret ts) _ _ ?_ h4⟩
  have hl := h6.len
  match ts, ws, h6, hl with
  | [], [], _, _ => simp only [tret, iret, Rep]; exact ⟨[], rfl, RepL.nil⟩
  | [t], [v], h6, _ =>
    simp only [RepL] at h6
    obtain ⟨v', ws', h7, h8, _⟩ := h6
    simp only [List.cons.injEq] at h7
    obtain ⟨rfl, rfl⟩ := h7
    exact h8
  | t :: t2 :: ts, v :: v2 :: vs, h6, _ => simp only [tret, iret, Rep]; exact ⟨_, rfl, h6⟩
/-- one object of one's own, all slots as they are -/
theorem TR.enter {h0 : IHp} {b t : Nat} {x : Bool} {cs : List Tr} {vs : List Value} (e : Ext h0 h) (hb : h0.fresh ≤ b) (o : ObjIs h b vs t x) (hr : RepL h0.cell? cs vs) : TR ⟨h0, h0.cell?, []⟩ h0.cell? (fun i => .v (s i)) [(b, .cells cs t x)] s h := by
  refine ⟨e, Sub.refl _, fun b off v hf => cell_ext e hf, fun b off v hf => .inl hf, fun p hp => ?_, fun p hp he => ?_, by simp, by simp, fun i => rep_v _⟩
  · rw [List.mem_singleton.1 hp]; exact ⟨vs, hr, o⟩
  · rw [List.mem_singleton.1 hp]
    refine ⟨hb, fun off => ?_⟩
    have he : b % 2 = 0 := o.even
    cases hc : h0.cell? b off with
    | none => rfl
    | some v =>
      simp only [IHp.cell?] at hc
      rw [if_neg (by omega)] at hc
      have : h0.new[b / 2]? = none := List.getElem?_eq_none (by unfold IHp.fresh at hb; omega)
      rw [this] at hc
      cases hc
theorem tget_v {i : Nat} {v : Value} (h : s i = v) : TGet (fun i => .v (s i)) i (.v v) := ⟨by simp only [h]⟩
end Go.Ideal

-- IdealBr
set_option linter.unusedSimpArgs false
set_option linter.unusedVariables false
namespace Go.Ideal
open Go Go.RowKit

/-! ### What a reading of the arguments says of the ideal heap -/
def up (v : Value) : Value := (upv v).getD undef
def IRd (P : Program) (h : IHp) : Nat → TypeId → List Value → Prop
  | 0, _, _ => False
  | n + 1, t, cs =>
    match P.underlying t with
    | some .bool => ∃ b, cs = [.bool b]
    | some (.int k) => ∃ i, cs = [.int k i] ∧ (Lit.int k i).wf = true
    | some .string => ∃ s, cs = [.string s] ∧ s.size ≤ maxLen
    | some (.slice e) => cs = [.slice none 0 0] ∨ ∃ a l c, cs = [.slice (some a) l c] ∧ l ≤ c ∧ c ≤ maxLen ∧ (a.spot = none ∨ c = 0) ∧ ∀ i, i < c → ∃ row, h.row a.block (a.off + i * P.cellsOf e) (P.cellsOf e) = some row ∧ IRd P h n e row
    | some (.struct fs) => cs.length = P.cellsOf t ∧ ∀ (i : Nat) (f : Field), fs[i]? = some f → IRd P h n f.type ((cs.drop f.offset).take (P.cellsOf f.type))
    | _ => False
/-- the fields lie one behind the other -/
def tiles (P : Program) : List Field → Nat → Nat → Bool
  | [], at_, all => at_ == all
  | f :: fs, at_, all => f.offset == at_ && tiles P fs (at_ + P.cellsOf f.type) all
/-- plain data -/
def plainT (P : Program) : Nat → TypeId → Bool
  | 0, _ => false
  | n + 1, t =>
    match P.underlying t with
    | some .bool | some (.int _) | some .string => true
    | some (.slice e) => P.cellsOf e != 0 && plainT P n e
    | some (.struct fs) => tiles P fs.toList 0 (P.cellsOf t) && fs.toList.all fun f => plainT P n f.type
    | _ => false
theorem tiles_mem {P : Program} {cs : List Value} : ∀ (fs : List Field) (at_ : Nat), tiles P fs at_ cs.length = true → ∀ v ∈ cs.drop at_, ∃ f ∈ fs, v ∈ (cs.drop f.offset).take (P.cellsOf f.type) := by
  intro fs
  induction fs with
  | nil =>
    intro at_ h v hv
    simp only [tiles, beq_iff_eq] at h
    rw [List.drop_of_length_le (by omega)] at hv
    cases hv
  | cons f fs ih =>
    intro at_ h v hv
    simp only [tiles, Bool.and_eq_true, beq_iff_eq] at h
    obtain ⟨h1, h2⟩ := h
    rw [← List.take_append_drop (P.cellsOf f.type) (cs.drop at_)] at hv
    rcases List.mem_append.1 hv with h3 | h3
    · exact ⟨f, List.mem_cons_self, by rw [h1]; exact h3⟩
    · rw [List.drop_drop] at h3
      obtain ⟨g, h4, h5⟩ := ih _ h2 v h3
      exact ⟨g, List.mem_cons_of_mem _ h4, h5⟩
theorem up_of {v u : Value} (h : upv v = some u) : up v = u := by simp [up, h]
theorem mapM_cells {w : World} {a : Addr} (hs : a.spot = none) : ∀ (n k : Nat) (row : List Value), ((List.range' k n).mapM fun i => w.cell? (a.add i)) = some row → (∀ v ∈ row, (upv v).isSome = true) → (heapOf w).row (2 * a.block + 1) (a.off + k) n = some (row.map up) := by
  intro n
  induction n with
  | zero => intro k row h _; simp at h; subst h; rfl
  | succ n ih =>
    intro k row h hup
    rw [List.range'_succ, List.mapM_cons] at h
    cases h1 : w.cell? (a.add k) with
    | none => simp [h1] at h
    | some v =>
      cases h2 : (List.range' (k + 1) n).mapM fun i => w.cell? (a.add i) with
      | none => simp [h1, h2] at h
      | some vs =>
        simp [h1, h2] at h
        subst h
        have h3 := ih (k + 1) vs h2 (fun v hv => hup v (List.mem_cons_of_mem _ hv))
        obtain ⟨u, hu⟩ := Option.isSome_iff_exists.1 (hup v List.mem_cons_self)
        have hadd : a.add k = ⟨a.block, a.off + k, none⟩ := by
          unfold Addr.add
          split
          · rename_i h0; subst h0; cases a; simp at hs; subst hs; rfl
          · rfl
        rw [hadd] at h1
        have hb : a.block < w.heap.size := by
          simp only [World.cell?] at h1
          split at h1
          · rename_i hx; exact (Array.getElem?_eq_some_iff.1 hx).1
          · cases h1
        have h4 : (heapOf w).cell? (2 * a.block + 1) (a.off + k) = some u := by
          simp only [IHp.cell?, heapOf]
          rw [if_pos (by omega), show (2 * a.block + 1) / 2 = a.block by omega, if_pos hb, h1]
          exact hu
        simp only [IHp.row, h4, Option.bind_some, show a.off + k + 1 = a.off + (k + 1) by omega, h3, List.map_cons, up_of hu]
theorem irow {w : World} {a : Addr} {n : Nat} {row : List Value} (hs : a.spot = none) (h : w.cells? 0 a n = some row) (hup : ∀ v ∈ row, (upv v).isSome = true) : (heapOf w).row (2 * a.block + 1) a.off n = some (row.map up) := by
  simp only [World.cells?, Nat.zero_le, if_true] at h
  rw [List.range_eq_range'] at h
  simpa using mapM_cells hs n 0 row h hup
section
variable {H : Type} {enc : TypeId × Value → H} {P : Program} {w : World} {held : Bool}
theorem bridge : ∀ (N : Nat) (t : TypeId) (fuel : Nat) (cs : List Value) (x : DataW H × List MemPlace), plainT P N t = true → DataW.trod enc P w 0 (fun _ => true) held fuel t cs = some x → (∀ v ∈ cs, (upv v).isSome = true) ∧ IRd P (heapOf w) N t (cs.map up) := by
  intro N
  induction N with
  | zero => intro t fuel cs x h; simp [plainT] at h
  | succ N ih =>
    intro t fuel cs x hp h
    rw [plainT] at hp
    rw [IRd]
    split at hp
    · rename_i hu
      obtain ⟨b, rfl, _⟩ := DataW.trod_bool hu h
      exact ⟨by simp [upv], b, by simp [up, upv]⟩
    · rename_i k hu
      obtain ⟨i, rfl, _, hw⟩ := DataW.trod_int hu h
      exact ⟨by simp [upv], i, by simp [up, upv], hw⟩
    · rename_i hu
      obtain ⟨s, rfl, _, hw⟩ := DataW.trod_string hu h
      exact ⟨by simp [upv], s, by simp [up, upv], hw⟩
    · rename_i e hu
      simp only [Bool.and_eq_true, bne_iff_ne, ne_eq] at hp
      obtain ⟨hn, hpe⟩ := hp
      rcases DataW.trod_slice hu h with ⟨rfl, _⟩ | ⟨a, l, c, elems, rest, m, rfl, rfl, _, _, hlc, hcm, hel, he, hr, _⟩
      · exact ⟨by simp [upv], .inl (by simp [up, upv])⟩
      · obtain ⟨hrl, hr⟩ := hr rfl
        have hat : ∀ i, i < c → ∃ row y, w.cells? 0 (a.add (i * P.cellsOf e)) (P.cellsOf e) = some row ∧ DataW.trod enc P w 0 (fun _ => true) held m e row = some y := by
          intro i hi
          by_cases hil : i < l
          · have h1 := he i hil
            rw [List.getElem?_eq_getElem (by omega)] at h1
            simp only [Option.bind_eq_some_iff] at h1
            obtain ⟨row, h2, h3⟩ := h1
            exact ⟨row, _, h2, h3⟩
          · have h1 := hr (i - l) (by omega)
            rw [List.getElem?_eq_getElem (by omega), show l + (i - l) = i by omega] at h1
            simp only [Option.bind_eq_some_iff] at h1
            obtain ⟨row, h2, h3⟩ := h1
            exact ⟨row, _, h2, h3⟩
        by_cases hs : a.spot = none
        · have hup : upv (.slice (some a) l c) = some (.slice (some { block := 2 * a.block + 1, off := a.off }) l c) := by simp [upv, hs]
          refine ⟨by simp [hup], .inr ⟨{ block := 2 * a.block + 1, off := a.off }, l, c, by simp [up_of hup], hlc, hcm, .inl rfl, fun i hi => ?_⟩⟩
          obtain ⟨row, y, h1, h2⟩ := hat i hi
          obtain ⟨h3, h4⟩ := ih e m row y hpe h2
          refine ⟨row.map up, ?_, h4⟩
          have hsp : (a.add (i * P.cellsOf e)).spot = none := by unfold Addr.add; split <;> simp [hs]
          have h5 := irow hsp h1 h3
          have hblk : (a.add (i * P.cellsOf e)).block = a.block := by unfold Addr.add; split <;> rfl
          have hoff : (a.add (i * P.cellsOf e)).off = a.off + i * P.cellsOf e := by unfold Addr.add; split <;> simp_all
          rw [hblk, hoff] at h5
          exact h5
        · have hc0 : c = 0 := by
            apply Decidable.byContradiction
            intro hc
            obtain ⟨row, y, h1, _⟩ := hat 0 (by omega)
            have ha0 : a.add (0 * P.cellsOf e) = a := by simp [Addr.add]
            rw [ha0] at h1
            simp only [World.cells?, Nat.zero_le, if_true] at h1
            obtain ⟨m', hm'⟩ : ∃ m', P.cellsOf e = m' + 1 := ⟨P.cellsOf e - 1, by omega⟩
            rw [hm', List.range_succ_eq_map, List.mapM_cons] at h1
            have : w.cell? (a.add 0) = none := by
              simp only [World.cell?, Addr.add, if_true]
              split
              · rw [if_pos]; cases hsp : a.spot with
                | none => exact absurd hsp hs
                | some _ => rfl
              · rfl
            rw [this] at h1
            simp at h1
          have hl0 : l = 0 := by omega
          subst hc0; subst hl0
          have hup : upv (.slice (some a) 0 0) = some (.slice (some a) 0 0) := by simp [upv, hs]
          exact ⟨by simp [hup], .inr ⟨a, 0, 0, by simp [up_of hup], Nat.le_refl _, Nat.zero_le _, .inr rfl, fun i hi => absurd hi (Nat.not_lt_zero i)⟩⟩
    · rename_i fs hu
      simp only [Bool.and_eq_true, List.all_eq_true] at hp
      obtain ⟨htile, hall⟩ := hp
      obtain ⟨xs, m, rfl, _, hlen, hxl, hf⟩ := DataW.trod_struct hu h
      have hfield : ∀ (i : Nat) (f : Field), fs[i]? = some f → (∀ v ∈ (cs.drop f.offset).take (P.cellsOf f.type), (upv v).isSome = true) ∧ IRd P (heapOf w) N f.type (((cs.drop f.offset).take (P.cellsOf f.type)).map up) := by
        intro i f hfi
        have h1 := hf i f hfi
        have hi : i < xs.length := by rw [hxl]; exact (Array.getElem?_eq_some_iff.1 hfi).1
        rw [List.getElem?_eq_getElem hi] at h1
        exact ih _ _ _ _ (hall f (by rw [Array.mem_toList_iff]; exact Array.mem_of_getElem? hfi)) h1
      refine ⟨fun v hv => ?_, by simpa using hlen, fun i f hfi => ?_⟩
      · rw [← hlen] at htile
        obtain ⟨f, h1, h2⟩ := tiles_mem fs.toList 0 htile v (by simpa using hv)
        obtain ⟨i, hi⟩ := Array.mem_iff_getElem?.1 (Array.mem_toList_iff.1 h1)
        exact (hfield i f hi).1 v h2
      · have := (hfield i f hfi).2
        simpa [List.map_take, List.map_drop] using this
    · cases hp
/-- an argument -/
def upA : Value → Value
  | .agg cs => .agg (cs.toList.map up).toArray
  | v => up v
theorem RA_up {ρ : RM} {cs : Array Value} (h : ∀ v ∈ cs.toList, (upv v).isSome = true) : RA ρ (cs.toList.map up).toArray cs := by
  refine ⟨by simp, fun i hi => ?_⟩
  have hi' : i < cs.size := by simpa using hi
  obtain ⟨u, hu⟩ := Option.isSome_iff_exists.1 (h cs[i] (by simp))
  have h1 : (cs.toList.map up).toArray[i] = u := by simp [up_of hu]
  rw [h1]
  have h2 : cs.getD i undef = cs[i] := by simp [Array.getD, hi']
  rw [h2]
  exact upv_R hu
theorem bridge_struct {N base : Nat} {t : TypeId} {fs : Array Field} {v : Value} {d : DataW H} {p : List MemPlace} (hu : P.underlying t = some (.struct fs)) (hp : plainT P N t = true) (hv : Value.okWide P w .any base t v) (h : DataW.Trod enc P w 0 (fun _ => true) held t v d p) :
    R RM0 (upA v) v ∧ ∃ cs : List Value, upA v = .agg cs.toArray ∧ IRd P (heapOf w) N t cs := by
  simp only [Value.okWide, hu] at hv
  obtain ⟨cs, rfl, _, _⟩ := hv
  obtain ⟨fuel, h⟩ := h
  obtain ⟨h1, h2⟩ := bridge N t fuel _ _ hp h
  exact ⟨by rw [upA, R_agg]; exact ⟨cs, rfl, RA_up h1⟩, _, rfl, h2⟩
end
end Go.Ideal

-- IdealTy
set_option linter.unusedSimpArgs false
set_option linter.unusedVariables false
namespace Go.Ideal
open Go Go.RowKit
/-! ### Slices of structs among the arguments, as trees -/
theorem rep_rows {F : Mem} {b m : Nat} : ∀ {rows : List (List Tr)} {off : Nat}, (∀ (i : Nat) (row : List Tr), rows[i]? = some row → ∃ vs, rowM F b (off + i * m) m = some vs ∧ RepL F row vs) → RepR F b m rows off := by
  intro rows
  induction rows with
  | nil => intro off _; simp [RepR]
  | cons r rows ih =>
    intro off h
    simp only [RepR]
    refine ⟨by simpa using h 0 r rfl, ih fun i row hr => ?_⟩
    have := h (i + 1) row (by simpa using hr)
    rw [show off + (i + 1) * m = off + m + i * m by rw [Nat.add_mul]; omega] at this
    exact this
theorem slice_tree {α : Type} {P : Program} {h : IHp} {n m : Nat} {t e : TypeId} {v : Value} (D : α → List Tr) (W : α → Prop) (hu : P.underlying t = some (.slice e)) (cc : P.cellsOf e = m) (key : ∀ row, IRd P h n e row → ∃ a, RepL h.cell? (D a) row ∧ W a) (hd : IRd P h (n + 1) t [v]) : ∃ xs : List α, Rep h.cell? (.sl m (xs.map D)) v ∧ ∀ a ∈ xs, W a := by
  rw [IRd, hu] at hd
  rcases hd with h1 | ⟨a, l, c, h1, h2, h3, h5, h4⟩
  · cases h1
    refine ⟨[], ?_, fun p hp => by cases hp⟩
    rw [Rep]
    exact ⟨none, 0, 0, rfl, rfl, Nat.le_refl _, by decide, (fun d hd => by cases hd), rfl⟩
  · cases h1
    have key2 : ∀ i, i < c → ∃ x row, h.row a.block (a.off + i * m) m = some row ∧ RepL h.cell? (D x) row ∧ W x := by
      intro i hi
      obtain ⟨row, g1, g2⟩ := h4 i hi
      rw [cc] at g1
      obtain ⟨x, r, w⟩ := key row g2
      exact ⟨x, row, g1, r, w⟩
    by_cases hl : l = 0
    · subst hl
      refine ⟨[], ?_, fun p hp => by cases hp⟩
      rw [Rep]
      exact ⟨some a, 0, c, rfl, rfl, Nat.zero_le _, by unfold maxLen at h3; omega, (fun d hd => by cases hd; exact h5), by simp only [List.map_nil, RepR]⟩
    obtain ⟨x0, _⟩ := key2 0 (by omega)
    have hex : ∃ f : Nat → α, ∀ i, i < l → ∃ row, h.row a.block (a.off + i * m) m = some row ∧ RepL h.cell? (D (f i)) row ∧ W (f i) :=
      ⟨fun i => if hi : i < c then Classical.choose (key2 i hi) else x0, fun i hi => by
        have hic : i < c := by omega
        simp only [hic, dif_pos]
        exact Classical.choose_spec (key2 i hic)⟩
    obtain ⟨f, hf⟩ := hex
    refine ⟨(List.range l).map f, ?_, fun p hp => ?_⟩
    · rw [Rep]
      refine ⟨some a, l, c, rfl, by simp, h2, by unfold maxLen at h3; omega, fun d hd => by cases hd; exact h5, ?_⟩
      simp only
      refine rep_rows fun i row hr => ?_
      simp only [List.getElem?_map, Option.map_eq_some_iff] at hr
      obtain ⟨o, ⟨k, hk, rfl⟩, rfl⟩ := hr
      obtain ⟨hk1, rfl⟩ := List.getElem?_eq_some_iff.1 hk
      simp only [List.length_range] at hk1
      simp only [List.getElem_range]
      obtain ⟨row, r1, r2, _⟩ := hf i hk1
      exact ⟨row, by rw [← row_rowM]; exact r1, r2⟩
    · obtain ⟨i, hi, rfl⟩ := List.mem_map.1 hp
      obtain ⟨_, _, _, w⟩ := hf i (List.mem_range.1 hi)
      exact w
end Go.Ideal

-- IdealTz
set_option linter.unusedSimpArgs false
set_option linter.unusedVariables false
namespace Go.Ideal
open Go Go.RowKit
section
variable {H : Type} {enc : TypeId × Value → H} {P : Program} {w : World} {held : Bool}
end
end Go.Ideal

-- IdealUa
set_option linter.unusedSimpArgs false
set_option linter.unusedVariables false
namespace Go.Ideal
open Go Go.RowKit
variable {P : Program} {X : Cx} {E : Env} {σ : Nat → Tr} {B B' : Boxes} {ops : Array Oper} {K : TK} {l : List Oper} {d : Option Tmp} {ty : TypeId} {pos : String} {af : Array Edge} {H : List (Nat × Nat)} {F : Mem} {s : Nat → Value} {h : IHp} {held : Held}
/-! ### Loops over functions in functions that answer own memory -/
end Go.Ideal

-- IdealUb
set_option linter.unusedSimpArgs false
set_option linter.unusedVariables false
namespace Go.Ideal
open Go Go.RowKit
variable {P : Program} {X : Cx} {E : Env} {σ : Nat → Tr} {B B' : Boxes} {ops : Array Oper} {K : TK} {l : List Oper} {d : Option Tmp} {ty : TypeId} {pos : String} {af : Array Edge} {H : List (Nat × Nat)} {F : Mem} {s : Nat → Value} {h : IHp} {held : Held} {plan : List PStep} {ph : Bool}
/-! ### Slices that are made ahead of their time; strings made of bytes -/
instance VRL.flat0 : VRL (List.flatten []) := VRL.nil
instance VRL.flatS {r : List Tr} {rs : List (List Tr)} [x : VRL r] [y : VRL (List.flatten rs)] : VRL (List.flatten (r :: rs)) := ⟨fun F vs h v hv => by
  rw [List.flatten_cons] at h
  obtain ⟨p, q, rfl, h1, h2⟩ := h.split
  rcases List.mem_append.1 hv with hv | hv
  · exact x.eq F p h1 v hv
  · exact y.eq F q h2 v hv⟩
/-- rows of bytes, and the string of them -/
class StrOf (rows : List (List Tr)) (s : outParam ByteArray) : Prop where eq : ∃ vs : List Value, rows.flatten = vs.map Tr.v ∧ bytesStr vs .empty = some s
instance {n : Int} : StrOf [[.v (.int .u8 n)]] (ByteArray.empty.push (UInt8.ofNat n.toNat)) := ⟨[.int .u8 n], rfl, rfl⟩
theorem WS_bts {l : List Oper} {K : SK} {x : Operand} {src dst e : TypeId} {b n c : Nat} {vs : List Value} {r : ByteArray} (e1 : EvalIs s x (.slice (some (ad b 0)) n c)) [u : UnderIs P src (.slice e)] [u1 : UnderIs P dst .string] [u2 : UnderIs P e (.int .u8)] (hr : h.row b 0 n = some vs) (hb : bytesStr vs .empty = some r)
    (k : WS P E ops K l (putS s d (.string r)) h) : WS P E ops K (⟨d, .convert src dst x, ty, pos, af, none⟩ :: l) s h := by
  have g1 := ev_eq (E := E) (h := h) (x := x) (s := s)
  have hne : (src == dst) = false := by
    cases hs : src == dst with
    | false => rfl
    | true =>
      have : src = dst := by simpa using hs
      subst this
      have h1 := u.eq
      rw [u1.eq] at h1
      cases h1
  have hrow : ibtsRow P h src dst (.slice (some (ad b 0)) n c) = some (b, 0, vs) := by
    simp only [ibtsRow, Option.isNone_none, if_true, u.eq, u1.eq, u2.eq, hr, Option.map_some]
  refine WS_heap rfl (v := .string r) (h' := h) ?_ k
  simp only [iheap, g1, iconv, hne, Bool.false_and, Bool.false_eq_true, if_false, hrow, hb, Option.map_some]
instance (priority := 60) Pu.bts {x : Operand} {src dst e : TypeId} {b n c bt : Nat} {bx : Bool} {rows : List (List Tr)} {r : ByteArray} [e1 : TEval σ x (.v (.slice (some (ad b 0)) n c))] [u : UnderIs P src (.slice e)] [u1 : UnderIs P dst .string] [u2 : UnderIs P e (.int .u8)] [bi : BoxIs B b (.arr 1 rows bt bx)] [rx : RealX rows bx] [ln : LenT rows n] [st : StrOf rows r] : Pu P σ B (.convert src dst x) (.v (.string r)) := ⟨fun {X F s h} rr {E ops K l d ty pos af} k => by
  obtain ⟨vs, h1, h2⟩ := st.eq
  have hb := rr.boxOf bi
  have hb' := hb
  simp only [BoxRep] at hb
  obtain ⟨us, h3, h4⟩ := rx.even hb'
  have hus : us = vs := by
    rw [h1] at h3
    have : ∀ (vs us : List Value), RepL F (vs.map Tr.v) us → us = vs := by
      intro vs
      induction vs with
      | nil => intro us h; simp only [List.map_nil, RepL] at h; exact h
      | cons v vs ih =>
        intro us h
        simp only [List.map_cons, RepL, Rep] at h
        obtain ⟨w, ws, rfl, rfl, h5⟩ := h
        rw [ih ws h5]
    exact this vs us h3
  subst hus
  have hlen : us.length = n := by
    have := h3.len
    rw [flat_len hb.1, Nat.mul_one, ln.eq] at this
    exact this
  have hrow : h.row b 0 n = some us := by
    have := row_obj (n := us.length) h4 0 (by omega)
    rw [hlen] at this
    have h9 : us.take n = us := by rw [← hlen, List.take_length]
    simp only [List.drop_zero, h9] at this
    exact this
  exact WS_bts (e1.is rr.slot) hrow h2 (k _ (rep_v _))⟩
end Go.Ideal

-- IdealUc
set_option linter.unusedSimpArgs false
set_option linter.unusedVariables false
namespace Go.Ideal
open Go Go.RowKit
variable {P : Program} {X : Cx} {E : Env} {σ : Nat → Tr} {B B' : Boxes} {ops : Array Oper} {K : TK} {l : List Oper} {d : Option Tmp} {ty : TypeId} {pos : String} {af : Array Edge} {H : List (Nat × Nat)} {F : Mem} {s : Nat → Value} {h : IHp} {held : Held} {plan : List PStep} {ph : Bool}
/-! ### x[i:j] of a slice that is read alone -/
end Go.Ideal

-- IdealFl
set_option linter.unusedSimpArgs false
set_option linter.unusedVariables false
namespace Go.Ideal
open Go Ieee
/-! ### Whole numbers as floats: exact below 2^53 -/
theorem shl_eq (a b : Nat) : a <<< b = a * 2 ^ b := Nat.shiftLeft_eq a b
theorem log2_mul_pow {n k : Nat} (h : n ≠ 0) : (n * 2 ^ k).log2 = n.log2 + k := by
  have hp : (n * 2 ^ k) ≠ 0 := Nat.mul_ne_zero h (Nat.pos_iff_ne_zero.1 (Nat.two_pow_pos k))
  rw [Nat.log2_eq_iff hp]
  have h1 := (Nat.log2_eq_iff h).1 rfl
  refine ⟨?_, ?_⟩
  · rw [Nat.pow_add]; exact Nat.mul_le_mul_right _ h1.1
  · rw [show n.log2 + k + 1 = (n.log2 + 1) + k by omega, Nat.pow_add]; exact Nat.mul_lt_mul_of_pos_right h1.2 (Nat.two_pow_pos k)
theorem log2_lt53 {n : Nat} (h : n < 2 ^ 53) : n.log2 ≤ 52 := by
  by_cases h0 : n = 0
  · subst h0; decide
  · have h1 := (Nat.log2_eq_iff h0).1 rfl
    by_cases h2 : n.log2 ≤ 52
    · exact h2
    · exfalso
      have h3 : 2 ^ 53 ≤ 2 ^ n.log2 := Nat.pow_le_pow_right (by decide) (by omega)
      omega
/-- nothing is dropped -/
theorem cut_exact (neg : Bool) (n d : Nat) (h : d ≤ (n * 2 ^ d).log2 + 2) : Toward.even.cut neg (n * 2 ^ d) d = n := by
  unfold Toward.cut
  rw [Nat.min_eq_left h]
  have hg : 1 <<< d = 2 ^ d := by rw [shl_eq, Nat.one_mul]
  have hp := Nat.two_pow_pos d
  simp only [hg, Nat.mul_div_cancel _ hp, Nat.mul_mod_left, Nat.mul_zero]
  have h1 : decide (2 ^ d < 0) = false := by simp
  have h2 : (2 ^ d == 0) = false := by simp
  simp [h2]
/-- the bits of a whole number -/
def rungI (n : Nat) : Nat := if n = 0 then 0 else (1074 + n.log2 - 52) * 2 ^ 52 + n * 2 ^ (52 - n.log2)
def flb (n : Int) : Nat := double.word (decide (n < 0)) (rungI n.natAbs)
theorem least_double : double.leastPlace = -1074 := by decide
theorem nearest_whole (neg : Bool) {n m : Nat} {p : Int} (hn : n < 2 ^ 53) (h0 : n ≠ 0) (hp : p ≤ 0) (hm : m = n * 2 ^ (-p).toNat) : double.nearest neg m p = double.word neg (rungI n) := by
  have hL := log2_lt53 hn
  have hm0 : m ≠ 0 := by rw [hm]; exact Nat.mul_ne_zero h0 (Nat.pos_iff_ne_zero.1 (Nat.two_pow_pos _))
  have hlog : m.log2 = n.log2 + (-p).toNat := by rw [hm]; exact log2_mul_pow h0
  have hfb : (double.fractionBits : Int) = 52 := rfl
  unfold Format.nearest
  rw [if_neg hm0]
  simp only [hfb, least_double, hlog]
  have hlast : max (p + ((n.log2 + (-p).toNat : Nat) : Int) - 52) (-1074) = (n.log2 : Int) - 52 := by omega
  rw [hlast]
  have hkept : Toward.even.cut neg (m <<< (p - ((n.log2 : Int) - 52)).toNat) (((n.log2 : Int) - 52) - p).toNat = n * 2 ^ (52 - n.log2) := by
    rw [shl_eq, hm]
    by_cases hc : (-p).toNat ≤ 52 - n.log2
    · have h1 : (((n.log2 : Int) - 52) - p).toNat = 0 := by omega
      have h2 : (p - ((n.log2 : Int) - 52)).toNat = 52 - n.log2 - (-p).toNat := by omega
      rw [h1, h2, Nat.mul_assoc, ← Nat.pow_add, show (-p).toNat + (52 - n.log2 - (-p).toNat) = 52 - n.log2 by omega]
      have := cut_exact neg (n * 2 ^ (52 - n.log2)) 0 (by omega)
      simpa using this
    · have h1 : (p - ((n.log2 : Int) - 52)).toNat = 0 := by omega
      have h2 : (((n.log2 : Int) - 52) - p).toNat = (-p).toNat - (52 - n.log2) := by omega
      rw [h1, h2, Nat.pow_zero, Nat.mul_one]
      have h3 : n * 2 ^ (-p).toNat = n * 2 ^ (52 - n.log2) * 2 ^ ((-p).toNat - (52 - n.log2)) := by
        rw [Nat.mul_assoc, ← Nat.pow_add, show 52 - n.log2 + ((-p).toNat - (52 - n.log2)) = (-p).toNat by omega]
      rw [h3]
      refine cut_exact neg _ _ ?_
      rw [← h3, log2_mul_pow h0]
      omega
  rw [hkept]
  congr 1
  have hb : double.binade = 2 ^ 52 := rfl
  have hi : double.infRung = (2 ^ 11 - 1) * 2 ^ 52 := rfl
  have h1 : ((n.log2 : Int) - 52 - -1074).toNat = 1074 + n.log2 - 52 := by omega
  rw [h1, hb, hi]
  have hkb : n * 2 ^ (52 - n.log2) < 2 ^ 53 := by
    have h2 := ((Nat.log2_eq_iff h0).1 rfl).2
    have h3 : n * 2 ^ (52 - n.log2) < 2 ^ (n.log2 + 1) * 2 ^ (52 - n.log2) := Nat.mul_lt_mul_of_pos_right h2 (Nat.two_pow_pos _)
    rw [← Nat.pow_add, show n.log2 + 1 + (52 - n.log2) = 53 by omega] at h3
    exact h3
  unfold rungI
  rw [if_neg h0]
  have h4 : (1074 + n.log2 - 52) * 2 ^ 52 ≤ 1074 * 2 ^ 52 := Nat.mul_le_mul_right _ (by omega)
  have h5 : (2 : Nat) ^ 53 = 2 * 2 ^ 52 := by rw [Nat.pow_succ, Nat.mul_comm]
  have h6 : (2 : Nat) ^ 11 = 2048 := rfl
  rw [h5] at hkb
  rw [h6]
  clear hkept hlast hlog hm hm0 hn hi hb h1
  generalize (2 : Nat) ^ 52 = B at *
  generalize (1074 + n.log2 - 52) * B = C at *
  generalize n * 2 ^ (52 - n.log2) = D at *
  have h7 : C + D ≤ (2048 - 1) * B := by omega
  exact Nat.min_eq_left h7
/-- what the bits of a whole number stand for -/
theorem read_flb {n : Int} (h : n.natAbs < 2 ^ 53) : ∃ (m : Nat) (p : Int), double.read (flb n) = .number (decide (n < 0)) m p ∧ p ≤ 0 ∧ m = n.natAbs * 2 ^ (-p).toNat := by
  by_cases h0 : n = 0
  · subst h0
    exact ⟨0, -1074, by decide +kernel, by decide, by rw [Int.natAbs_zero, Nat.zero_mul]⟩
  obtain ⟨B, hB⟩ : ∃ B : Nat, B = 2 ^ 52 := ⟨_, rfl⟩
  have hB0 : 0 < B := by rw [hB]; exact Nat.two_pow_pos _
  have hsw : double.signWeight = 2048 * B := by rw [hB]; decide +kernel
  have hb : double.binade = B := by rw [hB]; decide +kernel
  have hi : double.infRung = 2047 * B := by rw [hB]; decide +kernel
  have hn0 : n.natAbs ≠ 0 := by omega
  have hL := log2_lt53 h
  obtain ⟨l1, l2⟩ := (Nat.log2_eq_iff hn0).1 rfl
  obtain ⟨N, hN⟩ : ∃ N, N = n.natAbs := ⟨_, rfl⟩
  rw [← hN] at hn0 hL l1 l2 ⊢
  clear h
  obtain ⟨K, hK⟩ : ∃ K, K = N * 2 ^ (52 - N.log2) := ⟨_, rfl⟩
  have k1 : B ≤ K := by
    have h3 : 2 ^ N.log2 * 2 ^ (52 - N.log2) ≤ N * 2 ^ (52 - N.log2) := Nat.mul_le_mul_right _ l1
    rw [← Nat.pow_add, show N.log2 + (52 - N.log2) = 52 by omega, ← hB, ← hK] at h3
    exact h3
  have k2 : K < 2 * B := by
    have h3 : N * 2 ^ (52 - N.log2) < 2 ^ (N.log2 + 1) * 2 ^ (52 - N.log2) := Nat.mul_lt_mul_of_pos_right l2 (Nat.two_pow_pos _)
    rw [← Nat.pow_add, show N.log2 + 1 + (52 - N.log2) = 52 + 1 by omega, Nat.pow_succ, ← hB, ← hK, Nat.mul_comm] at h3
    exact h3
  obtain ⟨A, hA⟩ : ∃ A, A = 1074 + N.log2 - 52 := ⟨_, rfl⟩
  have hA2 : 1022 ≤ A ∧ A ≤ 1074 := by omega
  have hR : rungI N = (A + 1) * B + (K - B) := by
    unfold rungI
    rw [if_neg hn0, ← hA, ← hB, ← hK, Nat.add_mul, Nat.one_mul]
    omega
  have hRlt : rungI N < 2047 * B := by
    rw [hR]
    have h4 : (A + 1) * B ≤ 1075 * B := Nat.mul_le_mul_right _ (by omega)
    omega
  have hRge : ¬ rungI N < B := by
    rw [hR]
    have h4 : 1 * B ≤ (A + 1) * B := Nat.mul_le_mul_right _ (by omega)
    omega
  have hdiv : rungI N / B = A + 1 := by
    rw [hR, Nat.mul_comm, Nat.mul_add_div hB0, Nat.div_eq_of_lt (by omega), Nat.add_zero]
  have hmod : rungI N % B = K - B := by
    rw [hR, Nat.mul_comm, Nat.mul_add_mod, Nat.mod_eq_of_lt (by omega)]
  have hR63 : rungI N < 2048 * B := by omega
  have hw : flb n = (if decide (n < 0) then 2048 * B + rungI N else rungI N) := by
    unfold flb Format.word
    rw [hsw, ← hN]
  have hS0 : 0 < 2048 * B := by omega
  have hneg : (flb n / (2048 * B) % 2 == 1) = decide (n < 0) := by
    rw [hw]
    by_cases hs : n < 0
    · simp only [hs, decide_true, if_true]
      have : (2048 * B + rungI N) / (2048 * B) = 1 := by
        rw [Nat.add_div_left _ hS0, Nat.div_eq_of_lt hR63]
      rw [this]; rfl
    · simp only [hs, decide_false, Bool.false_eq_true, if_false]
      rw [Nat.div_eq_of_lt hR63]; rfl
  have hrung : flb n % (2048 * B) = rungI N := by
    rw [hw]
    by_cases hs : n < 0
    · simp only [hs, decide_true, if_true]
      rw [Nat.add_mod_left, Nat.mod_eq_of_lt hR63]
    · simp only [hs, decide_false, Bool.false_eq_true, if_false]
      exact Nat.mod_eq_of_lt hR63
  refine ⟨K, (N.log2 : Int) - 52, ?_, by omega, ?_⟩
  · unfold Format.read
    simp only [hsw, hb, hi, least_double, hrung, hneg, hRge, hRlt, if_false, if_true, hdiv, hmod]
    congr 1
    · omega
    · omega
  · rw [hK, show (-((N.log2 : Int) - 52)).toNat = 52 - N.log2 by omega]
/-- the datum stands for the whole number n, with the sign s -/
def DI (s : Bool) (d : Datum) (n : Int) : Prop := ∃ (m : Nat) (p : Int), d = .number s m p ∧ p ≤ 0 ∧ m = n.natAbs * 2 ^ (-p).toNat ∧ (n ≠ 0 → s = decide (n < 0))
theorem DI.flb {n : Int} (h : n.natAbs < 2 ^ 53) : DI (decide (n < 0)) (double.read (flb n)) n := by
  obtain ⟨m, p, h1, h2, h3⟩ := read_flb h
  exact ⟨m, p, h1, h2, h3, fun _ => rfl⟩
theorem DI.opposite {s : Bool} {d : Datum} {n : Int} (h : DI s d n) : DI (!s) d.opposite (-n) := by
  obtain ⟨m, p, rfl, h2, h3, h4⟩ := h
  refine ⟨m, p, rfl, h2, by rw [h3, Int.natAbs_neg], fun h0 => ?_⟩
  have h5 : n ≠ 0 := by omega
  rw [h4 h5]
  by_cases h6 : n < 0
  · have : ¬ -n < 0 := by omega
    rw [decide_eq_true h6, decide_eq_false this]; rfl
  · have : -n < 0 := by omega
    rw [decide_eq_false h6, decide_eq_true this]; rfl
theorem signed_val {s : Bool} {n : Int} {a k : Nat} (h : n ≠ 0 → s = decide (n < 0)) : signed s (n.natAbs * 2 ^ a) k = n * ((2 ^ (a + k) : Nat) : Int) := by
  unfold signed
  rw [shl_eq, Nat.mul_assoc, ← Nat.pow_add]
  by_cases h0 : n = 0
  · subst h0; simp
  · rw [h h0]
    by_cases h1 : n < 0
    · simp only [h1, decide_true, if_true, Int.natCast_mul]
      rw [show ((n.natAbs : Nat) : Int) = -n by omega, Int.neg_mul, Int.neg_neg]
    · simp only [h1, decide_false, Bool.false_eq_true, if_false, Int.natCast_mul]
      rw [show ((n.natAbs : Nat) : Int) = n by omega]
def zeroF (s : Bool) : Nat := double.word s 0
theorem zeroF_false : zeroF false = flb 0 := by decide +kernel
theorem write_whole {s : Bool} {m : Nat} {p : Int} {n : Int} (h : n.natAbs < 2 ^ 53) (hp : p ≤ 0) (hm : m = n.natAbs * 2 ^ (-p).toNat) (hs : n ≠ 0 → s = decide (n < 0)) : double.write (.number s m p) = if n = 0 then zeroF s else flb n := by
  show double.nearest s m p = _
  by_cases h0 : n = 0
  · subst h0
    rw [if_pos rfl, hm, Int.natAbs_zero, Nat.zero_mul]
    unfold Format.nearest zeroF
    rw [if_pos rfl]
  · rw [if_neg h0, nearest_whole s h (by omega) hp hm, hs h0]
    rfl
theorem sum_val {s t : Bool} {d e : Datum} {a b : Int} (hd : DI s d a) (he : DI t e b) (h : (a + b).natAbs < 2 ^ 53) : (d.sum e).map double.write = some (if a + b = 0 then zeroF (s && t) else flb (a + b)) := by
  obtain ⟨m, i, rfl, h2, h3, h4⟩ := hd
  obtain ⟨n, j, rfl, k2, k3, k4⟩ := he
  simp only [Datum.sum, Option.map_some]
  have hb : min i j ≤ 0 := by omega
  have e1 : signed s m (i - min i j).toNat = a * ((2 ^ (-(min i j)).toNat : Nat) : Int) := by
    rw [h3, signed_val h4]
    congr 3
    have : (-i).toNat + (i - min i j).toNat = (-(min i j)).toNat := by omega
    rw [this]
  have e2 : signed t n (j - min i j).toNat = b * ((2 ^ (-(min i j)).toNat : Nat) : Int) := by
    rw [k3, signed_val k4]
    congr 3
    have : (-j).toNat + (j - min i j).toNat = (-(min i j)).toNat := by omega
    rw [this]
  rw [e1, e2, ← Int.add_mul]
  have hP : 0 < 2 ^ (-(min i j)).toNat := Nat.two_pow_pos _
  have hw := write_whole (s := if (a + b) * ((2 ^ (-(min i j)).toNat : Nat) : Int) = 0 then s && t else decide ((a + b) * ((2 ^ (-(min i j)).toNat : Nat) : Int) < 0)) (m := ((a + b) * ((2 ^ (-(min i j)).toNat : Nat) : Int)).natAbs) (p := min i j) (n := a + b) h hb (by rw [Int.natAbs_mul, Int.natAbs_natCast])
  generalize (2 ^ (-(min i j)).toNat : Nat) = P at hP hw ⊢
  have hz : (a + b) * (P : Int) = 0 ↔ a + b = 0 := by
    constructor
    · intro h5
      rcases Int.mul_eq_zero.1 h5 with h6 | h6
      · exact h6
      · omega
    · intro h5; rw [h5, Int.zero_mul]
  have hn : (a + b) * (P : Int) < 0 ↔ a + b < 0 := by
    constructor
    · intro h5
      by_cases h6 : a + b < 0
      · exact h6
      · have := Int.mul_nonneg (show 0 ≤ a + b by omega) (show (0 : Int) ≤ P by omega); omega
    · intro h5; exact Int.mul_neg_of_neg_of_pos h5 (by omega)
  simp only [hz, hn] at hw ⊢
  rw [hw (fun h0 => by rw [if_neg h0])]
  by_cases h0 : a + b = 0
  · simp [h0]
  · simp [h0]
theorem fl_add {a b : Int} (ha : a.natAbs < 2 ^ 53) (hb : b.natAbs < 2 ^ 53) (h : (a + b).natAbs < 2 ^ 53) : double.add (flb a) (flb b) = some (flb (a + b)) := by
  unfold Format.add
  rw [sum_val (DI.flb ha) (DI.flb hb) h]
  by_cases h0 : a + b = 0
  · rw [if_pos h0, h0]
    have : (decide (a < 0) && decide (b < 0)) = false := by
      by_cases h1 : a < 0
      · have : ¬ b < 0 := by omega
        simp [this]
      · simp [h1]
    rw [this, zeroF_false]
  · rw [if_neg h0]
theorem fl_sub {a b : Int} (ha : a.natAbs < 2 ^ 53) (hb : b.natAbs < 2 ^ 53) (h : (a - b).natAbs < 2 ^ 53) : double.sub (flb a) (flb b) = some (flb (a - b)) := by
  unfold Format.sub
  rw [sum_val (DI.flb ha) (DI.flb hb).opposite (by rw [← Int.sub_eq_add_neg]; exact h), ← Int.sub_eq_add_neg]
  by_cases h0 : a - b = 0
  · rw [if_pos h0, h0]
    have : (decide (a < 0) && !decide (b < 0)) = false := by
      by_cases h1 : a < 0
      · have : b < 0 := by omega
        simp [this]
      · simp [h1]
    rw [this, zeroF_false]
  · rw [if_neg h0]
/-- a product of nought may have a sign -/
theorem fl_mul {a b : Int} (ha : a.natAbs < 2 ^ 53) (hb : b.natAbs < 2 ^ 53) (h : (a * b).natAbs < 2 ^ 53) : double.mul (flb a) (flb b) = some (if a * b = 0 then zeroF (decide (a < 0) ^^ decide (b < 0)) else flb (a * b)) := by
  obtain ⟨m, i, e1, h2, h3, _⟩ := DI.flb ha
  obtain ⟨n, j, e2, k2, k3, _⟩ := DI.flb hb
  unfold Format.mul
  rw [e1, e2]
  simp only [Datum.product, Option.map_some]
  rw [write_whole (n := a * b) h (by omega) ?_ ?_]
  · rw [h3, k3, Int.natAbs_mul]
    have : (-(i + j)).toNat = (-i).toNat + (-j).toNat := by omega
    rw [this, Nat.pow_add]
    simp only [Nat.mul_assoc, Nat.mul_comm, Nat.mul_left_comm]
  · intro h0
    have ha0 : a ≠ 0 := fun h => h0 (by rw [h, Int.zero_mul])
    have hb0 : b ≠ 0 := fun h => h0 (by rw [h, Int.mul_zero])
    by_cases h1 : a < 0 <;> by_cases h5 : b < 0
    · have := Int.mul_pos_of_neg_of_neg h1 h5
      have h6 : ¬ a * b < 0 := by omega
      simp [h1, h5, h6]
    · have := Int.mul_neg_of_neg_of_pos h1 (show 0 < b by omega)
      simp [h1, h5, this]
    · have := Int.mul_neg_of_pos_of_neg (show 0 < a by omega) h5
      simp [h1, h5, this]
    · have := Int.mul_pos (show 0 < a by omega) (show 0 < b by omega)
      have h6 : ¬ a * b < 0 := by omega
      simp [h1, h5, h6]
theorem fl_add0 (s : Bool) : double.add (zeroF s) (flb 0) = some (flb 0) := by cases s <;> decide +kernel
theorem rungI_lt {n : Nat} (h : n < 2 ^ 53) : rungI n < 2 ^ 63 := by
  have h1 : (2 : Nat) ^ 63 = 2048 * 2 ^ 52 := by decide +kernel
  rw [h1]
  obtain ⟨B, hB⟩ : ∃ B : Nat, B = 2 ^ 52 := ⟨_, rfl⟩
  unfold rungI
  split
  · have := Nat.two_pow_pos 52; omega
  · rename_i h0
    have hL := log2_lt53 h
    obtain ⟨l1, l2⟩ := (Nat.log2_eq_iff h0).1 rfl
    have h3 : n * 2 ^ (52 - n.log2) < 2 ^ (n.log2 + 1) * 2 ^ (52 - n.log2) := Nat.mul_lt_mul_of_pos_right l2 (Nat.two_pow_pos _)
    rw [← Nat.pow_add, show n.log2 + 1 + (52 - n.log2) = 52 + 1 by omega, Nat.pow_succ, ← hB] at h3
    rw [← hB]
    have h4 : (1074 + n.log2 - 52) * B ≤ 1074 * B := Nat.mul_le_mul_right _ (by omega)
    omega
theorem sw_double : double.signWeight = 2 ^ 63 := by decide +kernel
theorem flb_pos {n : Int} (h : 0 ≤ n) : flb n = rungI n.natAbs := by
  unfold flb Format.word
  rw [decide_eq_false (by omega)]; rfl
theorem flb_neg {n : Int} (h : n < 0) : flb n = 2 ^ 63 + rungI n.natAbs := by
  unfold flb Format.word
  rw [decide_eq_true h, sw_double]; rfl
theorem xor_top {r : Nat} (h : r < 2 ^ 63) : r ^^^ 2 ^ 63 = 2 ^ 63 + r ∧ (2 ^ 63 + r) ^^^ 2 ^ 63 = r := by
  have key : r ^^^ 2 ^ 63 = 2 ^ 63 + r := by
    refine Nat.eq_of_testBit_eq fun i => ?_
    rw [Nat.testBit_xor, Nat.testBit_two_pow]
    by_cases hi : i = 63
    · subst hi
      rw [Nat.testBit_two_pow_add_eq, Nat.testBit_lt_two_pow h]; simp
    · have h63 : ¬ 63 = i := fun x => hi x.symm
      by_cases h2 : i < 63
      · rw [Nat.testBit_two_pow_add_gt h2]; simp [h63]
      · have h3 : r < 2 ^ i := Nat.lt_of_lt_of_le h (Nat.pow_le_pow_right (by decide) (by omega))
        have h4 : 2 ^ 63 + r < 2 ^ i := by
          have : 2 ^ 64 ≤ 2 ^ i := Nat.pow_le_pow_right (by decide) (by omega)
          omega
        rw [Nat.testBit_lt_two_pow h3, Nat.testBit_lt_two_pow h4]; simp [h63]
  refine ⟨key, ?_⟩
  rw [← key, Nat.xor_assoc, Nat.xor_self, Nat.xor_zero]
theorem fl_neg {n : Int} (h : n.natAbs < 2 ^ 53) : Op.negFloat .f64 (flb n) = if n = 0 then zeroF true else flb (-n) := by
  have hx := xor_top (rungI_lt h)
  show flb n ^^^ 2 ^ 63 = _
  by_cases h0 : n = 0
  · subst h0; rw [if_pos rfl]; decide +kernel
  · rw [if_neg h0]
    by_cases h1 : n < 0
    · rw [flb_neg h1, hx.2, flb_pos (by omega), Int.natAbs_neg]
    · rw [flb_pos (by omega), hx.1, flb_neg (by omega), Int.natAbs_neg]
theorem order_val {s t : Bool} {d e : Datum} {a b : Int} (hd : DI s d a) (he : DI t e b) : d.order e = some (compare a b) := by
  obtain ⟨m, i, rfl, h2, h3, h4⟩ := hd
  obtain ⟨n, j, rfl, k2, k3, k4⟩ := he
  simp only [Datum.order]
  have f1 : signed s m (i - min i j).toNat = a * ((2 ^ (-(min i j)).toNat : Nat) : Int) := by
    rw [h3, signed_val h4]
    congr 3
    have : (-i).toNat + (i - min i j).toNat = (-(min i j)).toNat := by omega
    rw [this]
  have f2 : signed t n (j - min i j).toNat = b * ((2 ^ (-(min i j)).toNat : Nat) : Int) := by
    rw [k3, signed_val k4]
    congr 3
    have : (-j).toNat + (j - min i j).toNat = (-(min i j)).toNat := by omega
    rw [this]
  rw [f1, f2]
  have hP : 0 < 2 ^ (-(min i j)).toNat := Nat.two_pow_pos _
  generalize (2 ^ (-(min i j)).toNat : Nat) = P at hP ⊢
  have hP' : (0 : Int) < P := by omega
  congr 1
  rcases Int.lt_trichotomy a b with h | h | h
  · rw [Int.compare_eq_lt.2 h, Int.compare_eq_lt.2 (Int.mul_lt_mul_of_pos_right h hP')]
  · rw [h]; simp
  · rw [Int.compare_eq_gt.2 h, Int.compare_eq_gt.2 (Int.mul_lt_mul_of_pos_right h hP')]
theorem DI.zero (s : Bool) : DI s (double.read (zeroF s)) 0 := ⟨0, -1074, by cases s <;> decide +kernel, by decide, by rw [Int.natAbs_zero, Nat.zero_mul], fun h => absurd rfl h⟩
theorem integral_whole {n : Int} (h : n.natAbs < 2 ^ 53) : (double.read (flb n)).integral .zero = .number (decide (n < 0)) n.natAbs 0 := by
  obtain ⟨m, p, e1, h2, h3⟩ := read_flb h
  rw [e1]
  simp only [Datum.integral]
  congr 1
  rw [show p.toNat = 0 by omega, Nat.shiftLeft_zero, h3]
  unfold Toward.cut
  by_cases h0 : n = 0
  · subst h0
    simp
  · have hn0 : n.natAbs ≠ 0 := by omega
    have hd : (-p).toNat ≤ (n.natAbs * 2 ^ (-p).toNat).log2 + 2 := by rw [log2_mul_pow hn0]; omega
    rw [Nat.min_eq_left hd]
    have hp := Nat.two_pow_pos (-p).toNat
    simp only [shl_eq, Nat.one_mul, Nat.mul_div_cancel _ hp]
    rfl
theorem fl_toInt {n : Int} (h : n.natAbs < 2 ^ 53) : (double.read (flb n)).toInt .zero = some n := by
  unfold Datum.toInt
  rw [integral_whole h]
  simp only
  have := signed_val (s := decide (n < 0)) (n := n) (a := 0) (k := 0) (fun _ => rfl)
  simp only [Nat.pow_zero, Nat.mul_one] at this
  rw [this]; simp
theorem fl_trunc {n : Int} (h : n.natAbs < 2 ^ 53) : double.write ((double.read (flb n)).integral .zero) = flb n := by
  rw [integral_whole h, write_whole (n := n) h (Int.le_refl _) (by simp) (fun _ => rfl)]
  split
  · rename_i h0; subst h0; exact zeroF_false
  · rfl
theorem fl_ofInt {n : Int} (h : n.natAbs < 2 ^ 53) : FloatKind.f64.nearest n = flb n := by
  show double.write (.number (decide (n < 0)) n.natAbs 0) = _
  rw [write_whole (n := n) h (Int.le_refl _) (by simp) (fun _ => rfl)]
  split
  · rename_i h0; subst h0; exact zeroF_false
  · rfl
end Go.Ideal

-- IdealFm
set_option linter.unusedSimpArgs false
set_option linter.unusedVariables false
namespace Go.Ideal
open Go Go.RowKit
section
variable {P : Program} {E : Env} {s : Nat → Value} {h : IHp} {ops : Array Oper} {K : SK} {l : List Oper} {d : Option Tmp} {ty : TypeId} {pos : String} {af : Array Edge}
/-! ### Floats and complex numbers at level 2 -/
theorem notNil_float {y : Operand} {k : FloatKind} {b : Nat} [e2 : EvalIs s y (.float k b)] (h : IHp) : isNilConst y = false := by
  cases y with
  | const c => have h2 := e2.eq h 0 [] false; simp only [St.eval] at h2; subst h2; rfl
  | _ => rfl
theorem guard_float {op : BinOp} {t : TypeId} {x y : Operand} {j k : FloatKind} {a b : Nat} (f : Sem Value) : (do eqGuard op t x y (.float j a) (.float k b); f) = f := by
  cases op <;> rfl
theorem WS_farith {op : BinOp} {t yt : TypeId} {x y : Operand} {u v r : Nat} [e1 : EvalIs s x (.float .f64 u)] [e2 : EvalIs s y (.float .f64 v)]
    (hr : (op = .add ∧ Ieee.double.add u v = some r) ∨ (op = .sub ∧ Ieee.double.sub u v = some r) ∨ (op = .mul ∧ Ieee.double.mul u v = some r)) (kk : WS P E ops K l (putS s d (.float .f64 r)) h) :
    WS P E ops K (⟨d, .binOp op t x y yt, ty, pos, af, none⟩ :: l) s h := by
  refine WS_pure rfl rfl (ipure_bin (ev_eq (E := E) (h := h) (x := x)) (ev_eq (E := E) (h := h) (x := y)) rfl rfl (notNil_float (s := s) (y := y) h) h ?_ rfl) kk
  rw [guard_float]
  rcases hr with ⟨rfl, hr⟩ | ⟨rfl, hr⟩ | ⟨rfl, hr⟩
  · have : (FloatKind.f64.format.add u v) = some r := hr
    simp [binOp, Op.floatArith, this, pureOf, bind, pure, Sem.bind]
  · have : (FloatKind.f64.format.sub u v) = some r := hr
    simp [binOp, Op.floatArith, this, pureOf, bind, pure, Sem.bind]
  · have : (FloatKind.f64.format.mul u v) = some r := hr
    simp [binOp, Op.floatArith, this, pureOf, bind, pure, Sem.bind]
theorem WS_fcmp {op : BinOp} {t yt : TypeId} {x y : Operand} {u v : Nat} {a b : Int} {r : Bool} [e1 : EvalIs s x (.float .f64 u)] [e2 : EvalIs s y (.float .f64 v)] (ho : Ieee.double.order u v = some (compare a b)) (hr : icmp op a b = some r) (kk : WS P E ops K l (putS s d (.bool r)) h) :
    WS P E ops K (⟨d, .binOp op t x y yt, ty, pos, af, none⟩ :: l) s h := by
  refine WS_pure rfl rfl (ipure_bin (ev_eq (E := E) (h := h) (x := x)) (ev_eq (E := E) (h := h) (x := y)) rfl rfl (notNil_float (s := s) (y := y) h) h ?_ rfl) kk
  rw [guard_float]
  have ho' : FloatKind.f64.format.order u v = some (compare a b) := ho
  have c1 : (some (compare a b) == some Ordering.eq) = decide (a = b) := by
    by_cases hab : a = b
    · subst hab; simp
    · have : compare a b ≠ .eq := fun x => hab (Int.compare_eq_eq.1 x)
      cases hc : compare a b <;> simp_all
  have c2 : (some (compare a b) == some Ordering.lt) = decide (a < b) := by
    by_cases hab : a < b
    · rw [Int.compare_eq_lt.2 hab]; simp [hab]
    · have : compare a b ≠ .lt := fun x => hab (Int.compare_eq_lt.1 x)
      cases hc : compare a b <;> simp_all
  have c3 : (some (compare a b) == some Ordering.gt) = decide (b < a) := by
    by_cases hab : b < a
    · rw [Int.compare_eq_gt.2 hab]; simp [hab]
    · have : compare a b ≠ .gt := fun x => hab (Int.compare_eq_gt.1 x)
      cases hc : compare a b <;> simp_all
  cases op <;> simp only [icmp, Option.some.injEq, reduceCtorEq] at hr <;> subst hr <;> simp only [binOp, Op.floatCmp, ho', ne_eq, not_true_eq_false, if_false, bne, c1, c2, c3, pureOf, pure]
  · congr 2
    rw [Bool.eq_iff_iff]; simp only [Bool.or_eq_true, decide_eq_true_eq]; omega
  · congr 2
    rw [Bool.eq_iff_iff]; simp only [Bool.or_eq_true, decide_eq_true_eq]; omega
theorem WS_fneg {x : Operand} {t : TypeId} {u : Nat} [e : EvalIs s x (.float .f64 u)] (k : WS P E ops K l (putS s d (.float .f64 (Op.negFloat .f64 u))) h) : WS P E ops K (⟨d, .unOp .neg t x, ty, pos, af, none⟩ :: l) s h := by
  refine WS_pure rfl rfl ?_ k
  have := ev_eq (E := E) (h := h) (x := x) (s := s)
  simp [ipure, opFlat, Op.operands, this, flat, flatN, iflat, execOp, Op.unary, pureOf, bind, pure, Sem.bind]
theorem WS_real {x : Operand} {at_ : Array TypeId} {u v : Nat} [e : EvalIs s x (.complex .f64 u v)] (k : WS P E ops K l (putS s d (.float .f64 u)) h) : WS P E ops K (⟨d, .call ⟨.builtin .real, #[x], at_⟩, ty, pos, af, none⟩ :: l) s h := by
  refine WS_pure rfl rfl ?_ k
  have := ev_eq (E := E) (h := h) (x := x) (s := s)
  have hR : ∀ a t, Builtin.real_ a t #[.complex .f64 u v] = pure (.float .f64 u) := fun _ _ => rfl
  simp [ipure, opFlat, Op.operands, Call.operands, this, flat, flatN, iflat, execOp, resolve, invoke, builtin, hR, pureOf, bind, pure, Sem.bind]
theorem WS_imag {x : Operand} {at_ : Array TypeId} {u v : Nat} [e : EvalIs s x (.complex .f64 u v)] (k : WS P E ops K l (putS s d (.float .f64 v)) h) : WS P E ops K (⟨d, .call ⟨.builtin .imag, #[x], at_⟩, ty, pos, af, none⟩ :: l) s h := by
  refine WS_pure rfl rfl ?_ k
  have := ev_eq (E := E) (h := h) (x := x) (s := s)
  have hR : ∀ a t, Builtin.imag_ a t #[.complex .f64 u v] = pure (.float .f64 v) := fun _ _ => rfl
  simp [ipure, opFlat, Op.operands, Call.operands, this, flat, flatN, iflat, execOp, resolve, invoke, builtin, hR, pureOf, bind, pure, Sem.bind]
theorem WS_complex {x y : Operand} {at_ : Array TypeId} {u v : Nat} [e : EvalIs s x (.float .f64 u)] [e2 : EvalIs s y (.float .f64 v)] (k : WS P E ops K l (putS s d (.complex .f64 u v)) h) : WS P E ops K (⟨d, .call ⟨.builtin .complex, #[x, y], at_⟩, ty, pos, af, none⟩ :: l) s h := by
  refine WS_pure rfl rfl ?_ k
  have h1 := ev_eq (E := E) (h := h) (x := x) (s := s)
  have h2 := ev_eq (E := E) (h := h) (x := y) (s := s)
  have hR : ∀ a t, Builtin.complex_ a t #[.float .f64 u, .float .f64 v] = pure (.complex .f64 u v) := fun _ _ => rfl
  simp [ipure, opFlat, Op.operands, Call.operands, h1, h2, flat, flatN, iflat, execOp, resolve, invoke, builtin, hR, pureOf, bind, pure, Sem.bind]
/-- a function without a body, of flat values -/
theorem WS_ext {f : FuncId} {x : Operand} {at_ : Array TypeId} {v r : Value} [e : EvalIs s x v] (fv : flat v = true) (hb : ((P.funcs[f]?).map fun fn => fn.body.isSome) = some false) (hr : pureOf P (callFunc f #[v]) = some (.value r)) (fr : flat r = true)
    (k : WS P E ops K l (putS s d r) h) : WS P E ops K (⟨d, .call ⟨.value (.func f), #[x], at_⟩, ty, pos, af, none⟩ :: l) s h := by
  have h1 := ev_eq (E := E) (h := h) (x := x) (s := s)
  obtain ⟨fn, hf, hb⟩ := Option.map_eq_some_iff.1 hb
  refine WS_pure (v := r) ?_ rfl ?_ k
  · simp only [icallee, icalleeV, St.eval, hf, hb]
    simp
  · have hof : opFlat (E.st s h).eval ⟨d, .call ⟨.value (.func f), #[x], at_⟩, ty, pos, af, none⟩ = true := by
      have hE : (E.st s h).eval (.func f) = .func (.func f) #[] #[] := rfl
      have hfl : flat (.func (.func f) #[] #[]) = true := rfl
      simp [opFlat, Op.operands, Call.operands, h1, fv, hE, hfl]
    simp only [ipure, hof, if_true, iflat]
    have hx : pureOf P (execOp (E.st s h).eval ⟨d, .call ⟨.value (.func f), #[x], at_⟩, ty, pos, af, none⟩) = some (.value r) := by
      rw [← hr]
      have hE : (E.st s h).eval (.func f) = .func (.func f) #[] #[] := rfl
      simp [execOp, resolve, hE, h1, Deferred.ofValue, invoke, bind, pure, Sem.bind]
    rw [hx]
    simp only [fr, if_true]
end
/-! ### Whole numbers as floats, at level 3 -/
instance CellsOf.float {k : FloatKind} {a : Nat} : CellsOf (.float k a) [.float k a] := ⟨rfl, rfl⟩
instance CellsOf.complex {k : FloatKind} {a b : Nat} : CellsOf (.complex k a b) [.complex k a b] := ⟨rfl, rfl⟩
instance VRefl.float {k : FloatKind} {a : Nat} : VRefl (.float k a) := ⟨by simp [veq]⟩
instance VRefl.complex {k : FloatKind} {a b : Nat} : VRefl (.complex k a b) := ⟨by simp [veq]⟩
class Sm53 (n : Int) : Prop where lt : n.natAbs < 2 ^ 53
class FlIs (w : Nat) (n : outParam Int) : Prop where
  eq : w = flb n
  sm : n.natAbs < 2 ^ 53
/-- it may be a nought with a sign -/
class FzIs (w : Nat) (n : outParam Int) : Prop where
  eq : w = flb n ∨ (n = 0 ∧ ∃ s, w = zeroF s)
  sm : n.natAbs < 2 ^ 53
instance {n : Int} [h : Sm53 n] : FlIs (flb n) n := ⟨rfl, h.lt⟩
instance : FlIs (no_index 0) 0 := ⟨by decide +kernel, by decide⟩
instance : FlIs (no_index 4607182418800017408) 1 := ⟨by decide +kernel, by decide⟩
instance : FlIs (no_index 4845873199050653695) 9007199254740991 := ⟨by decide +kernel, by decide⟩
instance (priority := 100) FzIs.of {w : Nat} {n : Int} [h : FlIs w n] : FzIs w n := ⟨.inl h.eq, h.sm⟩
theorem FzIs.di {w : Nat} {n : Int} (h : FzIs w n) : ∃ s, DI s (Ieee.double.read w) n ∧ (n < 0 → s = true) := by
  rcases h.eq with h1 | ⟨rfl, s, h1⟩
  · exact ⟨decide (n < 0), by rw [h1]; exact DI.flb h.sm, fun h => by simp [h]⟩
  · exact ⟨s, by rw [h1]; exact DI.zero s, fun h => by omega⟩
section
variable {P : Program} {X : Cx} {E : Env} {σ : Nat → Tr} {B B' : Boxes} {ops : Array Oper} {K : TK} {l : List Oper} {d : Option Tmp} {ty : TypeId} {pos : String} {af : Array Edge} {H : List (Nat × Nat)}
instance Pu.fadd {t yt : TypeId} {x y : Operand} {u v : Nat} {m n : Int} [e1 : TEval σ x (.v (.float .f64 u))] [e2 : TEval σ y (.v (.float .f64 v))] [a : FlIs u m] [b : FlIs v n] [s : Sm53 (m + n)] : Pu P σ B (.binOp .add t x y yt) (.v (.float .f64 (flb (m + n)))) := ⟨fun {X F s' h} q {_ _ _ _ _ _ _ _} kk => by
  have := e1.is q.slot
  have := e2.is q.slot
  exact WS_farith (.inl ⟨rfl, by rw [a.eq, b.eq]; exact fl_add a.sm b.sm s.lt⟩) (kk _ (rep_v _))⟩
instance Pu.fsub {t yt : TypeId} {x y : Operand} {u v : Nat} {m n : Int} [e1 : TEval σ x (.v (.float .f64 u))] [e2 : TEval σ y (.v (.float .f64 v))] [a : FlIs u m] [b : FlIs v n] [s : Sm53 (m - n)] : Pu P σ B (.binOp .sub t x y yt) (.v (.float .f64 (flb (m - n)))) := ⟨fun {X F s' h} q {_ _ _ _ _ _ _ _} kk => by
  have := e1.is q.slot
  have := e2.is q.slot
  exact WS_farith (.inr (.inl ⟨rfl, by rw [a.eq, b.eq]; exact fl_sub a.sm b.sm s.lt⟩)) (kk _ (rep_v _))⟩
theorem fz_add0 {u : Nat} {m : Int} (a : FzIs u m) : Ieee.double.add u 0 = some (flb m) := by
  have h0 : (0 : Nat) = flb 0 := by decide +kernel
  rw [h0]
  rcases a.eq with h1 | ⟨rfl, s, h1⟩
  · rw [h1]
    have := fl_add (b := 0) a.sm (by decide) (by rw [Int.add_zero]; exact a.sm)
    rw [Int.add_zero] at this
    exact this
  · rw [h1]; exact fl_add0 s
instance (priority := 1200) Pu.fadd0 {t yt : TypeId} {x : Operand} {u : Nat} {m : Int} [e1 : TEval σ x (.v (.float .f64 u))] [a : FzIs u m] : Pu P σ B (.binOp .add t x (.const (.float .f64 (no_index 0))) yt) (.v (.float .f64 (flb m))) := ⟨fun {X F s' h} q {_ _ _ _ _ _ _ _} kk => by
  have := e1.is q.slot
  have : EvalIs s' (.const (.float .f64 0)) (.float .f64 0) := ⟨fun _ _ _ _ => rfl⟩
  exact WS_farith (v := 0) (.inl ⟨rfl, fz_add0 a⟩) (kk _ (rep_v _))⟩
theorem TS_fmul {t yt : TypeId} {x y : Operand} {u v : Nat} {m n : Int} [e1 : TEval σ x (.v (.float .f64 u))] [e2 : TEval σ y (.v (.float .f64 v))] [a : FlIs u m] [b : FlIs v n] [s : Sm53 (m * n)]
    (k : ∀ w, FzIs w (m * n) → TS X P E ops K l H (putT σ d (.v (.float .f64 w))) B) : TS X P E ops K (⟨d, .binOp .mul t x y yt, ty, pos, af, none⟩ :: l) H σ B := by
  unfold TS at *
  intro F s' h held r hh
  have := e1.is r.slot
  have := e2.is r.slot
  have hm := fl_mul a.sm b.sm s.lt
  refine WS_farith (.inr (.inr ⟨rfl, by rw [a.eq, b.eq]; exact hm⟩)) (k _ ⟨?_, s.lt⟩ F _ h held (r.put (rep_v _)) hh)
  split
  · rename_i h0; exact .inr ⟨h0, _, rfl⟩
  · exact .inl rfl
theorem TS_fneg {t : TypeId} {x : Operand} {u : Nat} {n : Int} [e1 : TEval σ x (.v (.float .f64 u))] [a : FlIs u n]
    (k : ∀ w, FzIs w (-n) → TS X P E ops K l H (putT σ d (.v (.float .f64 w))) B) : TS X P E ops K (⟨d, .unOp .neg t x, ty, pos, af, none⟩ :: l) H σ B := by
  unfold TS at *
  intro F s' h held r hh
  have := e1.is r.slot
  refine WS_fneg (k _ ⟨?_, by rw [Int.natAbs_neg]; exact a.sm⟩ F _ h held (r.put (rep_v _)) hh)
  rw [a.eq, fl_neg a.sm]
  split
  · rename_i h0; exact .inr ⟨by omega, _, rfl⟩
  · exact .inl rfl
instance {t yt : TypeId} {x y : Operand} {u v : Nat} {m n : Int} [e1 : TEval σ x (.v (.float .f64 u))] [e2 : TEval σ y (.v (.float .f64 v))] [a : FlIs u m] [b : FlIs v n] [s : Sm53 (m * n)] : StepC (TS X P E ops K (⟨d, .binOp .mul t x y yt, ty, pos, af, none⟩ :: l) H σ B) (∀ w, FzIs w (m * n) → TS X P E ops K l H (putT σ d (.v (.float .f64 w))) B) := ⟨TS_fmul⟩
instance {t : TypeId} {x : Operand} {u : Nat} {n : Int} [e1 : TEval σ x (.v (.float .f64 u))] [a : FlIs u n] : StepC (TS X P E ops K (⟨d, .unOp .neg t x, ty, pos, af, none⟩ :: l) H σ B) (∀ w, FzIs w (-n) → TS X P E ops K l H (putT σ d (.v (.float .f64 w))) B) := ⟨TS_fneg⟩
class ICmp (op : BinOp) (a b : Int) (r : outParam Bool) : Prop where eq : icmp op a b = some r
instance {a b : Int} : ICmp .eql a b (decide (a = b)) := ⟨rfl⟩
instance {a b : Int} : ICmp .neq a b (!decide (a = b)) := ⟨rfl⟩
instance {a b : Int} : ICmp .lss a b (decide (a < b)) := ⟨rfl⟩
instance {a b : Int} : ICmp .leq a b (decide (a ≤ b)) := ⟨rfl⟩
instance {a b : Int} : ICmp .gtr a b (decide (b < a)) := ⟨rfl⟩
instance {a b : Int} : ICmp .geq a b (decide (b ≤ a)) := ⟨rfl⟩
instance Pu.fcmp {op : BinOp} {t yt : TypeId} {x y : Operand} {u v : Nat} {m n : Int} {c : Bool} [e1 : TEval σ x (.v (.float .f64 u))] [e2 : TEval σ y (.v (.float .f64 v))] [a : FzIs u m] [b : FzIs v n] [ic : ICmp op m n c] : Pu P σ B (.binOp op t x y yt) (.v (.bool c)) := ⟨fun {X F s' h} q {_ _ _ _ _ _ _ _} kk => by
  have := e1.is q.slot
  have := e2.is q.slot
  obtain ⟨s1, d1, _⟩ := a.di
  obtain ⟨s2, d2, _⟩ := b.di
  exact WS_fcmp (order_val d1 d2) ic.eq (kk _ (rep_v _))⟩
instance Pu.freal {x : Operand} {at_ : Array TypeId} {u v : Nat} [e1 : TEval σ x (.v (.complex .f64 u v))] : Pu P σ B (.call ⟨.builtin .real, #[x], at_⟩) (.v (.float .f64 u)) := ⟨fun {X F s' h} q {_ _ _ _ _ _ _ _} kk => by
  have := e1.is q.slot
  exact WS_real (kk _ (rep_v _))⟩
instance Pu.fimag {x : Operand} {at_ : Array TypeId} {u v : Nat} [e1 : TEval σ x (.v (.complex .f64 u v))] : Pu P σ B (.call ⟨.builtin .imag, #[x], at_⟩) (.v (.float .f64 v)) := ⟨fun {X F s' h} q {_ _ _ _ _ _ _ _} kk => by
  have := e1.is q.slot
  exact WS_imag (kk _ (rep_v _))⟩
instance Pu.fcomplex {x y : Operand} {at_ : Array TypeId} {u v : Nat} [e1 : TEval σ x (.v (.float .f64 u))] [e2 : TEval σ y (.v (.float .f64 v))] : Pu P σ B (.call ⟨.builtin .complex, #[x, y], at_⟩) (.v (.complex .f64 u v)) := ⟨fun {X F s' h} q {_ _ _ _ _ _ _ _} kk => by
  have := e1.is q.slot
  have := e2.is q.slot
  exact WS_complex (kk _ (rep_v _))⟩
theorem TS_ext {f : FuncId} {x : Operand} {at_ : Array TypeId} {v r : Value} [e1 : TEval σ x (.v v)] (fv : flat v = true) (hb : ((P.funcs[f]?).map fun fn => fn.body.isSome) = some false) (hr : pureOf P (callFunc f #[v]) = some (.value r)) (fr : flat r = true)
    (k : TS X P E ops K l H (putT σ d (.v r)) B) : TS X P E ops K (⟨d, .call ⟨.value (.func f), #[x], at_⟩, ty, pos, af, none⟩ :: l) H σ B := by
  unfold TS at *
  intro F s' h held r' hh
  have := e1.is r'.slot
  exact WS_ext fv hb hr fr (k F _ h held (r'.put (rep_v _)) hh)
end
end Go.Ideal

-- IdealFn
set_option linter.unusedSimpArgs false
set_option linter.unusedVariables false
namespace Go.Ideal
open Go Go.RowKit
/-! ### Whole numbers to floats and back; 1 / 0 -/
section
variable {P : Program} {E : Env} {s : Nat → Value} {h : IHp} {ops : Array Oper} {K : SK} {l : List Oper} {d : Option Tmp} {ty : TypeId} {pos : String} {af : Array Edge}
theorem WS_ftoi {x : Operand} {src dst : TypeId} {u : Nat} {n : Int} [e : EvalIs s x (.float .f64 u)] [us : UnderIs P src (.float .f64)] [ud : UnderIs P dst (.int .i64)] (hu : u = flb n) (hn : n.natAbs < 2 ^ 53) (kk : WS P E ops K l (putS s d (.int .i64 n)) h) : WS P E ops K (⟨d, .convert src dst x, ty, pos, af, none⟩ :: l) s h := by
  refine WS_pure rfl (by
    have := ev_eq (E := E) (h := h) (x := x) (s := s)
    simp only [iheap, this, iconv, ibtsRow]) ?_ kk
  have := ev_eq (E := E) (h := h) (x := x) (s := s)
  have h1 : pureOf P (convert src dst (.float .f64 u)) = some (.int .i64 n) := by
    simp only [convert, underlying, program]
    show pureOf P (Sem.bind _ _) = _
    have h2 : (FloatKind.f64.decode u).toInt .zero = some n := by rw [hu]; exact fl_toInt hn
    have h3 : IntKind.i64.min ≤ n ∧ n ≤ IntKind.i64.max := by
      have a : IntKind.i64.min = -9223372036854775808 := by decide
      have b : IntKind.i64.max = 9223372036854775807 := by decide
      rw [a, b]; omega
    have h4 : n ≤ 9223372036854775807 := by omega
    simp [pureOf, bind, pure, Sem.bind, us.eq, ud.eq, Conv.floatToInt, h2, h3, h4]
  simp only [ipure, opFlat, Op.operands, List.all_cons, List.all_nil, Bool.and_true, this, flat, flatN, if_true, iflat, execOp]
  rw [pureOf_map Next.value h1]
  rfl
theorem WS_itof {x : Operand} {src dst : TypeId} {k : IntKind} {ds : TypeDesc} {n : Int} [e : EvalIs s x (.int k n)] [us : UnderIs P src ds] [ud : UnderIs P dst (.float .f64)] (hn : n.natAbs < 2 ^ 53) (kk : WS P E ops K l (putS s d (.float .f64 (flb n))) h) : WS P E ops K (⟨d, .convert src dst x, ty, pos, af, none⟩ :: l) s h := by
  refine WS_pure rfl (by
    have := ev_eq (E := E) (h := h) (x := x) (s := s)
    simp only [iheap, this, iconv, ibtsRow]) ?_ kk
  have := ev_eq (E := E) (h := h) (x := x) (s := s)
  have h1 : pureOf P (convert src dst (.int k n)) = some (.float .f64 (flb n)) := by
    simp only [convert, underlying, program]
    show pureOf P (Sem.bind _ _) = _
    have h2 : FloatKind.f64.nearest n = flb n := fl_ofInt hn
    simp [pureOf, bind, pure, Sem.bind, us.eq, ud.eq, Conv.intToFloat, h2]
  simp only [ipure, opFlat, Op.operands, List.all_cons, List.all_nil, Bool.and_true, this, flat, flatN, if_true, iflat, execOp]
  rw [pureOf_map Next.value h1]
  rfl
theorem WS_fdiv0 {t yt : TypeId} {x y : Operand} [e1 : EvalIs s x (.float .f64 4607182418800017408)] [e2 : EvalIs s y (.float .f64 0)] (kk : WS P E ops K l (putS s d (.float .f64 9218868437227405312)) h) :
    WS P E ops K (⟨d, .binOp .quo t x y yt, ty, pos, af, none⟩ :: l) s h := by
  refine WS_pure rfl rfl (ipure_bin (ev_eq (E := E) (h := h) (x := x)) (ev_eq (E := E) (h := h) (x := y)) rfl rfl (notNil_float (s := s) (y := y) h) h ?_ rfl) kk
  rw [guard_float]
  have : (FloatKind.f64.format.div 4607182418800017408 0) = some 9218868437227405312 := by decide +kernel
  simp [binOp, Op.floatArith, this, pureOf, bind, pure, Sem.bind]
theorem WS_finf {t yt : TypeId} {x y : Operand} [e1 : EvalIs s x (.float .f64 9218868437227405312)] [e2 : EvalIs s y (.float .f64 0)] (kk : WS P E ops K l (putS s d (.bool false)) h) :
    WS P E ops K (⟨d, .binOp .lss t x y yt, ty, pos, af, none⟩ :: l) s h := by
  refine WS_pure rfl rfl (ipure_bin (ev_eq (E := E) (h := h) (x := x)) (ev_eq (E := E) (h := h) (x := y)) rfl rfl (notNil_float (s := s) (y := y) h) h ?_ rfl) kk
  rw [guard_float]
  have ho : FloatKind.f64.format.order 9218868437227405312 0 = some .gt := by decide +kernel
  simp [binOp, Op.floatCmp, ho, pureOf, pure]
end
section
variable {P : Program} {X : Cx} {E : Env} {σ : Nat → Tr} {B B' : Boxes} {ops : Array Oper} {K : TK} {l : List Oper} {d : Option Tmp} {ty : TypeId} {pos : String} {af : Array Edge} {H : List (Nat × Nat)}
instance Pu.ftoi {x : Operand} {src dst : TypeId} {u : Nat} {n : Int} [e : TEval σ x (.v (.float .f64 u))] [us : UnderIs P src (.float .f64)] [ud : UnderIs P dst (.int .i64)] [a : FlIs u n] : Pu P σ B (.convert src dst x) (.v (.int .i64 n)) := ⟨fun {X F s h} q {_ _ _ _ _ _ _ _} kk => by
  have := e.is q.slot
  exact WS_ftoi a.eq a.sm (kk _ (rep_v _))⟩
instance Pu.itof {x : Operand} {src dst : TypeId} {k : IntKind} {n : Int} {ds : TypeDesc} [e : TEval σ x (.v (.int k n))] [us : UnderIs P src ds] [ud : UnderIs P dst (.float .f64)] [a : Sm53 n] : Pu P σ B (.convert src dst x) (.v (.float .f64 (flb n))) := ⟨fun {X F s h} q {_ _ _ _ _ _ _ _} kk => by
  have := e.is q.slot
  exact WS_itof a.lt (kk _ (rep_v _))⟩
instance (priority := 1200) Pu.fdiv0 {t yt : TypeId} {x y : Operand} [e1 : TEval σ x (.v (.float .f64 4607182418800017408))] [e2 : TEval σ y (.v (.float .f64 0))] : Pu P σ B (.binOp .quo t x y yt) (.v (.float .f64 9218868437227405312)) := ⟨fun {X F s' h} q {_ _ _ _ _ _ _ _} kk => by
  have := e1.is q.slot
  have := e2.is q.slot
  exact WS_fdiv0 (kk _ (rep_v _))⟩
instance (priority := 1200) Pu.finf {t yt : TypeId} {x y : Operand} [e1 : TEval σ x (.v (.float .f64 9218868437227405312))] [e2 : TEval σ y (.v (.float .f64 0))] : Pu P σ B (.binOp .lss t x y yt) (.v (.bool false)) := ⟨fun {X F s' h} q {_ _ _ _ _ _ _ _} kk => by
  have := e1.is q.slot
  have := e2.is q.slot
  exact WS_finf (kk _ (rep_v _))⟩
end
end Go.Ideal

-- IdealFo
set_option linter.unusedSimpArgs false
set_option linter.unusedVariables false
namespace Go.Ideal
open Go Go.RowKit
variable {P : Program} {X : Cx} {E : Env} {σ : Nat → Tr} {B B' : Boxes} {ops : Array Oper} {K : TK} {l : List Oper} {d : Option Tmp} {ty : TypeId} {pos : String} {af : Array Edge} {H : List (Nat × Nat)} {F : Mem} {s : Nat → Value} {h : IHp} {held : Held}
/-! ### == of structs with complex parts, and of structs in structs -/
inductive EqG (P : Program) (n : Nat) : List Field → Array Value → Array Value → Bool → Prop where
  | nil {xs ys : Array Value} : EqG P n [] xs ys true
  | cons {f : Field} {fs : List Field} {xs ys : Array Value} {a b : Value} {c r : Bool} (hn : f.name ≠ "_") (ha : pureOf P (part f.type xs f.offset) = some a) (hb : pureOf P (part f.type ys f.offset) = some b) (hc : pureOf P (Op.equalIn n f.type a b) = some c) (hr : EqG P n fs xs ys r) : EqG P n (f :: fs) xs ys (c && r)
theorem pureOf_loopG {xs ys : Array Value} {n : Nat} : ∀ {fs : List Field} {r : Bool}, EqG P n fs xs ys r →
    pureOf P (forIn fs ((none, ()) : Option Bool × Unit) fun f s =>
      if f.name ≠ "_" then do
        let a ← part f.type xs f.offset
        let b ← part f.type ys f.offset
        let c ← Op.equalIn n f.type a b
        if (!c) = true then pure (ForInStep.done (some false, ())) else pure (ForInStep.yield (none, ()))
      else pure (ForInStep.yield (none, ()))) = some (if r then none else some false, ()) := by
  intro fs
  induction fs with
  | nil => intro r e; cases e; rfl
  | cons f fs ih =>
    intro r e
    cases e with
    | cons hn ha hb hc hr =>
      rename_i a b c r
      rw [List.forIn_cons]
      have h1 : pureOf P (do
          let a ← part f.type xs f.offset
          let b ← part f.type ys f.offset
          let c ← Op.equalIn n f.type a b
          if (!c) = true then pure (ForInStep.done ((some false, ()) : Option Bool × Unit)) else pure (ForInStep.yield (none, ()))) = some (if c then .yield (none, ()) else .done (some false, ())) := by
        refine (pureOf_bind _ ha).trans ?_
        refine (pureOf_bind _ hb).trans ?_
        refine (pureOf_bind _ hc).trans ?_
        cases c <;> rfl
      rw [if_pos hn]
      refine (pureOf_bind _ h1).trans ?_
      cases c with
      | true => simpa using ih hr
      | false => rfl
theorem eqIn_struct {n : Nat} {t : TypeId} {fs : Array Field} {xs ys : Array Value} {r : Bool} (u : P.underlying t = some (.struct fs)) (hs : P.stoodInHeld t = false) (e : EqG P n fs.toList xs ys r) : pureOf P (Op.equalIn (n + 1) t (.agg xs) (.agg ys)) = some r := by
  simp only [Op.equalIn]
  refine (pureOf_bind _ (pureOf_under u)).trans ?_
  refine (pureOf_bind _ (s := program) (a := P) rfl).trans ?_
  simp only [hs, Bool.false_eq_true, if_false]
  rw [← Array.forIn_toList]
  refine (pureOf_bind _ (pureOf_loopG e)).trans ?_
  cases r <;> rfl
theorem floatEq_flb {a b : Int} (ha : a.natAbs < 2 ^ 53) (hb : b.natAbs < 2 ^ 53) : Op.floatEq .f64 (flb a) (flb b) = decide (a = b) := by
  have ho : FloatKind.f64.format.order (flb a) (flb b) = some (compare a b) := order_val (DI.flb ha) (DI.flb hb)
  unfold Op.floatEq
  rw [ho]
  by_cases hab : a = b
  · subst hab; simp
  · have : compare a b ≠ .eq := fun x => hab (Int.compare_eq_eq.1 x)
    cases hc : compare a b <;> simp_all
theorem eqIn_complex {n : Nat} {t : TypeId} {k0 : FloatKind} {a b c d : Int} (u : P.underlying t = some (.complex k0)) (ha : a.natAbs < 2 ^ 53) (hb : b.natAbs < 2 ^ 53) (hc : c.natAbs < 2 ^ 53) (hd : d.natAbs < 2 ^ 53) :
    pureOf P (Op.equalIn (n + 1) t (.complex .f64 (flb a) (flb b)) (.complex .f64 (flb c) (flb d))) = some (decide (a = c) && decide (b = d)) := by
  simp only [Op.equalIn]
  refine (pureOf_bind _ (pureOf_under u)).trans ?_
  simp only [if_true, floatEq_flb ha hc, floatEq_flb hb hd]; rfl
theorem part_leaf {t : TypeId} {td : TypeDesc} {xs : Array Value} {off : Nat} {v : Value} (hu : P.underlying t = some td) (h1 : ∀ fs, td ≠ .struct fs) (h2 : ∀ n e, td ≠ .array n e) (hx : xs[off]? = some v) : pureOf P (part t xs off) = some v := by
  unfold part isAgg
  refine (pureOf_bind _ (a := false) ?_).trans ?_
  · refine (pureOf_bind _ (pureOf_under hu)).trans ?_
    cases td <;> first | rfl | exact absurd rfl (h1 _) | exact absurd rfl (h2 _ _)
  · simp only [Bool.false_eq_true, if_false, hx]; rfl
theorem WS_eqG {K : SK} {o : BinOp} {t yt : TypeId} {x y : Operand} {vs ws : Array Value} {fs : Array Field} {r r' : Bool} [e1 : EvalIs s x (.agg vs)] [e2 : EvalIs s y (.agg ws)] (ho : (o = .eql ∧ r' = r) ∨ (o = .neq ∧ r' = !r)) (u : P.underlying t = some (.struct fs)) (hs : P.stoodInHeld t = false) (hg : P.eqGuardType P.depth t = false)
    (f1 : flat (.agg vs) = true) (f2 : flat (.agg ws) = true) (e : EqG P 9999 fs.toList vs ws r) (kk : WS P E ops K l (putS s d (.bool r')) h) :
    WS P E ops K (⟨d, .binOp o t x y yt, ty, pos, af, none⟩ :: l) s h := by
  have hn : isNilConst y = false := by
    cases y with
    | const c => have h2 := e2.eq h 0 [] false; simp only [St.eval] at h2; subst h2; rfl
    | _ => rfl
  refine WS_pure rfl rfl (ipure_bin (ev_eq (E := E) (h := h) (x := x)) (ev_eq (E := E) (h := h) (x := y)) f1 f2 hn h ?_ rfl) kk
  have he : pureOf P (Op.equal t (.agg vs) (.agg ws)) = some r := by rw [equal_succ]; exact eqIn_struct u hs e
  rcases ho with ⟨rfl, rfl⟩ | ⟨rfl, rfl⟩
  · have h1 := pureOf_map (P := P) (fun b => Value.bool b) he
    refine (pureOf_bind _ (guard_struct (.inl rfl) hg)).trans ?_
    simpa [binOp] using h1
  · have h1 := pureOf_map (P := P) (fun b => Value.bool (!b)) he
    refine (pureOf_bind _ (guard_struct (.inr rfl) hg)).trans ?_
    simpa [binOp] using h1
theorem Pu.eqG {o : BinOp} {t yt : TypeId} {x y : Operand} {ts us : List Tr} (vs ws : List Value) {fs : Array Field} {r r' : Bool} [e1 : TEval σ x (.agg ts)] [e2 : TEval σ y (.agg us)] (ho : (o = .eql ∧ r' = r) ∨ (o = .neq ∧ r' = !r)) (h1 : ts = vs.map .v) (h2 : us = ws.map .v) (u : P.underlying t = some (.struct fs)) (hs : P.stoodInHeld t = false) (hg : P.eqGuardType P.depth t = false)
    (f1 : flat (.agg vs.toArray) = true) (f2 : flat (.agg ws.toArray) = true) (e : EqG P 9999 fs.toList vs.toArray ws.toArray r) : Pu P σ B (.binOp o t x y yt) (.v (.bool r')) := ⟨fun {X F s h} q {_ _ _ _ _ _ _ _} kk => by
  have i1 := evalIs_agg (F := F) (s := s) e1 h1 q.slot
  have i2 := evalIs_agg (F := F) (s := s) e2 h2 q.slot
  exact WS_eqG ho u hs hg f1 f2 e (kk _ (rep_v _))⟩
end Go.Ideal

-- IdealFp
set_option linter.unusedSimpArgs false
set_option linter.unusedVariables false
namespace Go.Ideal
open Go
/-! ### Loops round by round; arrays; sums of noughts with a sign -/
section
variable {P : Program} {E : Env} {Q : IExit → SK} {s : Nat → Value} {h : IHp}
end
section
variable {P : Program} {X : Cx} {E : Env} {σ : Nat → Tr} {B B' : Boxes} {ops : Array Oper} {K : TK} {l : List Oper} {d : Option Tmp} {ty : TypeId} {pos : String} {af : Array Edge} {H : List (Nat × Nat)}
theorem fz_add {u v : Nat} {m n : Int} (a : FzIs u m) (b : FzIs v n) (h : (m + n).natAbs < 2 ^ 53) : ∃ w, Ieee.double.add u v = some w ∧ FzIs w (m + n) := by
  obtain ⟨s1, d1, _⟩ := a.di
  obtain ⟨s2, d2, _⟩ := b.di
  refine ⟨_, sum_val d1 d2 h, ?_, h⟩
  split
  · rename_i h0; exact .inr ⟨h0, _, rfl⟩
  · exact .inl rfl
theorem fz_sub {u v : Nat} {m n : Int} (a : FzIs u m) (b : FzIs v n) (h : (m - n).natAbs < 2 ^ 53) : ∃ w, Ieee.double.sub u v = some w ∧ FzIs w (m - n) := by
  obtain ⟨s1, d1, _⟩ := a.di
  obtain ⟨s2, d2, _⟩ := b.di
  refine ⟨_, sum_val d1 d2.opposite (by rw [← Int.sub_eq_add_neg]; exact h), ?_, h⟩
  rw [← Int.sub_eq_add_neg]
  split
  · rename_i h0; exact .inr ⟨h0, _, rfl⟩
  · exact .inl rfl
theorem TS_faddz {t yt : TypeId} {x y : Operand} {u v : Nat} {m n : Int} [e1 : TEval σ x (.v (.float .f64 u))] [e2 : TEval σ y (.v (.float .f64 v))] [a : FzIs u m] [b : FzIs v n] [s : Sm53 (m + n)]
    (k : ∀ w, FzIs w (m + n) → TS X P E ops K l H (putT σ d (.v (.float .f64 w))) B) : TS X P E ops K (⟨d, .binOp .add t x y yt, ty, pos, af, none⟩ :: l) H σ B := by
  unfold TS at *
  intro F s' h held r hh
  have := e1.is r.slot
  have := e2.is r.slot
  obtain ⟨w, h1, h2⟩ := fz_add a b s.lt
  exact WS_farith (.inl ⟨rfl, h1⟩) (k _ h2 F _ h held (r.put (rep_v _)) hh)
theorem TS_fsubz {t yt : TypeId} {x y : Operand} {u v : Nat} {m n : Int} [e1 : TEval σ x (.v (.float .f64 u))] [e2 : TEval σ y (.v (.float .f64 v))] [a : FzIs u m] [b : FzIs v n] [s : Sm53 (m - n)]
    (k : ∀ w, FzIs w (m - n) → TS X P E ops K l H (putT σ d (.v (.float .f64 w))) B) : TS X P E ops K (⟨d, .binOp .sub t x y yt, ty, pos, af, none⟩ :: l) H σ B := by
  unfold TS at *
  intro F s' h held r hh
  have := e1.is r.slot
  have := e2.is r.slot
  obtain ⟨w, h1, h2⟩ := fz_sub a b s.lt
  exact WS_farith (.inr (.inl ⟨rfl, h1⟩)) (k _ h2 F _ h held (r.put (rep_v _)) hh)
instance (priority := 50) {t yt : TypeId} {x y : Operand} {u v : Nat} {m n : Int} [e1 : TEval σ x (.v (.float .f64 u))] [e2 : TEval σ y (.v (.float .f64 v))] [a : FzIs u m] [b : FzIs v n] [s : Sm53 (m + n)] : StepC (TS X P E ops K (⟨d, .binOp .add t x y yt, ty, pos, af, none⟩ :: l) H σ B) (∀ w, FzIs w (m + n) → TS X P E ops K l H (putT σ d (.v (.float .f64 w))) B) := ⟨TS_faddz⟩
instance (priority := 50) {t yt : TypeId} {x y : Operand} {u v : Nat} {m n : Int} [e1 : TEval σ x (.v (.float .f64 u))] [e2 : TEval σ y (.v (.float .f64 v))] [a : FzIs u m] [b : FzIs v n] [s : Sm53 (m - n)] : StepC (TS X P E ops K (⟨d, .binOp .sub t x y yt, ty, pos, af, none⟩ :: l) H σ B) (∀ w, FzIs w (m - n) → TS X P E ops K l H (putT σ d (.v (.float .f64 w))) B) := ⟨TS_fsubz⟩
/-! arrays -/
class FlatRw (rows : List (List Tr)) (r : outParam (List Tr)) : Prop where eq : rows.flatten = r
class AppT (a b : List Tr) (r : outParam (List Tr)) : Prop where eq : a ++ b = r
instance AppT.nil {b : List Tr} : AppT [] b b := ⟨rfl⟩
instance AppT.cons {x : Tr} {a b r : List Tr} [i : AppT a b r] : AppT (x :: a) b (x :: r) := ⟨by simp [i.eq]⟩
instance FlatRw.nil : FlatRw [] [] := ⟨rfl⟩
instance FlatRw.cons {row r r2 : List Tr} {rows : List (List Tr)} [i : FlatRw rows r] [a : AppT row r r2] : FlatRw (row :: rows) r2 := ⟨by simp [i.eq, a.eq]⟩
end
end Go.Ideal

-- IdealFq
set_option linter.unusedSimpArgs false
set_option linter.unusedVariables false
namespace Go.Ideal
open Go
/-! ### Regions that draw: loads of what lies frozen, behind calls whose answers hold no memory -/
section
variable {P : Program} {X : Cx} {E : Env} {σ : Nat → Tr} {B B' : Boxes} {ops : Array Oper} {K : TK} {d : Option Tmp} {ty : TypeId} {pos : String} {af : Array Edge} {H : List (Nat × Nat)} {plan : List PStep}
end
end Go.Ideal

-- IdealFr
set_option linter.unusedSimpArgs false
set_option linter.unusedVariables false
namespace Go.Ideal
open Go
/-! ### The builtin copy: a whole slice written over -/
section
variable {P : Program} {X : Cx} {E : Env} {σ : Nat → Tr} {B B' : Boxes} {ops : Array Oper} {K : TK} {l : List Oper} {d : Option Tmp} {ty : TypeId} {pos : String} {af : Array Edge} {H : List (Nat × Nat)}
theorem heap_copy {s : Nat → Value} {h h' : IHp} {v : Value} {x y : Operand} {t t1 : TypeId} {a1 a2 : Value} (e1 : EvalIs s x a1) (e2 : EvalIs s y a2) (hh : icopy P h #[t, t1] #[a1, a2] = some (v, h')) :
    iheap P h (E.st s h).eval ⟨d, .call ⟨.builtin .copy, #[x, y], #[t, t1]⟩, ty, pos, af, none⟩ = some (v, h') := by
  have e1' := ev_eq (E := E) (h := h) (x := x) (s := s)
  have e2' := ev_eq (E := E) (h := h) (x := y) (s := s)
  show (if (#[x, y].size = 2) then icopy P h #[t, t1] (#[x, y].map (E.st s h).eval) else none) = _
  rw [if_pos (show #[x, y].size = 2 from rfl)]
  simp only [List.map_toArray, List.map_cons, List.map_nil, e1', e2']
  exact hh
theorem TS_copy {x y : Operand} {t t1 e m b n : Nat} {y' : Tr} {rows rows2 : List (List Tr)} {bt : Nat} {bx : Bool} [e1 : TEval σ x (.v (.slice (some (ad b 0)) n n))] [e2 : TEval σ y y'] [u : UnderIs P t (.slice e)] [z : SizeIs P e m] [bb : BoxIs B b (.arr m rows bt bx)] [rx : RealX rows bx] [ln : LenT rows n] [sr : SrcT B y' m rows2] [ap : Apart B b H] [bp : BoxPut B b b (.arr m rows2 bt bx) B'] (hl2 : rows2.length = n)
    (k : TS X P E ops K l H (putT σ d (.v (.int .i64 (n : Int)))) B') : TS X P E ops K (⟨d, .call ⟨.builtin .copy, #[x, y], #[t, t1]⟩, ty, pos, af, none⟩ :: l) H σ B := by
  unfold TS at *
  intro F s h held r hh
  have e1' := e1.is r.slot
  have e2' := evalIs_self (s := s) (x := y) (h := h)
  obtain ⟨a, n2', c, us, h1, h2, h3, h4, h5⟩ := sr.eq X F σ s h r _ (e2.eq F s r.slot h 0 [] false)
  rw [h1] at e2'
  rw [hl2] at h2
  subst h2
  have hb := r.boxOf bb
  have hl := ln.eq
  obtain ⟨vs, g1, g2⟩ := rx.even hb
  simp only [BoxRep] at hb
  have hvl : vs.length = n2' * m := by rw [g1.len, flat_len hb.1, hl]
  have hul : us.length = n2' * m := by rw [h4.len, flat_len h5, hl2]
  have hset := setRow_obj us g2 0 (by omega)
  have hall : setAll vs 0 us = us := by
    have : setAllT (([] : List Value) ++ (vs ++ [])) ([] : List Value).length us = [] ++ (us ++ []) := setAllT_mid us [] vs [] (by omega)
    rw [setAll_T]
    simpa using this
  have hrep : BoxRep F (h.put b (setAll vs 0 us) bt bx) b (.arr m rows2 bt bx) := by
    simp only [BoxRep]
    refine ⟨h5, .inr ⟨_, ?_, g2.put⟩⟩
    rw [hall]; exact h4
  have r' : TR X F σ B' s (h.put b (setAll vs 0 us) bt bx) := by
    obtain ⟨pre, old, post, p1, p2⟩ := bp.eq
    rw [p2]
    rw [p1] at r
    exact r.modify rfl (put_keep g2.even) (.inl rfl) hrep
  refine WS_heap rfl (heap_copy e1' e2' ?_) (k F _ _ held (r'.put (rep_v _)) (hh.modify bp r r' ap rfl (put_keep g2.even)))
  have hmin : Nat.min n2' n2' = n2' := Nat.min_self n2'
  simp only [icopy, List.getElem?_toArray, List.getElem?_cons_zero, List.getElem?_cons_succ, u.eq, z.eq, Option.bind_some, hmin, h3]
  simp [spotted, hset]
end
end Go.Ideal
