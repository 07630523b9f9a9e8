/- Part 4 of what the proof stands on: an interpreter over an ideal memory that is proved sound, steps over it, and contracts of the functions that are called. No condition: no law is claimed here. -/
import Derived.Test.YtggdcgipeijilaaC3
import Derived.ChangeArms
import Derived.ChangeShapes
import Derived.WideShapes
import Derived.KernelRfl
import Derived.Test.YtggdcgipeijilaaProg
-- IdealTl
set_option linter.unusedSimpArgs false
set_option linter.unusedVariables false
namespace Go.Ideal
open Go Go.RowKit
variable {P : Program} {X : Cx} {E : Env} {σ : Nat → Tr} {B B' : Boxes} {ops : Array Oper} {K : TK} {l : List Oper} {d : Option Tmp} {ty : TypeId} {pos : String} {af : Array Edge} {H : List (Nat × Nat)} {F : Mem} {s : Nat → Value} {h : IHp} {held : Held}

/-! ### Loops over slices.Backward -/
/-- what is no cells may change -/
theorem TR.other {b : Nat} {o o' : IObj} (r : TR X F σ B s h) (a : AtIs h b o) (hn : ∀ c e x, o ≠ .cells c e x) (hb : X.h.fresh ≤ b) (hg : ∀ g ∈ X.G, g.1 / 2 ≠ b / 2) : TR X F σ B s (h.putObj b o') := by
  have hcell : ∀ b' off v, h.cell? b' off = some v → (h.putObj b o').cell? b' off = some v := by
    intro b' off v hc
    unfold IHp.cell? at *
    simp only [IHp.putObj]
    split
    · rename_i hbo; rw [if_pos hbo] at hc; exact hc
    · rename_i hbo
      rw [if_neg hbo] at hc
      have hne : b' / 2 ≠ b / 2 := by
        intro he
        rw [he, a.eq] at hc
        cases o with
        | cells c e x => exact hn _ _ _ rfl
        | _ => cases hc
      rw [List.getElem?_set_ne (fun h => hne h.symm)]; exact hc
  have hobj : ∀ b' vs t x, ObjIs h b' vs t x → ObjIs (h.putObj b o') b' vs t x := by
    intro b' vs t x oi
    have : NeB b' b := ⟨fun he => by
      have h1 := oi.eq
      rw [he, a.eq] at h1
      exact hn _ _ _ (Option.some.inj h1)⟩
    infer_instance
  refine ⟨r.ext.putObj hb, r.base, fun b' off v hf => hcell _ _ _ (r.sub _ _ _ hf), r.own, fun p hp => ?_, r.sep, r.dis, fun g hgm => ⟨⟨(r.gd g hgm).1.even, by
    simp only [IHp.putObj]
    rw [List.getElem?_set_ne (fun h => hg g hgm h.symm)]; exact (r.gd g hgm).1.eq⟩, (r.gd g hgm).2⟩, r.slot⟩
  have h1 := r.box p hp
  cases hx : p.2 with
  | cells cs t y => rw [hx] at h1; obtain ⟨vs, h2, h3⟩ := h1; exact ⟨vs, h2, hobj _ _ _ _ h3⟩
  | arr m rows t y =>
    rw [hx] at h1
    simp only [BoxRep] at h1 ⊢
    refine ⟨h1.1, ?_⟩
    rcases h1.2 with h2 | ⟨vs, h2, h3⟩
    · exact .inl h2
    · exact .inr ⟨vs, h2, hobj _ _ _ _ h3⟩
theorem TR.start {args : List Tr} {vs : List Value} {F0 : Mem} (h1 : Sub F0 h.cell?) (h2 : RepL F0 args vs) : TR ⟨h, F0, []⟩ F0 (argT args) [] (argS vs) h :=
  ⟨Ext.refl h, Sub.refl F0, h1, fun b off v hf => .inl hf, by simp, by simp, by simp, by simp, fun i => by
    by_cases hi : i < args.length
    · obtain ⟨v, h3, h4⟩ := h2.get (List.getElem?_eq_getElem hi)
      have h5 : argS vs i = v := by
        have hi2 := (List.getElem?_eq_some_iff.1 h3).1
        simp only [argS, Array.getD]
        rw [dif_pos (by simpa using hi2)]
        rw [List.getElem?_eq_getElem hi2] at h3
        simpa using Option.some.inj h3
      have h6 : argT args i = args[i] := by simp [argT, List.getD, hi]
      rw [h5, h6]; exact h4
    · have h5 : argS vs i = undef := by
        have := h2.len
        simp only [argS, Array.getD]
        rw [dif_neg (by simp; omega)]
      have h6 : argT args i = .v undef := by simp [argT, List.getD, hi]
      rw [h5, h6]; exact rep_v _⟩
end Go.Ideal

-- IdealTm
set_option linter.unusedSimpArgs false
set_option linter.unusedVariables false
namespace Go.Ideal
open Go Go.RowKit
variable {P : Program} {X : Cx} {E : Env} {σ : Nat → Tr} {B B' : Boxes} {ops : Array Oper} {K : TK} {l : List Oper} {d : Option Tmp} {ty : TypeId} {pos : String} {af : Array Edge} {H : List (Nat × Nat)} {F : Mem} {s : Nat → Value} {h : IHp} {held : Held}

/-! ### Room: cap, parts of own slices, append of a made slice, append that stays -/
instance Pu.cap_nil {x : Operand} {t te : TypeId} [e : TEval σ x (.v (.slice none 0 0))] [u : UnderIs P t (.slice te)] : Pu P σ B (.call ⟨.builtin .cap, #[x], #[t]⟩) (.v (.int .i64 0)) := ⟨fun {X F s h} q {E' _ _ _ _ _ _ _} kk => by
  have := e.is q.slot
  refine WS_pure rfl rfl ?_ (kk _ (rep_v _))
  have h1 := ev_eq (E := E') (h := h) (x := x) (s := s)
  simp [ipure, u.eq, h1]⟩
/-! ### Functions that answer own memory -/
@[irreducible] def FnO (P : Program) (f : FuncId) (args : List Tr) (Φ : Tr → Boxes → Prop) : Prop := ∀ (F0 : Mem) (h : IHp) (vs : List Value), Sub F0 h.cell? → RepL F0 args vs → EvX P f vs.toArray h (fun v h' => ∃ F r B, TR ⟨h, F0, []⟩ F (fun _ => r) B (fun _ => v) h' ∧ (∀ p ∈ B, p.1 % 2 = 0) ∧ Φ r B)
/-- results as they are, own memory and all -/
def RetTO (P : Program) (σ : Nat → Tr) (B : Boxes) (rs : List ResultVar) (ts : List Tr) : Prop := ∀ X F s h E, TR X F σ B s h → ∃ vs, iresults P (Env.st E s h) rs = some vs ∧ RepL F ts vs
class RetIsO (P : Program) (σ : Nat → Tr) (B : Boxes) (rs : List ResultVar) (ts : outParam (List Tr)) : Prop where eq : RetTO P σ B rs ts
instance RetIsO.nil : RetIsO P σ B [] [] := ⟨fun X F s h E r => ⟨[], rfl, RepL.nil⟩⟩
instance RetIsO.tmp {i : Nat} {t : Tr} {rs : List ResultVar} {ts : List Tr} [g : TGet σ i t] [k : RetIsO P σ B rs ts] : RetIsO P σ B (.tmp i :: rs) (t :: ts) := ⟨fun X F s h E r => by
  obtain ⟨vs, h1, h2⟩ := k.eq X F s h E r
  refine ⟨s i :: vs, by simp only [Env.st] at h1 ⊢; simp only [iresults, h1, Option.map_some], RepL.cons ?_ h2⟩
  rw [← g.eq]; exact r.slot i⟩
instance RetIsO.cell_agg {i ct b off n bt : Nat} {bx : Bool} {cs r1 r2 : List Tr} {rs : List ResultVar} {ts : List Tr} [g : TGet σ i (.v (.pointer (some (ad b off))))] [a : AggIs P ct true] [z : SizeIs P ct n] [bi : BoxIs B b (.cells cs bt bx)] [dr : DropT cs off r1] [tk : TakeT r1 n r2] [k : RetIsO P σ B rs ts] : RetIsO P σ B (.cell i ct :: rs) (.agg r2 :: ts) := ⟨fun X F s h E r => by
  obtain ⟨vs, h1, h2⟩ := k.eq X F s h E r
  have h3 := (g.is r).eq
  obtain ⟨us, h4, h5⟩ := r.boxOf bi
  obtain ⟨ws, h6, h7⟩ := h4.row h5 dr tk
  refine ⟨.agg ws.toArray :: vs, ?_, RepL.cons ?_ h2⟩
  · simp only [Env.st] at h1 ⊢; simp only [iresults, h1, Option.map_some, h3, iload, a.eq, Option.bind_some, z.eq, h6.eq]
  · simp only [Rep]; exact ⟨ws, rfl, h7⟩⟩
instance RetIsO.cell {i ct b off bt : Nat} {bx : Bool} {cs : List Tr} {t : Tr} {rs : List ResultVar} {ts : List Tr} [g : TGet σ i (.v (.pointer (some (ad b off))))] [a : AggIs P ct false] [bi : BoxIs B b (.cells cs bt bx)] [ng : NthG cs off t] [k : RetIsO P σ B rs ts] : RetIsO P σ B (.cell i ct :: rs) (t :: ts) := ⟨fun X F s h E r => by
  obtain ⟨vs, h1, h2⟩ := k.eq X F s h E r
  have h3 := (g.is r).eq
  obtain ⟨us, h4, h5⟩ := r.boxOf bi
  obtain ⟨v, h6, h7⟩ := h4.get ng.eq
  refine ⟨v :: vs, ?_, RepL.cons h7 h2⟩
  simp only [Env.st] at h1 ⊢
  simp only [iresults, h1, Option.map_some, h3, iload, a.eq, Option.bind_some, h5.cell, h6]⟩
/-- no ghost -/
def BoxReal : Box → Prop
  | .cells _ _ _ => True
  | .arr _ rows _ x => rows = [] → x = true
theorem BoxRep.real {b : Nat} {x : Box} (r : BoxRep F h b x) (hr : BoxReal x) : b % 2 = 0 := by
  cases x with
  | cells cs t y => obtain ⟨vs, _, o⟩ := r; exact o.even
  | arr m rows t y =>
    simp only [BoxRep] at r
    rcases r.2 with ⟨h1, h2, _⟩ | ⟨vs, _, o⟩
    · have := hr h1; rw [h2] at this; cases this
    · exact o.even
end Go.Ideal

-- IdealTn
set_option linter.unusedSimpArgs false
set_option linter.unusedVariables false
namespace Go.Ideal
open Go Go.RowKit
variable {P : Program} {X : Cx} {E : Env} {σ : Nat → Tr} {B B' : Boxes} {ops : Array Oper} {K : TK} {l : List Oper} {d : Option Tmp} {ty : TypeId} {pos : String} {af : Array Edge} {H : List (Nat × Nat)} {F : Mem} {s : Nat → Value} {h : IHp} {held : Held}

/-! ### Parts of own slices from a place on -/
theorem SrcT.mark {m c : Nat} {a : Addr} : SrcT B (.v (.slice (some a) 0 c)) m [] := ⟨fun X F σ s h r v hv => by
  simp only [Rep] at hv
  subst hv
  exact ⟨some a, 0, c, [], rfl, rfl, by simp [IHp.rowAt, IHp.row], by simpa using RepL.nil, by simp⟩⟩
theorem SrcT.part {m b j n c bt : Nat} {bx : Bool} {rows : List (List Tr)} [bi : BoxIs B b (.arr m rows bt bx)] [rx : RealX rows bx] (hn : j + n ≤ rows.length) : SrcT B (.v (.slice (some (ad b (j * m))) n c)) m ((rows.drop j).take n) := ⟨fun X F σ s h r v hv => by
  simp only [Rep] at hv
  subst hv
  have hb := r.boxOf bi
  obtain ⟨vs, g1, g2⟩ := rx.even hb
  simp only [BoxRep] at hb
  have hA : ∀ row ∈ rows.take j, row.length = m := fun row hr => hb.1 row (List.mem_of_mem_take hr)
  have hM : ∀ row ∈ (rows.drop j).take n, row.length = m := fun row hr => hb.1 row (List.mem_of_mem_drop (List.mem_of_mem_take hr))
  have hvl : vs.length = rows.length * m := by rw [g1.len, flat_len hb.1]
  have hle : j * m + n * m ≤ vs.length := by rw [hvl, ← Nat.add_mul]; exact Nat.mul_le_mul_right m hn
  have hsplit : rows.flatten = (rows.take j).flatten ++ (((rows.drop j).take n).flatten ++ (rows.drop (j + n)).flatten) := by
    rw [← List.flatten_append, ← List.flatten_append]
    congr 1
    conv => lhs; rw [← List.take_append_drop j rows, ← List.take_append_drop n (rows.drop j), List.drop_drop]
  have e3 : (rows.take j).flatten.length = j * m := by rw [flat_len hA, List.length_take, Nat.min_eq_left (by omega)]
  have e4 : ((rows.drop j).take n).flatten.length = n * m := by rw [flat_len hM, List.length_take, List.length_drop, Nat.min_eq_left (by omega)]
  refine ⟨some (ad b (j * m)), n, c, (vs.drop (j * m)).take (n * m), rfl, by simp; omega, ?_, ?_, hM⟩
  · simp only [IHp.rowAt]
    exact row_obj g2 (j * m) hle
  · have h5 : ((rows.drop j).take n).flatten = (rows.flatten.drop (j * m)).take (n * m) := by
      rw [hsplit, ← e3, List.drop_left, ← e4, List.take_left]
    rw [h5]
    exact (g1.drop _).take _⟩
end Go.Ideal

-- IdealTo
set_option linter.unusedSimpArgs false
set_option linter.unusedVariables false
namespace Go.Ideal
open Go Go.RowKit
variable {P : Program} {X : Cx} {E : Env} {σ : Nat → Tr} {B B' : Boxes} {ops : Array Oper} {K : TK} {l : List Oper} {d : Option Tmp} {ty : TypeId} {pos : String} {af : Array Edge} {H : List (Nat × Nat)} {F : Mem} {s : Nat → Value} {h : IHp} {held : Held}
/-! ### A place in an own slice that has room behind it -/
end Go.Ideal

-- IdealTp
set_option linter.unusedSimpArgs false
set_option linter.unusedVariables false
namespace Go.Ideal
open Go Go.RowKit
variable {P : Program} {X : Cx} {E : Env} {σ : Nat → Tr} {B B' : Boxes} {ops : Array Oper} {K : TK} {l : List Oper} {d : Option Tmp} {ty : TypeId} {pos : String} {af : Array Edge} {H : List (Nat × Nat)} {F : Mem} {s : Nat → Value} {h : IHp} {held : Held}
/-! ### Functions that change memory that they are handed -/
end Go.Ideal

-- IdealTq
set_option linter.unusedSimpArgs false
set_option linter.unusedVariables false
namespace Go.Ideal
open Go Go.RowKit
variable {P : Program} {X : Cx} {E : Env} {σ : Nat → Tr} {B B' : Boxes} {ops : Array Oper} {K : TK} {l : List Oper} {d : Option Tmp} {ty : TypeId} {pos : String} {af : Array Edge} {H : List (Nat × Nat)} {F : Mem} {s : Nat → Value} {h : IHp} {held : Held}
/-! ### Pointers that are not nil -/
instance Pu.nilCheck_v {x : Operand} {b off : Nat} [e : TEval σ x (.v (.pointer (some (ad b off))))] : Pu P σ B (.nilCheck x) (.v (.pointer (some (ad b off)))) := ⟨fun {X F s h} q {E' _ _ _ _ _ _ _} kk => by
  have h1 := e.is q.slot
  have g1 := ev_eq (E := E') (h := h) (x := x) (s := s)
  refine WS_pure rfl rfl ?_ (kk _ (rep_v _))
  simp only [ipure, g1]⟩
instance Pu.nilCheck_pf {x : Operand} {cs : List Tr} [e : TEval σ x (.pf cs)] : Pu P σ B (.nilCheck x) (.pf cs) := ⟨fun {X F s h} q {E' _ _ _ _ _ _ _} kk => by
  have h1 := evalIs_self (s := s) (x := x) (h := h)
  have h2 := e.eq F s q.slot h 0 [] false
  have h3 := h2
  simp only [Rep] at h2
  obtain ⟨b, off, vs, h4, h5, h6⟩ := h2
  rw [h4] at h1 h3
  have g1 := ev_eq (E := E') (h := h) (x := x) (s := s)
  refine WS_pure rfl rfl ?_ (kk _ h3)
  simp only [ipure, g1]⟩
end Go.Ideal

-- IdealTr
set_option linter.unusedSimpArgs false
set_option linter.unusedVariables false
namespace Go.Ideal
open Go Go.RowKit
variable {P : Program} {X : Cx} {E : Env} {σ : Nat → Tr} {B B' : Boxes} {ops : Array Oper} {K : TK} {l : List Oper} {d : Option Tmp} {ty : TypeId} {pos : String} {af : Array Edge} {H : List (Nat × Nat)} {F : Mem} {s : Nat → Value} {h : IHp} {held : Held}
/-! ### == of structs of numbers -/
end Go.Ideal

-- IdealTs
set_option linter.unusedSimpArgs false
set_option linter.unusedVariables false
namespace Go.Ideal
open Go
section
variable {P : Program} {E : ICall} {σ : Nat → Tr} {B : Boxes}
/-! ### A slice from its start on -/
end
end Go.Ideal

-- IdealTu
set_option linter.unusedSimpArgs false
set_option linter.unusedVariables false
namespace Go.Ideal
open Go Go.RowKit
variable {P : Program} {X : Cx} {E : Env} {σ : Nat → Tr} {B B' : Boxes} {ops : Array Oper} {K : TK} {l : List Oper} {d : Option Tmp} {ty : TypeId} {pos : String} {af : Array Edge} {H : List (Nat × Nat)} {F : Mem} {s : Nat → Value} {h : IHp} {held : Held}
/-! ### Own answers: frozen, or taken while what is handed in stays one's own -/
def FlatB : Box → Prop
  | .cells cs _ _ => FlatL cs
  | .arr _ rows _ _ => FlatL rows.flatten
theorem FlatL.app {a b : List Tr} (x : FlatL a) (y : FlatL b) : FlatL (a ++ b) := ⟨fun F G vs hv => by
  obtain ⟨p, q, rfl, h1, h2⟩ := hv.split
  exact (x.eq F G _ h1).append (y.eq F G _ h2)⟩
theorem FlatL.rows : ∀ {rows : List (List Tr)}, (∀ row ∈ rows, FlatL row) → FlatL rows.flatten := by
  intro rows
  induction rows with
  | nil => intro _; exact FlatL.nil
  | cons r rows ih => intro h; exact (h r (List.mem_cons_self ..)).app (ih fun row hr => h row (List.mem_cons_of_mem _ hr))
theorem BoxRep.flat {G : Mem} {b : Nat} {x : Box} (r : BoxRep F h b x) (fl : FlatB x) : BoxRep G h b x := by
  cases x with
  | cells cs t y =>
    obtain ⟨vs, h1, h2⟩ := r
    exact ⟨vs, FlatL.eq (self := fl) F G vs h1, h2⟩
  | arr m rows t y =>
    simp only [BoxRep] at r ⊢
    refine ⟨r.1, ?_⟩
    rcases r.2 with h1 | ⟨vs, h1, h2⟩
    · exact .inl h1
    · exact .inr ⟨vs, FlatL.eq (self := fl) F G vs h1, h2⟩
end Go.Ideal

-- IdealTv
set_option linter.unusedSimpArgs false
set_option linter.unusedVariables false
namespace Go.Ideal
open Go Go.RowKit
variable {P : Program} {X : Cx} {E : Env} {σ : Nat → Tr} {B B' : Boxes} {ops : Array Oper} {K : TK} {l : List Oper} {d : Option Tmp} {ty : TypeId} {pos : String} {af : Array Edge} {H : List (Nat × Nat)} {F : Mem} {s : Nat → Value} {h : IHp} {held : Held}
/-! ### Own slices with room behind, handed in; answers that may grow, borrowed -/
class PreR (rows : List (List Tr)) (n c : Nat) (r : outParam (List (List Tr))) : Prop where
  eq : rows.take n = r
  le : n ≤ rows.length
  cap : n ≤ c
instance (priority := 50) Frz.pre {b m n c : Nat} {rows r : List (List Tr)} {bt : Nat} {bx : Bool} [bi : BoxIs B b (.arr m rows bt bx)] [p : PreR rows n c r] [sm : Sm63 c] [rx : RealX rows bx] : Frz B (.v (.slice (some (ad b 0)) n c)) (.sl m r) := ⟨fun F G h o v hv => by
  have hN : rows.length < 2 ^ 63 ∨ True := .inr trivial
  simp only [Rep] at hv
  subst hv
  have hb := o.box _ bi.mem
  have hb' := hb
  simp only [BoxRep] at hb
  obtain ⟨vs, h1, h2⟩ := rx.even hb'
  simp only [Rep]
  have hl : r.length = n := by rw [← p.eq, List.length_take, Nat.min_eq_left p.le]
  refine ⟨_, n, c, rfl, hl, p.cap, sm.lt, fun d hd => ?_, ?_⟩
  · cases hd; exact .inl rfl
  · have h3 : RepR G b m rows 0 := frz_rows (fr := FrzR.same) o hb.1 h1 fun i hi => by
      rw [rowM_congr (F := h.cell?) (o.cell _ bi.mem h2.even), ← row_rowM]
      exact row_obj h2 i hi
    rw [← p.eq]
    exact h3.take n⟩
theorem FnO.mono {f : FuncId} {args : List Tr} {Φ Ψ : Tr → Boxes → Prop} (x : FnO P f args Φ) (k : ∀ r B, Φ r B → Ψ r B) : FnO P f args Ψ := by
  unfold FnO at *
  intro F0 h vs h1 h2
  exact (x F0 h vs h1 h2).mono fun v h' ⟨F, r, B, a1, a2, a3⟩ => ⟨F, r, B, a1, a2, k r B a3⟩
/-! ### A cut that nothing passes but the way on: the goals ahead of it stay small -/
@[irreducible] def TnormK (I : TK) : IExit → TK := fun e σ B => e = .normal ∧ I σ B
theorem TN_normal {I : TK} (k : I σ B) : TnormK I .normal σ B := by unfold TnormK; exact ⟨rfl, k⟩
instance {I : TK} : StepC (TnormK I .normal σ B) (I σ B) := ⟨TN_normal⟩
theorem TV_cutN {a b : Code} {Q : IExit → TK} (I : TK) (k1 : TV X P E a (TnormK I) σ B) (k2 : ∀ σ' B', I σ' B' → TV X P E b Q σ' B') : TV X P E a (TseqK X P E b Q) σ B := by
  refine TV_mono ?_ k1
  intro e σ' B' hk
  unfold TnormK at hk
  obtain ⟨rfl, hi⟩ := hk
  exact TSQ_normal (k2 σ' B' hi)
end Go.Ideal

-- IdealTw
set_option linter.unusedSimpArgs false
set_option linter.unusedVariables false
namespace Go.Ideal
open Go Go.RowKit
variable {P : Program} {X : Cx} {E : Env} {σ : Nat → Tr} {B B' : Boxes} {ops : Array Oper} {K : TK} {l : List Oper} {d : Option Tmp} {ty : TypeId} {pos : String} {af : Array Edge} {H : List (Nat × Nat)} {F : Mem} {s : Nat → Value} {h : IHp} {held : Held}
/-! ### Pointers and nil -/
instance Pu.ptr_nil {x : Operand} {t te yt : TypeId} {a : Option Addr} [e : TEval σ x (.v (.pointer a))] [u : UnderIs P t (.pointer te)] : Pu P σ B (.binOp .eql t x (.const (.pointer none)) yt) (.v (.bool a.isNone)) := ⟨fun {X F s h} q {E' _ _ _ _ _ _ _} kk => by
  have h1 := e.is q.slot
  have g1 := ev_eq (E := E') (h := h) (x := x) (s := s)
  have g2 : (E'.st s h).eval (.const (.pointer none)) = .pointer none := rfl
  refine WS_pure rfl rfl ?_ (kk _ (rep_v _))
  simp only [ipure, isNilConst, if_true, inil, u.eq, g1, g2]⟩
instance Pu.pf_nil {x : Operand} {t te yt : TypeId} {cs : List Tr} [e : TEval σ x (.pf cs)] [u : UnderIs P t (.pointer te)] : Pu P σ B (.binOp .eql t x (.const (.pointer none)) yt) (.v (.bool false)) := ⟨fun {X F s h} q {E' _ _ _ _ _ _ _} kk => by
  have h1 := evalIs_self (s := s) (x := x) (h := h)
  have h2 := e.eq F s q.slot h 0 [] false
  simp only [Rep] at h2
  obtain ⟨b, off, vs, h4, h5, h6⟩ := h2
  rw [h4] at h1
  have g1 := ev_eq (E := E') (h := h) (x := x) (s := s)
  have g2 : (E'.st s h).eval (.const (.pointer none)) = .pointer none := rfl
  refine WS_pure rfl rfl ?_ (kk _ (rep_v _))
  simp only [ipure, isNilConst, if_true, inil, u.eq, g1, g2]
  rfl⟩
end Go.Ideal

-- IdealTx
set_option linter.unusedSimpArgs false
set_option linter.unusedVariables false
namespace Go.Ideal
open Go Go.RowKit
variable {P : Program} {X : Cx} {E : Env} {σ : Nat → Tr} {B B' : Boxes} {F : Mem} {s : Nat → Value} {h : IHp}
/-! ### From a walk over values to one over trees, midway -/
def LiftQ (X : Cx) (Q' : IExit → TK) (Q : IExit → SK) : Prop := ∀ e F σ B s h, TR X F σ B s h → Q' e σ B → Q e s h
theorem V_of_TV {c : Code} {Q' : IExit → TK} {Q : IExit → SK} (r : TR X F σ B s h) (l : LiftQ X Q' Q) (k : TV X P E c Q' σ B) : V P E c Q s h := by
  unfold TV at k
  exact V_mono (fun e s h ⟨F', σ', B', r', hk⟩ => l e F' σ' B' s h r' hk) (k F s h r)
theorem LiftQ.seq {b : Code} {Q' : IExit → TK} {Q : IExit → SK} (l : LiftQ X Q' Q) : LiftQ X (TseqK X P E b Q') (VseqK P E b Q) := by
  intro e F σ B s h r hk
  unfold TseqK at hk
  unfold VseqK
  cases e with
  | normal => exact V_of_TV r l hk
  | exit j => exact l _ _ _ _ _ _ r hk
  | ret => exact l _ _ _ _ _ _ r hk
theorem LiftQ.ret {rs : List ResultVar} {Φ : Tr → Prop} {Ψ : Value → IHp → Prop} (hΨ : ∀ F r v h', Rep F r v → Φ r → Ψ v h') : LiftQ X (retT P rs Φ) (retK P E rs Ψ) := by
  intro e F' σ' B' s' h' r' hk
  unfold retT at hk
  obtain ⟨he, ts, h3, h4⟩ := hk
  obtain ⟨ws, h5, h6⟩ := h3 _ F' s' h' E r' (thaw F' B' h') r'.thawOk
  unfold retK
  refine ⟨he, ws, h5, hΨ (thaw F' B' h') (tret ts) _ _ ?_ h4⟩
  have hl := h6.len
  match ts, ws, h6, hl with
  | [], [], _, _ => simp only [tret, iret, Rep]; exact ⟨[], rfl, RepL.nil⟩
  | [t], [v], h6, _ =>
    simp only [RepL] at h6
    obtain ⟨v', ws', h7, h8, _⟩ := h6
    simp only [List.cons.injEq] at h7
    obtain ⟨rfl, rfl⟩ := h7
    exact h8
  | t :: t2 :: ts, v :: v2 :: vs, h6, _ => simp only [tret, iret, Rep]; exact ⟨_, rfl, h6⟩
/-- one object of one's own, all slots as they are -/
theorem TR.enter {h0 : IHp} {b t : Nat} {x : Bool} {cs : List Tr} {vs : List Value} (e : Ext h0 h) (hb : h0.fresh ≤ b) (o : ObjIs h b vs t x) (hr : RepL h0.cell? cs vs) : TR ⟨h0, h0.cell?, []⟩ h0.cell? (fun i => .v (s i)) [(b, .cells cs t x)] s h := by
  refine ⟨e, Sub.refl _, fun b off v hf => cell_ext e hf, fun b off v hf => .inl hf, fun p hp => ?_, fun p hp he => ?_, by simp, by simp, fun i => rep_v _⟩
  · rw [List.mem_singleton.1 hp]; exact ⟨vs, hr, o⟩
  · rw [List.mem_singleton.1 hp]
    refine ⟨hb, fun off => ?_⟩
    have he : b % 2 = 0 := o.even
    cases hc : h0.cell? b off with
    | none => rfl
    | some v =>
      simp only [IHp.cell?] at hc
      rw [if_neg (by omega)] at hc
      have : h0.new[b / 2]? = none := List.getElem?_eq_none (by unfold IHp.fresh at hb; omega)
      rw [this] at hc
      cases hc
theorem tget_v {i : Nat} {v : Value} (h : s i = v) : TGet (fun i => .v (s i)) i (.v v) := ⟨by simp only [h]⟩
end Go.Ideal

-- IdealBr
set_option linter.unusedSimpArgs false
set_option linter.unusedVariables false
namespace Go.Ideal
open Go Go.RowKit

/-! ### What a reading of the arguments says of the ideal heap -/
def up (v : Value) : Value := (upv v).getD undef
def IRd (P : Program) (h : IHp) : Nat → TypeId → List Value → Prop
  | 0, _, _ => False
  | n + 1, t, cs =>
    match P.underlying t with
    | some .bool => ∃ b, cs = [.bool b]
    | some (.int k) => ∃ i, cs = [.int k i] ∧ (Lit.int k i).wf = true
    | some .string => ∃ s, cs = [.string s] ∧ s.size ≤ maxLen
    | some (.slice e) => cs = [.slice none 0 0] ∨ ∃ a l c, cs = [.slice (some a) l c] ∧ l ≤ c ∧ c ≤ maxLen ∧ (a.spot = none ∨ c = 0) ∧ ∀ i, i < c → ∃ row, h.row a.block (a.off + i * P.cellsOf e) (P.cellsOf e) = some row ∧ IRd P h n e row
    | some (.struct fs) => cs.length = P.cellsOf t ∧ ∀ (i : Nat) (f : Field), fs[i]? = some f → IRd P h n f.type ((cs.drop f.offset).take (P.cellsOf f.type))
    | _ => False
/-- the fields lie one behind the other -/
def tiles (P : Program) : List Field → Nat → Nat → Bool
  | [], at_, all => at_ == all
  | f :: fs, at_, all => f.offset == at_ && tiles P fs (at_ + P.cellsOf f.type) all
/-- plain data -/
def plainT (P : Program) : Nat → TypeId → Bool
  | 0, _ => false
  | n + 1, t =>
    match P.underlying t with
    | some .bool | some (.int _) | some .string => true
    | some (.slice e) => P.cellsOf e != 0 && plainT P n e
    | some (.struct fs) => tiles P fs.toList 0 (P.cellsOf t) && fs.toList.all fun f => plainT P n f.type
    | _ => false
theorem tiles_mem {P : Program} {cs : List Value} : ∀ (fs : List Field) (at_ : Nat), tiles P fs at_ cs.length = true → ∀ v ∈ cs.drop at_, ∃ f ∈ fs, v ∈ (cs.drop f.offset).take (P.cellsOf f.type) := by
  intro fs
  induction fs with
  | nil =>
    intro at_ h v hv
    simp only [tiles, beq_iff_eq] at h
    rw [List.drop_of_length_le (by omega)] at hv
    cases hv
  | cons f fs ih =>
    intro at_ h v hv
    simp only [tiles, Bool.and_eq_true, beq_iff_eq] at h
    obtain ⟨h1, h2⟩ := h
    rw [← List.take_append_drop (P.cellsOf f.type) (cs.drop at_)] at hv
    rcases List.mem_append.1 hv with h3 | h3
    · exact ⟨f, List.mem_cons_self, by rw [h1]; exact h3⟩
    · rw [List.drop_drop] at h3
      obtain ⟨g, h4, h5⟩ := ih _ h2 v h3
      exact ⟨g, List.mem_cons_of_mem _ h4, h5⟩
theorem up_of {v u : Value} (h : upv v = some u) : up v = u := by simp [up, h]
theorem mapM_cells {w : World} {a : Addr} (hs : a.spot = none) : ∀ (n k : Nat) (row : List Value), ((List.range' k n).mapM fun i => w.cell? (a.add i)) = some row → (∀ v ∈ row, (upv v).isSome = true) → (heapOf w).row (2 * a.block + 1) (a.off + k) n = some (row.map up) := by
  intro n
  induction n with
  | zero => intro k row h _; simp at h; subst h; rfl
  | succ n ih =>
    intro k row h hup
    rw [List.range'_succ, List.mapM_cons] at h
    cases h1 : w.cell? (a.add k) with
    | none => simp [h1] at h
    | some v =>
      cases h2 : (List.range' (k + 1) n).mapM fun i => w.cell? (a.add i) with
      | none => simp [h1, h2] at h
      | some vs =>
        simp [h1, h2] at h
        subst h
        have h3 := ih (k + 1) vs h2 (fun v hv => hup v (List.mem_cons_of_mem _ hv))
        obtain ⟨u, hu⟩ := Option.isSome_iff_exists.1 (hup v List.mem_cons_self)
        have hadd : a.add k = ⟨a.block, a.off + k, none⟩ := by
          unfold Addr.add
          split
          · rename_i h0; subst h0; cases a; simp at hs; subst hs; rfl
          · rfl
        rw [hadd] at h1
        have hb : a.block < w.heap.size := by
          simp only [World.cell?] at h1
          split at h1
          · rename_i hx; exact (Array.getElem?_eq_some_iff.1 hx).1
          · cases h1
        have h4 : (heapOf w).cell? (2 * a.block + 1) (a.off + k) = some u := by
          simp only [IHp.cell?, heapOf]
          rw [if_pos (by omega), show (2 * a.block + 1) / 2 = a.block by omega, if_pos hb, h1]
          exact hu
        simp only [IHp.row, h4, Option.bind_some, show a.off + k + 1 = a.off + (k + 1) by omega, h3, List.map_cons, up_of hu]
theorem irow {w : World} {a : Addr} {n : Nat} {row : List Value} (hs : a.spot = none) (h : w.cells? 0 a n = some row) (hup : ∀ v ∈ row, (upv v).isSome = true) : (heapOf w).row (2 * a.block + 1) a.off n = some (row.map up) := by
  simp only [World.cells?, Nat.zero_le, if_true] at h
  rw [List.range_eq_range'] at h
  simpa using mapM_cells hs n 0 row h hup
section
variable {H : Type} {enc : TypeId × Value → H} {P : Program} {w : World} {held : Bool}
theorem bridge : ∀ (N : Nat) (t : TypeId) (fuel : Nat) (cs : List Value) (x : DataW H × List MemPlace), plainT P N t = true → DataW.trod enc P w 0 (fun _ => true) held fuel t cs = some x → (∀ v ∈ cs, (upv v).isSome = true) ∧ IRd P (heapOf w) N t (cs.map up) := by
  intro N
  induction N with
  | zero => intro t fuel cs x h; simp [plainT] at h
  | succ N ih =>
    intro t fuel cs x hp h
    rw [plainT] at hp
    rw [IRd]
    split at hp
    · rename_i hu
      obtain ⟨b, rfl, _⟩ := DataW.trod_bool hu h
      exact ⟨by simp [upv], b, by simp [up, upv]⟩
    · rename_i k hu
      obtain ⟨i, rfl, _, hw⟩ := DataW.trod_int hu h
      exact ⟨by simp [upv], i, by simp [up, upv], hw⟩
    · rename_i hu
      obtain ⟨s, rfl, _, hw⟩ := DataW.trod_string hu h
      exact ⟨by simp [upv], s, by simp [up, upv], hw⟩
    · rename_i e hu
      simp only [Bool.and_eq_true, bne_iff_ne, ne_eq] at hp
      obtain ⟨hn, hpe⟩ := hp
      rcases DataW.trod_slice hu h with ⟨rfl, _⟩ | ⟨a, l, c, elems, rest, m, rfl, rfl, _, _, hlc, hcm, hel, he, hr, _⟩
      · exact ⟨by simp [upv], .inl (by simp [up, upv])⟩
      · obtain ⟨hrl, hr⟩ := hr rfl
        have hat : ∀ i, i < c → ∃ row y, w.cells? 0 (a.add (i * P.cellsOf e)) (P.cellsOf e) = some row ∧ DataW.trod enc P w 0 (fun _ => true) held m e row = some y := by
          intro i hi
          by_cases hil : i < l
          · have h1 := he i hil
            rw [List.getElem?_eq_getElem (by omega)] at h1
            simp only [Option.bind_eq_some_iff] at h1
            obtain ⟨row, h2, h3⟩ := h1
            exact ⟨row, _, h2, h3⟩
          · have h1 := hr (i - l) (by omega)
            rw [List.getElem?_eq_getElem (by omega), show l + (i - l) = i by omega] at h1
            simp only [Option.bind_eq_some_iff] at h1
            obtain ⟨row, h2, h3⟩ := h1
            exact ⟨row, _, h2, h3⟩
        by_cases hs : a.spot = none
        · have hup : upv (.slice (some a) l c) = some (.slice (some { block := 2 * a.block + 1, off := a.off }) l c) := by simp [upv, hs]
          refine ⟨by simp [hup], .inr ⟨{ block := 2 * a.block + 1, off := a.off }, l, c, by simp [up_of hup], hlc, hcm, .inl rfl, fun i hi => ?_⟩⟩
          obtain ⟨row, y, h1, h2⟩ := hat i hi
          obtain ⟨h3, h4⟩ := ih e m row y hpe h2
          refine ⟨row.map up, ?_, h4⟩
          have hsp : (a.add (i * P.cellsOf e)).spot = none := by unfold Addr.add; split <;> simp [hs]
          have h5 := irow hsp h1 h3
          have hblk : (a.add (i * P.cellsOf e)).block = a.block := by unfold Addr.add; split <;> rfl
          have hoff : (a.add (i * P.cellsOf e)).off = a.off + i * P.cellsOf e := by unfold Addr.add; split <;> simp_all
          rw [hblk, hoff] at h5
          exact h5
        · have hc0 : c = 0 := by
            apply Decidable.byContradiction
            intro hc
            obtain ⟨row, y, h1, _⟩ := hat 0 (by omega)
            have ha0 : a.add (0 * P.cellsOf e) = a := by simp [Addr.add]
            rw [ha0] at h1
            simp only [World.cells?, Nat.zero_le, if_true] at h1
            obtain ⟨m', hm'⟩ : ∃ m', P.cellsOf e = m' + 1 := ⟨P.cellsOf e - 1, by omega⟩
            rw [hm', List.range_succ_eq_map, List.mapM_cons] at h1
            have : w.cell? (a.add 0) = none := by
              simp only [World.cell?, Addr.add, if_true]
              split
              · rw [if_pos]; cases hsp : a.spot with
                | none => exact absurd hsp hs
                | some _ => rfl
              · rfl
            rw [this] at h1
            simp at h1
          have hl0 : l = 0 := by omega
          subst hc0; subst hl0
          have hup : upv (.slice (some a) 0 0) = some (.slice (some a) 0 0) := by simp [upv, hs]
          exact ⟨by simp [hup], .inr ⟨a, 0, 0, by simp [up_of hup], Nat.le_refl _, Nat.zero_le _, .inr rfl, fun i hi => absurd hi (Nat.not_lt_zero i)⟩⟩
    · rename_i fs hu
      simp only [Bool.and_eq_true, List.all_eq_true] at hp
      obtain ⟨htile, hall⟩ := hp
      obtain ⟨xs, m, rfl, _, hlen, hxl, hf⟩ := DataW.trod_struct hu h
      have hfield : ∀ (i : Nat) (f : Field), fs[i]? = some f → (∀ v ∈ (cs.drop f.offset).take (P.cellsOf f.type), (upv v).isSome = true) ∧ IRd P (heapOf w) N f.type (((cs.drop f.offset).take (P.cellsOf f.type)).map up) := by
        intro i f hfi
        have h1 := hf i f hfi
        have hi : i < xs.length := by rw [hxl]; exact (Array.getElem?_eq_some_iff.1 hfi).1
        rw [List.getElem?_eq_getElem hi] at h1
        exact ih _ _ _ _ (hall f (by rw [Array.mem_toList_iff]; exact Array.mem_of_getElem? hfi)) h1
      refine ⟨fun v hv => ?_, by simpa using hlen, fun i f hfi => ?_⟩
      · rw [← hlen] at htile
        obtain ⟨f, h1, h2⟩ := tiles_mem fs.toList 0 htile v (by simpa using hv)
        obtain ⟨i, hi⟩ := Array.mem_iff_getElem?.1 (Array.mem_toList_iff.1 h1)
        exact (hfield i f hi).1 v h2
      · have := (hfield i f hfi).2
        simpa [List.map_take, List.map_drop] using this
    · cases hp
/-- an argument -/
def upA : Value → Value
  | .agg cs => .agg (cs.toList.map up).toArray
  | v => up v
theorem RA_up {ρ : RM} {cs : Array Value} (h : ∀ v ∈ cs.toList, (upv v).isSome = true) : RA ρ (cs.toList.map up).toArray cs := by
  refine ⟨by simp, fun i hi => ?_⟩
  have hi' : i < cs.size := by simpa using hi
  obtain ⟨u, hu⟩ := Option.isSome_iff_exists.1 (h cs[i] (by simp))
  have h1 : (cs.toList.map up).toArray[i] = u := by simp [up_of hu]
  rw [h1]
  have h2 : cs.getD i undef = cs[i] := by simp [Array.getD, hi']
  rw [h2]
  exact upv_R hu
theorem bridge_struct {N base : Nat} {t : TypeId} {fs : Array Field} {v : Value} {d : DataW H} {p : List MemPlace} (hu : P.underlying t = some (.struct fs)) (hp : plainT P N t = true) (hv : Value.okWide P w .any base t v) (h : DataW.Trod enc P w 0 (fun _ => true) held t v d p) :
    R RM0 (upA v) v ∧ ∃ cs : List Value, upA v = .agg cs.toArray ∧ IRd P (heapOf w) N t cs := by
  simp only [Value.okWide, hu] at hv
  obtain ⟨cs, rfl, _, _⟩ := hv
  obtain ⟨fuel, h⟩ := h
  obtain ⟨h1, h2⟩ := bridge N t fuel _ _ hp h
  exact ⟨by rw [upA, R_agg]; exact ⟨cs, rfl, RA_up h1⟩, _, rfl, h2⟩
end
end Go.Ideal

-- IdealTy
set_option linter.unusedSimpArgs false
set_option linter.unusedVariables false
namespace Go.Ideal
open Go Go.RowKit
/-! ### Slices of structs among the arguments, as trees -/
theorem rep_rows {F : Mem} {b m : Nat} : ∀ {rows : List (List Tr)} {off : Nat}, (∀ (i : Nat) (row : List Tr), rows[i]? = some row → ∃ vs, rowM F b (off + i * m) m = some vs ∧ RepL F row vs) → RepR F b m rows off := by
  intro rows
  induction rows with
  | nil => intro off _; simp [RepR]
  | cons r rows ih =>
    intro off h
    simp only [RepR]
    refine ⟨by simpa using h 0 r rfl, ih fun i row hr => ?_⟩
    have := h (i + 1) row (by simpa using hr)
    rw [show off + (i + 1) * m = off + m + i * m by rw [Nat.add_mul]; omega] at this
    exact this
theorem slice_tree {α : Type} {P : Program} {h : IHp} {n m : Nat} {t e : TypeId} {v : Value} (D : α → List Tr) (W : α → Prop) (hu : P.underlying t = some (.slice e)) (cc : P.cellsOf e = m) (key : ∀ row, IRd P h n e row → ∃ a, RepL h.cell? (D a) row ∧ W a) (hd : IRd P h (n + 1) t [v]) : ∃ xs : List α, Rep h.cell? (.sl m (xs.map D)) v ∧ ∀ a ∈ xs, W a := by
  rw [IRd, hu] at hd
  rcases hd with h1 | ⟨a, l, c, h1, h2, h3, h5, h4⟩
  · cases h1
    refine ⟨[], ?_, fun p hp => by cases hp⟩
    rw [Rep]
    exact ⟨none, 0, 0, rfl, rfl, Nat.le_refl _, by decide, (fun d hd => by cases hd), rfl⟩
  · cases h1
    have key2 : ∀ i, i < c → ∃ x row, h.row a.block (a.off + i * m) m = some row ∧ RepL h.cell? (D x) row ∧ W x := by
      intro i hi
      obtain ⟨row, g1, g2⟩ := h4 i hi
      rw [cc] at g1
      obtain ⟨x, r, w⟩ := key row g2
      exact ⟨x, row, g1, r, w⟩
    by_cases hl : l = 0
    · subst hl
      refine ⟨[], ?_, fun p hp => by cases hp⟩
      rw [Rep]
      exact ⟨some a, 0, c, rfl, rfl, Nat.zero_le _, by unfold maxLen at h3; omega, (fun d hd => by cases hd; exact h5), by simp only [List.map_nil, RepR]⟩
    obtain ⟨x0, _⟩ := key2 0 (by omega)
    have hex : ∃ f : Nat → α, ∀ i, i < l → ∃ row, h.row a.block (a.off + i * m) m = some row ∧ RepL h.cell? (D (f i)) row ∧ W (f i) :=
      ⟨fun i => if hi : i < c then Classical.choose (key2 i hi) else x0, fun i hi => by
        have hic : i < c := by omega
        simp only [hic, dif_pos]
        exact Classical.choose_spec (key2 i hic)⟩
    obtain ⟨f, hf⟩ := hex
    refine ⟨(List.range l).map f, ?_, fun p hp => ?_⟩
    · rw [Rep]
      refine ⟨some a, l, c, rfl, by simp, h2, by unfold maxLen at h3; omega, fun d hd => by cases hd; exact h5, ?_⟩
      simp only
      refine rep_rows fun i row hr => ?_
      simp only [List.getElem?_map, Option.map_eq_some_iff] at hr
      obtain ⟨o, ⟨k, hk, rfl⟩, rfl⟩ := hr
      obtain ⟨hk1, rfl⟩ := List.getElem?_eq_some_iff.1 hk
      simp only [List.length_range] at hk1
      simp only [List.getElem_range]
      obtain ⟨row, r1, r2, _⟩ := hf i hk1
      exact ⟨row, by rw [← row_rowM]; exact r1, r2⟩
    · obtain ⟨i, hi, rfl⟩ := List.mem_map.1 hp
      obtain ⟨_, _, _, w⟩ := hf i (List.mem_range.1 hi)
      exact w
end Go.Ideal

-- R1Ty
set_option linter.unusedSimpArgs false
set_option linter.unusedVariables false
namespace Go.Ideal
open Go Go.Proofs
instance : SizeIs Try.prog 1 1 := ⟨by kernel_rfl⟩
instance : AggIs Try.prog 1 false := ⟨by kernel_rfl⟩
instance : ZeroIs Try.prog 1 (Value.nilFunc) := ⟨by kernel_rfl⟩
instance : BytesIs Try.prog 1 1 8 := ⟨Try.t1, _, by kernel_rfl, rfl, rfl, rfl, rfl, by decide, by decide⟩
instance : UnderIs Try.prog 2 (.int IntKind.i64) := ⟨Try.underlying2⟩
instance : SizeIs Try.prog 2 1 := ⟨by kernel_rfl⟩
instance : AggIs Try.prog 2 false := ⟨by kernel_rfl⟩
instance : ZeroIs Try.prog 2 ((Value.int IntKind.i64 0)) := ⟨by kernel_rfl⟩
instance : BytesIs Try.prog 2 1 8 := ⟨Try.t2, _, by kernel_rfl, rfl, rfl, rfl, rfl, by decide, by decide⟩
instance : UnderIs Try.prog 3 (.int IntKind.i64) := ⟨Try.underlying3⟩
instance : SizeIs Try.prog 3 1 := ⟨by kernel_rfl⟩
instance : AggIs Try.prog 3 false := ⟨by kernel_rfl⟩
instance : ZeroIs Try.prog 3 ((Value.int IntKind.i64 0)) := ⟨by kernel_rfl⟩
instance : BytesIs Try.prog 3 1 8 := ⟨Try.t3, _, by kernel_rfl, rfl, rfl, rfl, rfl, by decide, by decide⟩
instance : UnderIs Try.prog 4 (.bool) := ⟨Try.underlying4⟩
instance : SizeIs Try.prog 4 1 := ⟨by kernel_rfl⟩
instance : AggIs Try.prog 4 false := ⟨by kernel_rfl⟩
instance : ZeroIs Try.prog 4 ((Value.bool false)) := ⟨by kernel_rfl⟩
instance : BytesIs Try.prog 4 1 1 := ⟨Try.t4, _, by kernel_rfl, rfl, rfl, rfl, rfl, by decide, by decide⟩
instance : UnderIs Try.prog 5 (.int IntKind.u8) := ⟨Try.underlying5⟩
instance : SizeIs Try.prog 5 1 := ⟨by kernel_rfl⟩
instance : AggIs Try.prog 5 false := ⟨by kernel_rfl⟩
instance : ZeroIs Try.prog 5 ((Value.int IntKind.u8 0)) := ⟨by kernel_rfl⟩
instance : BytesIs Try.prog 5 1 1 := ⟨Try.t5, _, by kernel_rfl, rfl, rfl, rfl, rfl, by decide, by decide⟩
instance : UnderIs Try.prog 6 (.int IntKind.u8) := ⟨Try.underlying6⟩
instance : SizeIs Try.prog 6 1 := ⟨by kernel_rfl⟩
instance : AggIs Try.prog 6 false := ⟨by kernel_rfl⟩
instance : ZeroIs Try.prog 6 ((Value.int IntKind.u8 0)) := ⟨by kernel_rfl⟩
instance : BytesIs Try.prog 6 1 1 := ⟨Try.t6, _, by kernel_rfl, rfl, rfl, rfl, rfl, by decide, by decide⟩
instance : FieldIs Try.prog 7 0 0 2 1 := ⟨_, _, Try.underlying7, rfl, rfl, rfl, by kernel_rfl, by decide⟩
instance : FieldIs Try.prog 7 1 1 3 1 := ⟨_, _, Try.underlying7, rfl, rfl, rfl, by kernel_rfl, by decide⟩
instance : FieldIs Try.prog 7 2 2 4 1 := ⟨_, _, Try.underlying7, rfl, rfl, rfl, by kernel_rfl, by decide⟩
instance : FieldIs Try.prog 7 3 3 6 1 := ⟨_, _, Try.underlying7, rfl, rfl, rfl, by kernel_rfl, by decide⟩
instance : StructOk Try.prog 7 := ⟨_, Try.underlying7, by kernel_rfl⟩
instance : SizeIs Try.prog 7 4 := ⟨by kernel_rfl⟩
instance : AggIs Try.prog 7 true := ⟨by kernel_rfl⟩
instance : ZeroIs Try.prog 7 ((Value.agg #[Value.int IntKind.i64 0, Value.int IntKind.i64 0, Value.bool false, Value.int IntKind.u8 0])) := ⟨by kernel_rfl⟩
instance : BytesIs Try.prog 7 4 24 := ⟨Try.t7, _, by kernel_rfl, rfl, rfl, rfl, rfl, by decide, by decide⟩
instance : FieldIs Try.prog 8 0 0 2 1 := ⟨_, _, Try.underlying8, rfl, rfl, rfl, by kernel_rfl, by decide⟩
instance : FieldIs Try.prog 8 1 1 3 1 := ⟨_, _, Try.underlying8, rfl, rfl, rfl, by kernel_rfl, by decide⟩
instance : FieldIs Try.prog 8 2 2 4 1 := ⟨_, _, Try.underlying8, rfl, rfl, rfl, by kernel_rfl, by decide⟩
instance : FieldIs Try.prog 8 3 3 6 1 := ⟨_, _, Try.underlying8, rfl, rfl, rfl, by kernel_rfl, by decide⟩
instance : StructOk Try.prog 8 := ⟨_, Try.underlying8, by kernel_rfl⟩
instance : SizeIs Try.prog 8 4 := ⟨by kernel_rfl⟩
instance : AggIs Try.prog 8 true := ⟨by kernel_rfl⟩
instance : ZeroIs Try.prog 8 ((Value.agg #[Value.int IntKind.i64 0, Value.int IntKind.i64 0, Value.bool false, Value.int IntKind.u8 0])) := ⟨by kernel_rfl⟩
instance : BytesIs Try.prog 8 4 24 := ⟨Try.t8, _, by kernel_rfl, rfl, rfl, rfl, rfl, by decide, by decide⟩
instance : UnderIs Try.prog 9 (.string) := ⟨Try.underlying9⟩
instance : SizeIs Try.prog 9 1 := ⟨by kernel_rfl⟩
instance : AggIs Try.prog 9 false := ⟨by kernel_rfl⟩
instance : ZeroIs Try.prog 9 ((Value.string ByteArray.empty)) := ⟨by kernel_rfl⟩
instance : BytesIs Try.prog 9 1 16 := ⟨Try.t9, _, by kernel_rfl, rfl, rfl, rfl, rfl, by decide, by decide⟩
instance : UnderIs Try.prog 10 (.string) := ⟨Try.underlying10⟩
instance : SizeIs Try.prog 10 1 := ⟨by kernel_rfl⟩
instance : AggIs Try.prog 10 false := ⟨by kernel_rfl⟩
instance : ZeroIs Try.prog 10 ((Value.string ByteArray.empty)) := ⟨by kernel_rfl⟩
instance : BytesIs Try.prog 10 1 16 := ⟨Try.t10, _, by kernel_rfl, rfl, rfl, rfl, rfl, by decide, by decide⟩
instance : UnderIs Try.prog 11 (.string) := ⟨Try.underlying11⟩
instance : SizeIs Try.prog 11 1 := ⟨by kernel_rfl⟩
instance : AggIs Try.prog 11 false := ⟨by kernel_rfl⟩
instance : ZeroIs Try.prog 11 ((Value.string ByteArray.empty)) := ⟨by kernel_rfl⟩
instance : BytesIs Try.prog 11 1 16 := ⟨Try.t11, _, by kernel_rfl, rfl, rfl, rfl, rfl, by decide, by decide⟩
instance : UnderIs Try.prog 12 (.int IntKind.u64) := ⟨Try.underlying12⟩
instance : SizeIs Try.prog 12 1 := ⟨by kernel_rfl⟩
instance : AggIs Try.prog 12 false := ⟨by kernel_rfl⟩
instance : ZeroIs Try.prog 12 ((Value.int IntKind.u64 0)) := ⟨by kernel_rfl⟩
instance : BytesIs Try.prog 12 1 8 := ⟨Try.t12, _, by kernel_rfl, rfl, rfl, rfl, rfl, by decide, by decide⟩
instance : FieldIs Try.prog 13 0 0 9 1 := ⟨_, _, Try.underlying13, rfl, rfl, rfl, by kernel_rfl, by decide⟩
instance : FieldIs Try.prog 13 1 1 12 1 := ⟨_, _, Try.underlying13, rfl, rfl, rfl, by kernel_rfl, by decide⟩
instance : StructOk Try.prog 13 := ⟨_, Try.underlying13, by kernel_rfl⟩
instance : SizeIs Try.prog 13 2 := ⟨by kernel_rfl⟩
instance : AggIs Try.prog 13 true := ⟨by kernel_rfl⟩
instance : ZeroIs Try.prog 13 ((Value.agg #[Value.string ByteArray.empty, Value.int IntKind.u64 0])) := ⟨by kernel_rfl⟩
instance : BytesIs Try.prog 13 2 24 := ⟨Try.t13, _, by kernel_rfl, rfl, rfl, rfl, rfl, by decide, by decide⟩
instance : FieldIs Try.prog 14 0 0 9 1 := ⟨_, _, Try.underlying14, rfl, rfl, rfl, by kernel_rfl, by decide⟩
instance : FieldIs Try.prog 14 1 1 12 1 := ⟨_, _, Try.underlying14, rfl, rfl, rfl, by kernel_rfl, by decide⟩
instance : StructOk Try.prog 14 := ⟨_, Try.underlying14, by kernel_rfl⟩
instance : SizeIs Try.prog 14 2 := ⟨by kernel_rfl⟩
instance : AggIs Try.prog 14 true := ⟨by kernel_rfl⟩
instance : ZeroIs Try.prog 14 ((Value.agg #[Value.string ByteArray.empty, Value.int IntKind.u64 0])) := ⟨by kernel_rfl⟩
instance : BytesIs Try.prog 14 2 24 := ⟨Try.t14, _, by kernel_rfl, rfl, rfl, rfl, rfl, by decide, by decide⟩
instance : UnderIs Try.prog 15 (.pointer 186) := ⟨Try.underlying15⟩
instance : SizeIs Try.prog 15 1 := ⟨by kernel_rfl⟩
instance : AggIs Try.prog 15 false := ⟨by kernel_rfl⟩
instance : ZeroIs Try.prog 15 ((Value.pointer none)) := ⟨by kernel_rfl⟩
instance : BytesIs Try.prog 15 1 8 := ⟨Try.t15, _, by kernel_rfl, rfl, rfl, rfl, rfl, by decide, by decide⟩
instance : UnderIs Try.prog 16 (.pointer 189) := ⟨Try.underlying16⟩
instance : SizeIs Try.prog 16 1 := ⟨by kernel_rfl⟩
instance : AggIs Try.prog 16 false := ⟨by kernel_rfl⟩
instance : ZeroIs Try.prog 16 ((Value.pointer none)) := ⟨by kernel_rfl⟩
instance : BytesIs Try.prog 16 1 8 := ⟨Try.t16, _, by kernel_rfl, rfl, rfl, rfl, rfl, by decide, by decide⟩
instance : UnderIs Try.prog 17 (.pointer 199) := ⟨Try.underlying17⟩
instance : SizeIs Try.prog 17 1 := ⟨by kernel_rfl⟩
instance : AggIs Try.prog 17 false := ⟨by kernel_rfl⟩
instance : ZeroIs Try.prog 17 ((Value.pointer none)) := ⟨by kernel_rfl⟩
instance : BytesIs Try.prog 17 1 8 := ⟨Try.t17, _, by kernel_rfl, rfl, rfl, rfl, rfl, by decide, by decide⟩
instance : FieldIs Try.prog 18 0 0 17 1 := ⟨_, _, Try.underlying18, rfl, rfl, rfl, by kernel_rfl, by decide⟩
instance : StructOk Try.prog 18 := ⟨_, Try.underlying18, by kernel_rfl⟩
instance : SizeIs Try.prog 18 1 := ⟨by kernel_rfl⟩
instance : AggIs Try.prog 18 true := ⟨by kernel_rfl⟩
instance : ZeroIs Try.prog 18 ((Value.agg #[Value.pointer none])) := ⟨by kernel_rfl⟩
instance : BytesIs Try.prog 18 1 8 := ⟨Try.t18, _, by kernel_rfl, rfl, rfl, rfl, rfl, by decide, by decide⟩
instance : FieldIs Try.prog 19 0 0 17 1 := ⟨_, _, Try.underlying19, rfl, rfl, rfl, by kernel_rfl, by decide⟩
instance : StructOk Try.prog 19 := ⟨_, Try.underlying19, by kernel_rfl⟩
instance : SizeIs Try.prog 19 1 := ⟨by kernel_rfl⟩
instance : AggIs Try.prog 19 true := ⟨by kernel_rfl⟩
instance : ZeroIs Try.prog 19 ((Value.agg #[Value.pointer none])) := ⟨by kernel_rfl⟩
instance : BytesIs Try.prog 19 1 8 := ⟨Try.t19, _, by kernel_rfl, rfl, rfl, rfl, rfl, by decide, by decide⟩
instance : UnderIs Try.prog 21 (.int IntKind.i32) := ⟨Try.underlying21⟩
instance : SizeIs Try.prog 21 1 := ⟨by kernel_rfl⟩
instance : AggIs Try.prog 21 false := ⟨by kernel_rfl⟩
instance : ZeroIs Try.prog 21 ((Value.int IntKind.i32 0)) := ⟨by kernel_rfl⟩
instance : BytesIs Try.prog 21 1 4 := ⟨Try.t21, _, by kernel_rfl, rfl, rfl, rfl, rfl, by decide, by decide⟩
instance : UnderIs Try.prog 22 (.slice 25) := ⟨Try.underlying22⟩
instance : SizeIs Try.prog 22 1 := ⟨by kernel_rfl⟩
instance : AggIs Try.prog 22 false := ⟨by kernel_rfl⟩
instance : ZeroIs Try.prog 22 ((Value.slice none 0 0)) := ⟨by kernel_rfl⟩
instance : BytesIs Try.prog 22 1 24 := ⟨Try.t22, _, by kernel_rfl, rfl, rfl, rfl, rfl, by decide, by decide⟩
instance : FieldIs Try.prog 23 0 0 3 1 := ⟨_, _, Try.underlying23, rfl, rfl, rfl, by kernel_rfl, by decide⟩
instance : FieldIs Try.prog 23 1 1 22 1 := ⟨_, _, Try.underlying23, rfl, rfl, rfl, by kernel_rfl, by decide⟩
instance : StructOk Try.prog 23 := ⟨_, Try.underlying23, by kernel_rfl⟩
instance : SizeIs Try.prog 23 2 := ⟨by kernel_rfl⟩
instance : AggIs Try.prog 23 true := ⟨by kernel_rfl⟩
instance : ZeroIs Try.prog 23 ((Value.agg #[Value.int IntKind.i64 0, Value.slice none 0 0])) := ⟨by kernel_rfl⟩
instance : BytesIs Try.prog 23 2 32 := ⟨Try.t23, _, by kernel_rfl, rfl, rfl, rfl, rfl, by decide, by decide⟩
instance : FieldIs Try.prog 24 0 0 3 1 := ⟨_, _, Try.underlying24, rfl, rfl, rfl, by kernel_rfl, by decide⟩
instance : FieldIs Try.prog 24 1 1 22 1 := ⟨_, _, Try.underlying24, rfl, rfl, rfl, by kernel_rfl, by decide⟩
instance : StructOk Try.prog 24 := ⟨_, Try.underlying24, by kernel_rfl⟩
instance : SizeIs Try.prog 24 2 := ⟨by kernel_rfl⟩
instance : AggIs Try.prog 24 true := ⟨by kernel_rfl⟩
instance : ZeroIs Try.prog 24 ((Value.agg #[Value.int IntKind.i64 0, Value.slice none 0 0])) := ⟨by kernel_rfl⟩
instance : BytesIs Try.prog 24 2 32 := ⟨Try.t24, _, by kernel_rfl, rfl, rfl, rfl, rfl, by decide, by decide⟩
instance : UnderIs Try.prog 25 (.int IntKind.u64) := ⟨Try.underlying25⟩
instance : SizeIs Try.prog 25 1 := ⟨by kernel_rfl⟩
instance : AggIs Try.prog 25 false := ⟨by kernel_rfl⟩
instance : ZeroIs Try.prog 25 ((Value.int IntKind.u64 0)) := ⟨by kernel_rfl⟩
instance : BytesIs Try.prog 25 1 8 := ⟨Try.t25, _, by kernel_rfl, rfl, rfl, rfl, rfl, by decide, by decide⟩
instance : SizeIs Try.prog 26 1 := ⟨by kernel_rfl⟩
instance : AggIs Try.prog 26 false := ⟨by kernel_rfl⟩
instance : ZeroIs Try.prog 26 (Value.nilFunc) := ⟨by kernel_rfl⟩
instance : BytesIs Try.prog 26 1 8 := ⟨Try.t26, _, by kernel_rfl, rfl, rfl, rfl, rfl, by decide, by decide⟩
instance : UnderIs Try.prog 27 (.int IntKind.i64) := ⟨Try.underlying27⟩
instance : SizeIs Try.prog 27 1 := ⟨by kernel_rfl⟩
instance : AggIs Try.prog 27 false := ⟨by kernel_rfl⟩
instance : ZeroIs Try.prog 27 ((Value.int IntKind.i64 0)) := ⟨by kernel_rfl⟩
instance : BytesIs Try.prog 27 1 8 := ⟨Try.t27, _, by kernel_rfl, rfl, rfl, rfl, rfl, by decide, by decide⟩
instance : SizeIs Try.prog 28 1 := ⟨by kernel_rfl⟩
instance : AggIs Try.prog 28 false := ⟨by kernel_rfl⟩
instance : ZeroIs Try.prog 28 (Value.nilFunc) := ⟨by kernel_rfl⟩
instance : BytesIs Try.prog 28 1 8 := ⟨Try.t28, _, by kernel_rfl, rfl, rfl, rfl, rfl, by decide, by decide⟩
instance : SizeIs Try.prog 29 1 := ⟨by kernel_rfl⟩
instance : AggIs Try.prog 29 false := ⟨by kernel_rfl⟩
instance : ZeroIs Try.prog 29 (Value.nilFunc) := ⟨by kernel_rfl⟩
instance : BytesIs Try.prog 29 1 8 := ⟨Try.t29, _, by kernel_rfl, rfl, rfl, rfl, rfl, by decide, by decide⟩
instance : SizeIs Try.prog 31 1 := ⟨by kernel_rfl⟩
instance : AggIs Try.prog 31 false := ⟨by kernel_rfl⟩
instance : ZeroIs Try.prog 31 (Value.nilFunc) := ⟨by kernel_rfl⟩
instance : BytesIs Try.prog 31 1 8 := ⟨Try.t31, _, by kernel_rfl, rfl, rfl, rfl, rfl, by decide, by decide⟩
instance : SizeIs Try.prog 33 1 := ⟨by kernel_rfl⟩
instance : AggIs Try.prog 33 false := ⟨by kernel_rfl⟩
instance : ZeroIs Try.prog 33 (Value.nilFunc) := ⟨by kernel_rfl⟩
instance : BytesIs Try.prog 33 1 8 := ⟨Try.t33, _, by kernel_rfl, rfl, rfl, rfl, rfl, by decide, by decide⟩
instance : SizeIs Try.prog 34 1 := ⟨by kernel_rfl⟩
instance : AggIs Try.prog 34 false := ⟨by kernel_rfl⟩
instance : ZeroIs Try.prog 34 (Value.nilFunc) := ⟨by kernel_rfl⟩
instance : BytesIs Try.prog 34 1 8 := ⟨Try.t34, _, by kernel_rfl, rfl, rfl, rfl, rfl, by decide, by decide⟩
instance : SizeIs Try.prog 35 1 := ⟨by kernel_rfl⟩
instance : AggIs Try.prog 35 false := ⟨by kernel_rfl⟩
instance : ZeroIs Try.prog 35 (Value.nilFunc) := ⟨by kernel_rfl⟩
instance : BytesIs Try.prog 35 1 8 := ⟨Try.t35, _, by kernel_rfl, rfl, rfl, rfl, rfl, by decide, by decide⟩
instance : SizeIs Try.prog 36 1 := ⟨by kernel_rfl⟩
instance : AggIs Try.prog 36 false := ⟨by kernel_rfl⟩
instance : ZeroIs Try.prog 36 (Value.nilFunc) := ⟨by kernel_rfl⟩
instance : BytesIs Try.prog 36 1 8 := ⟨Try.t36, _, by kernel_rfl, rfl, rfl, rfl, rfl, by decide, by decide⟩
instance : SizeIs Try.prog 38 1 := ⟨by kernel_rfl⟩
instance : AggIs Try.prog 38 false := ⟨by kernel_rfl⟩
instance : ZeroIs Try.prog 38 (Value.nilFunc) := ⟨by kernel_rfl⟩
instance : BytesIs Try.prog 38 1 8 := ⟨Try.t38, _, by kernel_rfl, rfl, rfl, rfl, rfl, by decide, by decide⟩
instance : SizeIs Try.prog 40 1 := ⟨by kernel_rfl⟩
instance : AggIs Try.prog 40 false := ⟨by kernel_rfl⟩
instance : ZeroIs Try.prog 40 (Value.nilFunc) := ⟨by kernel_rfl⟩
instance : BytesIs Try.prog 40 1 8 := ⟨Try.t40, _, by kernel_rfl, rfl, rfl, rfl, rfl, by decide, by decide⟩
instance : SizeIs Try.prog 42 1 := ⟨by kernel_rfl⟩
instance : AggIs Try.prog 42 false := ⟨by kernel_rfl⟩
instance : ZeroIs Try.prog 42 (Value.nilFunc) := ⟨by kernel_rfl⟩
instance : BytesIs Try.prog 42 1 8 := ⟨Try.t42, _, by kernel_rfl, rfl, rfl, rfl, rfl, by decide, by decide⟩
instance : SizeIs Try.prog 44 1 := ⟨by kernel_rfl⟩
instance : AggIs Try.prog 44 false := ⟨by kernel_rfl⟩
instance : ZeroIs Try.prog 44 (Value.nilFunc) := ⟨by kernel_rfl⟩
instance : BytesIs Try.prog 44 1 8 := ⟨Try.t44, _, by kernel_rfl, rfl, rfl, rfl, rfl, by decide, by decide⟩
instance : SizeIs Try.prog 45 1 := ⟨by kernel_rfl⟩
instance : AggIs Try.prog 45 false := ⟨by kernel_rfl⟩
instance : ZeroIs Try.prog 45 (Value.nilFunc) := ⟨by kernel_rfl⟩
instance : BytesIs Try.prog 45 1 8 := ⟨Try.t45, _, by kernel_rfl, rfl, rfl, rfl, rfl, by decide, by decide⟩
instance : SizeIs Try.prog 46 1 := ⟨by kernel_rfl⟩
instance : AggIs Try.prog 46 false := ⟨by kernel_rfl⟩
instance : ZeroIs Try.prog 46 (Value.nilFunc) := ⟨by kernel_rfl⟩
instance : BytesIs Try.prog 46 1 8 := ⟨Try.t46, _, by kernel_rfl, rfl, rfl, rfl, rfl, by decide, by decide⟩
instance : SizeIs Try.prog 47 1 := ⟨by kernel_rfl⟩
instance : AggIs Try.prog 47 false := ⟨by kernel_rfl⟩
instance : ZeroIs Try.prog 47 (Value.nilFunc) := ⟨by kernel_rfl⟩
instance : BytesIs Try.prog 47 1 8 := ⟨Try.t47, _, by kernel_rfl, rfl, rfl, rfl, rfl, by decide, by decide⟩
instance : FieldIs Try.prog 48 0 0 24 2 := ⟨_, _, Try.underlying48, rfl, rfl, rfl, by kernel_rfl, by decide⟩
instance : FieldIs Try.prog 48 1 2 24 2 := ⟨_, _, Try.underlying48, rfl, rfl, rfl, by kernel_rfl, by decide⟩
instance : FieldIs Try.prog 48 2 4 24 2 := ⟨_, _, Try.underlying48, rfl, rfl, rfl, by kernel_rfl, by decide⟩
instance : FieldIs Try.prog 48 3 6 25 1 := ⟨_, _, Try.underlying48, rfl, rfl, rfl, by kernel_rfl, by decide⟩
instance : FieldIs Try.prog 48 4 7 25 1 := ⟨_, _, Try.underlying48, rfl, rfl, rfl, by kernel_rfl, by decide⟩
instance : StructOk Try.prog 48 := ⟨_, Try.underlying48, by kernel_rfl⟩
instance : SizeIs Try.prog 48 8 := ⟨by kernel_rfl⟩
instance : AggIs Try.prog 48 true := ⟨by kernel_rfl⟩
instance : ZeroIs Try.prog 48 ((Value.agg #[Value.int IntKind.i64 0, Value.slice none 0 0, Value.int IntKind.i64 0, Value.slice none 0 0, Value.int IntKind.i64 0, Value.slice none 0 0, Value.int IntKind.u64 0, Value.int IntKind.u64 0])) := ⟨by kernel_rfl⟩
instance : BytesIs Try.prog 48 8 112 := ⟨Try.t48, _, by kernel_rfl, rfl, rfl, rfl, rfl, by decide, by decide⟩
instance : FieldIs Try.prog 49 0 0 24 2 := ⟨_, _, Try.underlying49, rfl, rfl, rfl, by kernel_rfl, by decide⟩
instance : FieldIs Try.prog 49 1 2 24 2 := ⟨_, _, Try.underlying49, rfl, rfl, rfl, by kernel_rfl, by decide⟩
instance : FieldIs Try.prog 49 2 4 24 2 := ⟨_, _, Try.underlying49, rfl, rfl, rfl, by kernel_rfl, by decide⟩
instance : FieldIs Try.prog 49 3 6 25 1 := ⟨_, _, Try.underlying49, rfl, rfl, rfl, by kernel_rfl, by decide⟩
instance : FieldIs Try.prog 49 4 7 25 1 := ⟨_, _, Try.underlying49, rfl, rfl, rfl, by kernel_rfl, by decide⟩
instance : StructOk Try.prog 49 := ⟨_, Try.underlying49, by kernel_rfl⟩
instance : SizeIs Try.prog 49 8 := ⟨by kernel_rfl⟩
instance : AggIs Try.prog 49 true := ⟨by kernel_rfl⟩
instance : ZeroIs Try.prog 49 ((Value.agg #[Value.int IntKind.i64 0, Value.slice none 0 0, Value.int IntKind.i64 0, Value.slice none 0 0, Value.int IntKind.i64 0, Value.slice none 0 0, Value.int IntKind.u64 0, Value.int IntKind.u64 0])) := ⟨by kernel_rfl⟩
instance : BytesIs Try.prog 49 8 112 := ⟨Try.t49, _, by kernel_rfl, rfl, rfl, rfl, rfl, by decide, by decide⟩
instance : SizeIs Try.prog 50 1 := ⟨by kernel_rfl⟩
instance : AggIs Try.prog 50 false := ⟨by kernel_rfl⟩
instance : ZeroIs Try.prog 50 (Value.nilFunc) := ⟨by kernel_rfl⟩
instance : BytesIs Try.prog 50 1 8 := ⟨Try.t50, _, by kernel_rfl, rfl, rfl, rfl, rfl, by decide, by decide⟩
instance : SizeIs Try.prog 51 1 := ⟨by kernel_rfl⟩
instance : AggIs Try.prog 51 false := ⟨by kernel_rfl⟩
instance : ZeroIs Try.prog 51 (Value.nilFunc) := ⟨by kernel_rfl⟩
instance : BytesIs Try.prog 51 1 8 := ⟨Try.t51, _, by kernel_rfl, rfl, rfl, rfl, rfl, by decide, by decide⟩
instance : UnderIs Try.prog 52 (.slice 9) := ⟨Try.underlying52⟩
instance : SizeIs Try.prog 52 1 := ⟨by kernel_rfl⟩
instance : AggIs Try.prog 52 false := ⟨by kernel_rfl⟩
instance : ZeroIs Try.prog 52 ((Value.slice none 0 0)) := ⟨by kernel_rfl⟩
instance : BytesIs Try.prog 52 1 24 := ⟨Try.t52, _, by kernel_rfl, rfl, rfl, rfl, rfl, by decide, by decide⟩
instance : SizeIs Try.prog 53 1 := ⟨by kernel_rfl⟩
instance : AggIs Try.prog 53 false := ⟨by kernel_rfl⟩
instance : ZeroIs Try.prog 53 (Value.nilFunc) := ⟨by kernel_rfl⟩
instance : BytesIs Try.prog 53 1 8 := ⟨Try.t53, _, by kernel_rfl, rfl, rfl, rfl, rfl, by decide, by decide⟩
instance : SizeIs Try.prog 54 1 := ⟨by kernel_rfl⟩
instance : AggIs Try.prog 54 false := ⟨by kernel_rfl⟩
instance : ZeroIs Try.prog 54 (Value.nilFunc) := ⟨by kernel_rfl⟩
instance : BytesIs Try.prog 54 1 8 := ⟨Try.t54, _, by kernel_rfl, rfl, rfl, rfl, rfl, by decide, by decide⟩
instance : SizeIs Try.prog 55 1 := ⟨by kernel_rfl⟩
instance : AggIs Try.prog 55 false := ⟨by kernel_rfl⟩
instance : ZeroIs Try.prog 55 (Value.nilFunc) := ⟨by kernel_rfl⟩
instance : BytesIs Try.prog 55 1 8 := ⟨Try.t55, _, by kernel_rfl, rfl, rfl, rfl, rfl, by decide, by decide⟩
instance : SizeIs Try.prog 57 1 := ⟨by kernel_rfl⟩
instance : AggIs Try.prog 57 false := ⟨by kernel_rfl⟩
instance : ZeroIs Try.prog 57 (Value.nilFunc) := ⟨by kernel_rfl⟩
instance : BytesIs Try.prog 57 1 8 := ⟨Try.t57, _, by kernel_rfl, rfl, rfl, rfl, rfl, by decide, by decide⟩
instance : SizeIs Try.prog 59 1 := ⟨by kernel_rfl⟩
instance : AggIs Try.prog 59 false := ⟨by kernel_rfl⟩
instance : ZeroIs Try.prog 59 (Value.nilFunc) := ⟨by kernel_rfl⟩
instance : BytesIs Try.prog 59 1 8 := ⟨Try.t59, _, by kernel_rfl, rfl, rfl, rfl, rfl, by decide, by decide⟩
instance : UnderIs Try.prog 60 (.slice 67) := ⟨Try.underlying60⟩
instance : SizeIs Try.prog 60 1 := ⟨by kernel_rfl⟩
instance : AggIs Try.prog 60 false := ⟨by kernel_rfl⟩
instance : ZeroIs Try.prog 60 ((Value.slice none 0 0)) := ⟨by kernel_rfl⟩
instance : BytesIs Try.prog 60 1 24 := ⟨Try.t60, _, by kernel_rfl, rfl, rfl, rfl, rfl, by decide, by decide⟩
instance : SizeIs Try.prog 62 1 := ⟨by kernel_rfl⟩
instance : AggIs Try.prog 62 false := ⟨by kernel_rfl⟩
instance : ZeroIs Try.prog 62 (Value.nilFunc) := ⟨by kernel_rfl⟩
instance : BytesIs Try.prog 62 1 8 := ⟨Try.t62, _, by kernel_rfl, rfl, rfl, rfl, rfl, by decide, by decide⟩
instance : SizeIs Try.prog 64 1 := ⟨by kernel_rfl⟩
instance : AggIs Try.prog 64 false := ⟨by kernel_rfl⟩
instance : ZeroIs Try.prog 64 (Value.nilFunc) := ⟨by kernel_rfl⟩
instance : BytesIs Try.prog 64 1 8 := ⟨Try.t64, _, by kernel_rfl, rfl, rfl, rfl, rfl, by decide, by decide⟩
instance : SizeIs Try.prog 65 1 := ⟨by kernel_rfl⟩
instance : AggIs Try.prog 65 false := ⟨by kernel_rfl⟩
instance : ZeroIs Try.prog 65 (Value.nilFunc) := ⟨by kernel_rfl⟩
instance : BytesIs Try.prog 65 1 8 := ⟨Try.t65, _, by kernel_rfl, rfl, rfl, rfl, rfl, by decide, by decide⟩
instance : UnderIs Try.prog 66 (.slice 3) := ⟨Try.underlying66⟩
instance : SizeIs Try.prog 66 1 := ⟨by kernel_rfl⟩
instance : AggIs Try.prog 66 false := ⟨by kernel_rfl⟩
instance : ZeroIs Try.prog 66 ((Value.slice none 0 0)) := ⟨by kernel_rfl⟩
instance : BytesIs Try.prog 66 1 24 := ⟨Try.t66, _, by kernel_rfl, rfl, rfl, rfl, rfl, by decide, by decide⟩
instance : UnderIs Try.prog 67 (.slice 76) := ⟨Try.underlying67⟩
instance : SizeIs Try.prog 67 1 := ⟨by kernel_rfl⟩
instance : AggIs Try.prog 67 false := ⟨by kernel_rfl⟩
instance : ZeroIs Try.prog 67 ((Value.slice none 0 0)) := ⟨by kernel_rfl⟩
instance : BytesIs Try.prog 67 1 24 := ⟨Try.t67, _, by kernel_rfl, rfl, rfl, rfl, rfl, by decide, by decide⟩
instance : SizeIs Try.prog 69 1 := ⟨by kernel_rfl⟩
instance : AggIs Try.prog 69 false := ⟨by kernel_rfl⟩
instance : ZeroIs Try.prog 69 (Value.nilFunc) := ⟨by kernel_rfl⟩
instance : BytesIs Try.prog 69 1 8 := ⟨Try.t69, _, by kernel_rfl, rfl, rfl, rfl, rfl, by decide, by decide⟩
instance : SizeIs Try.prog 71 1 := ⟨by kernel_rfl⟩
instance : AggIs Try.prog 71 false := ⟨by kernel_rfl⟩
instance : ZeroIs Try.prog 71 (Value.nilFunc) := ⟨by kernel_rfl⟩
instance : BytesIs Try.prog 71 1 8 := ⟨Try.t71, _, by kernel_rfl, rfl, rfl, rfl, rfl, by decide, by decide⟩
instance : FieldIs Try.prog 73 0 0 72 1 := ⟨_, _, Try.underlying73, rfl, rfl, rfl, by kernel_rfl, by decide⟩
instance : FieldIs Try.prog 73 1 1 72 1 := ⟨_, _, Try.underlying73, rfl, rfl, rfl, by kernel_rfl, by decide⟩
instance : StructOk Try.prog 73 := ⟨_, Try.underlying73, by kernel_rfl⟩
instance : SizeIs Try.prog 73 2 := ⟨by kernel_rfl⟩
instance : AggIs Try.prog 73 true := ⟨by kernel_rfl⟩
instance : FieldIs Try.prog 74 0 0 72 1 := ⟨_, _, Try.underlying74, rfl, rfl, rfl, by kernel_rfl, by decide⟩
instance : FieldIs Try.prog 74 1 1 72 1 := ⟨_, _, Try.underlying74, rfl, rfl, rfl, by kernel_rfl, by decide⟩
instance : StructOk Try.prog 74 := ⟨_, Try.underlying74, by kernel_rfl⟩
instance : SizeIs Try.prog 74 2 := ⟨by kernel_rfl⟩
instance : AggIs Try.prog 74 true := ⟨by kernel_rfl⟩
instance : FieldIs Try.prog 75 0 0 74 2 := ⟨_, _, Try.underlying75, rfl, rfl, rfl, by kernel_rfl, by decide⟩
instance : FieldIs Try.prog 75 1 2 3 1 := ⟨_, _, Try.underlying75, rfl, rfl, rfl, by kernel_rfl, by decide⟩
instance : StructOk Try.prog 75 := ⟨_, Try.underlying75, by kernel_rfl⟩
instance : SizeIs Try.prog 75 3 := ⟨by kernel_rfl⟩
instance : AggIs Try.prog 75 true := ⟨by kernel_rfl⟩
instance : FieldIs Try.prog 76 0 0 74 2 := ⟨_, _, Try.underlying76, rfl, rfl, rfl, by kernel_rfl, by decide⟩
instance : FieldIs Try.prog 76 1 2 3 1 := ⟨_, _, Try.underlying76, rfl, rfl, rfl, by kernel_rfl, by decide⟩
instance : StructOk Try.prog 76 := ⟨_, Try.underlying76, by kernel_rfl⟩
instance : SizeIs Try.prog 76 3 := ⟨by kernel_rfl⟩
instance : AggIs Try.prog 76 true := ⟨by kernel_rfl⟩
instance : SizeIs Try.prog 77 1 := ⟨by kernel_rfl⟩
instance : AggIs Try.prog 77 false := ⟨by kernel_rfl⟩
instance : ZeroIs Try.prog 77 (Value.nilFunc) := ⟨by kernel_rfl⟩
instance : BytesIs Try.prog 77 1 8 := ⟨Try.t77, _, by kernel_rfl, rfl, rfl, rfl, rfl, by decide, by decide⟩
instance : SizeIs Try.prog 78 1 := ⟨by kernel_rfl⟩
instance : AggIs Try.prog 78 false := ⟨by kernel_rfl⟩
instance : ZeroIs Try.prog 78 (Value.nilFunc) := ⟨by kernel_rfl⟩
instance : BytesIs Try.prog 78 1 8 := ⟨Try.t78, _, by kernel_rfl, rfl, rfl, rfl, rfl, by decide, by decide⟩
instance : SizeIs Try.prog 79 1 := ⟨by kernel_rfl⟩
instance : AggIs Try.prog 79 false := ⟨by kernel_rfl⟩
instance : ZeroIs Try.prog 79 (Value.nilFunc) := ⟨by kernel_rfl⟩
instance : BytesIs Try.prog 79 1 8 := ⟨Try.t79, _, by kernel_rfl, rfl, rfl, rfl, rfl, by decide, by decide⟩
instance : UnderIs Try.prog 80 (.slice 122) := ⟨Try.underlying80⟩
instance : SizeIs Try.prog 80 1 := ⟨by kernel_rfl⟩
instance : AggIs Try.prog 80 false := ⟨by kernel_rfl⟩
instance : ZeroIs Try.prog 80 ((Value.slice none 0 0)) := ⟨by kernel_rfl⟩
instance : BytesIs Try.prog 80 1 24 := ⟨Try.t80, _, by kernel_rfl, rfl, rfl, rfl, rfl, by decide, by decide⟩
instance : FieldIs Try.prog 81 0 0 3 1 := ⟨_, _, Try.underlying81, rfl, rfl, rfl, by kernel_rfl, by decide⟩
instance : FieldIs Try.prog 81 1 1 3 1 := ⟨_, _, Try.underlying81, rfl, rfl, rfl, by kernel_rfl, by decide⟩
instance : FieldIs Try.prog 81 2 2 80 1 := ⟨_, _, Try.underlying81, rfl, rfl, rfl, by kernel_rfl, by decide⟩
instance : StructOk Try.prog 81 := ⟨_, Try.underlying81, by kernel_rfl⟩
instance : SizeIs Try.prog 81 3 := ⟨by kernel_rfl⟩
instance : AggIs Try.prog 81 true := ⟨by kernel_rfl⟩
instance : ZeroIs Try.prog 81 ((Value.agg #[Value.int IntKind.i64 0, Value.int IntKind.i64 0, Value.slice none 0 0])) := ⟨by kernel_rfl⟩
instance : BytesIs Try.prog 81 3 40 := ⟨Try.t81, _, by kernel_rfl, rfl, rfl, rfl, rfl, by decide, by decide⟩
instance : FieldIs Try.prog 82 0 0 3 1 := ⟨_, _, Try.underlying82, rfl, rfl, rfl, by kernel_rfl, by decide⟩
instance : FieldIs Try.prog 82 1 1 3 1 := ⟨_, _, Try.underlying82, rfl, rfl, rfl, by kernel_rfl, by decide⟩
instance : FieldIs Try.prog 82 2 2 80 1 := ⟨_, _, Try.underlying82, rfl, rfl, rfl, by kernel_rfl, by decide⟩
instance : StructOk Try.prog 82 := ⟨_, Try.underlying82, by kernel_rfl⟩
instance : SizeIs Try.prog 82 3 := ⟨by kernel_rfl⟩
instance : AggIs Try.prog 82 true := ⟨by kernel_rfl⟩
instance : ZeroIs Try.prog 82 ((Value.agg #[Value.int IntKind.i64 0, Value.int IntKind.i64 0, Value.slice none 0 0])) := ⟨by kernel_rfl⟩
instance : BytesIs Try.prog 82 3 40 := ⟨Try.t82, _, by kernel_rfl, rfl, rfl, rfl, rfl, by decide, by decide⟩
instance : SizeIs Try.prog 83 1 := ⟨by kernel_rfl⟩
instance : AggIs Try.prog 83 false := ⟨by kernel_rfl⟩
instance : ZeroIs Try.prog 83 (Value.nilFunc) := ⟨by kernel_rfl⟩
instance : BytesIs Try.prog 83 1 8 := ⟨Try.t83, _, by kernel_rfl, rfl, rfl, rfl, rfl, by decide, by decide⟩
instance : SizeIs Try.prog 85 1 := ⟨by kernel_rfl⟩
instance : AggIs Try.prog 85 false := ⟨by kernel_rfl⟩
instance : ZeroIs Try.prog 85 (Value.nilFunc) := ⟨by kernel_rfl⟩
instance : BytesIs Try.prog 85 1 8 := ⟨Try.t85, _, by kernel_rfl, rfl, rfl, rfl, rfl, by decide, by decide⟩
instance : SizeIs Try.prog 86 1 := ⟨by kernel_rfl⟩
instance : AggIs Try.prog 86 false := ⟨by kernel_rfl⟩
instance : ZeroIs Try.prog 86 (Value.nilFunc) := ⟨by kernel_rfl⟩
instance : BytesIs Try.prog 86 1 8 := ⟨Try.t86, _, by kernel_rfl, rfl, rfl, rfl, rfl, by decide, by decide⟩
instance : SizeIs Try.prog 88 1 := ⟨by kernel_rfl⟩
instance : AggIs Try.prog 88 false := ⟨by kernel_rfl⟩
instance : ZeroIs Try.prog 88 (Value.nilFunc) := ⟨by kernel_rfl⟩
instance : BytesIs Try.prog 88 1 8 := ⟨Try.t88, _, by kernel_rfl, rfl, rfl, rfl, rfl, by decide, by decide⟩
instance : SizeIs Try.prog 89 1 := ⟨by kernel_rfl⟩
instance : AggIs Try.prog 89 false := ⟨by kernel_rfl⟩
instance : ZeroIs Try.prog 89 (Value.nilFunc) := ⟨by kernel_rfl⟩
instance : BytesIs Try.prog 89 1 8 := ⟨Try.t89, _, by kernel_rfl, rfl, rfl, rfl, rfl, by decide, by decide⟩
instance : SizeIs Try.prog 91 1 := ⟨by kernel_rfl⟩
instance : AggIs Try.prog 91 false := ⟨by kernel_rfl⟩
instance : ZeroIs Try.prog 91 (Value.nilFunc) := ⟨by kernel_rfl⟩
instance : BytesIs Try.prog 91 1 8 := ⟨Try.t91, _, by kernel_rfl, rfl, rfl, rfl, rfl, by decide, by decide⟩
instance : SizeIs Try.prog 92 1 := ⟨by kernel_rfl⟩
instance : AggIs Try.prog 92 false := ⟨by kernel_rfl⟩
instance : ZeroIs Try.prog 92 (Value.nilFunc) := ⟨by kernel_rfl⟩
instance : BytesIs Try.prog 92 1 8 := ⟨Try.t92, _, by kernel_rfl, rfl, rfl, rfl, rfl, by decide, by decide⟩
instance : SizeIs Try.prog 93 1 := ⟨by kernel_rfl⟩
instance : AggIs Try.prog 93 false := ⟨by kernel_rfl⟩
instance : ZeroIs Try.prog 93 (Value.nilFunc) := ⟨by kernel_rfl⟩
instance : BytesIs Try.prog 93 1 8 := ⟨Try.t93, _, by kernel_rfl, rfl, rfl, rfl, rfl, by decide, by decide⟩
instance : SizeIs Try.prog 94 1 := ⟨by kernel_rfl⟩
instance : AggIs Try.prog 94 false := ⟨by kernel_rfl⟩
instance : ZeroIs Try.prog 94 (Value.nilFunc) := ⟨by kernel_rfl⟩
instance : BytesIs Try.prog 94 1 8 := ⟨Try.t94, _, by kernel_rfl, rfl, rfl, rfl, rfl, by decide, by decide⟩
instance : SizeIs Try.prog 95 1 := ⟨by kernel_rfl⟩
instance : AggIs Try.prog 95 false := ⟨by kernel_rfl⟩
instance : ZeroIs Try.prog 95 (Value.nilFunc) := ⟨by kernel_rfl⟩
instance : BytesIs Try.prog 95 1 8 := ⟨Try.t95, _, by kernel_rfl, rfl, rfl, rfl, rfl, by decide, by decide⟩
instance : SizeIs Try.prog 96 1 := ⟨by kernel_rfl⟩
instance : AggIs Try.prog 96 false := ⟨by kernel_rfl⟩
instance : ZeroIs Try.prog 96 (Value.nilFunc) := ⟨by kernel_rfl⟩
instance : BytesIs Try.prog 96 1 8 := ⟨Try.t96, _, by kernel_rfl, rfl, rfl, rfl, rfl, by decide, by decide⟩
instance : UnderIs Try.prog 97 (.slice 101) := ⟨Try.underlying97⟩
instance : SizeIs Try.prog 97 1 := ⟨by kernel_rfl⟩
instance : AggIs Try.prog 97 false := ⟨by kernel_rfl⟩
instance : ZeroIs Try.prog 97 ((Value.slice none 0 0)) := ⟨by kernel_rfl⟩
instance : BytesIs Try.prog 97 1 24 := ⟨Try.t97, _, by kernel_rfl, rfl, rfl, rfl, rfl, by decide, by decide⟩
instance : SizeIs Try.prog 99 1 := ⟨by kernel_rfl⟩
instance : AggIs Try.prog 99 false := ⟨by kernel_rfl⟩
instance : ZeroIs Try.prog 99 (Value.nilFunc) := ⟨by kernel_rfl⟩
instance : BytesIs Try.prog 99 1 8 := ⟨Try.t99, _, by kernel_rfl, rfl, rfl, rfl, rfl, by decide, by decide⟩
instance : FieldIs Try.prog 100 0 0 3 1 := ⟨_, _, Try.underlying100, rfl, rfl, rfl, by kernel_rfl, by decide⟩
instance : FieldIs Try.prog 100 1 1 3 1 := ⟨_, _, Try.underlying100, rfl, rfl, rfl, by kernel_rfl, by decide⟩
instance : StructOk Try.prog 100 := ⟨_, Try.underlying100, by kernel_rfl⟩
instance : SizeIs Try.prog 100 2 := ⟨by kernel_rfl⟩
instance : AggIs Try.prog 100 true := ⟨by kernel_rfl⟩
instance : ZeroIs Try.prog 100 ((Value.agg #[Value.int IntKind.i64 0, Value.int IntKind.i64 0])) := ⟨by kernel_rfl⟩
instance : BytesIs Try.prog 100 2 16 := ⟨Try.t100, _, by kernel_rfl, rfl, rfl, rfl, rfl, by decide, by decide⟩
instance : FieldIs Try.prog 101 0 0 3 1 := ⟨_, _, Try.underlying101, rfl, rfl, rfl, by kernel_rfl, by decide⟩
instance : FieldIs Try.prog 101 1 1 3 1 := ⟨_, _, Try.underlying101, rfl, rfl, rfl, by kernel_rfl, by decide⟩
instance : StructOk Try.prog 101 := ⟨_, Try.underlying101, by kernel_rfl⟩
instance : SizeIs Try.prog 101 2 := ⟨by kernel_rfl⟩
instance : AggIs Try.prog 101 true := ⟨by kernel_rfl⟩
instance : ZeroIs Try.prog 101 ((Value.agg #[Value.int IntKind.i64 0, Value.int IntKind.i64 0])) := ⟨by kernel_rfl⟩
instance : BytesIs Try.prog 101 2 16 := ⟨Try.t101, _, by kernel_rfl, rfl, rfl, rfl, rfl, by decide, by decide⟩
instance : SizeIs Try.prog 102 1 := ⟨by kernel_rfl⟩
instance : AggIs Try.prog 102 false := ⟨by kernel_rfl⟩
instance : ZeroIs Try.prog 102 (Value.nilFunc) := ⟨by kernel_rfl⟩
instance : BytesIs Try.prog 102 1 8 := ⟨Try.t102, _, by kernel_rfl, rfl, rfl, rfl, rfl, by decide, by decide⟩
instance : FieldIs Try.prog 103 0 0 3 1 := ⟨_, _, Try.underlying103, rfl, rfl, rfl, by kernel_rfl, by decide⟩
instance : FieldIs Try.prog 103 1 1 3 1 := ⟨_, _, Try.underlying103, rfl, rfl, rfl, by kernel_rfl, by decide⟩
instance : FieldIs Try.prog 103 2 2 4 1 := ⟨_, _, Try.underlying103, rfl, rfl, rfl, by kernel_rfl, by decide⟩
instance : FieldIs Try.prog 103 3 3 4 1 := ⟨_, _, Try.underlying103, rfl, rfl, rfl, by kernel_rfl, by decide⟩
instance : FieldIs Try.prog 103 4 4 9 1 := ⟨_, _, Try.underlying103, rfl, rfl, rfl, by kernel_rfl, by decide⟩
instance : FieldIs Try.prog 103 5 5 102 1 := ⟨_, _, Try.underlying103, rfl, rfl, rfl, by kernel_rfl, by decide⟩
instance : StructOk Try.prog 103 := ⟨_, Try.underlying103, by kernel_rfl⟩
instance : SizeIs Try.prog 103 6 := ⟨by kernel_rfl⟩
instance : AggIs Try.prog 103 true := ⟨by kernel_rfl⟩
instance : ZeroIs Try.prog 103 ((Value.agg #[Value.int IntKind.i64 0, Value.int IntKind.i64 0, Value.bool false, Value.bool false, Value.string ByteArray.empty, Value.nilFunc])) := ⟨by kernel_rfl⟩
instance : BytesIs Try.prog 103 6 48 := ⟨Try.t103, _, by kernel_rfl, rfl, rfl, rfl, rfl, by decide, by decide⟩
instance : FieldIs Try.prog 104 0 0 3 1 := ⟨_, _, Try.underlying104, rfl, rfl, rfl, by kernel_rfl, by decide⟩
instance : FieldIs Try.prog 104 1 1 3 1 := ⟨_, _, Try.underlying104, rfl, rfl, rfl, by kernel_rfl, by decide⟩
instance : FieldIs Try.prog 104 2 2 4 1 := ⟨_, _, Try.underlying104, rfl, rfl, rfl, by kernel_rfl, by decide⟩
instance : FieldIs Try.prog 104 3 3 4 1 := ⟨_, _, Try.underlying104, rfl, rfl, rfl, by kernel_rfl, by decide⟩
instance : FieldIs Try.prog 104 4 4 9 1 := ⟨_, _, Try.underlying104, rfl, rfl, rfl, by kernel_rfl, by decide⟩
instance : FieldIs Try.prog 104 5 5 102 1 := ⟨_, _, Try.underlying104, rfl, rfl, rfl, by kernel_rfl, by decide⟩
instance : StructOk Try.prog 104 := ⟨_, Try.underlying104, by kernel_rfl⟩
instance : SizeIs Try.prog 104 6 := ⟨by kernel_rfl⟩
instance : AggIs Try.prog 104 true := ⟨by kernel_rfl⟩
instance : ZeroIs Try.prog 104 ((Value.agg #[Value.int IntKind.i64 0, Value.int IntKind.i64 0, Value.bool false, Value.bool false, Value.string ByteArray.empty, Value.nilFunc])) := ⟨by kernel_rfl⟩
instance : BytesIs Try.prog 104 6 48 := ⟨Try.t104, _, by kernel_rfl, rfl, rfl, rfl, rfl, by decide, by decide⟩
instance : UnderIs Try.prog 105 (.map 9 104) := ⟨Try.underlying105⟩
instance : SizeIs Try.prog 105 1 := ⟨by kernel_rfl⟩
instance : AggIs Try.prog 105 false := ⟨by kernel_rfl⟩
instance : ZeroIs Try.prog 105 ((Value.map none)) := ⟨by kernel_rfl⟩
instance : BytesIs Try.prog 105 1 8 := ⟨Try.t105, _, by kernel_rfl, rfl, rfl, rfl, rfl, by decide, by decide⟩
instance : SizeIs Try.prog 106 1 := ⟨by kernel_rfl⟩
instance : AggIs Try.prog 106 false := ⟨by kernel_rfl⟩
instance : ZeroIs Try.prog 106 (Value.nilFunc) := ⟨by kernel_rfl⟩
instance : BytesIs Try.prog 106 1 8 := ⟨Try.t106, _, by kernel_rfl, rfl, rfl, rfl, rfl, by decide, by decide⟩
instance : UnderIs Try.prog 108 (.slice 110) := ⟨Try.underlying108⟩
instance : SizeIs Try.prog 108 1 := ⟨by kernel_rfl⟩
instance : AggIs Try.prog 108 false := ⟨by kernel_rfl⟩
instance : ZeroIs Try.prog 108 ((Value.slice none 0 0)) := ⟨by kernel_rfl⟩
instance : BytesIs Try.prog 108 1 24 := ⟨Try.t108, _, by kernel_rfl, rfl, rfl, rfl, rfl, by decide, by decide⟩
instance : FieldIs Try.prog 109 0 0 3 1 := ⟨_, _, Try.underlying109, rfl, rfl, rfl, by kernel_rfl, by decide⟩
instance : FieldIs Try.prog 109 1 1 3 1 := ⟨_, _, Try.underlying109, rfl, rfl, rfl, by kernel_rfl, by decide⟩
instance : FieldIs Try.prog 109 2 2 3 1 := ⟨_, _, Try.underlying109, rfl, rfl, rfl, by kernel_rfl, by decide⟩
instance : StructOk Try.prog 109 := ⟨_, Try.underlying109, by kernel_rfl⟩
instance : SizeIs Try.prog 109 3 := ⟨by kernel_rfl⟩
instance : AggIs Try.prog 109 true := ⟨by kernel_rfl⟩
instance : ZeroIs Try.prog 109 ((Value.agg #[Value.int IntKind.i64 0, Value.int IntKind.i64 0, Value.int IntKind.i64 0])) := ⟨by kernel_rfl⟩
instance : BytesIs Try.prog 109 3 24 := ⟨Try.t109, _, by kernel_rfl, rfl, rfl, rfl, rfl, by decide, by decide⟩
instance : FieldIs Try.prog 110 0 0 3 1 := ⟨_, _, Try.underlying110, rfl, rfl, rfl, by kernel_rfl, by decide⟩
instance : FieldIs Try.prog 110 1 1 3 1 := ⟨_, _, Try.underlying110, rfl, rfl, rfl, by kernel_rfl, by decide⟩
instance : FieldIs Try.prog 110 2 2 3 1 := ⟨_, _, Try.underlying110, rfl, rfl, rfl, by kernel_rfl, by decide⟩
instance : StructOk Try.prog 110 := ⟨_, Try.underlying110, by kernel_rfl⟩
instance : SizeIs Try.prog 110 3 := ⟨by kernel_rfl⟩
instance : AggIs Try.prog 110 true := ⟨by kernel_rfl⟩
instance : ZeroIs Try.prog 110 ((Value.agg #[Value.int IntKind.i64 0, Value.int IntKind.i64 0, Value.int IntKind.i64 0])) := ⟨by kernel_rfl⟩
instance : BytesIs Try.prog 110 3 24 := ⟨Try.t110, _, by kernel_rfl, rfl, rfl, rfl, rfl, by decide, by decide⟩
instance : SizeIs Try.prog 111 1 := ⟨by kernel_rfl⟩
instance : AggIs Try.prog 111 false := ⟨by kernel_rfl⟩
instance : ZeroIs Try.prog 111 (Value.nilFunc) := ⟨by kernel_rfl⟩
instance : BytesIs Try.prog 111 1 8 := ⟨Try.t111, _, by kernel_rfl, rfl, rfl, rfl, rfl, by decide, by decide⟩
instance : SizeIs Try.prog 112 1 := ⟨by kernel_rfl⟩
instance : AggIs Try.prog 112 false := ⟨by kernel_rfl⟩
instance : ZeroIs Try.prog 112 (Value.nilFunc) := ⟨by kernel_rfl⟩
instance : BytesIs Try.prog 112 1 8 := ⟨Try.t112, _, by kernel_rfl, rfl, rfl, rfl, rfl, by decide, by decide⟩
instance : SizeIs Try.prog 113 1 := ⟨by kernel_rfl⟩
instance : AggIs Try.prog 113 false := ⟨by kernel_rfl⟩
instance : ZeroIs Try.prog 113 (Value.nilFunc) := ⟨by kernel_rfl⟩
instance : BytesIs Try.prog 113 1 8 := ⟨Try.t113, _, by kernel_rfl, rfl, rfl, rfl, rfl, by decide, by decide⟩
instance : SizeIs Try.prog 115 1 := ⟨by kernel_rfl⟩
instance : AggIs Try.prog 115 false := ⟨by kernel_rfl⟩
instance : ZeroIs Try.prog 115 (Value.nilFunc) := ⟨by kernel_rfl⟩
instance : BytesIs Try.prog 115 1 8 := ⟨Try.t115, _, by kernel_rfl, rfl, rfl, rfl, rfl, by decide, by decide⟩
instance : SizeIs Try.prog 116 1 := ⟨by kernel_rfl⟩
instance : AggIs Try.prog 116 false := ⟨by kernel_rfl⟩
instance : ZeroIs Try.prog 116 (Value.nilFunc) := ⟨by kernel_rfl⟩
instance : BytesIs Try.prog 116 1 8 := ⟨Try.t116, _, by kernel_rfl, rfl, rfl, rfl, rfl, by decide, by decide⟩
instance : UnderIs Try.prog 117 (.slice 66) := ⟨Try.underlying117⟩
instance : SizeIs Try.prog 117 1 := ⟨by kernel_rfl⟩
instance : AggIs Try.prog 117 false := ⟨by kernel_rfl⟩
instance : ZeroIs Try.prog 117 ((Value.slice none 0 0)) := ⟨by kernel_rfl⟩
instance : BytesIs Try.prog 117 1 24 := ⟨Try.t117, _, by kernel_rfl, rfl, rfl, rfl, rfl, by decide, by decide⟩
instance : SizeIs Try.prog 119 1 := ⟨by kernel_rfl⟩
instance : AggIs Try.prog 119 false := ⟨by kernel_rfl⟩
instance : ZeroIs Try.prog 119 (Value.nilFunc) := ⟨by kernel_rfl⟩
instance : BytesIs Try.prog 119 1 8 := ⟨Try.t119, _, by kernel_rfl, rfl, rfl, rfl, rfl, by decide, by decide⟩
instance : SizeIs Try.prog 120 1 := ⟨by kernel_rfl⟩
instance : AggIs Try.prog 120 false := ⟨by kernel_rfl⟩
instance : ZeroIs Try.prog 120 (Value.nilFunc) := ⟨by kernel_rfl⟩
instance : BytesIs Try.prog 120 1 8 := ⟨Try.t120, _, by kernel_rfl, rfl, rfl, rfl, rfl, by decide, by decide⟩
instance : FieldIs Try.prog 121 0 0 3 1 := ⟨_, _, Try.underlying121, rfl, rfl, rfl, by kernel_rfl, by decide⟩
instance : FieldIs Try.prog 121 1 1 9 1 := ⟨_, _, Try.underlying121, rfl, rfl, rfl, by kernel_rfl, by decide⟩
instance : FieldIs Try.prog 121 2 2 66 1 := ⟨_, _, Try.underlying121, rfl, rfl, rfl, by kernel_rfl, by decide⟩
instance : FieldIs Try.prog 121 3 3 3 1 := ⟨_, _, Try.underlying121, rfl, rfl, rfl, by kernel_rfl, by decide⟩
instance : FieldIs Try.prog 121 4 4 4 1 := ⟨_, _, Try.underlying121, rfl, rfl, rfl, by kernel_rfl, by decide⟩
instance : FieldIs Try.prog 121 5 5 25 1 := ⟨_, _, Try.underlying121, rfl, rfl, rfl, by kernel_rfl, by decide⟩
instance : FieldIs Try.prog 121 6 6 25 1 := ⟨_, _, Try.underlying121, rfl, rfl, rfl, by kernel_rfl, by decide⟩
instance : StructOk Try.prog 121 := ⟨_, Try.underlying121, by kernel_rfl⟩
instance : SizeIs Try.prog 121 7 := ⟨by kernel_rfl⟩
instance : AggIs Try.prog 121 true := ⟨by kernel_rfl⟩
instance : ZeroIs Try.prog 121 ((Value.agg #[Value.int IntKind.i64 0, Value.string ByteArray.empty, Value.slice none 0 0, Value.int IntKind.i64 0, Value.bool false, Value.int IntKind.u64 0, Value.int IntKind.u64 0])) := ⟨by kernel_rfl⟩
instance : BytesIs Try.prog 121 7 80 := ⟨Try.t121, _, by kernel_rfl, rfl, rfl, rfl, rfl, by decide, by decide⟩
instance : FieldIs Try.prog 122 0 0 3 1 := ⟨_, _, Try.underlying122, rfl, rfl, rfl, by kernel_rfl, by decide⟩
instance : FieldIs Try.prog 122 1 1 9 1 := ⟨_, _, Try.underlying122, rfl, rfl, rfl, by kernel_rfl, by decide⟩
instance : FieldIs Try.prog 122 2 2 66 1 := ⟨_, _, Try.underlying122, rfl, rfl, rfl, by kernel_rfl, by decide⟩
instance : FieldIs Try.prog 122 3 3 3 1 := ⟨_, _, Try.underlying122, rfl, rfl, rfl, by kernel_rfl, by decide⟩
instance : FieldIs Try.prog 122 4 4 4 1 := ⟨_, _, Try.underlying122, rfl, rfl, rfl, by kernel_rfl, by decide⟩
instance : FieldIs Try.prog 122 5 5 25 1 := ⟨_, _, Try.underlying122, rfl, rfl, rfl, by kernel_rfl, by decide⟩
instance : FieldIs Try.prog 122 6 6 25 1 := ⟨_, _, Try.underlying122, rfl, rfl, rfl, by kernel_rfl, by decide⟩
instance : StructOk Try.prog 122 := ⟨_, Try.underlying122, by kernel_rfl⟩
instance : SizeIs Try.prog 122 7 := ⟨by kernel_rfl⟩
instance : AggIs Try.prog 122 true := ⟨by kernel_rfl⟩
instance : ZeroIs Try.prog 122 ((Value.agg #[Value.int IntKind.i64 0, Value.string ByteArray.empty, Value.slice none 0 0, Value.int IntKind.i64 0, Value.bool false, Value.int IntKind.u64 0, Value.int IntKind.u64 0])) := ⟨by kernel_rfl⟩
instance : BytesIs Try.prog 122 7 80 := ⟨Try.t122, _, by kernel_rfl, rfl, rfl, rfl, rfl, by decide, by decide⟩
instance : SizeIs Try.prog 123 1 := ⟨by kernel_rfl⟩
instance : AggIs Try.prog 123 false := ⟨by kernel_rfl⟩
instance : ZeroIs Try.prog 123 (Value.nilFunc) := ⟨by kernel_rfl⟩
instance : BytesIs Try.prog 123 1 8 := ⟨Try.t123, _, by kernel_rfl, rfl, rfl, rfl, rfl, by decide, by decide⟩
instance : SizeIs Try.prog 124 1 := ⟨by kernel_rfl⟩
instance : AggIs Try.prog 124 false := ⟨by kernel_rfl⟩
instance : ZeroIs Try.prog 124 (Value.nilFunc) := ⟨by kernel_rfl⟩
instance : BytesIs Try.prog 124 1 8 := ⟨Try.t124, _, by kernel_rfl, rfl, rfl, rfl, rfl, by decide, by decide⟩
instance : SizeIs Try.prog 125 1 := ⟨by kernel_rfl⟩
instance : AggIs Try.prog 125 false := ⟨by kernel_rfl⟩
instance : ZeroIs Try.prog 125 (Value.nilFunc) := ⟨by kernel_rfl⟩
instance : BytesIs Try.prog 125 1 8 := ⟨Try.t125, _, by kernel_rfl, rfl, rfl, rfl, rfl, by decide, by decide⟩
instance : SizeIs Try.prog 126 1 := ⟨by kernel_rfl⟩
instance : AggIs Try.prog 126 false := ⟨by kernel_rfl⟩
instance : ZeroIs Try.prog 126 (Value.nilFunc) := ⟨by kernel_rfl⟩
instance : BytesIs Try.prog 126 1 8 := ⟨Try.t126, _, by kernel_rfl, rfl, rfl, rfl, rfl, by decide, by decide⟩
instance : SizeIs Try.prog 127 1 := ⟨by kernel_rfl⟩
instance : AggIs Try.prog 127 false := ⟨by kernel_rfl⟩
instance : ZeroIs Try.prog 127 (Value.nilFunc) := ⟨by kernel_rfl⟩
instance : BytesIs Try.prog 127 1 8 := ⟨Try.t127, _, by kernel_rfl, rfl, rfl, rfl, rfl, by decide, by decide⟩
instance : SizeIs Try.prog 128 1 := ⟨by kernel_rfl⟩
instance : AggIs Try.prog 128 false := ⟨by kernel_rfl⟩
instance : ZeroIs Try.prog 128 (Value.nilFunc) := ⟨by kernel_rfl⟩
instance : BytesIs Try.prog 128 1 8 := ⟨Try.t128, _, by kernel_rfl, rfl, rfl, rfl, rfl, by decide, by decide⟩
instance : SizeIs Try.prog 129 1 := ⟨by kernel_rfl⟩
instance : AggIs Try.prog 129 false := ⟨by kernel_rfl⟩
instance : ZeroIs Try.prog 129 (Value.nilFunc) := ⟨by kernel_rfl⟩
instance : BytesIs Try.prog 129 1 8 := ⟨Try.t129, _, by kernel_rfl, rfl, rfl, rfl, rfl, by decide, by decide⟩
instance : SizeIs Try.prog 130 1 := ⟨by kernel_rfl⟩
instance : AggIs Try.prog 130 false := ⟨by kernel_rfl⟩
instance : ZeroIs Try.prog 130 (Value.nilFunc) := ⟨by kernel_rfl⟩
instance : BytesIs Try.prog 130 1 8 := ⟨Try.t130, _, by kernel_rfl, rfl, rfl, rfl, rfl, by decide, by decide⟩
instance : SizeIs Try.prog 131 1 := ⟨by kernel_rfl⟩
instance : AggIs Try.prog 131 false := ⟨by kernel_rfl⟩
instance : ZeroIs Try.prog 131 (Value.nilFunc) := ⟨by kernel_rfl⟩
instance : BytesIs Try.prog 131 1 8 := ⟨Try.t131, _, by kernel_rfl, rfl, rfl, rfl, rfl, by decide, by decide⟩
instance : UnderIs Try.prog 132 (.int IntKind.u64) := ⟨Try.underlying132⟩
instance : SizeIs Try.prog 132 1 := ⟨by kernel_rfl⟩
instance : AggIs Try.prog 132 false := ⟨by kernel_rfl⟩
instance : ZeroIs Try.prog 132 ((Value.int IntKind.u64 0)) := ⟨by kernel_rfl⟩
instance : BytesIs Try.prog 132 1 8 := ⟨Try.t132, _, by kernel_rfl, rfl, rfl, rfl, rfl, by decide, by decide⟩
instance : SizeIs Try.prog 133 1 := ⟨by kernel_rfl⟩
instance : AggIs Try.prog 133 false := ⟨by kernel_rfl⟩
instance : ZeroIs Try.prog 133 (Value.nilFunc) := ⟨by kernel_rfl⟩
instance : BytesIs Try.prog 133 1 8 := ⟨Try.t133, _, by kernel_rfl, rfl, rfl, rfl, rfl, by decide, by decide⟩
instance : SizeIs Try.prog 134 1 := ⟨by kernel_rfl⟩
instance : AggIs Try.prog 134 false := ⟨by kernel_rfl⟩
instance : ZeroIs Try.prog 134 (Value.nilFunc) := ⟨by kernel_rfl⟩
instance : BytesIs Try.prog 134 1 8 := ⟨Try.t134, _, by kernel_rfl, rfl, rfl, rfl, rfl, by decide, by decide⟩
instance : SizeIs Try.prog 135 1 := ⟨by kernel_rfl⟩
instance : AggIs Try.prog 135 false := ⟨by kernel_rfl⟩
instance : ZeroIs Try.prog 135 (Value.nilFunc) := ⟨by kernel_rfl⟩
instance : BytesIs Try.prog 135 1 8 := ⟨Try.t135, _, by kernel_rfl, rfl, rfl, rfl, rfl, by decide, by decide⟩
instance : SizeIs Try.prog 136 1 := ⟨by kernel_rfl⟩
instance : AggIs Try.prog 136 false := ⟨by kernel_rfl⟩
instance : ZeroIs Try.prog 136 (Value.nilFunc) := ⟨by kernel_rfl⟩
instance : BytesIs Try.prog 136 1 8 := ⟨Try.t136, _, by kernel_rfl, rfl, rfl, rfl, rfl, by decide, by decide⟩
instance : SizeIs Try.prog 138 1 := ⟨by kernel_rfl⟩
instance : AggIs Try.prog 138 false := ⟨by kernel_rfl⟩
instance : ZeroIs Try.prog 138 (Value.nilFunc) := ⟨by kernel_rfl⟩
instance : BytesIs Try.prog 138 1 8 := ⟨Try.t138, _, by kernel_rfl, rfl, rfl, rfl, rfl, by decide, by decide⟩
instance : SizeIs Try.prog 139 1 := ⟨by kernel_rfl⟩
instance : AggIs Try.prog 139 false := ⟨by kernel_rfl⟩
instance : ZeroIs Try.prog 139 (Value.nilFunc) := ⟨by kernel_rfl⟩
instance : BytesIs Try.prog 139 1 8 := ⟨Try.t139, _, by kernel_rfl, rfl, rfl, rfl, rfl, by decide, by decide⟩
instance : SizeIs Try.prog 141 1 := ⟨by kernel_rfl⟩
instance : AggIs Try.prog 141 false := ⟨by kernel_rfl⟩
instance : ZeroIs Try.prog 141 (Value.nilFunc) := ⟨by kernel_rfl⟩
instance : BytesIs Try.prog 141 1 8 := ⟨Try.t141, _, by kernel_rfl, rfl, rfl, rfl, rfl, by decide, by decide⟩
instance : SizeIs Try.prog 142 1 := ⟨by kernel_rfl⟩
instance : AggIs Try.prog 142 false := ⟨by kernel_rfl⟩
instance : ZeroIs Try.prog 142 (Value.nilFunc) := ⟨by kernel_rfl⟩
instance : BytesIs Try.prog 142 1 8 := ⟨Try.t142, _, by kernel_rfl, rfl, rfl, rfl, rfl, by decide, by decide⟩
instance : SizeIs Try.prog 143 1 := ⟨by kernel_rfl⟩
instance : AggIs Try.prog 143 false := ⟨by kernel_rfl⟩
instance : ZeroIs Try.prog 143 (Value.nilFunc) := ⟨by kernel_rfl⟩
instance : BytesIs Try.prog 143 1 8 := ⟨Try.t143, _, by kernel_rfl, rfl, rfl, rfl, rfl, by decide, by decide⟩
instance : SizeIs Try.prog 144 1 := ⟨by kernel_rfl⟩
instance : AggIs Try.prog 144 false := ⟨by kernel_rfl⟩
instance : ZeroIs Try.prog 144 (Value.nilFunc) := ⟨by kernel_rfl⟩
instance : BytesIs Try.prog 144 1 8 := ⟨Try.t144, _, by kernel_rfl, rfl, rfl, rfl, rfl, by decide, by decide⟩
instance : SizeIs Try.prog 145 1 := ⟨by kernel_rfl⟩
instance : AggIs Try.prog 145 false := ⟨by kernel_rfl⟩
instance : ZeroIs Try.prog 145 (Value.nilFunc) := ⟨by kernel_rfl⟩
instance : BytesIs Try.prog 145 1 8 := ⟨Try.t145, _, by kernel_rfl, rfl, rfl, rfl, rfl, by decide, by decide⟩
instance : SizeIs Try.prog 146 1 := ⟨by kernel_rfl⟩
instance : AggIs Try.prog 146 false := ⟨by kernel_rfl⟩
instance : ZeroIs Try.prog 146 (Value.nilFunc) := ⟨by kernel_rfl⟩
instance : BytesIs Try.prog 146 1 8 := ⟨Try.t146, _, by kernel_rfl, rfl, rfl, rfl, rfl, by decide, by decide⟩
instance : SizeIs Try.prog 147 1 := ⟨by kernel_rfl⟩
instance : AggIs Try.prog 147 false := ⟨by kernel_rfl⟩
instance : ZeroIs Try.prog 147 (Value.nilFunc) := ⟨by kernel_rfl⟩
instance : BytesIs Try.prog 147 1 8 := ⟨Try.t147, _, by kernel_rfl, rfl, rfl, rfl, rfl, by decide, by decide⟩
instance : SizeIs Try.prog 148 1 := ⟨by kernel_rfl⟩
instance : AggIs Try.prog 148 false := ⟨by kernel_rfl⟩
instance : ZeroIs Try.prog 148 (Value.nilFunc) := ⟨by kernel_rfl⟩
instance : BytesIs Try.prog 148 1 8 := ⟨Try.t148, _, by kernel_rfl, rfl, rfl, rfl, rfl, by decide, by decide⟩
instance : SizeIs Try.prog 149 1 := ⟨by kernel_rfl⟩
instance : AggIs Try.prog 149 false := ⟨by kernel_rfl⟩
instance : ZeroIs Try.prog 149 (Value.nilFunc) := ⟨by kernel_rfl⟩
instance : BytesIs Try.prog 149 1 8 := ⟨Try.t149, _, by kernel_rfl, rfl, rfl, rfl, rfl, by decide, by decide⟩
instance : SizeIs Try.prog 150 1 := ⟨by kernel_rfl⟩
instance : AggIs Try.prog 150 false := ⟨by kernel_rfl⟩
instance : ZeroIs Try.prog 150 (Value.nilFunc) := ⟨by kernel_rfl⟩
instance : BytesIs Try.prog 150 1 8 := ⟨Try.t150, _, by kernel_rfl, rfl, rfl, rfl, rfl, by decide, by decide⟩
instance : SizeIs Try.prog 151 1 := ⟨by kernel_rfl⟩
instance : AggIs Try.prog 151 false := ⟨by kernel_rfl⟩
instance : ZeroIs Try.prog 151 (Value.nilFunc) := ⟨by kernel_rfl⟩
instance : BytesIs Try.prog 151 1 8 := ⟨Try.t151, _, by kernel_rfl, rfl, rfl, rfl, rfl, by decide, by decide⟩
instance : SizeIs Try.prog 152 1 := ⟨by kernel_rfl⟩
instance : AggIs Try.prog 152 false := ⟨by kernel_rfl⟩
instance : ZeroIs Try.prog 152 (Value.nilFunc) := ⟨by kernel_rfl⟩
instance : BytesIs Try.prog 152 1 8 := ⟨Try.t152, _, by kernel_rfl, rfl, rfl, rfl, rfl, by decide, by decide⟩
instance : SizeIs Try.prog 154 1 := ⟨by kernel_rfl⟩
instance : AggIs Try.prog 154 false := ⟨by kernel_rfl⟩
instance : ZeroIs Try.prog 154 (Value.nilFunc) := ⟨by kernel_rfl⟩
instance : BytesIs Try.prog 154 1 8 := ⟨Try.t154, _, by kernel_rfl, rfl, rfl, rfl, rfl, by decide, by decide⟩
instance : SizeIs Try.prog 155 1 := ⟨by kernel_rfl⟩
instance : AggIs Try.prog 155 false := ⟨by kernel_rfl⟩
instance : ZeroIs Try.prog 155 (Value.nilFunc) := ⟨by kernel_rfl⟩
instance : BytesIs Try.prog 155 1 8 := ⟨Try.t155, _, by kernel_rfl, rfl, rfl, rfl, rfl, by decide, by decide⟩
instance : SizeIs Try.prog 156 1 := ⟨by kernel_rfl⟩
instance : AggIs Try.prog 156 false := ⟨by kernel_rfl⟩
instance : ZeroIs Try.prog 156 (Value.nilFunc) := ⟨by kernel_rfl⟩
instance : BytesIs Try.prog 156 1 8 := ⟨Try.t156, _, by kernel_rfl, rfl, rfl, rfl, rfl, by decide, by decide⟩
instance : SizeIs Try.prog 158 1 := ⟨by kernel_rfl⟩
instance : AggIs Try.prog 158 false := ⟨by kernel_rfl⟩
instance : ZeroIs Try.prog 158 (Value.nilFunc) := ⟨by kernel_rfl⟩
instance : BytesIs Try.prog 158 1 8 := ⟨Try.t158, _, by kernel_rfl, rfl, rfl, rfl, rfl, by decide, by decide⟩
instance : SizeIs Try.prog 159 1 := ⟨by kernel_rfl⟩
instance : AggIs Try.prog 159 false := ⟨by kernel_rfl⟩
instance : ZeroIs Try.prog 159 (Value.nilFunc) := ⟨by kernel_rfl⟩
instance : BytesIs Try.prog 159 1 8 := ⟨Try.t159, _, by kernel_rfl, rfl, rfl, rfl, rfl, by decide, by decide⟩
instance : SizeIs Try.prog 161 1 := ⟨by kernel_rfl⟩
instance : AggIs Try.prog 161 false := ⟨by kernel_rfl⟩
instance : ZeroIs Try.prog 161 (Value.nilFunc) := ⟨by kernel_rfl⟩
instance : BytesIs Try.prog 161 1 8 := ⟨Try.t161, _, by kernel_rfl, rfl, rfl, rfl, rfl, by decide, by decide⟩
instance : SizeIs Try.prog 162 1 := ⟨by kernel_rfl⟩
instance : AggIs Try.prog 162 false := ⟨by kernel_rfl⟩
instance : ZeroIs Try.prog 162 (Value.nilFunc) := ⟨by kernel_rfl⟩
instance : BytesIs Try.prog 162 1 8 := ⟨Try.t162, _, by kernel_rfl, rfl, rfl, rfl, rfl, by decide, by decide⟩
instance : SizeIs Try.prog 163 1 := ⟨by kernel_rfl⟩
instance : AggIs Try.prog 163 false := ⟨by kernel_rfl⟩
instance : ZeroIs Try.prog 163 (Value.nilFunc) := ⟨by kernel_rfl⟩
instance : BytesIs Try.prog 163 1 8 := ⟨Try.t163, _, by kernel_rfl, rfl, rfl, rfl, rfl, by decide, by decide⟩
instance : SizeIs Try.prog 164 1 := ⟨by kernel_rfl⟩
instance : AggIs Try.prog 164 false := ⟨by kernel_rfl⟩
instance : ZeroIs Try.prog 164 (Value.nilFunc) := ⟨by kernel_rfl⟩
instance : BytesIs Try.prog 164 1 8 := ⟨Try.t164, _, by kernel_rfl, rfl, rfl, rfl, rfl, by decide, by decide⟩
instance : SizeIs Try.prog 165 1 := ⟨by kernel_rfl⟩
instance : AggIs Try.prog 165 false := ⟨by kernel_rfl⟩
instance : ZeroIs Try.prog 165 (Value.nilFunc) := ⟨by kernel_rfl⟩
instance : BytesIs Try.prog 165 1 8 := ⟨Try.t165, _, by kernel_rfl, rfl, rfl, rfl, rfl, by decide, by decide⟩
instance : SizeIs Try.prog 166 1 := ⟨by kernel_rfl⟩
instance : AggIs Try.prog 166 false := ⟨by kernel_rfl⟩
instance : ZeroIs Try.prog 166 (Value.nilFunc) := ⟨by kernel_rfl⟩
instance : BytesIs Try.prog 166 1 8 := ⟨Try.t166, _, by kernel_rfl, rfl, rfl, rfl, rfl, by decide, by decide⟩
instance : SizeIs Try.prog 168 1 := ⟨by kernel_rfl⟩
instance : AggIs Try.prog 168 false := ⟨by kernel_rfl⟩
instance : ZeroIs Try.prog 168 (Value.nilFunc) := ⟨by kernel_rfl⟩
instance : BytesIs Try.prog 168 1 8 := ⟨Try.t168, _, by kernel_rfl, rfl, rfl, rfl, rfl, by decide, by decide⟩
instance : SizeIs Try.prog 169 1 := ⟨by kernel_rfl⟩
instance : AggIs Try.prog 169 false := ⟨by kernel_rfl⟩
instance : ZeroIs Try.prog 169 (Value.nilFunc) := ⟨by kernel_rfl⟩
instance : BytesIs Try.prog 169 1 8 := ⟨Try.t169, _, by kernel_rfl, rfl, rfl, rfl, rfl, by decide, by decide⟩
instance : SizeIs Try.prog 171 1 := ⟨by kernel_rfl⟩
instance : AggIs Try.prog 171 false := ⟨by kernel_rfl⟩
instance : ZeroIs Try.prog 171 (Value.nilFunc) := ⟨by kernel_rfl⟩
instance : BytesIs Try.prog 171 1 8 := ⟨Try.t171, _, by kernel_rfl, rfl, rfl, rfl, rfl, by decide, by decide⟩
instance : SizeIs Try.prog 173 1 := ⟨by kernel_rfl⟩
instance : AggIs Try.prog 173 false := ⟨by kernel_rfl⟩
instance : ZeroIs Try.prog 173 (Value.nilFunc) := ⟨by kernel_rfl⟩
instance : BytesIs Try.prog 173 1 8 := ⟨Try.t173, _, by kernel_rfl, rfl, rfl, rfl, rfl, by decide, by decide⟩
instance : SizeIs Try.prog 175 1 := ⟨by kernel_rfl⟩
instance : AggIs Try.prog 175 false := ⟨by kernel_rfl⟩
instance : ZeroIs Try.prog 175 (Value.nilFunc) := ⟨by kernel_rfl⟩
instance : BytesIs Try.prog 175 1 8 := ⟨Try.t175, _, by kernel_rfl, rfl, rfl, rfl, rfl, by decide, by decide⟩
instance : SizeIs Try.prog 176 1 := ⟨by kernel_rfl⟩
instance : AggIs Try.prog 176 false := ⟨by kernel_rfl⟩
instance : ZeroIs Try.prog 176 (Value.nilFunc) := ⟨by kernel_rfl⟩
instance : BytesIs Try.prog 176 1 8 := ⟨Try.t176, _, by kernel_rfl, rfl, rfl, rfl, rfl, by decide, by decide⟩
instance : SizeIs Try.prog 177 1 := ⟨by kernel_rfl⟩
instance : AggIs Try.prog 177 false := ⟨by kernel_rfl⟩
instance : ZeroIs Try.prog 177 (Value.nilFunc) := ⟨by kernel_rfl⟩
instance : BytesIs Try.prog 177 1 8 := ⟨Try.t177, _, by kernel_rfl, rfl, rfl, rfl, rfl, by decide, by decide⟩
instance : SizeIs Try.prog 178 1 := ⟨by kernel_rfl⟩
instance : AggIs Try.prog 178 false := ⟨by kernel_rfl⟩
instance : ZeroIs Try.prog 178 (Value.nilFunc) := ⟨by kernel_rfl⟩
instance : BytesIs Try.prog 178 1 8 := ⟨Try.t178, _, by kernel_rfl, rfl, rfl, rfl, rfl, by decide, by decide⟩
instance : SizeIs Try.prog 179 1 := ⟨by kernel_rfl⟩
instance : AggIs Try.prog 179 false := ⟨by kernel_rfl⟩
instance : ZeroIs Try.prog 179 (Value.nilFunc) := ⟨by kernel_rfl⟩
instance : BytesIs Try.prog 179 1 8 := ⟨Try.t179, _, by kernel_rfl, rfl, rfl, rfl, rfl, by decide, by decide⟩
instance : SizeIs Try.prog 180 1 := ⟨by kernel_rfl⟩
instance : AggIs Try.prog 180 false := ⟨by kernel_rfl⟩
instance : ZeroIs Try.prog 180 (Value.nilFunc) := ⟨by kernel_rfl⟩
instance : BytesIs Try.prog 180 1 8 := ⟨Try.t180, _, by kernel_rfl, rfl, rfl, rfl, rfl, by decide, by decide⟩
instance : SizeIs Try.prog 181 1 := ⟨by kernel_rfl⟩
instance : AggIs Try.prog 181 false := ⟨by kernel_rfl⟩
instance : ZeroIs Try.prog 181 (Value.nilFunc) := ⟨by kernel_rfl⟩
instance : BytesIs Try.prog 181 1 8 := ⟨Try.t181, _, by kernel_rfl, rfl, rfl, rfl, rfl, by decide, by decide⟩
instance : SizeIs Try.prog 182 1 := ⟨by kernel_rfl⟩
instance : AggIs Try.prog 182 false := ⟨by kernel_rfl⟩
instance : ZeroIs Try.prog 182 (Value.nilFunc) := ⟨by kernel_rfl⟩
instance : BytesIs Try.prog 182 1 8 := ⟨Try.t182, _, by kernel_rfl, rfl, rfl, rfl, rfl, by decide, by decide⟩
instance : SizeIs Try.prog 183 1 := ⟨by kernel_rfl⟩
instance : AggIs Try.prog 183 false := ⟨by kernel_rfl⟩
instance : ZeroIs Try.prog 183 (Value.nilFunc) := ⟨by kernel_rfl⟩
instance : BytesIs Try.prog 183 1 8 := ⟨Try.t183, _, by kernel_rfl, rfl, rfl, rfl, rfl, by decide, by decide⟩
instance : SizeIs Try.prog 184 1 := ⟨by kernel_rfl⟩
instance : AggIs Try.prog 184 false := ⟨by kernel_rfl⟩
instance : ZeroIs Try.prog 184 (Value.nilFunc) := ⟨by kernel_rfl⟩
instance : BytesIs Try.prog 184 1 8 := ⟨Try.t184, _, by kernel_rfl, rfl, rfl, rfl, rfl, by decide, by decide⟩
instance : FieldIs Try.prog 185 0 0 17 1 := ⟨_, _, Try.underlying185, rfl, rfl, rfl, by kernel_rfl, by decide⟩
instance : FieldIs Try.prog 185 1 1 17 1 := ⟨_, _, Try.underlying185, rfl, rfl, rfl, by kernel_rfl, by decide⟩
instance : FieldIs Try.prog 185 2 2 17 1 := ⟨_, _, Try.underlying185, rfl, rfl, rfl, by kernel_rfl, by decide⟩
instance : FieldIs Try.prog 185 3 3 9 1 := ⟨_, _, Try.underlying185, rfl, rfl, rfl, by kernel_rfl, by decide⟩
instance : StructOk Try.prog 185 := ⟨_, Try.underlying185, by kernel_rfl⟩
instance : SizeIs Try.prog 185 4 := ⟨by kernel_rfl⟩
instance : AggIs Try.prog 185 true := ⟨by kernel_rfl⟩
instance : ZeroIs Try.prog 185 ((Value.agg #[Value.pointer none, Value.pointer none, Value.pointer none, Value.string ByteArray.empty])) := ⟨by kernel_rfl⟩
instance : BytesIs Try.prog 185 4 40 := ⟨Try.t185, _, by kernel_rfl, rfl, rfl, rfl, rfl, by decide, by decide⟩
instance : FieldIs Try.prog 186 0 0 17 1 := ⟨_, _, Try.underlying186, rfl, rfl, rfl, by kernel_rfl, by decide⟩
instance : FieldIs Try.prog 186 1 1 17 1 := ⟨_, _, Try.underlying186, rfl, rfl, rfl, by kernel_rfl, by decide⟩
instance : FieldIs Try.prog 186 2 2 17 1 := ⟨_, _, Try.underlying186, rfl, rfl, rfl, by kernel_rfl, by decide⟩
instance : FieldIs Try.prog 186 3 3 9 1 := ⟨_, _, Try.underlying186, rfl, rfl, rfl, by kernel_rfl, by decide⟩
instance : StructOk Try.prog 186 := ⟨_, Try.underlying186, by kernel_rfl⟩
instance : SizeIs Try.prog 186 4 := ⟨by kernel_rfl⟩
instance : AggIs Try.prog 186 true := ⟨by kernel_rfl⟩
instance : ZeroIs Try.prog 186 ((Value.agg #[Value.pointer none, Value.pointer none, Value.pointer none, Value.string ByteArray.empty])) := ⟨by kernel_rfl⟩
instance : BytesIs Try.prog 186 4 40 := ⟨Try.t186, _, by kernel_rfl, rfl, rfl, rfl, rfl, by decide, by decide⟩
instance : UnderIs Try.prog 187 (.array 0 16) := ⟨Try.underlying187⟩
instance : SizeIs Try.prog 187 0 := ⟨by kernel_rfl⟩
instance : AggIs Try.prog 187 true := ⟨by kernel_rfl⟩
instance : StructOk Try.prog 188 := ⟨_, Try.underlying188, by kernel_rfl⟩
instance : SizeIs Try.prog 188 0 := ⟨by kernel_rfl⟩
instance : AggIs Try.prog 188 true := ⟨by kernel_rfl⟩
instance : StructOk Try.prog 189 := ⟨_, Try.underlying189, by kernel_rfl⟩
instance : SizeIs Try.prog 189 0 := ⟨by kernel_rfl⟩
instance : AggIs Try.prog 189 true := ⟨by kernel_rfl⟩
instance : SizeIs Try.prog 190 1 := ⟨by kernel_rfl⟩
instance : AggIs Try.prog 190 false := ⟨by kernel_rfl⟩
instance : ZeroIs Try.prog 190 (Value.nilFunc) := ⟨by kernel_rfl⟩
instance : BytesIs Try.prog 190 1 8 := ⟨Try.t190, _, by kernel_rfl, rfl, rfl, rfl, rfl, by decide, by decide⟩
instance : UnderIs Try.prog 191 (.int IntKind.u32) := ⟨Try.underlying191⟩
instance : SizeIs Try.prog 191 1 := ⟨by kernel_rfl⟩
instance : AggIs Try.prog 191 false := ⟨by kernel_rfl⟩
instance : ZeroIs Try.prog 191 ((Value.int IntKind.u32 0)) := ⟨by kernel_rfl⟩
instance : BytesIs Try.prog 191 1 4 := ⟨Try.t191, _, by kernel_rfl, rfl, rfl, rfl, rfl, by decide, by decide⟩
instance : UnderIs Try.prog 192 (.int IntKind.u8) := ⟨Try.underlying192⟩
instance : SizeIs Try.prog 192 1 := ⟨by kernel_rfl⟩
instance : AggIs Try.prog 192 false := ⟨by kernel_rfl⟩
instance : ZeroIs Try.prog 192 ((Value.int IntKind.u8 0)) := ⟨by kernel_rfl⟩
instance : BytesIs Try.prog 192 1 1 := ⟨Try.t192, _, by kernel_rfl, rfl, rfl, rfl, rfl, by decide, by decide⟩
instance : UnderIs Try.prog 193 (.int IntKind.u8) := ⟨Try.underlying193⟩
instance : SizeIs Try.prog 193 1 := ⟨by kernel_rfl⟩
instance : AggIs Try.prog 193 false := ⟨by kernel_rfl⟩
instance : ZeroIs Try.prog 193 ((Value.int IntKind.u8 0)) := ⟨by kernel_rfl⟩
instance : BytesIs Try.prog 193 1 1 := ⟨Try.t193, _, by kernel_rfl, rfl, rfl, rfl, rfl, by decide, by decide⟩
instance : SizeIs Try.prog 194 1 := ⟨by kernel_rfl⟩
instance : AggIs Try.prog 194 false := ⟨by kernel_rfl⟩
instance : ZeroIs Try.prog 194 (Value.nilFunc) := ⟨by kernel_rfl⟩
instance : BytesIs Try.prog 194 1 8 := ⟨Try.t194, _, by kernel_rfl, rfl, rfl, rfl, rfl, by decide, by decide⟩
instance : UnderIs Try.prog 195 (.pointer 5) := ⟨Try.underlying195⟩
instance : SizeIs Try.prog 195 1 := ⟨by kernel_rfl⟩
instance : AggIs Try.prog 195 false := ⟨by kernel_rfl⟩
instance : ZeroIs Try.prog 195 ((Value.pointer none)) := ⟨by kernel_rfl⟩
instance : BytesIs Try.prog 195 1 8 := ⟨Try.t195, _, by kernel_rfl, rfl, rfl, rfl, rfl, by decide, by decide⟩
instance : UnderIs Try.prog 196 (.int IntKind.i32) := ⟨Try.underlying196⟩
instance : SizeIs Try.prog 196 1 := ⟨by kernel_rfl⟩
instance : AggIs Try.prog 196 false := ⟨by kernel_rfl⟩
instance : ZeroIs Try.prog 196 ((Value.int IntKind.i32 0)) := ⟨by kernel_rfl⟩
instance : BytesIs Try.prog 196 1 4 := ⟨Try.t196, _, by kernel_rfl, rfl, rfl, rfl, rfl, by decide, by decide⟩
instance : UnderIs Try.prog 197 (.int IntKind.i32) := ⟨Try.underlying197⟩
instance : SizeIs Try.prog 197 1 := ⟨by kernel_rfl⟩
instance : AggIs Try.prog 197 false := ⟨by kernel_rfl⟩
instance : ZeroIs Try.prog 197 ((Value.int IntKind.i32 0)) := ⟨by kernel_rfl⟩
instance : BytesIs Try.prog 197 1 4 := ⟨Try.t197, _, by kernel_rfl, rfl, rfl, rfl, rfl, by decide, by decide⟩
instance : FieldIs Try.prog 198 0 0 12 1 := ⟨_, _, Try.underlying198, rfl, rfl, rfl, by kernel_rfl, by decide⟩
instance : FieldIs Try.prog 198 1 1 12 1 := ⟨_, _, Try.underlying198, rfl, rfl, rfl, by kernel_rfl, by decide⟩
instance : FieldIs Try.prog 198 2 2 191 1 := ⟨_, _, Try.underlying198, rfl, rfl, rfl, by kernel_rfl, by decide⟩
instance : FieldIs Try.prog 198 3 3 192 1 := ⟨_, _, Try.underlying198, rfl, rfl, rfl, by kernel_rfl, by decide⟩
instance : FieldIs Try.prog 198 4 4 5 1 := ⟨_, _, Try.underlying198, rfl, rfl, rfl, by kernel_rfl, by decide⟩
instance : FieldIs Try.prog 198 5 5 5 1 := ⟨_, _, Try.underlying198, rfl, rfl, rfl, by kernel_rfl, by decide⟩
instance : FieldIs Try.prog 198 6 6 193 1 := ⟨_, _, Try.underlying198, rfl, rfl, rfl, by kernel_rfl, by decide⟩
instance : FieldIs Try.prog 198 7 7 194 1 := ⟨_, _, Try.underlying198, rfl, rfl, rfl, by kernel_rfl, by decide⟩
instance : FieldIs Try.prog 198 8 8 195 1 := ⟨_, _, Try.underlying198, rfl, rfl, rfl, by kernel_rfl, by decide⟩
instance : FieldIs Try.prog 198 9 9 196 1 := ⟨_, _, Try.underlying198, rfl, rfl, rfl, by kernel_rfl, by decide⟩
instance : FieldIs Try.prog 198 10 10 197 1 := ⟨_, _, Try.underlying198, rfl, rfl, rfl, by kernel_rfl, by decide⟩
instance : StructOk Try.prog 198 := ⟨_, Try.underlying198, by kernel_rfl⟩
instance : SizeIs Try.prog 198 11 := ⟨by kernel_rfl⟩
instance : AggIs Try.prog 198 true := ⟨by kernel_rfl⟩
instance : ZeroIs Try.prog 198 ((Value.agg #[Value.int IntKind.u64 0, Value.int IntKind.u64 0, Value.int IntKind.u32 0, Value.int IntKind.u8 0, Value.int IntKind.u8 0, Value.int IntKind.u8 0, Value.int IntKind.u8 0, Value.nilFunc, Value.pointer none, Value.int IntKind.i32 0, Value.int IntKind.i32 0])) := ⟨by kernel_rfl⟩
instance : BytesIs Try.prog 198 11 48 := ⟨Try.t198, _, by kernel_rfl, rfl, rfl, rfl, rfl, by decide, by decide⟩
instance : FieldIs Try.prog 199 0 0 12 1 := ⟨_, _, Try.underlying199, rfl, rfl, rfl, by kernel_rfl, by decide⟩
instance : FieldIs Try.prog 199 1 1 12 1 := ⟨_, _, Try.underlying199, rfl, rfl, rfl, by kernel_rfl, by decide⟩
instance : FieldIs Try.prog 199 2 2 191 1 := ⟨_, _, Try.underlying199, rfl, rfl, rfl, by kernel_rfl, by decide⟩
instance : FieldIs Try.prog 199 3 3 192 1 := ⟨_, _, Try.underlying199, rfl, rfl, rfl, by kernel_rfl, by decide⟩
instance : FieldIs Try.prog 199 4 4 5 1 := ⟨_, _, Try.underlying199, rfl, rfl, rfl, by kernel_rfl, by decide⟩
instance : FieldIs Try.prog 199 5 5 5 1 := ⟨_, _, Try.underlying199, rfl, rfl, rfl, by kernel_rfl, by decide⟩
instance : FieldIs Try.prog 199 6 6 193 1 := ⟨_, _, Try.underlying199, rfl, rfl, rfl, by kernel_rfl, by decide⟩
instance : FieldIs Try.prog 199 7 7 194 1 := ⟨_, _, Try.underlying199, rfl, rfl, rfl, by kernel_rfl, by decide⟩
instance : FieldIs Try.prog 199 8 8 195 1 := ⟨_, _, Try.underlying199, rfl, rfl, rfl, by kernel_rfl, by decide⟩
instance : FieldIs Try.prog 199 9 9 196 1 := ⟨_, _, Try.underlying199, rfl, rfl, rfl, by kernel_rfl, by decide⟩
instance : FieldIs Try.prog 199 10 10 197 1 := ⟨_, _, Try.underlying199, rfl, rfl, rfl, by kernel_rfl, by decide⟩
instance : StructOk Try.prog 199 := ⟨_, Try.underlying199, by kernel_rfl⟩
instance : SizeIs Try.prog 199 11 := ⟨by kernel_rfl⟩
instance : AggIs Try.prog 199 true := ⟨by kernel_rfl⟩
instance : ZeroIs Try.prog 199 ((Value.agg #[Value.int IntKind.u64 0, Value.int IntKind.u64 0, Value.int IntKind.u32 0, Value.int IntKind.u8 0, Value.int IntKind.u8 0, Value.int IntKind.u8 0, Value.int IntKind.u8 0, Value.nilFunc, Value.pointer none, Value.int IntKind.i32 0, Value.int IntKind.i32 0])) := ⟨by kernel_rfl⟩
instance : BytesIs Try.prog 199 11 48 := ⟨Try.t199, _, by kernel_rfl, rfl, rfl, rfl, rfl, by decide, by decide⟩
end Go.Ideal

-- La
set_option linter.unusedSimpArgs false
set_option linter.unusedVariables false
namespace Go.Ideal
open Go Go.Proofs
/-! ### Words of 64 bits -/
def u64s (xs : List Nat) : List Value := xs.map fun (x : Nat) => Value.int .u64 (x : Int)
theorem u64s_len (xs : List Nat) : (u64s xs).length = xs.length := by simp [u64s]
theorem u64s_at {xs : List Nat} {i : Nat} {v : Value} (h : (u64s xs)[i]? = some v) : ∃ x : Nat, v = .int .u64 x ∧ xs[i]? = some x := by
  simp only [u64s, List.getElem?_map, Option.map_eq_some_iff] at h
  obtain ⟨x, h1, rfl⟩ := h
  exact ⟨x, rfl, h1⟩
theorem wrap_u64_id {z : Int} (h0 : 0 ≤ z) (h : z < 2 ^ 64) : IntKind.u64.wrap z = z := by
  simp only [IntKind.wrap, IntKind.bits, IntKind.signed]; simp; omega
theorem bvNat {x : Nat} (h : x < 2 ^ 64) : (BitVec.ofInt IntKind.u64.bits (x : Int)).toNat = x := by
  have hb : IntKind.u64.bits = 64 := rfl
  simp only [BitVec.toNat_ofInt, hb]
  omega
theorem and_u64 {a b : Nat} (ha : a < 2 ^ 64) (hb : b < 2 ^ 64) : ibits .and .u64 a b = (a &&& b : Nat) := by
  show IntKind.u64.wrap (((BitVec.ofInt IntKind.u64.bits a) &&& (BitVec.ofInt IntKind.u64.bits b)).toNat : Int) = _
  rw [BitVec.toNat_and, bvNat ha, bvNat hb]
  have := Nat.and_lt_two_pow a hb
  exact wrap_u64_id (by omega) (by omega)
theorem or_u64 {a b : Nat} (ha : a < 2 ^ 64) (hb : b < 2 ^ 64) : ibits .or .u64 a b = (a ||| b : Nat) := by
  show IntKind.u64.wrap (((BitVec.ofInt IntKind.u64.bits a) ||| (BitVec.ofInt IntKind.u64.bits b)).toNat : Int) = _
  rw [BitVec.toNat_or, bvNat ha, bvNat hb]
  have := Nat.or_lt_two_pow ha hb
  exact wrap_u64_id (by omega) (by omega)
theorem xor_u64 {a b : Nat} (ha : a < 2 ^ 64) (hb : b < 2 ^ 64) : ibits .xor .u64 a b = (a ^^^ b : Nat) := by
  show IntKind.u64.wrap (((BitVec.ofInt IntKind.u64.bits a) ^^^ (BitVec.ofInt IntKind.u64.bits b)).toNat : Int) = _
  rw [BitVec.toNat_xor, bvNat ha, bvNat hb]
  have := Nat.xor_lt_two_pow ha hb
  exact wrap_u64_id (by omega) (by omega)
theorem shr_u64 {a : Nat} {n : Int} (h0 : 0 ≤ n) (ha : a < 2 ^ 64) : ((a : Int)).fdiv (2 ^ min n.toNat IntKind.u64.bits) = (a >>> n.toNat : Nat) := by
  have hb : IntKind.u64.bits = 64 := rfl
  rw [hb, Nat.shiftRight_eq_div_pow]
  have h2 : (2 : Int) ^ min n.toNat 64 = ((2 ^ min n.toNat 64 : Nat) : Int) := by simp
  rw [h2, Int.fdiv_eq_ediv_of_nonneg _ (Int.natCast_nonneg _), ← Int.natCast_ediv]
  congr 1
  by_cases hn : n.toNat ≤ 64
  · rw [Nat.min_eq_left hn]
  · rw [Nat.min_eq_right (by omega), Nat.div_eq_of_lt ha, Nat.div_eq_of_lt]
    exact Nat.lt_of_lt_of_le ha (Nat.pow_le_pow_right (by decide) (by omega))
def belowS (n : Int) (x : Nat) : Bool := decide (64 ≤ n) || decide (x >>> n.toNat = 0)
theorem below_spec (x : Nat) (hx : x < 2 ^ 64) (n : Int) (hn : 0 ≤ n) (h : IHp) : EvX Try.prog 53 [.int .u64 x, .int .i64 n].toArray h (fun v h' => v = .bool (belowS n x) ∧ h' = h) := by
  refine EvX_of Try.func53 rfl (by show 2 ≤ 13; decide) ?_
  repeat' (first | refine V_seq ?_ | refine V_region ?_ | refine WS_nil ?_ | refine S_normal ?_ | refine V_ret ?_ | refine WS_off rfl (by first | rfl | assumption) ?_ | refine WS_on rfl (by first | rfl | assumption) ?_ | refine WS_move ?_ | refine WS_assign ?_ | refine WS_pick_t (by first | rfl | assumption) ?_ | refine WS_pick_f (by first | rfl | assumption) ?_ | refine WS_cmp rfl ?_ | refine WS_shift (by first | decide | omega) rfl ?_ | (refine WS_guard rfl ?_ ?_ <;> intro hg))
  · refine retK_1 ⟨?_, rfl⟩ (.inr rfl)
    rw [shr_u64 hn hx]
    simp only [belowS, hg, Bool.false_or]
    exact congrArg Value.bool (decide_eq_decide.2 Int.natCast_eq_zero)
  · refine retK_1 ⟨?_, rfl⟩ (.inr rfl)
    simp at hg
    simp [hg, belowS]
instance : CallIs Try.prog 54 := .of Try.func54 rfl rfl
instance : CallIs Try.prog 53 := .of Try.func53 rfl rfl
def checkS (N : Int) (xs : List Nat) : Int := if N < 0 ∨ 64 < N ∨ (xs.length : Int) ≠ N then 2 else if xs.all (belowS N) then 0 else 2
theorem Check_spec (N : Int) (a : Option Addr) (len cap : Nat) (xs : List Nat) (h : IHp) (hx : SlIs h a len cap (u64s xs)) (h64 : ∀ x ∈ xs, x < 2 ^ 64) :
    EvX Try.prog 10 [.agg [.int .i64 N, .slice a len cap].toArray].toArray h (fun v h' => v = .int .i64 (checkS N xs) ∧ Ext h h') := by
  have hlen : xs.length = len := by have := hx.1; simpa [u64s] using this
  refine EvX_of Try.func10 rfl (by show 1 ≤ 34; decide) ?_
  repeat' (first | refine V_seq ?_ | refine V_region ?_ | refine WS_nil ?_ | refine S_normal ?_ | refine V_block ?_ | refine V_skip ?_ | refine V_ret ?_ | refine S_ret ?_ | refine WS_off rfl (by first | rfl | assumption) ?_ | refine WS_on rfl (by first | rfl | assumption) ?_ | refine WS_move ?_ | refine WS_assign ?_ | refine WS_pick_t (by first | rfl | assumption) ?_ | refine WS_pick_f (by first | rfl | assumption) ?_ | refine WS_cmp rfl ?_ | refine WS_len_slice ?_ | refine WS_fieldAddr ?_ | refine WS_load ?_ | refine WS_box_agg rfl ?_ | (refine WS_guard rfl ?_ ?_ <;> intro hg) | (refine V_cond ?_ ?_ <;> intro hc <;> try (cases hc; done)))
  · refine retK_1 ⟨?_, Ext.push _ _⟩ (.inr rfl)
    simp only [checkS]; rw [if_pos]; simp at hc; omega
  · have hN : ¬ N < 0 ∧ ¬ 64 < N ∧ (len : Int) = N := by simp_all
    obtain ⟨H, hH⟩ : ∃ H, H = h.push (IObj.cells [Value.int IntKind.i64 N, Value.slice a len cap] 24 true) := ⟨_, rfl⟩
    have eH : Ext h H := hH ▸ Ext.push _ _
    have c0 : CellIs H h.fresh (0 + 0) (.int .i64 N) := hH ▸ inferInstance
    rw [← hH]
    refine V_loop (fun d s h' => ∃ i : Int, d = (len - i).toNat ∧ 0 ≤ i ∧ i ≤ len ∧ Get s 24 (.int .i64 i) ∧ Get s 23 (.int .i64 len) ∧ Get s 22 (.slice a len cap) ∧ Get s 1 (.pointer (some (ad h.fresh 0))) ∧ h' = H ∧ (xs.take i.toNat).all (belowS N) = true) len ⟨0, by omega, by omega, by omega, inferInstance, inferInstance, inferInstance, inferInstance, rfl, by simp⟩ ?_
    rintro d s h' ⟨i, rfl, hi0, hi1, g24, g23, g22, g1, rfl, hP⟩
    repeat' (first | refine V_seq ?_ | refine V_region ?_ | refine WS_nil ?_ | refine S_normal ?_ | refine V_block ?_ | refine V_skip ?_ | refine V_exit ?_ | refine V_ret ?_ | refine S_exit ?_ | refine B_exit ?_ | refine WS_assign ?_ | refine WS_cmp rfl ?_ | (refine V_cond ?_ ?_ <;> intro hc <;> try (cases hc; done)))
    · have hi : i < len := by simpa using hc
      obtain ⟨b, v, rfl, hv, c1⟩ := (hx.ext eH).at hi0 hi
      obtain ⟨x, rfl, hx1⟩ := u64s_at hv
      repeat' (first | refine V_seq ?_ | refine V_region ?_ | refine WS_nil ?_ | refine S_normal ?_ | refine WS_move ?_ | refine WS_assign ?_ | refine WS_fieldAddr ?_ | refine WS_load ?_ | refine WS_indexAddr (by first | decide | omega) ?_)
      refine WS_call (below_spec x (h64 x (List.mem_of_getElem? hx1)) N (by omega) _) ?_
      rintro _ _ ⟨rfl, rfl⟩
      repeat' (first | refine V_seq ?_ | refine V_region ?_ | refine WS_nil ?_ | refine S_normal ?_ | refine B_normal ?_ | refine V_skip ?_ | refine V_ret ?_ | refine S_ret ?_ | refine B_ret ?_ | refine WS_move ?_ | refine WS_assign ?_ | refine WS_addi (by omega) ?_ | refine WS_not ?_ | (refine V_cond ?_ ?_ <;> intro hc <;> try (cases hc; done)))
      · refine retK_1 ⟨?_, eH⟩ (.inr rfl)
        simp only [checkS]; rw [if_neg (by omega), if_neg]
        intro hall
        rw [List.all_eq_true] at hall
        have := hall x (List.mem_of_getElem? hx1)
        simp_all
      · refine ⟨_, ?_, i + 1, rfl, by omega, by omega, inferInstance, inferInstance, inferInstance, inferInstance, rfl, ?_⟩
        · omega
        · have : (i + 1).toNat = i.toNat + 1 := by omega
          rw [this, List.take_add_one, hx1]
          simp_all
    · have hi : i = len := by simp at hc; omega
      refine retK_1 ⟨?_, eH⟩ (.inr rfl)
      simp only [checkS]; rw [if_neg (by omega), if_pos]
      rw [hi, Int.toNat_natCast, List.take_of_length_le (by omega)] at hP
      exact hP
  · refine retK_1 ⟨?_, Ext.push _ _⟩ (.inr rfl)
    simp only [checkS]; rw [if_pos]; simp at hg; omega
  · refine retK_1 ⟨?_, Ext.push _ _⟩ (.inr rfl)
    simp only [checkS]; rw [if_pos]; simp at hg; omega
instance : CallIs Try.prog 10 := .of Try.func10 rfl rfl
def eyeS (n : Int) : List Nat := (List.range n.toNat).map fun i => 2 ^ i
theorem eyeS_succ {i : Int} (h : 0 ≤ i) : u64s (eyeS (i + 1)) = u64s (eyeS i) ++ [.int .u64 (2 ^ i.toNat : Nat)] := by
  have : (i + 1).toNat = i.toNat + 1 := by omega
  simp [u64s, eyeS, this, List.range_succ]
theorem eyeS_len {i : Int} : (u64s (eyeS i)).length = i.toNat := by simp [u64s, eyeS]
theorem shl_one {i : Int} (h0 : 0 ≤ i) (h1 : i < 64) : IntKind.u64.wrap (1 * 2 ^ min i.toNat IntKind.u64.bits) = (2 ^ i.toNat : Nat) := by
  have h2 : min i.toNat IntKind.u64.bits = i.toNat := by simp only [IntKind.bits]; omega
  have h3 : (2 : Int) ^ i.toNat < 2 ^ 64 := Int.pow_lt_pow_of_lt (by decide) (by omega)
  have h4 : (0 : Int) ≤ 2 ^ i.toNat := Int.pow_nonneg (by decide)
  rw [h2, Int.one_mul, wrap_u64_id h4 h3]
  simp
theorem Eye_spec (n : Int) (h : IHp) : EvX Try.prog 12 [.int .i64 n].toArray h (fun v h' => Ext h h' ∧ if 0 ≤ n ∧ n ≤ 64 then ∃ sl, v = .tuple [.agg [.int .i64 n, sl].toArray, .int .i64 0].toArray ∧ Lst h.fresh h' sl (u64s (eyeS n)) 25 else v = .tuple [.agg [.int .i64 0, .slice none 0 0].toArray, .int .i64 2].toArray) := by
  refine EvX_of Try.func12 rfl (by show 1 ≤ 28; decide) ?_
  repeat' (first | refine V_seq ?_ | refine V_region ?_ | refine WS_nil ?_ | refine S_normal ?_ | refine V_block ?_ | refine V_skip ?_ | refine V_ret ?_ | refine S_ret ?_ | refine WS_off rfl (by first | rfl | assumption) ?_ | refine WS_on rfl (by first | rfl | assumption) ?_ | refine WS_move ?_ | refine WS_assign ?_ | refine WS_pick_t (by first | rfl | assumption) ?_ | refine WS_pick_f (by first | rfl | assumption) ?_ | refine WS_cmp rfl ?_ | refine WS_build ?_ | refine WS_alloc ?_ | refine WS_store rfl ?_ | (refine WS_guard rfl ?_ ?_ <;> intro hg) | (refine V_cond ?_ ?_ <;> intro hc <;> try (cases hc; done)))
  · refine retK_ct ⟨(Ext.push h _).putObj (Nat.le_refl _), ?_⟩ (.inr rfl)
    rw [if_neg (by simp at hc; omega)]
  · have hn : 0 ≤ n ∧ n ≤ 64 := by simp at hc hg; omega
    refine V_loop (fun d s h' => ∃ (i : Int) (sl : Value), d = (n - i).toNat ∧ 0 ≤ i ∧ i ≤ n ∧ Get s 16 (.int .i64 i) ∧ Get s 15 (.int .i64 n) ∧ Get s 4 (.pointer (some (ad (h.fresh + 2) 0))) ∧ Get s 2 (.pointer (some (ad h.fresh 0))) ∧ Ext h h' ∧ ObjIs h' h.fresh [.int .i64 0, .slice none 0 0] 24 true ∧ ObjIs h' (h.fresh + 2) [.int .i64 n, sl] 24 true ∧ Lst h.fresh h' sl (u64s (eyeS i)) 25 ∧ blockOf sl ≠ some h.fresh ∧ blockOf sl ≠ some (h.fresh + 2)) n.toNat ?_ ?_
    · rw [push_fresh]
      have nb : NeB h.fresh (h.fresh + 2) := ⟨by unfold IHp.fresh; omega⟩
      have ob : ObjIs ((h.push (IObj.cells [Value.int IntKind.i64 0, Value.slice none 0 0] 24 true)).push (IObj.cells [Value.int IntKind.i64 0, Value.slice none 0 0] 24 true)) (h.fresh + 2) [Value.int IntKind.i64 0, Value.slice none 0 0] 24 true := by
        rw [← push_fresh h (IObj.cells [Value.int IntKind.i64 0, Value.slice none 0 0] 24 true)]; infer_instance
      exact ⟨0, .slice none 0 0, by omega, by omega, by omega, inferInstance, inferInstance, inferInstance, inferInstance, (((Ext.push h _).push' _).putObj (by omega)), inferInstance, inferInstance, .inl ⟨rfl, rfl⟩, by simp [blockOf], by simp [blockOf]⟩
    rintro d s h' ⟨i, sl, rfl, hi0, hi1, g16, g15, g4, g2, eX, o2, o4, hL, hb2, hb4⟩
    repeat' (first | refine V_seq ?_ | refine V_region ?_ | refine WS_nil ?_ | refine S_normal ?_ | refine V_block ?_ | refine V_skip ?_ | refine V_exit ?_ | refine S_exit ?_ | refine B_exit ?_ | refine WS_move ?_ | refine WS_assign ?_ | refine WS_cmp rfl ?_ | refine WS_load_agg ?_ | (refine V_cond ?_ ?_ <;> intro hc <;> try (cases hc; done)))
    · have hi : i < n := by simpa using hc
      obtain ⟨a, rfl⟩ := hL.isSlice
      refine V_draw (plan := [.take 0, .take 1, .take 2, .take 3, .one 4, .one 5, .take 6, .one 7]) (by kernel_rfl) ?_
      repeat' (first | refine WS_nil ?_ | refine WS_move ?_ | refine WS_fieldAddr ?_ | refine WS_shift (by first | decide | omega) rfl ?_ | refine WS_buildSlice (by decide) rfl rfl (by simp [Value.cells]) ?_ | refine WDK_go ?_ | refine WDT_go ?_ | refine WD_load rfl ?_ | refine WD_take rfl rfl ?_ | refine WD_drop rfl rfl ?_ | refine WD_one rfl ?_)
      have h64 : i < 64 := by omega
      rw [shl_one hi0 h64]
      refine WS_append1 (lo := h.fresh) (hL.ext (Ext.push _ _)) (by rw [push_fresh]; have := eX.fresh; omega) (by rw [eyeS_len]; omega) ?_
      intro v' h2 hL2 m2 hb
      have p2 : ObjIs h2 h.fresh [.int .i64 0, .slice none 0 0] 24 true := m2.obj inferInstance hb2
      have p4 : ObjIs h2 (h.fresh + 2) _ 24 true := m2.obj inferInstance hb4
      have e2 : Ext h h2 := m2.ext (eX.push' _) (hL.ext (Ext.push _ _))
      have hn4 : h.fresh + 2 < (h'.push (IObj.cells [Value.int IntKind.u64 (2 ^ i.toNat : Nat)] 25 true)).fresh := by have := o4.lt; rw [push_fresh]; omega
      obtain ⟨a', rfl⟩ := hL2.isSlice
      have nb : NeB h.fresh (h.fresh + 2) := ⟨by unfold IHp.fresh; omega⟩
      repeat' (first | refine V_region ?_ | refine WS_nil ?_ | refine S_normal ?_ | refine B_normal ?_ | refine WS_move ?_ | refine WS_addi (by omega) ?_ | refine WS_fieldAddr ?_ | refine WS_store rfl ?_ | refine WDK_go ?_ | refine WDT_go ?_ | refine WD_nil ?_ | refine WD_take rfl rfl ?_ | refine WD_drop rfl rfl ?_)
      refine ⟨_, ?_, i + 1, _, rfl, by omega, by omega, inferInstance, inferInstance, inferInstance, inferInstance, e2.putObj (by omega), inferInstance, inferInstance, ?_, ?_, ?_⟩
      · omega
      · rw [eyeS_succ hi0]; exact hL2.put (by rw [hb]; intro hh; have := Option.some.inj hh; omega) o4.even
      · rw [hb]; intro hh; have := Option.some.inj hh; omega
      · rw [hb]; intro hh; have := Option.some.inj hh; omega
    · have hi : i = n := by simp at hc; omega
      subst hi
      obtain ⟨a, rfl⟩ := hL.isSlice
      repeat' (first | refine WS_nil ?_ | refine S_normal ?_ | refine V_ret ?_ | refine WS_assign ?_ | refine WS_store rfl ?_)
      have nb : NeB (h.fresh + 2) h.fresh := ⟨by unfold IHp.fresh; omega⟩
      refine retK_ct ⟨eX.putObj (Nat.le_refl _), ?_⟩ (.inr rfl)
      rw [if_pos hn]
      exact ⟨_, rfl, hL.put hb2 o2.even⟩
  · refine retK_ct ⟨(Ext.push h _).putObj (Nat.le_refl _), ?_⟩ (.inr rfl)
    rw [if_neg (by simp at hg; omega)]
instance : CallIs Try.prog 12 := .of Try.func12 rfl rfl
end Go.Ideal

-- Lb
set_option linter.unusedSimpArgs false
set_option linter.unusedVariables false
namespace Go.Ideal
open Go Go.Proofs
instance : CallIs Try.prog 11 := .of Try.func11 rfl rfl

instance : CallIs Try.prog 13 := .of Try.func13 rfl rfl

theorem Same_spec (M N : Int) (a b : Option Addr) (la ca lb cb : Nat) (xs ys : List Nat) (h : IHp) (hx : SlIs h a la ca (u64s xs)) (hy : SlIs h b lb cb (u64s ys)) (hla : la < 2 ^ 62) :
    EvX Try.prog 14 [.agg [.int .i64 M, .slice a la ca].toArray, .agg [.int .i64 N, .slice b lb cb].toArray].toArray h (fun v h' => v = .bool (decide (M = N ∧ xs = ys)) ∧ Ext h h') := by
  have hlx : xs.length = la := by have := hx.1; simpa [u64s] using this
  have hly : ys.length = lb := by have := hy.1; simpa [u64s] using this
  refine EvX_of Try.func14 rfl (by show 2 ≤ 38; decide) ?_
  repeat' (first | refine V_seq ?_ | refine V_region ?_ | refine WS_nil ?_ | refine S_normal ?_ | refine V_block ?_ | refine V_skip ?_ | refine V_ret ?_ | refine S_ret ?_ | refine WS_off rfl (by first | rfl | assumption) ?_ | refine WS_on rfl (by first | rfl | assumption) ?_ | refine WS_move ?_ | refine WS_assign ?_ | refine WS_pick_t (by first | rfl | assumption) ?_ | refine WS_pick_f (by first | rfl | assumption) ?_ | refine WS_cmp rfl ?_ | refine WS_len_slice ?_ | refine WS_fieldAddr ?_ | refine WS_load ?_ | refine WS_box_agg rfl ?_ | (refine WS_guard rfl ?_ ?_ <;> intro hg) | (refine V_cond ?_ ?_ <;> intro hc <;> try (cases hc; done)))
  · refine retK_1 ⟨?_, (Ext.push _ _).push' _⟩ (.inr rfl)
    congr 1
    symm; rw [decide_eq_false_iff_not]
    rintro ⟨rfl, rfl⟩
    simp at hc; omega
  · have hN : M = N ∧ la = lb := by simp at hc hg; omega
    obtain ⟨rfl, rfl⟩ := hN
    obtain ⟨H1, hH1⟩ : ∃ H, H = h.push (IObj.cells [Value.int IntKind.i64 M, Value.slice a la ca] 24 true) := ⟨_, rfl⟩
    rw [← hH1]
    have d0 : CellIs H1 h.fresh (0 + 1) (.slice a la ca) := hH1 ▸ inferInstance
    obtain ⟨H, hH⟩ : ∃ H, H = H1.push (IObj.cells [Value.int IntKind.i64 M, Value.slice b la cb] 24 true) := ⟨_, rfl⟩
    rw [← hH]
    have eH : Ext h H := by rw [hH, hH1]; exact (Ext.push _ _).push' _
    have c0 : CellIs H h.fresh (0 + 1) (.slice a la ca) := hH ▸ inferInstance
    have c1 : CellIs H H1.fresh (0 + 1) (.slice b la cb) := hH ▸ inferInstance
    refine V_loop (fun d s h' => ∃ i : Int, d = (la - i).toNat ∧ 0 ≤ i ∧ i ≤ la ∧ Get s 5 (.int .i64 i) ∧ Get s 2 (.pointer (some (ad h.fresh 0))) ∧ Get s 3 (.pointer (some (ad H1.fresh 0))) ∧ h' = H ∧ xs.take i.toNat = ys.take i.toNat) la ⟨0, by omega, by omega, by omega, inferInstance, inferInstance, inferInstance, rfl, by simp⟩ ?_
    rintro d s h' ⟨i, rfl, hi0, hi1, g5, g2, g3, rfl, hP⟩
    repeat' (first | refine V_seq ?_ | refine V_region ?_ | refine WS_nil ?_ | refine S_normal ?_ | refine V_block ?_ | refine V_skip ?_ | refine V_exit ?_ | refine V_ret ?_ | refine S_exit ?_ | refine B_exit ?_ | refine WS_move ?_ | refine WS_assign ?_ | refine WS_cmp rfl ?_ | refine WS_len_slice ?_ | refine WS_fieldAddr ?_ | refine WS_load ?_ | (refine V_cond ?_ ?_ <;> intro hc <;> try (cases hc; done)))
    · have hi : i < la := by simp at hc; omega
      obtain ⟨b1, v, rfl, hv, c2⟩ := (hx.ext eH).at hi0 hi
      obtain ⟨x, rfl, hx1⟩ := u64s_at hv
      obtain ⟨b2, w, rfl, hw, c3⟩ := (hy.ext eH).at hi0 hi
      obtain ⟨y, rfl, hy1⟩ := u64s_at hw
      refine V_draw (plan := [.take 0, .take 1, .take 2, .take 3, .take 4, .take 5, .take 6, .take 7, .take 8, .take 9, .take 10]) (by kernel_rfl) ?_
      repeat' (first | refine V_seq ?_ | refine V_region ?_ | refine WS_nil ?_ | refine S_normal ?_ | refine B_normal ?_ | refine V_skip ?_ | refine V_ret ?_ | refine S_ret ?_ | refine B_ret ?_ | refine WS_move ?_ | refine WS_assign ?_ | refine WS_cmp rfl ?_ | refine WS_addi (by omega) ?_ | refine WS_fieldAddr ?_ | refine WS_indexAddr (by first | decide | omega) ?_ | refine WDT_go ?_ | refine WD_nil ?_ | refine WD_load rfl ?_ | refine WD_take rfl rfl ?_ | (refine V_cond ?_ ?_ <;> intro hc <;> try (cases hc; done)))
      · refine retK_1 ⟨?_, eH⟩ (.inr rfl)
        congr 1
        symm; rw [decide_eq_false_iff_not]
        rintro ⟨_, rfl⟩
        rw [hx1] at hy1
        simp at hy1; subst hy1
        simp at hc
      · refine ⟨_, ?_, i + 1, rfl, by omega, by omega, inferInstance, inferInstance, inferInstance, rfl, ?_⟩
        · omega
        · have : (i + 1).toNat = i.toNat + 1 := by omega
          have hxy : x = y := by simp at hc; omega
          rw [this, List.take_add_one, List.take_add_one, hx1, hy1, hP, hxy]
    · have hi : i = la := by simp at hc; omega
      refine retK_1 ⟨?_, eH⟩ (.inr rfl)
      congr 1
      symm; rw [decide_eq_true_iff]
      rw [hi, Int.toNat_natCast, List.take_of_length_le (by omega), List.take_of_length_le (by omega)] at hP
      exact ⟨rfl, hP⟩
  · refine retK_1 ⟨?_, (Ext.push _ _).push' _⟩ (.inr rfl)
    congr 1
    symm; rw [decide_eq_false_iff_not]
    rintro ⟨rfl, rfl⟩
    simp at hg
instance : CallIs Try.prog 14 := .of Try.func14 rfl rfl
end Go.Ideal

-- Lc
set_option linter.unusedSimpArgs false
set_option linter.unusedVariables false
namespace Go.Ideal
open Go Go.Proofs
/-! ### Parity; bits put side by side -/
def oddK (x : Nat) : Nat → Nat
  | 0 => 0
  | k + 1 => oddK x k ^^^ ((x >>> k) &&& 1)
def oddS (x : Nat) : Nat := oddK x 64
theorem bit_le (x : Nat) : x &&& 1 ≤ 1 := Nat.and_le_right
def orK (f : Nat → Nat) : Nat → Nat
  | 0 => 0
  | k + 1 => orK f k ||| (f k <<< k)
theorem orK_lt {f : Nat → Nat} : ∀ k, (∀ j, j < k → f j ≤ 1) → orK f k < 2 ^ k := by
  intro k
  induction k with
  | zero => intro _; simp [orK]
  | succ k ih =>
    intro hf
    have h1 := ih fun j hj => hf j (by omega)
    have h2 := hf k (by omega)
    refine Nat.or_lt_two_pow (Nat.lt_of_lt_of_le h1 (Nat.pow_le_pow_right (by decide) (by omega))) ?_
    rw [Nat.shiftLeft_eq, Nat.pow_succ]
    have : 0 < 2 ^ k := Nat.pow_pos (by decide)
    have : f k * 2 ^ k ≤ 1 * 2 ^ k := Nat.mul_le_mul_right _ h2
    omega
theorem orK_congr {f g : Nat → Nat} : ∀ k, (∀ j, j < k → f j = g j) → orK f k = orK g k := by
  intro k
  induction k with
  | zero => intro _; rfl
  | succ k ih => intro h; simp only [orK, ih fun j hj => h j (by omega), h k (by omega)]
theorem and1_u64 {a : Nat} (ha : a < 2 ^ 64) : ibits .and .u64 a 1 = (a &&& 1 : Nat) := and_u64 (b := 1) ha (by decide)
theorem shl_bit {b : Nat} (hb : b ≤ 1) {k : Int} (h0 : 0 ≤ k) (h1 : k < 64) : IntKind.u64.wrap ((b : Int) * 2 ^ min k.toNat IntKind.u64.bits) = (b <<< k.toNat : Nat) := by
  have h2 : min k.toNat IntKind.u64.bits = k.toNat := by simp only [IntKind.bits]; omega
  rw [h2, Nat.shiftLeft_eq]
  have h3 : (2 : Nat) ^ k.toNat < 2 ^ 64 := Nat.pow_lt_pow_right (by decide) (by omega)
  have h4 : b * 2 ^ k.toNat ≤ 1 * 2 ^ k.toNat := Nat.mul_le_mul_right _ hb
  have h5 : ((b : Int) * 2 ^ k.toNat) = ((b * 2 ^ k.toNat : Nat) : Int) := by simp
  rw [h5]
  exact wrap_u64_id (by omega) (by omega)
theorem bit_shl_lt {b : Nat} (hb : b ≤ 1) {k : Nat} (h1 : k < 64) : b <<< k < 2 ^ 64 := by
  rw [Nat.shiftLeft_eq]
  have h3 : (2 : Nat) ^ k < 2 ^ 64 := Nat.pow_lt_pow_right (by decide) (by omega)
  have h4 : b * 2 ^ k ≤ 1 * 2 ^ k := Nat.mul_le_mul_right _ hb
  omega
theorem shr_lt {a : Nat} (n : Nat) (ha : a < 2 ^ 64) : a >>> n < 2 ^ 64 := Nat.lt_of_le_of_lt (Nat.shiftRight_le _ _) ha
theorem toNat_succ {i : Int} (h : 0 ≤ i) : (i + 1).toNat = i.toNat + 1 := by omega

instance : CallIs Try.prog 55 := .of Try.func55 rfl rfl
/-- the number that a matrix makes of x -/
def applyS (n : Nat) (xs : List Nat) (x : Nat) : Nat := orK (fun i => oddS (xs.getD i 0 &&& x)) n
instance : CallIs Try.prog 18 := .of Try.func18 rfl rfl
end Go.Ideal

-- Ld
set_option linter.unusedSimpArgs false
set_option linter.unusedVariables false
namespace Go.Ideal
open Go Go.Proofs
theorem NeB.fresh {h h' : IHp} (hlt : h.fresh < h'.fresh) : NeB h.fresh h'.fresh := ⟨by unfold IHp.fresh at *; omega⟩
theorem NeB.fresh' {h h' : IHp} (hlt : h.fresh < h'.fresh) : NeB h'.fresh h.fresh := (NeB.fresh hlt).symm
theorem checkS_zero {N : Int} {xs : List Nat} (h : checkS N xs = 0) : 0 ≤ N ∧ N ≤ 64 ∧ (xs.length : Int) = N ∧ ∀ x ∈ xs, belowS N x = true := by
  unfold checkS at h
  split at h
  · simp at h
  · rename_i hn
    split at h
    · rename_i ha; exact ⟨by omega, by omega, by omega, List.all_eq_true.1 ha⟩
    · simp at h
/-- a slice of one's own is a slice -/
theorem Lst.getSl {lo : Nat} {h : IHp} {a : Option Addr} {n m : Nat} {vs : List Value} {t : TypeId} (x : Lst lo h (.slice a n m) vs t) : SlIs h a n m vs := by
  obtain ⟨a', h1, h2⟩ := x.sl
  simp only [Value.slice.injEq] at h1
  obtain ⟨rfl, rfl, rfl⟩ := h1
  exact h2

def turnedRow (n : Nat) (xs : List Nat) (i : Nat) : Nat := orK (fun j => (xs.getD j 0 >>> i) &&& 1) n
def turnedS (n : Nat) (xs : List Nat) (k : Nat) : List Nat := (List.range k).map (turnedRow n xs)
theorem turnedS_succ (n : Nat) (xs : List Nat) (k : Nat) : u64s (turnedS n xs (k + 1)) = u64s (turnedS n xs k) ++ [.int .u64 (turnedRow n xs k : Nat)] := by
  simp [u64s, turnedS, List.range_succ]
theorem turnedS_len (n : Nat) (xs : List Nat) (k : Nat) : (u64s (turnedS n xs k)).length = k := by simp [u64s, turnedS]
theorem Turned_ref (N : Int) (a : Option Addr) (len cap : Nat) (xs : List Nat) (h : IHp) (hx : SlIs h a len cap (u64s xs)) (h64 : ∀ x ∈ xs, x < 2 ^ 64) (hck : checkS N xs = 0) :
    EvX Try.prog 23 [.agg [.int .i64 N, .slice a len cap].toArray].toArray h (fun v h' => Ext h h' ∧ ∃ sl, v = .agg [.int .i64 N, sl].toArray ∧ Lst h.fresh h' sl (u64s (turnedS N.toNat xs N.toNat)) 25) := by
  have hlen : xs.length = len := by have := hx.1; simpa [u64s] using this
  obtain ⟨hN0, hN1, hN2, hbel⟩ := checkS_zero hck
  refine EvX_of Try.func23 rfl (by show 1 ≤ 41; decide) ?_
  repeat' (first | refine V_seq ?_ | refine V_region ?_ | refine WS_nil ?_ | refine S_normal ?_ | refine V_block ?_ | refine WS_assign ?_ | refine WS_fieldAddr ?_ | refine WS_load ?_ | refine WS_box_agg rfl ?_ | refine WS_build ?_ | refine WS_alloc ?_ | refine WS_store rfl ?_)
  obtain ⟨H1, hH1⟩ : ∃ H, H = h.push (IObj.cells [Value.int IntKind.i64 N, Value.slice a len cap] 24 true) := ⟨_, rfl⟩
  have f1 : H1.fresh = h.fresh + 2 := by rw [hH1, push_fresh]
  have e1 : Ext h H1 := hH1 ▸ Ext.push _ _
  have c0 : CellIs H1 h.fresh (0 + 0) (.int .i64 N) := hH1 ▸ inferInstance
  have c1 : CellIs H1 h.fresh (0 + 1) (.slice a len cap) := hH1 ▸ inferInstance
  rw [← hH1]
  obtain ⟨H2, hH2⟩ : ∃ H, H = H1.push (IObj.cells [Value.int IntKind.i64 0, Value.slice none 0 0] 24 true) := ⟨_, rfl⟩
  have f2 : H2.fresh = h.fresh + 4 := by rw [hH2, push_fresh, f1]
  have e2 : Ext H1 H2 := hH2 ▸ Ext.push _ _
  have o2 : ObjIs H2 H1.fresh [.int .i64 0, .slice none 0 0] 24 true := hH2 ▸ inferInstance
  rw [← hH2]
  have n12 : NeB H1.fresh H2.fresh := .fresh (by omega)
  have n21 : NeB H2.fresh H1.fresh := .fresh' (by omega)
  have n02 : NeB h.fresh H2.fresh := .fresh (by omega)
  have n01 : NeB h.fresh H1.fresh := .fresh (by omega)
  refine V_loop (fun d s h' => ∃ (i : Int) (sl : Value), d = (N - i).toNat ∧ 0 ≤ i ∧ i ≤ N ∧ Get s 4 (.int .i64 i) ∧ Get s 1 (.pointer (some (ad h.fresh 0))) ∧ Get s 2 (.pointer (some (ad H1.fresh 0))) ∧ Get s 3 (.pointer (some (ad H2.fresh 0))) ∧ Ext H1 h' ∧ ObjIs h' H1.fresh [.int .i64 0, .slice none 0 0] 24 true ∧ ObjIs h' H2.fresh [.int .i64 N, sl] 24 true ∧ Lst H1.fresh h' sl (u64s (turnedS N.toNat xs i.toNat)) 25 ∧ blockOf sl ≠ some H1.fresh ∧ blockOf sl ≠ some H2.fresh) N.toNat
    ⟨0, .slice none 0 0, by omega, by omega, by omega, inferInstance, inferInstance, inferInstance, inferInstance, (e2.push' _).putObj (by omega), inferInstance, inferInstance, .inl ⟨rfl, rfl⟩, by simp [blockOf], by simp [blockOf]⟩ ?_
  rintro d s h' ⟨i, sl, rfl, hi0, hi1, g4, g1, g2, g3, eX, p2, p3, hL, hb2, hb3⟩
  repeat' (first | refine V_seq ?_ | refine V_region ?_ | refine WS_nil ?_ | refine S_normal ?_ | refine V_block ?_ | refine V_skip ?_ | refine V_exit ?_ | refine S_exit ?_ | refine B_exit ?_ | refine WS_move ?_ | refine WS_assign ?_ | refine WS_cmp rfl ?_ | refine WS_fieldAddr ?_ | refine WS_load ?_ | refine WS_load_agg ?_ | (refine V_cond ?_ ?_ <;> intro hc <;> try (cases hc; done)))
  · have hi : i < N := by simpa using hc
    refine V_loop (fun d s h'' => ∃ (j : Int), d = (N - j).toNat ∧ 0 ≤ j ∧ j ≤ N ∧ Get s 6 (.int .i64 j) ∧ Get s 4 (.int .i64 i) ∧ Get s 1 (.pointer (some (ad h.fresh 0))) ∧ Get s 2 (.pointer (some (ad H1.fresh 0))) ∧ Get s 3 (.pointer (some (ad H2.fresh 0))) ∧ h'' = h' ∧ Get s 5 (.int .u64 (orK (fun j => (xs.getD j 0 >>> i.toNat) &&& 1) j.toNat : Nat))) N.toNat
      ⟨0, by omega, by omega, by omega, inferInstance, inferInstance, inferInstance, inferInstance, inferInstance, rfl, inferInstanceAs (Get _ 5 (.int .u64 (0 : Int)))⟩ ?_
    rintro d s h'' ⟨j, rfl, hj0, hj1, g6, g4, g1, g2, g3, rfl, g5⟩
    repeat' (first | refine V_seq ?_ | refine V_region ?_ | refine WS_nil ?_ | refine S_normal ?_ | refine V_block ?_ | refine V_skip ?_ | refine V_exit ?_ | refine S_exit ?_ | refine B_exit ?_ | refine WS_move ?_ | refine WS_cmp rfl ?_ | refine WS_fieldAddr ?_ | refine WS_load ?_ | refine WS_buildSlice (by decide) rfl rfl (by simp [Value.cells]) ?_ | (refine V_cond ?_ ?_ <;> intro hc <;> try (cases hc; done)))
    · have hj : j < N := by simpa using hc
      obtain ⟨b, v, rfl, hv, c2⟩ := ((hx.ext e1).ext eX).at hj0 (show j < (len : Int) by omega)
      obtain ⟨r, rfl, hr⟩ := u64s_at hv
      have hr64 := h64 r (List.mem_of_getElem? hr)
      repeat' (first | refine V_region ?_ | refine WS_nil ?_ | refine S_normal ?_ | refine B_normal ?_ | refine WS_move ?_ | refine WS_assign ?_ | refine WS_addi (by omega) ?_ | refine WS_arith rfl ?_ | refine WS_load ?_ | refine WS_shift (by first | decide | omega) rfl ?_ | refine WS_indexAddr (by first | decide | omega) ?_)
      have hbit := bit_le (r >>> i.toNat)
      have hlt : orK (fun j => (xs.getD j 0 >>> i.toNat) &&& 1) j.toNat < 2 ^ 64 := Nat.lt_of_lt_of_le (orK_lt _ fun _ _ => bit_le _) (Nat.pow_le_pow_right (by decide) (by omega))
      rw [shr_u64 hi0 hr64, and1_u64 (shr_lt _ hr64), shl_bit hbit hj0 (by omega), or_u64 hlt (bit_shl_lt hbit (by omega))]
      refine ⟨_, ?_, j + 1, rfl, by omega, by omega, inferInstance, inferInstance, inferInstance, inferInstance, inferInstance, rfl, ?_⟩
      · omega
      · rw [toNat_succ hj0]
        have : orK (fun j => (xs.getD j 0 >>> i.toNat) &&& 1) (j.toNat + 1) = orK (fun j => (xs.getD j 0 >>> i.toNat) &&& 1) j.toNat ||| (r >>> i.toNat &&& 1) <<< j.toNat := by
          simp only [orK]
          rw [List.getD_eq_getElem?_getD, hr]; rfl
        rw [this]; infer_instance
    · have hj : j = N := by simp at hc; omega
      subst hj
      obtain ⟨a', rfl⟩ := hL.isSlice
      skip
      refine WS_append1 (lo := H1.fresh) (hL.ext (Ext.push _ _)) (by rw [push_fresh]; have := eX.fresh; omega) (by rw [turnedS_len]; omega) ?_
      intro v' h2 hL2 m2 hb
      have q2 : ObjIs h2 H1.fresh _ 24 true := m2.obj inferInstance hb2
      have q3 : ObjIs h2 H2.fresh _ 24 true := m2.obj inferInstance hb3
      have e3 : Ext H1 h2 := m2.ext (eX.push' _) (hL.ext (Ext.push _ _))
      have l2 := p2.lt
      have l3 := p3.lt
      rw [push_fresh] at hb
      obtain ⟨a'', rfl⟩ := hL2.isSlice
      repeat' (first | refine V_region ?_ | refine WS_nil ?_ | refine S_normal ?_ | refine B_normal ?_ | refine WS_move ?_ | refine WS_assign ?_ | refine WS_addi (by omega) ?_ | refine WS_fieldAddr ?_ | refine WS_store rfl ?_)
      refine ⟨_, ?_, i + 1, _, rfl, by omega, by omega, inferInstance, inferInstance, inferInstance, inferInstance, e3.putObj (by omega), inferInstance, inferInstance, ?_, ?_, ?_⟩
      · omega
      · rw [toNat_succ hi0, turnedS_succ]; exact hL2.put (by rw [hb]; intro hh; have := Option.some.inj hh; omega) p3.even
      · rw [hb]; intro hh; have := Option.some.inj hh; omega
      · rw [hb]; intro hh; have := Option.some.inj hh; omega
  · have hi : i = N := by simp at hc; omega
    subst hi
    obtain ⟨a', rfl⟩ := hL.isSlice
    repeat' (first | refine WS_nil ?_ | refine S_normal ?_ | refine V_ret ?_ | refine WS_store rfl ?_)
    refine retK_c ⟨(e1.trans eX).putObj (by omega), _, rfl, ?_⟩ (.inr rfl)
    have := hL.put (o := IObj.cells [Value.int IntKind.i64 i, Value.slice a' (u64s (turnedS i.toNat xs i.toNat)).length (u64s (turnedS i.toNat xs i.toNat)).length] 24 true) hb2 p2.even
    rcases this with ⟨h1, h2⟩ | ⟨b, h1, h2⟩
    · exact .inl ⟨h1, h2⟩
    · exact .inr ⟨b, by omega, h2⟩
instance : CallIs Try.prog 23 := .of Try.func23 rfl rfl
end Go.Ideal

-- Le
set_option linter.unusedSimpArgs false
set_option linter.unusedVariables false
namespace Go.Ideal
open Go Go.Proofs
theorem Lst.lower {lo lo' : Nat} {h : IHp} {v : Value} {vs : List Value} {t : TypeId} (x : Lst lo h v vs t) (hl : lo' ≤ lo) : Lst lo' h v vs t := by
  rcases x with ⟨h1, h2⟩ | ⟨b, h1, h2⟩
  · exact .inl ⟨h1, h2⟩
  · exact .inr ⟨b, by omega, h2⟩
theorem Lst.notBlk {lo : Nat} {h : IHp} {v : Value} {vs : List Value} {t : TypeId} (x : Lst lo h v vs t) {b : Nat} (hb : b < lo) : blockOf v ≠ some b := fun hh => by have := x.block hh; omega
theorem Lst.ltFresh {lo : Nat} {h : IHp} {v : Value} {vs : List Value} {t : TypeId} (x : Lst lo h v vs t) {b : Nat} (hb : blockOf v = some b) : b < h.fresh := by
  rcases x with ⟨rfl, rfl⟩ | ⟨c, h1, rfl, h2, h3⟩
  · simp [blockOf] at hb
  · simp only [blockOf, Option.some.injEq] at hb; subst hb; exact h2.lt
theorem turnedS_lt {n k : Nat} (hn : n ≤ 64) {xs : List Nat} : ∀ x ∈ turnedS n xs k, x < 2 ^ 64 := by
  intro x hx
  simp only [turnedS, List.mem_map] at hx
  obtain ⟨i, _, rfl⟩ := hx
  exact Nat.lt_of_lt_of_le (orK_lt _ fun _ _ => bit_le _) (Nat.pow_le_pow_right (by decide) hn)
instance : CallIs Try.prog 16 := .of Try.func16 rfl rfl
end Go.Ideal

-- Lf
set_option linter.unusedSimpArgs false
set_option linter.unusedVariables false
namespace Go.Ideal
open Go Go.Proofs
def xorK (f : Nat → Nat) : Nat → Nat
  | 0 => 0
  | k + 1 => xorK f k ^^^ f k
theorem xorK_lt {f : Nat → Nat} (hf : ∀ j, f j < 2 ^ 64) : ∀ k, xorK f k < 2 ^ 64 := by
  intro k
  induction k with
  | zero => simp [xorK]
  | succ k ih => exact Nat.xor_lt_two_pow ih (hf k)
def mulRow (r : Nat) (ys : List Nat) (k : Nat) : Nat := xorK (fun j => if (r >>> j) &&& 1 = 1 then ys.getD j 0 else 0) k
theorem getD_lt {ys : List Nat} (h : ∀ x ∈ ys, x < 2 ^ 64) (j : Nat) : ys.getD j 0 < 2 ^ 64 := by
  rw [List.getD_eq_getElem?_getD]
  cases hj : ys[j]? with
  | none => decide
  | some x => exact h x (List.mem_of_getElem? hj)
theorem mulRow_lt {r : Nat} {ys : List Nat} (h : ∀ x ∈ ys, x < 2 ^ 64) (k : Nat) : mulRow r ys k < 2 ^ 64 := by
  refine xorK_lt (fun j => ?_) k
  split
  · exact getD_lt h j
  · decide
def mulS (xs ys : List Nat) (k : Nat) : List Nat := (xs.take k).map fun r => mulRow r ys ys.length
theorem mulS_succ {xs ys : List Nat} {k r : Nat} (hr : xs[k]? = some r) : u64s (mulS xs ys (k + 1)) = u64s (mulS xs ys k) ++ [.int .u64 (mulRow r ys ys.length : Nat)] := by
  simp [u64s, mulS, List.take_add_one, hr]
theorem mulS_len {xs ys : List Nat} {k : Nat} (h : k ≤ xs.length) : (u64s (mulS xs ys k)).length = k := by simp [u64s, mulS]; omega
theorem Mul_spec (M N : Int) (a b : Option Addr) (la ca lb cb : Nat) (xs ys : List Nat) (h : IHp) (hx : SlIs h a la ca (u64s xs)) (hy : SlIs h b lb cb (u64s ys)) (hx64 : ∀ x ∈ xs, x < 2 ^ 64) (hy64 : ∀ x ∈ ys, x < 2 ^ 64) :
    EvX Try.prog 15 [.agg [.int .i64 M, .slice a la ca].toArray, .agg [.int .i64 N, .slice b lb cb].toArray].toArray h (fun v h' => Ext h h' ∧ if checkS M xs = 0 ∧ checkS N ys = 0 ∧ M = N then ∃ sl, v = .tuple [.agg [.int .i64 M, sl].toArray, .int .i64 0].toArray ∧ Lst h.fresh h' sl (u64s (mulS xs ys xs.length)) 25 else v = .tuple [.agg [.int .i64 0, .slice none 0 0].toArray, .int .i64 2].toArray) := by
  have hlx : xs.length = la := by have := hx.1; simpa [u64s] using this
  have hly : ys.length = lb := by have := hy.1; simpa [u64s] using this
  refine EvX_of Try.func15 rfl (by show 2 ≤ 64; decide) ?_
  repeat' (first | refine V_seq ?_ | refine V_region ?_ | refine WS_nil ?_ | refine S_normal ?_ | refine WS_assign ?_ | refine WS_load_agg ?_ | refine WS_box_agg rfl ?_ | refine WS_alloc ?_)
  obtain ⟨H1, hH1⟩ : ∃ H, H = h.push (IObj.cells [Value.int IntKind.i64 M, Value.slice a la ca] 24 true) := ⟨_, rfl⟩
  have f1 : H1.fresh = h.fresh + 2 := by rw [hH1, push_fresh]
  have e1 : Ext h H1 := hH1 ▸ Ext.push _ _
  have p1 : ObjIs H1 h.fresh [.int .i64 M, .slice a la ca] 24 true := hH1 ▸ inferInstance
  rw [← hH1]
  obtain ⟨H2, hH2⟩ : ∃ H, H = H1.push (IObj.cells [Value.int IntKind.i64 N, Value.slice b lb cb] 24 true) := ⟨_, rfl⟩
  have f2 : H2.fresh = h.fresh + 4 := by rw [hH2, push_fresh, f1]
  have e2 : Ext H1 H2 := hH2 ▸ Ext.push _ _
  have p2 : ObjIs H2 H1.fresh [.int .i64 N, .slice b lb cb] 24 true := hH2 ▸ inferInstance
  rw [← hH2]
  obtain ⟨H3, hH3⟩ : ∃ H, H = H2.push (IObj.cells [Value.int IntKind.i64 0, Value.slice none 0 0] 24 true) := ⟨_, rfl⟩
  have f3 : H3.fresh = h.fresh + 6 := by rw [hH3, push_fresh, f2]
  have e3 : Ext H2 H3 := hH3 ▸ Ext.push _ _
  have p3 : ObjIs H3 H2.fresh [.int .i64 0, .slice none 0 0] 24 true := hH3 ▸ inferInstance
  rw [← hH3]
  have e13 : Ext h H3 := (e1.trans e2).trans e3
  have q1 : ObjIs H3 h.fresh [.int .i64 M, .slice a la ca] 24 true := inferInstance
  have q2 : ObjIs H3 H1.fresh [.int .i64 N, .slice b lb cb] 24 true := inferInstance
  refine WS_call (Check_spec M a la ca xs _ (hx.ext e13) hx64) ?_
  rintro _ H4 ⟨rfl, e4⟩
  have r1 : ObjIs H4 h.fresh [.int .i64 M, .slice a la ca] 24 true := inferInstance
  have r2 : ObjIs H4 H1.fresh [.int .i64 N, .slice b lb cb] 24 true := inferInstance
  have r3 : ObjIs H4 H2.fresh [.int .i64 0, .slice none 0 0] 24 true := inferInstance
  have e14 : Ext h H4 := e13.trans e4
  have g4 := e4.fresh
  have n02 : NeB h.fresh H2.fresh := .fresh (by omega)
  have n12 : NeB H1.fresh H2.fresh := .fresh (by omega)
  repeat' (first | refine V_seq ?_ | refine V_region ?_ | refine WS_nil ?_ | refine S_normal ?_ | refine V_ret ?_ | refine S_ret ?_ | refine WS_off rfl (by first | rfl | assumption) ?_ | refine WS_on rfl (by first | rfl | assumption) ?_ | refine WS_move ?_ | refine WS_assign ?_ | refine WS_pick_t (by first | rfl | assumption) ?_ | refine WS_cmp rfl ?_ | refine WS_load_agg ?_ | refine WS_build ?_ | refine WS_store rfl ?_ | (refine WS_guard rfl ?_ ?_ <;> intro hg) | (refine V_cond ?_ ?_ <;> intro hc <;> try (cases hc; done)))
  · have hck : checkS M xs = 0 := by simpa using hg
    refine WS_call (Check_spec N b lb cb ys _ (hy.ext e14) hy64) ?_
    rintro _ H5 ⟨rfl, e5⟩
    have s1 : ObjIs H5 h.fresh [.int .i64 M, .slice a la ca] 24 true := inferInstance
    have s2 : ObjIs H5 H1.fresh [.int .i64 N, .slice b lb cb] 24 true := inferInstance
    have s3 : ObjIs H5 H2.fresh [.int .i64 0, .slice none 0 0] 24 true := inferInstance
    have e15 : Ext h H5 := e14.trans e5
    have g5 := e5.fresh
    repeat' (first | refine V_seq ?_ | refine V_region ?_ | refine WS_nil ?_ | refine S_normal ?_ | refine V_skip ?_ | refine V_ret ?_ | refine S_ret ?_ | refine WS_off rfl (by first | rfl | assumption) ?_ | refine WS_on rfl (by first | rfl | assumption) ?_ | refine WS_move ?_ | refine WS_assign ?_ | refine WS_pick_t (by first | rfl | assumption) ?_ | refine WS_pick_f (by first | rfl | assumption) ?_ | refine WS_cmp rfl ?_ | refine WS_fieldAddr ?_ | refine WS_load ?_ | refine WS_build ?_ | refine WS_alloc ?_ | refine WS_store rfl ?_ | (refine WS_guard rfl ?_ ?_ <;> intro hg) | (refine V_cond ?_ ?_ <;> intro hc <;> try (cases hc; done)))
    · refine retK_ct ⟨e15.putObj (by omega), ?_⟩ (.inr rfl)
      rw [if_neg]
      rintro ⟨_, _, rfl⟩
      simp at hc
    · have hck2 : checkS N ys = 0 := by simp_all
      have hMN : M = N := by simpa using hc
      subst hMN
      obtain ⟨hN0, hN1, hN2, hbx⟩ := checkS_zero hck
      obtain ⟨_, _, hN3, hby⟩ := checkS_zero hck2
      obtain ⟨H6, hH6⟩ : ∃ H, H = ((H5.push (IObj.cells [Value.int IntKind.i64 0, Value.slice none 0 0] 24 true)).put H5.fresh [Value.int IntKind.i64 M, Value.slice none 0 0] 24 true) := ⟨_, rfl⟩
      have e6 : Ext H5 H6 := hH6 ▸ (Ext.push _ _).putObj (Nat.le_refl _)
      have u5 : ObjIs H6 H5.fresh [Value.int IntKind.i64 M, Value.slice none 0 0] 24 true := hH6 ▸ inferInstance
      have f6 : H6.fresh = H5.fresh + 2 := by rw [hH6, putObj_fresh, push_fresh]
      rw [← hH6]
      repeat' (first | refine WS_nil ?_ | refine S_normal ?_ | refine V_block ?_ | refine WS_move ?_ | refine WS_len_slice ?_ | refine WS_load ?_)
      have n25 : NeB H2.fresh H5.fresh := .fresh (by omega)
      have n52 : NeB H5.fresh H2.fresh := n25.symm
      have n05 : NeB h.fresh H5.fresh := .fresh (by omega)
      have n15 : NeB H1.fresh H5.fresh := .fresh (by omega)
      refine V_loop (fun d s h' => ∃ (i : Int) (sl : Value), d = (la - i).toNat ∧ 0 ≤ i ∧ i ≤ la ∧ Get s 33 (.int .i64 i) ∧ Get s 32 (.int .i64 la) ∧ Get s 31 (.slice a la ca) ∧ Get s 3 (.pointer (some (ad H1.fresh 0))) ∧ Get s 4 (.pointer (some (ad H2.fresh 0))) ∧ Get s 6 (.pointer (some (ad H5.fresh 0))) ∧ Ext H5 h' ∧ ObjIs h' H5.fresh [.int .i64 M, sl] 24 true ∧ Lst H6.fresh h' sl (u64s (mulS xs ys i.toNat)) 25) la
        ⟨0, .slice none 0 0, by omega, by omega, by omega, inferInstance, inferInstance, inferInstance, inferInstance, inferInstance, inferInstance, e6, inferInstance, .inl ⟨rfl, rfl⟩⟩ ?_
      rintro d s h' ⟨i, sl, rfl, hi0, hi1, y33, y32, y31, y3, y4, y6, eX, p5, hL⟩
      have w2 : ObjIs h' H1.fresh [.int .i64 M, .slice b lb cb] 24 true := ⟨s2.even, eX.new _ _ s2.eq⟩
      have w3 : ObjIs h' H2.fresh [.int .i64 0, .slice none 0 0] 24 true := ⟨s3.even, eX.new _ _ s3.eq⟩
      have slX : SlIs h' a la ca (u64s xs) := hx.ext (e15.trans eX)
      have slY : SlIs h' b lb cb (u64s ys) := hy.ext (e15.trans eX)
      repeat' (first | refine V_seq ?_ | refine V_region ?_ | refine WS_nil ?_ | refine S_normal ?_ | refine V_block ?_ | refine V_skip ?_ | refine V_exit ?_ | refine S_exit ?_ | refine B_exit ?_ | refine WS_cmp rfl ?_ | refine WS_load_agg ?_ | (refine V_cond ?_ ?_ <;> intro hc <;> try (cases hc; done)))
      · have hi : i < la := by simpa using hc
        obtain ⟨b1, v, rfl, hv, c2⟩ := slX.at hi0 hi
        obtain ⟨r, rfl, hr⟩ := u64s_at hv
        have hr64 := hx64 r (List.mem_of_getElem? hr)
        repeat' (first | refine V_seq ?_ | refine V_region ?_ | refine WS_nil ?_ | refine S_normal ?_ | refine V_block ?_ | refine WS_move ?_ | refine WS_assign ?_ | refine WS_len_slice ?_ | refine WS_fieldAddr ?_ | refine WS_load ?_ | refine WS_indexAddr (by first | decide | omega) ?_)
        refine V_loop (fun d s h'' => ∃ (j : Int), d = (lb - j).toNat ∧ 0 ≤ j ∧ j ≤ lb ∧ Get s 40 (.int .i64 j) ∧ Get s 39 (.int .i64 lb) ∧ Get s 8 (.int .u64 r) ∧ Get s 33 (.int .i64 i) ∧ Get s 32 (.int .i64 la) ∧ Get s 31 (.slice (some b1) la ca) ∧ Get s 3 (.pointer (some (ad H1.fresh 0))) ∧ Get s 4 (.pointer (some (ad H2.fresh 0))) ∧ Get s 6 (.pointer (some (ad H5.fresh 0))) ∧ h'' = h' ∧ Get s 9 (.int .u64 (mulRow r ys j.toNat : Nat))) lb
          ⟨0, by omega, by omega, by omega, inferInstance, inferInstance, inferInstance, inferInstance, inferInstance, inferInstance, inferInstance, inferInstance, inferInstance, rfl, inferInstanceAs (Get _ 9 (.int .u64 (0 : Int)))⟩ ?_
        rintro d s h'' ⟨j, rfl, hj0, hj1, z40, z39, z8, z33, z32, z31, z3, z4, z6, rfl, z9⟩
        repeat' (first | refine V_seq ?_ | refine V_region ?_ | refine WS_nil ?_ | refine S_normal ?_ | refine V_block ?_ | refine B_normal ?_ | refine V_skip ?_ | refine V_exit ?_ | refine S_exit ?_ | refine B_exit ?_ | refine WS_move ?_ | refine WS_assign ?_ | refine WS_cmp rfl ?_ | refine WS_addi (by omega) ?_ | refine WS_arith rfl ?_ | refine WS_fieldAddr ?_ | refine WS_load ?_ | refine WS_shift (by first | decide | omega) rfl ?_ | refine WS_buildSlice (by decide) rfl rfl (by simp [Value.cells]) ?_ | (refine V_cond ?_ ?_ <;> intro hc <;> try (cases hc; done)))
        · rename_i hcj
          have hj : j < lb := by simp at hcj; omega
          rw [shr_u64 hj0 hr64, and1_u64 (shr_lt _ hr64)] at hc
          obtain ⟨b2, w, rfl, hw, c3⟩ := slY.at hj0 hj
          obtain ⟨q, rfl, hq⟩ := u64s_at hw
          have hq64 := hy64 q (List.mem_of_getElem? hq)
          repeat' (first | refine V_region ?_ | refine WS_nil ?_ | refine S_normal ?_ | refine B_normal ?_ | refine WS_move ?_ | refine WS_assign ?_ | refine WS_addi (by omega) ?_ | refine WS_arith rfl ?_ | refine WS_load ?_ | refine WS_indexAddr (by first | decide | omega) ?_)
          rw [xor_u64 (mulRow_lt hy64 _) hq64]
          refine ⟨_, ?_, j + 1, rfl, by omega, by omega, inferInstance, inferInstance, inferInstance, inferInstance, inferInstance, inferInstance, inferInstance, inferInstance, inferInstance, rfl, ?_⟩
          · omega
          · rw [toNat_succ hj0]
            have : mulRow r ys (j.toNat + 1) = mulRow r ys j.toNat ^^^ q := by
              have h1 : r >>> j.toNat &&& 1 = 1 := Int.ofNat_inj.mp (show ((r >>> j.toNat &&& 1 : Nat) : Int) = ((1 : Nat) : Int) from of_decide_eq_true hc)
              simp only [mulRow, xorK, List.getD_eq_getElem?_getD, hq, Option.getD_some, h1, if_true]
            rw [this]; infer_instance
        · rename_i hcj
          have hj : j < lb := by simp at hcj; omega
          rw [shr_u64 hj0 hr64, and1_u64 (shr_lt _ hr64)] at hc
          refine ⟨_, ?_, j + 1, rfl, by omega, by omega, inferInstance, inferInstance, inferInstance, inferInstance, inferInstance, inferInstance, inferInstance, inferInstance, inferInstance, rfl, ?_⟩
          · omega
          · rw [toNat_succ hj0]
            have : mulRow r ys (j.toNat + 1) = mulRow r ys j.toNat := by
              have h1 : ¬ r >>> j.toNat &&& 1 = 1 := fun hh => of_decide_eq_false hc (congrArg (Nat.cast (R := Int)) hh)
              simp only [mulRow, xorK, h1, if_false, Nat.xor_zero]
            rw [this]; infer_instance
        · have hj : j = lb := by simp at hc; omega
          subst hj
          obtain ⟨a', rfl⟩ := hL.isSlice
          skip
          refine WS_append1 (lo := H6.fresh) (hL.ext (Ext.push _ _)) (by rw [push_fresh]; have := eX.fresh; have := p5.lt; omega) (by rw [mulS_len (by omega)]; omega) ?_
          intro v' h2 hL2 m2 hb
          have l5 := p5.lt
          have k5 : ObjIs h2 H5.fresh _ 24 true := m2.obj inferInstance (hL.notBlk (by omega))
          have e9 : Ext H5 h2 := m2.ext (eX.push' _) ((hL.ext (Ext.push _ _)).lower (by omega))
          rw [push_fresh] at hb
          obtain ⟨a'', rfl⟩ := hL2.isSlice
          repeat' (first | refine V_region ?_ | refine WS_nil ?_ | refine S_normal ?_ | refine B_normal ?_ | refine WS_move ?_ | refine WS_addi (by omega) ?_ | refine WS_fieldAddr ?_ | refine WS_store rfl ?_)
          refine ⟨_, ?_, i + 1, _, rfl, by omega, by omega, inferInstance, inferInstance, inferInstance, inferInstance, inferInstance, inferInstance, e9.putObj (Nat.le_refl _), inferInstance, ?_⟩
          · omega
          · rw [toNat_succ hi0, mulS_succ hr, hly]
            simp only [Int.toNat_natCast] at hL2 ⊢
            exact hL2.put (b := H5.fresh) (hL2.notBlk (by omega)) p5.even
      · have hi : i = la := by simp at hc; omega
        subst hi
        obtain ⟨a', rfl⟩ := hL.isSlice
        repeat' (first | refine WS_nil ?_ | refine S_normal ?_ | refine V_ret ?_ | refine WS_assign ?_ | refine WS_store rfl ?_)
        refine retK_ct ⟨(e15.trans eX).putObj (by omega), ?_⟩ (.inr rfl)
        rw [if_pos ⟨hck, hck2, rfl⟩]
        simp only [Int.toNat_natCast] at hL ⊢
        rw [hlx]
        exact ⟨_, rfl, (hL.put (b := H2.fresh) (hL.notBlk (by omega)) w3.even).lower (by omega)⟩
    · refine retK_ct ⟨e15.putObj (by omega), ?_⟩ (.inr rfl)
      rw [if_neg]
      rintro ⟨_, h2, _⟩
      simp_all
  · refine retK_ct ⟨e14.putObj (by omega), ?_⟩ (.inr rfl)
    rw [if_neg]
    rintro ⟨h2, _, _⟩
    simp_all
instance : CallIs Try.prog 15 := .of Try.func15 rfl rfl
end Go.Ideal

-- Lg
set_option linter.unusedSimpArgs false
set_option linter.unusedVariables false
namespace Go.Ideal
open Go Go.Proofs
/-! ### OnesCount64, as it reckons -/
def pop1 (x : Nat) : Nat := (((x >>> 1) &&& 6148914691236517205) + (x &&& 6148914691236517205)) % 2 ^ 64
def pop2 (x : Nat) : Nat := (((x >>> 2) &&& 3689348814741910323) + (x &&& 3689348814741910323)) % 2 ^ 64
def pop3 (x : Nat) : Nat := (((x >>> 4) + x) % 2 ^ 64) &&& 1085102592571150095
def pop4 (n x : Nat) : Nat := (x + (x >>> n)) % 2 ^ 64
def popS (x : Nat) : Nat := pop4 32 (pop4 16 (pop4 8 (pop3 (pop2 (pop1 x))))) &&& 127
theorem wrap_u64_nat (a : Nat) : IntKind.u64.wrap (a : Int) = (a % 2 ^ 64 : Nat) := by
  simp only [IntKind.wrap, IntKind.bits, IntKind.signed]; simp
theorem shr_c {a n : Nat} (ha : a < 2 ^ 64) (hn : n ≤ 64) : ((a : Int)).fdiv (2 ^ min (Int.toNat (n : Int)) IntKind.u64.bits) = (a >>> n : Nat) := by
  have := shr_u64 (a := a) (n := (n : Int)) (by omega) ha
  simpa using this
theorem and_i64 {a b : Nat} (ha : a < 2 ^ 64) (hb : b < 2 ^ 63) : ibits .and .i64 (IntKind.i64.wrap a) b = (a &&& b : Nat) := by
  show IntKind.i64.wrap (((BitVec.ofInt IntKind.i64.bits (IntKind.i64.wrap a)) &&& (BitVec.ofInt IntKind.i64.bits (b : Int))).toNat : Int) = _
  have h1 : (BitVec.ofInt IntKind.i64.bits (IntKind.i64.wrap a)).toNat = a := by
    have hb : IntKind.i64.bits = 64 := rfl
    simp only [BitVec.toNat_ofInt, hb]
    simp only [IntKind.wrap, IntKind.bits, IntKind.signed]
    simp; omega
  have h2 : (BitVec.ofInt IntKind.i64.bits (b : Int)).toNat = b := by
    have hb : IntKind.i64.bits = 64 := rfl
    simp only [BitVec.toNat_ofInt, hb]
    omega
  rw [BitVec.toNat_and, h1, h2]
  have := Nat.and_lt_two_pow a hb
  exact wrap_i64_id (by omega)
theorem pop1_lt (x : Nat) : pop1 x < 2 ^ 64 := Nat.mod_lt _ (by decide)
theorem pop2_lt (x : Nat) : pop2 x < 2 ^ 64 := Nat.mod_lt _ (by decide)
theorem pop3_lt (x : Nat) : pop3 x < 2 ^ 64 := Nat.and_lt_two_pow _ (by decide)
theorem pop4_lt (n x : Nat) : pop4 n x < 2 ^ 64 := Nat.mod_lt _ (by decide)
theorem OnesCount_spec (x : Nat) (hx : x < 2 ^ 64) (h : IHp) : EvX Try.prog 56 [.int .u64 x].toArray h (fun v h' => v = .int .i64 (popS x : Nat) ∧ h' = h) := by
  refine EvX_of Try.func56 rfl (by show 1 ≤ 35; decide) ?_
  repeat' (first | refine V_seq ?_ | refine V_region ?_ | refine WS_nil ?_ | refine S_normal ?_ | refine V_ret ?_ | refine WS_move ?_ | refine WS_assign ?_ | refine WS_arith rfl ?_ | refine WS_convert ?_ | refine WS_shift (by first | decide | omega) rfl ?_)
  refine retK_1 ⟨?_, rfl⟩ (.inr rfl)
  have st1 : ∀ x : Nat, x < 2 ^ 64 → IntKind.u64.wrap (ibits .and .u64 ((x : Int).fdiv (2 ^ min (1 : Int).toNat IntKind.u64.bits)) 6148914691236517205 + ibits .and .u64 (x : Int) 6148914691236517205) = (pop1 x : Nat) := by
    intro x hx
    have a1 : ibits .and .u64 ((x : Int).fdiv (2 ^ min (1 : Int).toNat IntKind.u64.bits)) 6148914691236517205 = ((x >>> 1 &&& 6148914691236517205 : Nat) : Int) := by
      rw [show (1 : Int) = ((1 : Nat) : Int) from rfl, shr_c hx (by decide)]; exact and_u64 (b := 6148914691236517205) (shr_lt _ hx) (by decide)
    have a2 : ibits .and .u64 (x : Int) 6148914691236517205 = ((x &&& 6148914691236517205 : Nat) : Int) := and_u64 (b := 6148914691236517205) hx (by decide)
    rw [a1, a2, ← Int.natCast_add, wrap_u64_nat]; rfl
  have st2 : ∀ x : Nat, x < 2 ^ 64 → IntKind.u64.wrap (ibits .and .u64 ((x : Int).fdiv (2 ^ min (2 : Int).toNat IntKind.u64.bits)) 3689348814741910323 + ibits .and .u64 (x : Int) 3689348814741910323) = (pop2 x : Nat) := by
    intro x hx
    have a1 : ibits .and .u64 ((x : Int).fdiv (2 ^ min (2 : Int).toNat IntKind.u64.bits)) 3689348814741910323 = ((x >>> 2 &&& 3689348814741910323 : Nat) : Int) := by
      rw [show (2 : Int).toNat = ((2 : Nat) : Int).toNat from rfl, shr_c hx (by decide)]; exact and_u64 (b := 3689348814741910323) (shr_lt _ hx) (by decide)
    have a2 : ibits .and .u64 (x : Int) 3689348814741910323 = ((x &&& 3689348814741910323 : Nat) : Int) := and_u64 (b := 3689348814741910323) hx (by decide)
    rw [a1, a2, ← Int.natCast_add, wrap_u64_nat]; rfl
  have st3 : ∀ x : Nat, x < 2 ^ 64 → ibits .and .u64 (IntKind.u64.wrap ((x : Int).fdiv (2 ^ min (4 : Int).toNat IntKind.u64.bits) + (x : Int))) 1085102592571150095 = (pop3 x : Nat) := by
    intro x hx
    rw [show (4 : Int).toNat = ((4 : Nat) : Int).toNat from rfl, shr_c hx (by decide), ← Int.natCast_add, wrap_u64_nat]
    exact and_u64 (b := 1085102592571150095) (Nat.mod_lt _ (by decide)) (by decide)
  have st8 : ∀ x : Nat, x < 2 ^ 64 → IntKind.u64.wrap ((x : Int) + (x : Int).fdiv (2 ^ min (8 : Int).toNat IntKind.u64.bits)) = (pop4 8 x : Nat) := by
    intro x hx
    rw [show (8 : Int).toNat = ((8 : Nat) : Int).toNat from rfl, shr_c hx (by decide), ← Int.natCast_add, wrap_u64_nat]; rfl
  have st16 : ∀ x : Nat, x < 2 ^ 64 → IntKind.u64.wrap ((x : Int) + (x : Int).fdiv (2 ^ min (16 : Int).toNat IntKind.u64.bits)) = (pop4 16 x : Nat) := by
    intro x hx
    rw [show (16 : Int).toNat = ((16 : Nat) : Int).toNat from rfl, shr_c hx (by decide), ← Int.natCast_add, wrap_u64_nat]; rfl
  have st32 : ∀ x : Nat, x < 2 ^ 64 → IntKind.u64.wrap ((x : Int) + (x : Int).fdiv (2 ^ min (32 : Int).toNat IntKind.u64.bits)) = (pop4 32 x : Nat) := by
    intro x hx
    rw [show (32 : Int).toNat = ((32 : Nat) : Int).toNat from rfl, shr_c hx (by decide), ← Int.natCast_add, wrap_u64_nat]; rfl
  rw [st1 x hx, st2 _ (pop1_lt _), st3 _ (pop2_lt _), st8 _ (pop3_lt _), st16 _ (pop4_lt _ _), st32 _ (pop4_lt _ _)]
  exact congrArg (Value.int .i64) (and_i64 (b := 127) (pop4_lt _ _) (by decide))
instance : CallIs Try.prog 56 := .of Try.func56 rfl rfl

def applyP (n : Nat) (xs : List Nat) (x : Nat) : Nat := orK (fun i => popS (xs.getD i 0 &&& x) &&& 1) n
theorem popS_lt (x : Nat) : popS x < 2 ^ 7 := Nat.and_lt_two_pow _ (by decide)
theorem Apply_spec (N : Int) (a : Option Addr) (len cap : Nat) (xs : List Nat) (x : Nat) (hx64 : x < 2 ^ 64) (h : IHp) (hx : SlIs h a len cap (u64s xs)) (h64 : ∀ x ∈ xs, x < 2 ^ 64) :
    EvX Try.prog 17 [.agg [.int .i64 N, .slice a len cap].toArray, .int .u64 x].toArray h (fun v h' => Ext h h' ∧ v = if checkS N xs = 0 ∧ belowS N x = true then .tuple [.int .u64 (applyP N.toNat xs x : Nat), .int .i64 0].toArray else .tuple [.int .u64 0, .int .i64 2].toArray) := by
  have hlen : xs.length = len := by have := hx.1; simpa [u64s] using this
  refine EvX_of Try.func17 rfl (by show 2 ≤ 39; decide) ?_
  repeat' (first | refine V_seq ?_ | refine V_region ?_ | refine WS_nil ?_ | refine S_normal ?_ | refine WS_assign ?_ | refine WS_load_agg ?_ | refine WS_box_agg rfl ?_)
  have eX0 : Ext h (h.push (IObj.cells [Value.int IntKind.i64 N, Value.slice a len cap] 24 true)) := Ext.push _ _
  refine WS_call (Check_spec N a len cap xs _ (hx.ext eX0) h64) ?_
  rintro _ H ⟨rfl, eX1⟩
  have eX : Ext h H := eX0.trans eX1
  have c0 : CellIs H h.fresh (0 + 0) (.int .i64 N) := ⟨cell_ext eX1 (inferInstance : CellIs (h.push (IObj.cells [Value.int IntKind.i64 N, Value.slice a len cap] 24 true)) h.fresh (0 + 0) _).eq⟩
  have c1 : CellIs H h.fresh (0 + 1) (.slice a len cap) := ⟨cell_ext eX1 (inferInstance : CellIs (h.push (IObj.cells [Value.int IntKind.i64 N, Value.slice a len cap] 24 true)) h.fresh (0 + 1) _).eq⟩
  repeat' (first | refine V_seq ?_ | refine V_region ?_ | refine WS_nil ?_ | refine S_normal ?_ | refine V_ret ?_ | refine S_ret ?_ | refine WS_off rfl (by first | rfl | assumption) ?_ | refine WS_on rfl (by first | rfl | assumption) ?_ | refine WS_move ?_ | refine WS_assign ?_ | refine WS_pick_t (by first | rfl | assumption) ?_ | refine WS_cmp rfl ?_ | refine WS_fieldAddr ?_ | refine WS_load ?_ | (refine WS_guard rfl ?_ ?_ <;> intro hg) | (refine V_cond ?_ ?_ <;> intro hc <;> try (cases hc; done)))
  · have hck : checkS N xs = 0 := by simpa using hg
    have hN : 0 ≤ N ∧ N ≤ 64 ∧ (len : Int) = N := by
      obtain ⟨h1, h2, h3, _⟩ := checkS_zero hck
      omega
    refine WS_call (below_spec x hx64 N (by omega) _) ?_
    rintro _ H ⟨rfl, rfl⟩
    repeat' (first | refine V_seq ?_ | refine V_region ?_ | refine WS_nil ?_ | refine S_normal ?_ | refine V_block ?_ | refine V_skip ?_ | refine V_ret ?_ | refine S_ret ?_ | refine WS_on rfl (by first | rfl | assumption) ?_ | refine WS_move ?_ | refine WS_assign ?_ | refine WS_pick_f (by first | rfl | assumption) ?_ | refine WS_not ?_ | refine WS_len_slice ?_ | refine WS_fieldAddr ?_ | refine WS_load ?_ | (refine V_cond ?_ ?_ <;> intro hc <;> try (cases hc; done)))
    · refine retK_2 ⟨eX, ?_⟩ (.inr rfl)
      rw [if_neg]
      simp at hc; simp [hc]
    · have hbl : belowS N x = true := by simpa using hc
      refine V_loop (fun d s h' => ∃ i : Int, d = (N - i).toNat ∧ 0 ≤ i ∧ i ≤ N ∧ Get s 22 (.int .i64 i) ∧ Get s 21 (.int .i64 len) ∧ Get s 20 (.slice a len cap) ∧ Get s 1 (.int .u64 x) ∧ h' = H ∧ Get s 6 (.int .u64 (applyP i.toNat xs x : Nat))) N.toNat ⟨0, by omega, by omega, by omega, inferInstance, inferInstance, inferInstance, inferInstance, rfl, inferInstanceAs (Get _ 6 (.int .u64 (0 : Int)))⟩ ?_
      rintro d s h' ⟨i, rfl, hi0, hi1, g22, g21, g20, g1, rfl, g6⟩
      repeat' (first | refine V_seq ?_ | refine V_region ?_ | refine WS_nil ?_ | refine S_normal ?_ | refine V_block ?_ | refine V_skip ?_ | refine V_exit ?_ | refine V_ret ?_ | refine S_exit ?_ | refine B_exit ?_ | refine WS_move ?_ | refine WS_assign ?_ | refine WS_cmp rfl ?_ | (refine V_cond ?_ ?_ <;> intro hc <;> try (cases hc; done)))
      · have hi : i < len := by simpa using hc
        obtain ⟨b, v, rfl, hv, c2⟩ := (hx.ext eX).at hi0 hi
        obtain ⟨r, rfl, hr⟩ := u64s_at hv
        have hr64 := h64 r (List.mem_of_getElem? hr)
        repeat' (first | refine V_region ?_ | refine WS_nil ?_ | refine S_normal ?_ | refine WS_move ?_ | refine WS_assign ?_ | refine WS_arith rfl ?_ | refine WS_load ?_ | refine WS_indexAddr (by first | decide | omega) ?_)
        rw [and_u64 hr64 hx64]
        have hand := Nat.and_lt_two_pow r hx64
        refine WS_call (OnesCount_spec (r &&& x) hand _) ?_
        rintro _ h' ⟨rfl, rfl⟩
        have hpop := popS_lt (r &&& x)
        have hb : ibits .and .i64 (popS (r &&& x) : Nat) 1 = (popS (r &&& x) &&& 1 : Nat) := by
          have := and_i64 (a := popS (r &&& x)) (b := 1) (by omega) (by decide)
          rw [wrap_i64_id (by omega)] at this; exact this
        repeat' (first | refine V_region ?_ | refine WS_nil ?_ | refine S_normal ?_ | refine B_normal ?_ | refine WS_move ?_ | refine WS_assign ?_ | refine WS_addi (by omega) ?_ | refine WS_arith rfl ?_ | refine WS_convert ?_ | refine WS_shift (by first | decide | omega) rfl ?_)
        have hodd : popS (r &&& x) &&& 1 ≤ 1 := bit_le _
        have hlt : applyP i.toNat xs x < 2 ^ 64 := Nat.lt_of_lt_of_le (orK_lt _ fun _ _ => bit_le _) (Nat.pow_le_pow_right (by decide) (by omega))
        rw [hb, wrap_u64_id (z := ((popS (r &&& x) &&& 1 : Nat) : Int)) (by omega) (by omega), shl_bit hodd hi0 (by omega), or_u64 hlt (bit_shl_lt hodd (by omega))]
        refine ⟨_, ?_, i + 1, rfl, by omega, by omega, inferInstance, inferInstance, inferInstance, inferInstance, rfl, ?_⟩
        · omega
        · rw [toNat_succ hi0]
          have : applyP (i.toNat + 1) xs x = applyP i.toNat xs x ||| (popS (r &&& x) &&& 1) <<< i.toNat := by
            simp only [applyP, orK]
            rw [List.getD_eq_getElem?_getD, hr]; rfl
          rw [this]; infer_instance
      · have hi : i = N := by simp at hc; omega
        subst hi
        refine retK_2 ⟨eX, ?_⟩ (.inr rfl)
        rw [if_pos ⟨hck, hbl⟩]
  · refine retK_2 ⟨eX, ?_⟩ (.inr rfl)
    rw [if_neg]
    simp at hg; simp [hg]
instance : CallIs Try.prog 17 := .of Try.func17 rfl rfl
end Go.Ideal

-- Lh
set_option linter.unusedSimpArgs false
set_option linter.unusedVariables false
namespace Go.Ideal
open Go Go.Proofs
theorem Clone_spec (a : Option Addr) (len cap : Nat) (vs : List Value) (h : IHp) (hx : SlIs h a len cap vs) (hl : len ≤ 2 ^ 30) :
    EvX Try.prog 57 [.slice a len cap].toArray h (fun v h' => Ext h h' ∧ Own h.fresh h' v vs 25) := by
  refine EvX_of Try.func57 rfl (by show 1 ≤ 8; decide) ?_
  repeat' (first | refine V_seq ?_ | refine V_region ?_ | refine WS_nil ?_ | refine S_normal ?_ | refine V_skip ?_ | refine V_ret ?_ | refine S_ret ?_ | refine WS_move ?_ | refine WS_assign ?_ | refine WS_isnil ?_ | refine WS_buildSlice (by decide) rfl rfl (by simp [Value.cells]) ?_ | (refine V_cond ?_ ?_ <;> intro hc <;> try (cases hc; done)))
  · refine retK_1 ⟨Ext.refl h, ?_⟩ (.inr rfl)
    cases a with
    | none =>
      obtain ⟨h1, h2, h3⟩ := hx
      simp only at h3
      exact .inl ⟨rfl, List.eq_nil_of_length_eq_zero (by omega)⟩
    | some a => simp at hc
  · have e0 : Ext h (h.push (IObj.cells [] 25 true)) := Ext.push _ _
    refine WS_append_copy (lo := h.fresh) (hx.ext e0) (Nat.le_refl _) (by omega) ?_
    intro v' h' ho he
    repeat' (first | refine WS_nil ?_ | refine S_normal ?_ | refine V_ret ?_ | refine WS_assign ?_)
    exact retK_1 ⟨e0.trans he, ho⟩ (.inr rfl)
instance : CallIs Try.prog 57 := .of Try.func57 rfl rfl

/-! ### Elimination, as it goes -/
def bitAt (r j : Nat) : Bool := (r >>> j) &&& 1 = 1
/-- the first row from i on, below i + n, that has bit j -/
def findRow (rows : List Nat) (j : Nat) : Nat → Nat → Option Nat
  | _, 0 => none
  | i, n + 1 => if bitAt (rows.getD i 0) j then some i else findRow rows j (i + 1) n
def swapRows (rows : List Nat) (i k : Nat) : List Nat := (rows.set i (rows.getD k 0)).set k (rows.getD i 0)
/-- rows from k on, n of them: row r is added where bit j is -/
def addRows (j r : Nat) : Nat → Nat → List Nat → List Nat
  | _, 0, rows => rows
  | k, n + 1, rows => addRows j r (k + 1) n (if bitAt (rows.getD k 0) j then rows.set k (rows.getD k 0 ^^^ rows.getD r 0) else rows)
def rankStep (j : Nat) (st : List Nat × Nat) : List Nat × Nat :=
  match findRow st.1 j st.2 (st.1.length - st.2) with
  | none => st
  | some i => (addRows j st.2 (st.2 + 1) (st.1.length - (st.2 + 1)) (swapRows st.1 i st.2), st.2 + 1)
def rankK (rows : List Nat) : Nat → List Nat × Nat
  | 0 => (rows, 0)
  | j + 1 => rankStep j (rankK rows j)
theorem swapRows_len (rows : List Nat) (i k : Nat) : (swapRows rows i k).length = rows.length := by simp [swapRows]
theorem addRows_len (j r : Nat) : ∀ (n k : Nat) (rows : List Nat), (addRows j r k n rows).length = rows.length := by
  intro n
  induction n with
  | zero => intro k rows; rfl
  | succ n ih => intro k rows; simp only [addRows]; rw [ih]; split <;> simp
theorem rankStep_len (j : Nat) (st : List Nat × Nat) : (rankStep j st).1.length = st.1.length := by
  unfold rankStep
  split
  · rfl
  · rw [addRows_len, swapRows_len]
theorem rankK_len (rows : List Nat) : ∀ j, (rankK rows j).1.length = rows.length := by
  intro j
  induction j with
  | zero => rfl
  | succ j ih => rw [rankK, rankStep_len, ih]
def All64 (rows : List Nat) : Prop := ∀ x ∈ rows, x < 2 ^ 64
theorem All64.set {rows : List Nat} (h : All64 rows) {i w : Nat} (hw : w < 2 ^ 64) : All64 (rows.set i w) := fun x hx => by
  rcases List.mem_or_eq_of_mem_set hx with h1 | h1
  · exact h x h1
  · omega
theorem All64.get {rows : List Nat} (h : All64 rows) (i : Nat) : rows.getD i 0 < 2 ^ 64 := getD_lt h i
theorem All64.swap {rows : List Nat} (h : All64 rows) (i k : Nat) : All64 (swapRows rows i k) := (h.set (h.get k)).set (h.get i)
theorem All64.addRows (j r : Nat) : ∀ (n k : Nat) (rows : List Nat), All64 rows → All64 (addRows j r k n rows) := by
  intro n
  induction n with
  | zero => intro k rows h; exact h
  | succ n ih =>
    intro k rows h
    simp only [Go.Ideal.addRows]
    refine ih _ _ ?_
    split
    · exact h.set (Nat.xor_lt_two_pow (h.get k) (h.get r))
    · exact h
theorem u64s_set (rows : List Nat) (i w : Nat) : u64s (rows.set i w) = (u64s rows).set i (.int .u64 w) := by simp [u64s, List.map_set]
theorem u64s_get {rows : List Nat} {i : Nat} (hi : i < rows.length) : (u64s rows)[i]? = some (.int .u64 (rows.getD i 0 : Nat)) := by
  simp [u64s, hi, List.getD_eq_getElem?_getD]
theorem cell_u64 {h : IHp} {b i : Nat} {rows : List Nat} {t : TypeId} {x : Bool} (o : ObjIs h b (u64s rows) t x) (hi : i < rows.length) : CellIs h b (0 + i * 1) (.int .u64 (rows.getD i 0 : Nat)) := cell_at o (u64s_get hi)
theorem set_u64 {rows : List Nat} {i : Nat} (w : Nat) (hi : i < rows.length) : SetIs (u64s rows) (0 + i * 1) [.int .u64 w] (u64s (rows.set i w)) := by
  rw [u64s_set]; exact set_at _ (by simpa [u64s] using hi)
end Go.Ideal

-- Li
set_option linter.unusedSimpArgs false
set_option linter.unusedVariables false
namespace Go.Ideal
open Go Go.Proofs
theorem bit_cases (r j : Nat) : r >>> j &&& 1 = 0 ∨ r >>> j &&& 1 = 1 := by have := bit_le (r >>> j); omega
theorem findRow_skip {rows : List Nat} {j i n : Nat} (hb : bitAt (rows.getD i 0) j = false) : findRow rows j i (n + 1) = findRow rows j (i + 1) n := by rw [findRow, hb]; rfl
theorem findRow_hit {rows : List Nat} {j i n : Nat} (hb : bitAt (rows.getD i 0) j = true) : findRow rows j i (n + 1) = some i := by rw [findRow, hb]; rfl
theorem swap_two {rows : List Nat} {i k : Nat} : (rows.set i (rows.getD k 0)).set k (rows.getD i 0) = swapRows rows i k := rfl
set_option maxHeartbeats 1000000 in
theorem Rank_spec (N : Int) (a : Option Addr) (len cap : Nat) (xs : List Nat) (h : IHp) (hx : SlIs h a len cap (u64s xs)) (h64 : All64 xs) :
    EvX Try.prog 19 [.agg [.int .i64 N, .slice a len cap].toArray].toArray h (fun v h' => Ext h h' ∧ v = if checkS N xs = 0 then .tuple [.int .i64 ((rankK xs xs.length).2 : Nat), .int .i64 0].toArray else .tuple [.int .i64 0, .int .i64 (checkS N xs)].toArray) := by
  have hlen : xs.length = len := by have := hx.1; simpa [u64s] using this
  refine EvX_of Try.func19 rfl (by show 1 ≤ 82; decide) ?_
  repeat' (first | refine V_seq ?_ | refine V_region ?_ | refine WS_nil ?_ | refine S_normal ?_ | refine WS_assign ?_ | refine WS_load_agg ?_ | refine WS_box_agg rfl ?_)
  have eX0 : Ext h (h.push (IObj.cells [Value.int IntKind.i64 N, Value.slice a len cap] 24 true)) := Ext.push _ _
  refine WS_call (Check_spec N a len cap xs _ (hx.ext eX0) h64) ?_
  rintro _ H ⟨rfl, eX1⟩
  have eX : Ext h H := eX0.trans eX1
  have b1 : ObjIs H h.fresh [.int .i64 N, .slice a len cap] 24 true := inferInstance
  repeat' (first | refine V_seq ?_ | refine V_region ?_ | refine WS_nil ?_ | refine S_normal ?_ | refine V_skip ?_ | refine V_ret ?_ | refine S_ret ?_ | refine WS_move ?_ | refine WS_assign ?_ | refine WS_cmp rfl ?_ | refine WS_fieldAddr ?_ | refine WS_load ?_ | (refine V_cond ?_ ?_ <;> intro hc <;> try (cases hc; done)))
  · refine retK_2 ⟨eX, ?_⟩ (.inr rfl)
    rw [if_neg]
    simp at hc; simp [hc]
  · have hck : checkS N xs = 0 := by simpa using hc
    obtain ⟨hN0, hN1, hN2, _⟩ := checkS_zero hck
    refine WS_call (Clone_spec a len cap (u64s xs) H (hx.ext eX) (by omega)) ?_
    rintro v H2 ⟨eX2, hO⟩
    have b2 : ObjIs H2 h.fresh [.int .i64 N, .slice a len cap] 24 true := inferInstance
    repeat' (first | refine V_seq ?_ | refine V_region ?_ | refine WS_nil ?_ | refine S_normal ?_ | refine V_block ?_ | refine WS_move ?_ | refine WS_assign ?_ | refine WS_fieldAddr ?_ | refine WS_load ?_)
    refine V_loop (fun d s h' => ∃ (j : Int) (rows : List Nat) (rank : Nat), d = (N - j).toNat ∧ 0 ≤ j ∧ j ≤ N ∧ rankK xs j.toNat = (rows, rank) ∧ (rank : Int) ≤ j ∧ All64 rows ∧ Get s 20 (.int .i64 j) ∧ Get s 19 (.int .i64 N) ∧ Get s 1 (.pointer (some (ad h.fresh 0))) ∧ Get s 5 v ∧ Get s 6 (.int .i64 rank) ∧ Ext H h' ∧ Own H.fresh h' v (u64s rows) 25) N.toNat
      ⟨0, xs, 0, by omega, by omega, by omega, rfl, by omega, h64, inferInstance, inferInstance, inferInstance, inferInstance, inferInstanceAs (Get _ 6 (.int .i64 (0 : Int))), eX2, hO⟩ ?_
    rintro d s h' ⟨j, rows, rank, rfl, hj0, hj1, hrk, hrj, h64r, g20, g19, g1, g5, g6, eH, hOw⟩
    have hrl : rows.length = len := by have := rankK_len xs j.toNat; rw [hrk] at this; simpa [hlen] using this
    repeat' (first | refine V_seq ?_ | refine V_region ?_ | refine WS_nil ?_ | refine S_normal ?_ | refine V_block ?_ | refine V_skip ?_ | refine V_exit ?_ | refine V_ret ?_ | refine S_exit ?_ | refine B_exit ?_ | refine WS_move ?_ | refine WS_assign ?_ | refine WS_cmp rfl ?_ | (refine V_cond ?_ ?_ <;> intro hc <;> try (cases hc; done)))
    · have hj : j < N := by simpa using hc
      refine V_loop (fun d s h'' => ∃ (i : Int), d = (N - i).toNat ∧ rank ≤ i ∧ i ≤ N ∧ findRow rows j.toNat rank (rows.length - rank) = findRow rows j.toNat i.toNat (rows.length - i.toNat) ∧ Get s 8 (.int .i64 i) ∧ Get s 7 (.int .i64 j) ∧ Get s 20 (.int .i64 j) ∧ Get s 19 (.int .i64 N) ∧ Get s 1 (.pointer (some (ad h.fresh 0))) ∧ Get s 5 v ∧ Get s 6 (.int .i64 rank) ∧ h'' = h') (N - rank).toNat
        ⟨rank, by omega, by omega, by omega, by simp, inferInstance, inferInstance, inferInstance, inferInstance, inferInstance, inferInstance, inferInstance, rfl⟩ ?_
      rintro d s h'' ⟨i, rfl, hi0, hi1, hfr, y8, y7, y20, y19, y1, y5, y6, rfl⟩
      have b3 : ObjIs h'' h.fresh [.int .i64 N, .slice a len cap] 24 true := ⟨b1.even, eH.new _ _ b1.eq⟩
      repeat' (first | refine V_seq ?_ | refine V_region ?_ | refine WS_nil ?_ | refine S_normal ?_ | refine V_block ?_ | refine B_normal ?_ | refine V_skip ?_ | refine V_exit ?_ | refine S_exit ?_ | refine B_exit ?_ | refine WS_move ?_ | refine WS_cmp rfl ?_ | refine WS_addi (by omega) ?_ | refine WS_fieldAddr ?_ | refine WS_load ?_ | (refine V_cond ?_ ?_ <;> intro hc <;> try (cases hc; done)))
      · have hi : i < N := by simpa using hc
        obtain ⟨b, y, hb, rfl, ob⟩ := hOw.at (by rw [u64s_len]; omega)
        have hbf : H.fresh ≤ b := hb
        have c1 : CellIs h'' b (0 + i.toNat * 1) _ := cell_u64 (rows := rows) (i := i.toNat) ob (by omega)
        have hri := h64r.get i.toNat
        have hbi : 0 ≤ i ∧ i < ((u64s rows).length : Int) := by rw [u64s_len]; omega
        repeat' (first | refine V_seq ?_ | refine V_region ?_ | refine WS_nil ?_ | refine S_normal ?_ | refine V_skip ?_ | refine V_exit ?_ | refine S_exit ?_ | refine B_exit ?_ | refine WS_move ?_ | refine WS_assign ?_ | refine WS_cmp rfl ?_ | refine WS_addi (by omega) ?_ | refine WS_arith rfl ?_ | refine WS_load ?_ | refine WS_shift (by first | decide | omega) rfl ?_ | refine WS_indexAddr (by first | decide | omega) ?_ | (refine V_cond ?_ ?_ <;> intro hc <;> try (cases hc; done)))
        · rename_i hcc
          rw [shr_u64 hj0 hri, and1_u64 (shr_lt _ hri)] at hc
          have hb0 : bitAt (rows.getD i.toNat 0) j.toNat = false := by
            have h1 : rows.getD i.toNat 0 >>> j.toNat &&& 1 = 0 := Int.ofNat_inj.mp (show ((rows.getD i.toNat 0 >>> j.toNat &&& 1 : Nat) : Int) = ((0 : Nat) : Int) from of_decide_eq_true hc)
            unfold bitAt; rw [h1]; rfl
          refine ⟨_, ?_, i + 1, rfl, by omega, by omega, ?_, inferInstance, inferInstance, inferInstance, inferInstance, inferInstance, inferInstance, inferInstance, rfl⟩
          · omega
          · rw [hfr, toNat_succ (by omega), show rows.length - i.toNat = (rows.length - (i.toNat + 1)) + 1 by omega, findRow_skip hb0]
        · rename_i hcc
          rw [shr_u64 hj0 hri, and1_u64 (shr_lt _ hri)] at hc
          have hb1 : bitAt (rows.getD i.toNat 0) j.toNat = true := by
            rcases bit_cases (rows.getD i.toNat 0) j.toNat with h1 | h1
            · exact absurd (congrArg (Nat.cast (R := Int)) h1) (of_decide_eq_false hc)
            · unfold bitAt; rw [h1]; rfl
          have hfi : findRow rows j.toNat rank (rows.length - rank) = some i.toNat := by
            rw [hfr, show rows.length - i.toNat = (rows.length - (i.toNat + 1)) + 1 by omega, findRow_hit hb1]
          have hbr : 0 ≤ (rank : Int) ∧ (rank : Int) < ((u64s rows).length : Int) := by rw [u64s_len]; omega
          have c2 : CellIs h'' b (0 + (rank : Int).toNat * 1) (.int .u64 (rows.getD rank 0 : Nat)) := by rw [Int.toNat_natCast]; exact cell_u64 ob (by omega)
          have s1 : SetIs (u64s rows) (0 + i.toNat * 1) [.int .u64 (rows.getD rank 0 : Nat)] (u64s (rows.set i.toNat (rows.getD rank 0))) := set_u64 _ (by omega)
          have s2 : SetIs (u64s (rows.set i.toNat (rows.getD rank 0))) (0 + (rank : Int).toNat * 1) [.int .u64 (rows.getD i.toNat 0 : Nat)] (u64s (swapRows rows i.toNat rank)) := by rw [Int.toNat_natCast, ← swap_two]; exact set_u64 _ (by simp; omega)
          refine V_draw (plan := [.take 0, .take 1, .take 2, .take 3, .take 4, .take 5, .take 6, .take 7, .take 8, .take 9, .take 10, .take 11, .take 12, .one 13, .take 14, .one 15]) (by kernel_rfl) ?_
          repeat' (first | refine V_seq ?_ | refine V_region ?_ | refine WS_nil ?_ | refine S_normal ?_ | refine V_block ?_ | refine WS_move ?_ | refine WS_assign ?_ | refine WS_addi (by omega) ?_ | refine WS_indexAddr (by first | decide | omega) ?_ | refine WS_store rfl ?_ | refine WDK_go ?_ | refine WDT_go ?_ | refine WD_nil ?_ | refine WD_load rfl ?_ | refine WD_take rfl rfl ?_ | refine WD_drop rfl rfl ?_)
          obtain ⟨H3, hH3⟩ : ∃ H, H = ((h''.put b (u64s (rows.set i.toNat (rows.getD rank 0))) 25 y).put b (u64s (swapRows rows i.toNat rank)) 25 y) := ⟨_, rfl⟩
          have e3 : Ext H H3 := hH3 ▸ (eH.putObj hbf).putObj hbf
          have o3 : ObjIs H3 b (u64s (swapRows rows i.toNat rank)) 25 y := hH3 ▸ inferInstance
          have b4 : ObjIs H3 h.fresh [.int .i64 N, .slice a len cap] 24 true := ⟨b1.even, e3.new _ _ b1.eq⟩
          rw [← hH3]
          have hl1 : (swapRows rows i.toNat rank).length = rows.length := swapRows_len _ _ _
          refine V_loop (fun d s h4 => ∃ (k : Int) (cur : List Nat), d = (N - k).toNat ∧ rank + 1 ≤ k ∧ k ≤ N ∧ addRows j.toNat rank (rank + 1) (rows.length - (rank + 1)) (swapRows rows i.toNat rank) = addRows j.toNat rank k.toNat (rows.length - k.toNat) cur ∧ All64 cur ∧ cur.length = rows.length ∧ Get s 9 (.int .i64 k) ∧ Get s 7 (.int .i64 j) ∧ Get s 20 (.int .i64 j) ∧ Get s 19 (.int .i64 N) ∧ Get s 1 (.pointer (some (ad h.fresh 0))) ∧ Get s 5 (.slice (some (ad b 0)) (u64s rows).length (u64s rows).length) ∧ Get s 6 (.int .i64 rank) ∧ Ext H h4 ∧ ObjIs h4 b (u64s cur) 25 y) (N - (rank + 1)).toNat
            ⟨rank + 1, swapRows rows i.toNat rank, by omega, by omega, by omega, by rw [show ((rank : Int) + 1).toNat = rank + 1 by omega], h64r.swap _ _, hl1, inferInstance, inferInstance, inferInstance, inferInstance, inferInstance, inferInstance, inferInstance, e3, o3⟩ ?_
          rintro d s h4 ⟨k, cur, rfl, hk0, hk1, hadd, h64c, hcl, x9, x7, x20, x19, x1, x5, x6, e4, o4⟩
          have b5 : ObjIs h4 h.fresh [.int .i64 N, .slice a len cap] 24 true := ⟨b1.even, e4.new _ _ b1.eq⟩
          repeat' (first | refine V_seq ?_ | refine V_region ?_ | refine WS_nil ?_ | refine S_normal ?_ | refine V_block ?_ | refine B_normal ?_ | refine V_skip ?_ | refine V_exit ?_ | refine S_exit ?_ | refine B_exit ?_ | refine B_pass rfl ?_ | refine WS_move ?_ | refine WS_assign ?_ | refine WS_cmp rfl ?_ | refine WS_addi (by omega) ?_ | refine WS_fieldAddr ?_ | refine WS_load ?_ | (refine V_cond ?_ ?_ <;> intro hc <;> try (cases hc; done)))
          · have hk : k < N := by simpa using hc
            have d1 : CellIs h4 b (0 + k.toNat * 1) _ := cell_u64 (rows := cur) (i := k.toNat) o4 (by omega)
            have d2 : CellIs h4 b (0 + (rank : Int).toNat * 1) (.int .u64 (cur.getD rank 0 : Nat)) := by rw [Int.toNat_natCast]; exact cell_u64 o4 (by omega)
            have hrk' := h64c.get k.toNat
            have hrr := h64c.get rank
            have hbk : 0 ≤ k ∧ k < ((u64s rows).length : Int) := by rw [u64s_len]; omega
            repeat' (first | refine V_region ?_ | refine WS_nil ?_ | refine S_normal ?_ | refine B_normal ?_ | refine V_skip ?_ | refine WS_move ?_ | refine WS_assign ?_ | refine WS_cmp rfl ?_ | refine WS_addi (by omega) ?_ | refine WS_arith rfl ?_ | refine WS_load ?_ | refine WS_shift (by first | decide | omega) rfl ?_ | refine WS_indexAddr (by first | decide | omega) ?_ | (refine V_cond ?_ ?_ <;> intro hc <;> try (cases hc; done)))
            · rw [shr_u64 hj0 hrk', and1_u64 (shr_lt _ hrk')] at hc
              have hbk1 : bitAt (cur.getD k.toNat 0) j.toNat = true := by
                have h1 : cur.getD k.toNat 0 >>> j.toNat &&& 1 = 1 := Int.ofNat_inj.mp (show ((cur.getD k.toNat 0 >>> j.toNat &&& 1 : Nat) : Int) = ((1 : Nat) : Int) from of_decide_eq_true hc)
                unfold bitAt; rw [h1]; rfl
              have s3 : SetIs (u64s cur) (0 + k.toNat * 1) [.int .u64 ((cur.getD k.toNat 0 ^^^ cur.getD rank 0 : Nat) : Int)] (u64s (cur.set k.toNat (cur.getD k.toNat 0 ^^^ cur.getD rank 0))) := set_u64 _ (by omega)
              have hx3 := xor_u64 hrk' hrr
              rw [← hx3] at s3
              refine V_draw (plan := [.take 0, .take 1, .take 2, .take 3, .take 4, .take 5, .take 6, .take 7, .take 8, .take 9, .one 10]) (by kernel_rfl) ?_
              repeat' (first | refine V_region ?_ | refine WS_nil ?_ | refine S_normal ?_ | refine B_normal ?_ | refine WS_move ?_ | refine WS_assign ?_ | refine WS_addi (by omega) ?_ | refine WS_arith rfl ?_ | refine WS_indexAddr (by first | decide | omega) ?_ | refine WS_store rfl ?_ | refine WDK_go ?_ | refine WDT_go ?_ | refine WD_nil ?_ | refine WD_load rfl ?_ | refine WD_take rfl rfl ?_ | refine WD_drop rfl rfl ?_)
              refine ⟨_, ?_, k + 1, cur.set k.toNat (cur.getD k.toNat 0 ^^^ cur.getD rank 0), rfl, by omega, by omega, ?_, h64c.set (Nat.xor_lt_two_pow hrk' hrr), by simpa using hcl, inferInstance, inferInstance, inferInstance, inferInstance, inferInstance, inferInstance, inferInstance, e4.putObj hbf, inferInstance⟩
              · omega
              · rw [hadd, toNat_succ (by omega), show rows.length - k.toNat = (rows.length - (k.toNat + 1)) + 1 by omega, addRows, hbk1]; rfl
            · rw [shr_u64 hj0 hrk', and1_u64 (shr_lt _ hrk')] at hc
              have hbk0 : bitAt (cur.getD k.toNat 0) j.toNat = false := by
                rcases bit_cases (cur.getD k.toNat 0) j.toNat with h1 | h1
                · unfold bitAt; rw [h1]; rfl
                · exact absurd (congrArg (Nat.cast (R := Int)) h1) (of_decide_eq_false hc)
              refine ⟨_, ?_, k + 1, cur, rfl, by omega, by omega, ?_, h64c, hcl, inferInstance, inferInstance, inferInstance, inferInstance, inferInstance, inferInstance, inferInstance, e4, o4⟩
              · omega
              · rw [hadd, toNat_succ (by omega), show rows.length - k.toNat = (rows.length - (k.toNat + 1)) + 1 by omega, addRows, hbk0]; rfl
          · have hk : k = N := by simp at hc; omega
            refine ⟨_, ?_, j + 1, cur, rank + 1, rfl, by omega, by omega, ?_, by omega, h64c, inferInstance, inferInstance, inferInstance, inferInstance, inferInstance, e4, ?_⟩
            · omega
            · rw [toNat_succ hj0, rankK, hrk, rankStep]
              simp only [hfi]
              rw [hadd, hk, show rows.length - N.toNat = 0 by omega]; rfl
            · exact .inr ⟨b, y, hbf, by rw [u64s_len, u64s_len, hcl], o4⟩
      · have hi : i = N := by simp at hc; omega
        have hfn : findRow rows j.toNat rank (rows.length - rank) = none := by
          rw [hfr, hi, show rows.length - N.toNat = 0 by omega]; rfl
        skip
        refine ⟨_, ?_, j + 1, rows, rank, rfl, by omega, by omega, ?_, by omega, h64r, inferInstance, inferInstance, inferInstance, inferInstance, inferInstance, eH, hOw⟩
        · omega
        · rw [toNat_succ hj0, rankK, hrk, rankStep]; simp only [hfn]
    · have hj : j = N := by simp at hc; omega
      refine retK_2 ⟨eX.trans eH, ?_⟩ (.inr rfl)
      rw [if_pos hck, show xs.length = j.toNat by omega, hrk]
instance : CallIs Try.prog 19 := .of Try.func19 rfl rfl
end Go.Ideal

-- Lj
set_option linter.unusedSimpArgs false
set_option linter.unusedVariables false
namespace Go.Ideal
open Go Go.Proofs
def addBoth (j r : Nat) : Nat → Nat → List Nat × List Nat → List Nat × List Nat
  | _, 0, st => st
  | k, n + 1, st => addBoth j r (k + 1) n (if k ≠ r ∧ bitAt (st.1.getD k 0) j = true then (st.1.set k (st.1.getD k 0 ^^^ st.1.getD r 0), st.2.set k (st.2.getD k 0 ^^^ st.2.getD r 0)) else st)
def refStep (j : Nat) (st : (List Nat × List Nat) × Nat) : (List Nat × List Nat) × Nat :=
  match findRow st.1.1 j st.2 (st.1.1.length - st.2) with
  | none => st
  | some i => (addBoth j st.2 0 st.1.1.length (swapRows st.1.1 i st.2, swapRows st.1.2 i st.2), st.2 + 1)
def refK (rows wth : List Nat) : Nat → (List Nat × List Nat) × Nat
  | 0 => ((rows, wth), 0)
  | j + 1 => refStep j (refK rows wth j)
theorem addBoth_len (j r : Nat) : ∀ (n k : Nat) (st : List Nat × List Nat), (addBoth j r k n st).1.length = st.1.length ∧ (addBoth j r k n st).2.length = st.2.length := by
  intro n
  induction n with
  | zero => intro k st; exact ⟨rfl, rfl⟩
  | succ n ih =>
    intro k st
    simp only [addBoth]
    obtain ⟨h1, h2⟩ := ih (k + 1) (if k ≠ r ∧ bitAt (st.1.getD k 0) j = true then (st.1.set k (st.1.getD k 0 ^^^ st.1.getD r 0), st.2.set k (st.2.getD k 0 ^^^ st.2.getD r 0)) else st)
    rw [h1, h2]
    split <;> simp
theorem refK_len (rows wth : List Nat) : ∀ j, (refK rows wth j).1.1.length = rows.length ∧ (refK rows wth j).1.2.length = wth.length := by
  intro j
  induction j with
  | zero => exact ⟨rfl, rfl⟩
  | succ j ih =>
    rw [refK]
    unfold refStep
    split
    · exact ih
    · obtain ⟨h1, h2⟩ := addBoth_len j (refK rows wth j).2 (refK rows wth j).1.1.length 0 (swapRows (refK rows wth j).1.1 _ (refK rows wth j).2, swapRows (refK rows wth j).1.2 _ (refK rows wth j).2)
      rw [h1, h2]; simp only [swapRows_len]; exact ih
theorem findRow_some {rows : List Nat} {j : Nat} : ∀ (n i k : Nat), findRow rows j i n = some k → i ≤ k ∧ k < i + n ∧ bitAt (rows.getD k 0) j = true := by
  intro n
  induction n with
  | zero => intro i k h; cases h
  | succ n ih =>
    intro i k h
    rw [findRow] at h
    split at h
    · rename_i hb; obtain rfl := Option.some.inj h; exact ⟨by omega, by omega, hb⟩
    · obtain ⟨h1, h2, h3⟩ := ih _ _ h; exact ⟨by omega, by omega, h3⟩
/-- all but two blocks are as they were -/
structure Fr2 (b c : Nat) (h h' : IHp) : Prop where
  old : h'.old = h.old
  new : ∀ (i : Nat) (o : IObj), h.new[i]? = some o → 2 * i ≠ b → 2 * i ≠ c → h'.new[i]? = some o
theorem Fr2.refl (b c : Nat) (h : IHp) : Fr2 b c h h := ⟨rfl, fun _ _ h _ _ => h⟩
theorem Fr2.obj {b c : Nat} {h h' : IHp} (f : Fr2 b c h h') {x : Nat} {l : List Value} {t : TypeId} {e : Bool} (o : ObjIs h x l t e) (h1 : x ≠ b) (h2 : x ≠ c) : ObjIs h' x l t e :=
  ⟨o.even, f.new _ _ o.eq (by have := o.even; omega) (by have := o.even; omega)⟩
theorem Fr2.ext {b c : Nat} {h h' h0 : IHp} (f : Fr2 b c h h') (e : Ext h0 h) (l1 : h0.fresh ≤ b) (l2 : h0.fresh ≤ c) : Ext h0 h' := ⟨f.old.trans e.old, fun i o hi => by
  have := (List.getElem?_eq_some_iff.1 hi).1
  unfold IHp.fresh at l1 l2
  exact f.new i o (e.new i o hi) (by omega) (by omega)⟩
instance : CallIs Try.prog 58 := .of Try.func58 rfl rfl
end Go.Ideal

-- Lk
set_option linter.unusedSimpArgs false
set_option linter.unusedVariables false
namespace Go.Ideal
open Go Go.Proofs
theorem All64.replicate (n : Nat) : All64 (List.replicate n 0) := fun x hx => by rw [List.eq_of_mem_replicate hx]; decide
instance : CallIs Try.prog 20 := .of Try.func20 rfl rfl
end Go.Ideal

-- Ll
set_option linter.unusedSimpArgs false
set_option linter.unusedVariables false
namespace Go.Ideal
open Go Go.Proofs
theorem eyeS_lt {n : Int} (h : n ≤ 64) : All64 (eyeS n) := fun x hx => by
  simp only [eyeS, List.mem_map, List.mem_range] at hx
  obtain ⟨i, hi, rfl⟩ := hx
  exact Nat.pow_lt_pow_right (by decide) (by omega)
theorem eyeS_length (n : Int) : (eyeS n).length = n.toNat := by simp [eyeS]
instance : CallIs Try.prog 22 := .of Try.func22 rfl rfl
end Go.Ideal

-- Lm
set_option linter.unusedSimpArgs false
set_option linter.unusedVariables false
namespace Go.Ideal
open Go Go.Proofs
def stepCells (st : List (Nat × Nat)) : List Value := (st.map fun p => [Value.int .i64 p.1, Value.int .i64 p.2]).flatten
theorem stepCells_add (st : List (Nat × Nat)) (a b : Nat) : stepCells (st ++ [(a, b)]) = stepCells st ++ [.int .i64 a, .int .i64 b] := by simp [stepCells]
theorem retK_0 {P : Program} {E : Env} {s : Nat → Value} {h : IHp} {Φ : Value → IHp → Prop} (k : Φ (.tuple #[]) h) {e : IExit} (he : e = .normal ∨ e = .ret) : retK P E [] Φ e s h := by
  unfold retK; exact ⟨he, [], rfl, k⟩
def addStep (rows : List Nat) (f t : Nat) : List Nat := rows.set t (rows.getD t 0 ^^^ rows.getD f 0)
theorem addStep_len (rows : List Nat) (f t : Nat) : (addStep rows f t).length = rows.length := by simp [addStep]
theorem All64.addStep {rows : List Nat} (h : All64 rows) (f t : Nat) : All64 (addStep rows f t) := h.set (Nat.xor_lt_two_pow (h.get t) (h.get f))
theorem add_spec (f t n rb p4 p5 lo k : Nat) (y : Bool) (rows : List Nat) (st : List (Nat × Nat)) (sv : Value) (h : IHp) (hn : rows.length = n) (hf : f < n) (ht : t < n) (h64 : All64 rows) (h4 : rb < p4) (h5 : p4 < p5) (hlo : p5 < lo) (hlo2 : lo ≤ h.fresh) (hk : st.length = k) (hk2 : k ≤ 2 ^ 20)
    (or_ : ObjIs h rb (u64s rows) 25 y) (o4 : ObjIs h p4 [.slice (some (ad rb 0)) n n] 22 true) (o5 : ObjIs h p5 [sv] 97 true) (hs : LstM 2 lo h sv k (stepCells st) 101) :
    EvX Try.prog 78 [.int .i64 f, .int .i64 t, .pointer (some (ad p4 0)), .pointer (some (ad p5 0))].toArray h (fun v h' => (∃ sv', ObjIs h' p5 [sv'] 97 true ∧ LstM 2 lo h' sv' (k + 1) (stepCells (st ++ [(f, t)])) 101) ∧ ObjIs h' rb (u64s (addStep rows f t)) 25 y ∧ ObjIs h' p4 [.slice (some (ad rb 0)) n n] 22 true ∧ (∀ h0, Ext h0 h → h0.fresh ≤ rb → Ext h0 h') ∧ h.fresh ≤ h'.fresh) := by
  have n1 : NeB p4 rb := .of o4.even or_.even (by omega)
  have n2 : NeB p5 rb := .of o5.even or_.even (by omega)
  have n3 : NeB rb p5 := n2.symm
  have n4 : NeB p4 p5 := .of o4.even o5.even (by omega)
  have c1 : CellIs h rb (0 + (t : Int).toNat * 1) (.int .u64 (rows.getD t 0 : Nat)) := by rw [Int.toNat_natCast]; exact cell_u64 or_ (by omega)
  have c2 : CellIs h rb (0 + (f : Int).toNat * 1) (.int .u64 (rows.getD f 0 : Nat)) := by rw [Int.toNat_natCast]; exact cell_u64 or_ (by omega)
  have s1 : SetIs (u64s rows) (0 + (t : Int).toNat * 1) [.int .u64 ((rows.getD t 0 ^^^ rows.getD f 0 : Nat) : Int)] (u64s (addStep rows f t)) := by rw [Int.toNat_natCast]; exact set_u64 _ (by omega)
  rw [← xor_u64 (h64.get t) (h64.get f)] at s1
  have hb1 : 0 ≤ (t : Int) ∧ (t : Int) < (n : Int) := by omega
  have hb2 : 0 ≤ (f : Int) ∧ (f : Int) < (n : Int) := by omega
  obtain ⟨asv, rfl⟩ := hs.isSlice
  refine EvX_of Try.func78 rfl (by show 4 ≤ 22; decide) ?_
  repeat' (refine V_seq ?_)
  refine V_draw (plan := [.take 0, .take 1, .take 2, .take 3, .take 4, .take 5, .take 6, .take 7, .take 8, .take 9, .one 10]) (by kernel_rfl) ?_
  repeat' (first | refine V_region ?_ | refine WS_nil ?_ | refine S_normal ?_ | refine WS_move ?_ | refine WS_arith rfl ?_ | refine WS_load ?_ | refine WS_build ?_ | refine WS_indexAddr (by first | decide | omega) ?_ | refine WS_store rfl ?_ | refine WS_buildSlice (by decide) rfl rfl (by simp [Value.cells]) ?_ | refine WDK_go ?_ | refine WDT_go ?_ | refine WD_nil ?_ | refine WD_load rfl ?_ | refine WD_take rfl rfl ?_ | refine WD_drop rfl rfl ?_)
  obtain ⟨H1, hH1⟩ : ∃ H, H = h.put rb (u64s (addStep rows f t)) 25 y := ⟨_, rfl⟩
  have f1 : H1.fresh = h.fresh := by rw [hH1, putObj_fresh]
  have q1 : ObjIs H1 rb (u64s (addStep rows f t)) 25 y := hH1 ▸ inferInstance
  have q4 : ObjIs H1 p4 [.slice (some (ad rb 0)) n n] 22 true := hH1 ▸ inferInstance
  have q5 : ObjIs H1 p5 [.slice asv k k] 97 true := hH1 ▸ inferInstance
  have hs1 : LstM 2 lo H1 (.slice asv k k) k (stepCells st) 101 := hH1 ▸ hs.put (fun hh => by have := (hs.block hh).1; omega) or_.even
  have hE1 : ∀ h0, Ext h0 h → h0.fresh ≤ rb → Ext h0 H1 := fun h0 e l => hH1 ▸ e.putObj l
  show WS Try.prog _ _ _ _ _ ((h.put rb (u64s (addStep rows f t)) 25 y).push (IObj.cells [Value.int IntKind.i64 ↑f, Value.int IntKind.i64 ↑t] 101 true))
  rw [show (h.put (ad rb 0).block (u64s (addStep rows f t)) 25 y) = H1 from hH1.symm]
  have c3 : CellIs (H1.push (IObj.cells [Value.int IntKind.i64 ↑f, Value.int IntKind.i64 ↑t] 101 true)) H1.fresh 0 (.int .i64 f) := inferInstance
  refine WS_appendM (m := 2) (lo := lo) (hs1.ext (Ext.push _ _)) (by rw [push_fresh]; omega) (by omega) ?_
  intro v' h2 hL2 m2 hb
  rw [push_fresh] at hb
  have nb5 : blockOf (.slice asv k k) ≠ some p5 := fun hh => by have := (hs1.block hh).1; omega
  have r5 : ObjIs h2 p5 [.slice asv k k] 97 true := m2.obj inferInstance nb5
  have r4 : ObjIs h2 p4 [.slice (some (ad rb 0)) n n] 22 true := m2.obj inferInstance (fun hh => by have := (hs1.block hh).1; omega)
  have r1 : ObjIs h2 rb (u64s (addStep rows f t)) 25 y := m2.obj inferInstance (fun hh => by have := (hs1.block hh).1; omega)
  obtain ⟨a2, rfl⟩ := hL2.isSlice
  repeat' (first | refine WS_nil ?_ | refine WS_store rfl ?_)
  have nv : blockOf (.slice a2 (k + 1) (k + 1)) ≠ some p5 := fun hh => by rw [hb] at hh; have := Option.some.inj hh; omega
  refine retK_0 ⟨⟨_, inferInstance, ?_⟩, inferInstance, inferInstance, ?_, ?_⟩ (.inl rfl)
  · rw [stepCells_add]; exact hL2.put nv o5.even
  · intro h0 e l
    have e2 : Ext h0 (H1.push (IObj.cells [Value.int IntKind.i64 ↑f, Value.int IntKind.i64 ↑t] 101 true)) := (hE1 h0 e l).push' _
    have e3 : Ext h0 h2 := m2.extM e2 (((hs1.ext (Ext.push _ _))).lower (by omega))
    exact e3.putObj (by omega)
  · rw [putObj_fresh]
    have := m2.len
    have h3 : (H1.push (IObj.cells [Value.int IntKind.i64 ↑f, Value.int IntKind.i64 ↑t] 101 true)).fresh = h.fresh + 2 := by rw [push_fresh, f1]
    unfold IHp.fresh at *
    omega
instance : CallIs Try.prog 78 := .of Try.func78 rfl rfl
end Go.Ideal
