/- Part 5 of what the proof stands on: an interpreter over an ideal memory that is proved sound, steps over it, and contracts of the functions that are called. No condition: no law is claimed here. -/
import Derived.Test.YtpdmbmekdkfaaaaC4
-- Cc
set_option linter.unusedSimpArgs false
set_option linter.unusedVariables false
namespace Go.Ideal
open Go Go.Proofs
/-! ### Operations and circuits -/
def ints (xs : List Int) : List Value := xs.map (Value.int .i64)
structure OpD where
  kind : Int
  name : ByteArray
  qs : List Int
  bit : Int
  iff : Bool
  mask : Nat
  value : Nat
def OpD.cells (o : OpD) (a : Option Addr) (l c : Nat) : List Value := [.int .i64 o.kind, .string o.name, .slice a l c, .int .i64 o.bit, .bool o.iff, .int .u64 o.mask, .int .u64 o.value]
def SpotOk (a : Option Addr) (c : Nat) : Prop := ∀ d, a = some d → d.spot = none ∨ c = 0
/-- the cells of an operation -/
def OpC (h : IHp) (cells : List Value) (o : OpD) : Prop := ∃ a l c, cells = o.cells a l c ∧ SlIs h a l c (ints o.qs) ∧ o.mask < 2 ^ 64 ∧ o.value < 2 ^ 64 ∧ c < 2 ^ 63 ∧ SpotOk a c
theorem OpC.ext {h h' : IHp} (e : Ext h h') {cells : List Value} {o : OpD} (x : OpC h cells o) : OpC h' cells o := by
  obtain ⟨a, l, c, h1, h2, h3⟩ := x
  exact ⟨a, l, c, h1, h2.ext e, h3⟩
/-- a slice of operations -/
def OpsV (h : IHp) (a : Option Addr) (l c : Nat) (ops : List OpD) : Prop := ops.length = l ∧ l ≤ c ∧ c < 2 ^ 63 ∧ match a with
  | none => c = 0
  | some a => ∀ (i : Nat) (o : OpD), ops[i]? = some o → ∃ cells, h.row a.block (a.off + i * 7) 7 = some cells ∧ OpC h cells o
theorem OpsV.ext {h h' : IHp} (e : Ext h h') {a : Option Addr} {l c : Nat} {ops : List OpD} (x : OpsV h a l c ops) : OpsV h' a l c ops := by
  obtain ⟨h1, h2, h4, h3⟩ := x
  refine ⟨h1, h2, h4, ?_⟩
  cases a with
  | none => exact h3
  | some a =>
    intro i o hi
    obtain ⟨cells, h4, h5⟩ := h3 i o hi
    exact ⟨cells, row_ext e h4, h5.ext e⟩
theorem OpsV.at {h : IHp} {a : Option Addr} {l c : Nat} {ops : List OpD} (x : OpsV h a l c ops) {i : Int} (h0 : 0 ≤ i) (h1 : i < l) : ∃ b o cells, a = some b ∧ ops[i.toNat]? = some o ∧ RowIs h b.block (b.off + i.toNat * 7) 7 cells ∧ OpC h cells o := by
  obtain ⟨h2, h3, _, h4⟩ := x
  have hi : i.toNat < ops.length := by omega
  cases a with
  | none => simp at h4; omega
  | some b =>
    obtain ⟨cells, h5, h6⟩ := h4 i.toNat ops[i.toNat] (List.getElem?_eq_getElem hi)
    exact ⟨b, ops[i.toNat], cells, rfl, List.getElem?_eq_getElem hi, ⟨h5⟩, h6⟩
structure CircD where
  qubits : Int
  bits : Int
  ops : List OpD
def CircV (h : IHp) (v : Value) (c : CircD) : Prop := ∃ a l k, v = .agg [.int .i64 c.qubits, .int .i64 c.bits, .slice a l k].toArray ∧ OpsV h a l k c.ops
theorem CircV.ext {h h' : IHp} (e : Ext h h') {v : Value} {c : CircD} (x : CircV h v c) : CircV h' v c := by
  obtain ⟨a, l, k, h1, h2⟩ := x
  exact ⟨a, l, k, h1, h2.ext e⟩

/-! ### Is a number in a list? -/
/-! ### halves -/
end Go.Ideal

-- Cd
set_option linter.unusedSimpArgs false
set_option linter.unusedVariables false
namespace Go.Ideal
open Go Go.Proofs
/-! ### The shape of an operation -/
end Go.Ideal

-- Ce
set_option linter.unusedSimpArgs false
set_option linter.unusedVariables false
namespace Go.Ideal
open Go Go.Proofs
/-! ### What an operation by itself is refused for -/
end Go.Ideal

-- Cf
set_option linter.unusedSimpArgs false
set_option linter.unusedVariables false
namespace Go.Ideal
open Go Go.Proofs
/-! ### circuit.fault -/
end Go.Ideal

-- Cg
set_option linter.unusedSimpArgs false
set_option linter.unusedVariables false
namespace Go.Ideal
open Go Go.Proofs
end Go.Ideal

-- Ch
set_option linter.unusedSimpArgs false
set_option linter.unusedVariables false
namespace Go.Ideal
open Go Go.Proofs
/-! ### Check -/
end Go.Ideal

-- Ta
set_option linter.unusedSimpArgs false
set_option linter.unusedVariables false
namespace Go.Ideal
open Go Go.Proofs Go.RowKit
/-! ### Circuits as trees; functions of flat values -/
@[reducible] def intT (z : Int) : Tr := .v (.int .i64 z)
@[reducible] def boolT (b : Bool) : Tr := .v (.bool b)
@[reducible] def strT (b : ByteArray) : Tr := .v (.string b)
@[reducible] def u64T (n : Nat) : Tr := .v (.int .u64 n)
def intRows (xs : List Int) : List (List Tr) := xs.map fun x => [intT x]
@[reducible] def opCs (o : OpD) : List Tr := [intT o.kind, strT o.name, .sl 1 (intRows o.qs), intT o.bit, boolT o.iff, u64T o.mask, u64T o.value]
def opRows (os : List OpD) : List (List Tr) := os.map opCs
theorem NthG.map {α β : Type} {l : List α} {i : Nat} {a : α} (f : α → β) (h : l[i]? = some a) : NthG (l.map f) i (f a) := ⟨by rw [List.getElem?_map, h]; rfl⟩
instance {xs : List Int} : LenO (intRows xs) xs.length := ⟨by simp [intRows]⟩
instance {os : List OpD} : LenO (opRows os) os.length := ⟨by simp [opRows]⟩
instance {xs : List Int} : LenT (intRows xs) xs.length := ⟨by simp [intRows]⟩
instance {os : List OpD} : LenT (opRows os) os.length := ⟨by simp [opRows]⟩
theorem vals_inv {F : Mem} : ∀ {ws vs : List Value}, RepL F (ws.map Tr.v) vs → vs = ws := by
  intro ws
  induction ws with
  | nil => intro vs h; simpa only [List.map_nil, RepL] using h
  | cons w ws ih =>
    intro vs h
    simp only [List.map_cons, RepL, Rep.val] at h
    obtain ⟨_, us, rfl, rfl, h3⟩ := h
    rw [ih h3]
/-- a function of plain values -/
theorem Fn_vals {P : Program} {f : FuncId} {ws : List Value} {w : Value} (x : ∀ h : IHp, EvX P f ws.toArray h (fun v h' => v = w ∧ Ext h h')) {t : Tr} (ht : ∀ F, Rep F t w) : Fn P f (ws.map Tr.v) (fun r => r = t) :=
  Fn_flat (fun F0 h vs h1 h2 => by rw [vals_inv h2]; exact x h) ht
theorem arityT (b : ByteArray) : Fn Try.prog 8 [strT b] (fun r => r = intT (arityS b)) := Fn_vals (ws := [_]) (fun h => gateArity_spec b h) (fun F => rep_v _)
theorem halvesGT (b : ByteArray) : Fn Try.prog 10 [strT b] (fun r => r = intT (halvesS b)) := Fn_vals (ws := [_]) (fun h => gateHalves_spec b h) (fun F => rep_v _)
theorem cliffT (b : ByteArray) : Fn Try.prog 12 [strT b] (fun r => r = boolT (cliffS b)) := Fn_vals (ws := [_]) (fun h => gateClifford_spec b h) (fun F => rep_v _)
theorem rep_pair {F : Mem} (a b : Value) : Rep F (.tup [.v a, .v b]) (.tuple [a, b].toArray) := by
  simp only [Rep]; exact ⟨_, rfl, RepL.cons (rep_v _) (RepL.cons (rep_v _) RepL.nil)⟩
theorem backT (b : ByteArray) : Fn Try.prog 16 [strT b] (fun r => r = .tup [strT (backS b).1, intT (backS b).2]) := Fn_vals (ws := [_]) (fun h => gateInverse_spec b h) (fun F => rep_pair _ _)
/-! ### Halves -/
end Go.Ideal

-- Tb
set_option linter.unusedSimpArgs false
set_option linter.unusedVariables false
namespace Go.Ideal
open Go Go.Proofs Go.RowKit
/-! ### Is it so of all operations? -/
theorem drop_cons {α : Type} {l : List α} {i : Nat} {a : α} (h : l[i]? = some a) : l.drop i = a :: l.drop (i + 1) := by
  have hi := (List.getElem?_eq_some_iff.1 h).1
  rw [List.drop_eq_getElem_cons hi]
  rw [List.getElem?_eq_getElem hi] at h
  rw [Option.some.inj h]
end Go.Ideal

-- Twa
set_option linter.unusedSimpArgs false
set_option linter.unusedVariables false
namespace Go.Ideal
open Go Go.Proofs Go.RowKit
/-! ### The gate that takes it back, as the reference tells -/
instance : CallIs Try.prog 17 := .of Try.func17 rfl rfl
end Go.Ideal

-- Ja
set_option linter.unusedSimpArgs false
set_option linter.unusedVariables false
namespace Go.Ideal
open Go Go.Proofs Go.RowKit
/-! ### What tells the columns -/
inductive ColD where
  | flip (bits : Int) (turns : List Int)
  | last (n turn : Int)
  | mixed (own other ownLast : Int)
  | swapped (a b turn : Int)
  | turnedY
  | controlled
def colT : ColD → Tr
  | .flip b ts => .fn 58 [] [.pf [intT b], .pf [.sl 1 (intRows ts)]]
  | .last n t => .fn 59 [] [.pf [intT n], .pf [intT t]]
  | .mixed a b c => .fn 60 [] [.pf [intT a], .pf [intT b], .pf [intT c]]
  | .swapped a b t => .fn 61 [] [.pf [intT a], .pf [intT b], .pf [intT t]]
  | .turnedY => .fn 45 [] []
  | .controlled => .fn 46 [] []
theorem flipT (b : Int) (ts : List Int) : Fn Try.prog 41 [intT b, .sl 1 (intRows ts)] (fun r => r = colT (.flip b ts)) := by
  refine Fn_of Try.func41 rfl (Nat.le_of_ble_eq_true rfl) (fun X => ?_)
  repeat (first | refine StepC.go ?_ | intro _)
  exact retT_1 (.inr rfl) rfl
theorem lastT (a b : Int) : Fn Try.prog 42 [intT a, intT b] (fun r => r = colT (.last a b)) := by
  refine Fn_of Try.func42 rfl (Nat.le_of_ble_eq_true rfl) (fun X => ?_)
  repeat (first | refine StepC.go ?_ | intro _)
  exact retT_1 (.inr rfl) rfl
theorem mixedT (a b c : Int) : Fn Try.prog 43 [intT a, intT b, intT c] (fun r => r = colT (.mixed a b c)) := by
  refine Fn_of Try.func43 rfl (Nat.le_of_ble_eq_true rfl) (fun X => ?_)
  repeat (first | refine StepC.go ?_ | intro _)
  exact retT_1 (.inr rfl) rfl
theorem swappedT (a b c : Int) : Fn Try.prog 44 [intT a, intT b, intT c] (fun r => r = colT (.swapped a b c)) := by
  refine Fn_of Try.func44 rfl (Nat.le_of_ble_eq_true rfl) (fun X => ?_)
  repeat (first | refine StepC.go ?_ | intro _)
  exact retT_1 (.inr rfl) rfl
/-- memory that is new since h0 -/
def newMem (h0 H : IHp) : Mem := fun b off => if h0.fresh ≤ b then H.cell? b off else none
theorem newMem_ext {h0 H H' : IHp} (e : Ext H H') : Sub (newMem h0 H) (newMem h0 H') := fun b off v h => by
  unfold newMem at *
  split at h
  · rename_i hb; rw [if_pos hb]; exact cell_ext e h
  · cases h
theorem newMem_sub {h0 H : IHp} : Sub (newMem h0 H) H.cell? := fun b off v h => by
  unfold newMem at h
  split at h
  · exact h
  · cases h
/-- a closure that is made, at level 2 -/
theorem made_ev {f : FuncId} {ts : List Tr} {t : Tr} {vs : List Value} {h0 H : IHp} (x : Fn Try.prog f ts (fun r => r = t)) (hf : h0.fresh ≤ H.fresh) (hv : RepL (newMem h0 H) ts vs) : EvX Try.prog f vs.toArray H (fun v H' => Ext H H' ∧ Rep (newMem h0 H') t v) := by
  unfold Fn at x
  refine (x (newMem h0 H) H vs newMem_sub hv).mono fun v H' ⟨e, F, r, a1, a2, a3, a4, a5⟩ => ⟨e, ?_⟩
  rw [a5] at a4
  refine Rep.sub (fun b off v h => ?_) a4
  have h1 := a2 _ _ _ h
  unfold newMem
  rcases a3 b off v h with h2 | h2
  · unfold newMem at h2
    split at h2
    · rename_i hb; rw [if_pos hb]; exact h1
    · cases h2
  · rw [if_pos (by omega)]; exact h1
theorem slice_new {h0 H : IHp} {e : Nat} (hf : h0.fresh ≤ H.fresh) (ts : List Int) (hl : ts.length < 2 ^ 63) : Rep (newMem h0 (H.push (.cells (ints ts) e true))) (.sl 1 (intRows ts)) (.slice (some (ad H.fresh 0)) ts.length ts.length) := by
  simp only [Rep]
  refine ⟨_, _, _, rfl, by simp [intRows], Nat.le_refl _, hl, fun d hd => by cases hd; exact .inl rfl, ?_⟩
  have o : ObjIs (H.push (.cells (ints ts) e true)) H.fresh (ints ts) e true := inferInstance
  have hc : ∀ (off : Nat) v, (ints ts)[off]? = some v → newMem h0 (H.push (.cells (ints ts) e true)) H.fresh off = some v := fun off v hv => by
    unfold newMem
    rw [if_pos hf, o.cell]; exact hv
  have key : ∀ (xs : List Int) (off : Nat), (∀ (i : Nat) v, (ints xs)[i]? = some v → newMem h0 (H.push (.cells (ints ts) e true)) H.fresh (off + i) = some v) → RepR (newMem h0 (H.push (.cells (ints ts) e true))) H.fresh 1 (intRows xs) off := by
    intro xs
    induction xs with
    | nil => intro off _; simp [intRows, RepR]
    | cons x xs ih =>
      intro off h
      simp only [intRows, List.map_cons, RepR]
      refine ⟨⟨[.int .i64 x], ?_, RepL.cons (rep_v _) RepL.nil⟩, ?_⟩
      · have := h 0 (.int .i64 x) rfl
        simp only [Nat.add_zero] at this
        simp only [rowM, this, Option.bind_some]
      · refine ih (off + 1) fun i v hv => ?_
        have := h (i + 1) v (by simpa [ints] using hv)
        rw [show off + 1 + i = off + (i + 1) by omega]; exact this
  exact key ts 0 (fun i v hv => by rw [Nat.zero_add]; exact hc i v hv)
end Go.Ideal

-- Jb
set_option linter.unusedSimpArgs false
set_option linter.unusedVariables false
namespace Go.Ideal
open Go Go.Proofs Go.RowKit
/-! ### The gates with what tells their columns -/
def KC : List ColD := [
  .flip 0 [0],
  .flip 1 [0],
  .flip 1 [2, 6],
  .last 1 4,
  .mixed 0 0 4,
  .last 1 2,
  .last 1 6,
  .last 1 1,
  .last 1 7,
  .mixed 1 7 1,
  .mixed 7 1 7,
  .flip 0 [1],
  .flip 0 [7],
  .swapped 1 3 0,
  .turnedY,
  .last 3 4,
  .controlled,
  .last 3 2,
  .last 3 6,
  .swapped 1 2 0,
  .swapped 1 2 2,
  .swapped 1 2 6,
  .swapped 3 7 0,
  .last 7 4,
  .swapped 3 5 0]
structure KInv2 (h0 H : IHp) (m n : Nat) (cs : List Value) : Prop where
  ext : Ext h0 H
  lo : h0.fresh ≤ m
  map : MapIs H m (rowsOf (KT.take n) cs)
  len : cs.length = n
  fns : ∀ (i : Nat) c, cs[i]? = some c → ∃ q, KC[i]? = some q ∧ Rep (newMem h0 H) (colT q) c
theorem KInv2.grow {h0 H H' : IHp} {m n : Nat} {cs : List Value} (k : KInv2 h0 H m n cs) (e : Ext H H') : KInv2 h0 H' m n cs := ⟨k.ext.trans e, k.lo, k.map.ext e, k.len, fun i c hc => let ⟨q, a, b⟩ := k.fns i c hc; ⟨q, a, Rep.sub (newMem_ext e) b⟩⟩
theorem KInv2.add {h0 H H' : IHp} {m n : Nat} {cs : List Value} {c : Value} {e : KE} {q : ColD} {b : ByteArray} {v : Value} (k : KInv2 h0 H m n cs) (he : KT[n]? = some e) (hq : KC[n]? = some q) (hb : (b, v) = krow e c) (hc : Rep (newMem h0 H) (colT q) c)
    (hH : H' = H.putObj m (.map (ents (rowsOf (KT.take n) cs ++ [(b, v)]) 0) (rowsOf (KT.take n) cs ++ [(b, v)]).length)) : KInv2 h0 H' m (n + 1) (cs ++ [c]) := by
  have hn : n < KT.length := (List.getElem?_eq_some_iff.1 he).1
  have hr : rowsOf (KT.take (n + 1)) (cs ++ [c]) = rowsOf (KT.take n) cs ++ [(b, v)] := by
    rw [List.take_add_one, he, rowsOf, rowsOf, hb]
    simp only [Option.toList_some]
    rw [List.zipWith_append (by rw [List.length_take, k.len]; omega)]
    rfl
  have hs : Sub (newMem h0 H) (newMem h0 H') := fun b off u h => by
    unfold newMem at *
    split at h
    · rename_i hb2
      rw [if_pos hb2, hH]
      have hm := k.map
      unfold IHp.cell? at h ⊢
      split
      · rename_i ho; rw [if_pos ho] at h; exact h
      · rename_i ho
        rw [if_neg ho] at h
        simp only [IHp.putObj]
        by_cases e2 : b / 2 = m / 2
        · rw [e2, hm.eq] at h; cases h
        · rw [List.getElem?_set_ne (fun x => e2 x.symm)]; exact h
    · cases h
  refine ⟨by rw [hH]; exact k.ext.putObj k.lo, k.lo, ?_, by simp [k.len], fun i c' hc' => ?_⟩
  · rw [hr, hH]
    refine ⟨k.map.even, ?_⟩
    have := (List.getElem?_eq_some_iff.1 k.map.eq).1
    simp [IHp.putObj, this]
  · rw [List.getElem?_append] at hc'
    split at hc'
    · obtain ⟨q', a, r⟩ := k.fns i c' hc'
      exact ⟨q', a, Rep.sub hs r⟩
    · rename_i hi
      have hi2 : i = n := by
        have := (List.getElem?_eq_some_iff.1 hc').1
        simp at this
        have := k.len
        omega
      subst hi2
      rw [k.len, Nat.sub_self] at hc'
      cases hc'
      exact ⟨q, hq, Rep.sub hs hc⟩
theorem KInv2.fresh {h0 H : IHp} {m n : Nat} {cs : List Value} (k : KInv2 h0 H m n cs) : h0.fresh ≤ H.fresh := k.ext.fresh
theorem col_fn {F : Mem} {q : ColD} {c : Value} (h : Rep F (colT q) c) : ∃ f a b, c = .func (.func f) a b := by
  cases q <;> (simp only [colT, Rep] at h; obtain ⟨va, vb, h, _⟩ := h; exact ⟨_, _, _, h⟩)
set_option maxHeartbeats 4000000 in
theorem kinds_spec2 (h : IHp) : EvX Try.prog 30 [].toArray h (fun v h' => Ext h h' ∧ ∃ m cs, v = .map (some m) ∧ h.fresh ≤ m ∧ MapIs h' m (rowsOf KT cs) ∧ cs.length = 25 ∧ ∀ (i : Nat) c, cs[i]? = some c → ∃ q, KC[i]? = some q ∧ Rep (newMem h h') (colT q) c) := by
  refine EvX_of Try.func30 rfl (by show 0 ≤ 56; decide) ?_
  repeat (first | refine V_seq ?_ | refine V_region ?_ | refine WS_nil ?_ | refine S_normal ?_ | refine WS_assign ?_)
  refine WS_makeMap ?_
  refine WS_gen ?_
  intro H0 hH0
  have k0 : KInv2 h H0 h.fresh 0 [] := ⟨hH0 ▸ Ext.push _ _, Nat.le_refl _, ⟨by unfold IHp.fresh; omega, by rw [hH0]; exact obj_push h _⟩, rfl, fun i c hc => by simp at hc⟩
  obtain ⟨m, hm⟩ : ∃ m, m = h.fresh := ⟨_, rfl⟩
  rw [← hm] at k0 ⊢
  clear hH0
  repeat (refine WS_buildSlice (by decide) rfl rfl (by simp [Value.cells]) ?_)
  refine WS_gen ?_
  intro G hG
  have sl : Rep (newMem h G) (.sl 1 (intRows [0])) (.slice (some (ad H0.fresh 0)) 1 1) := hG ▸ slice_new k0.fresh [0] (by decide)
  have k0 := k0.grow (H' := G) (hG ▸ Ext.push _ _)
  clear hG
  refine WS_call (made_ev (flipT 0 [0]) k0.fresh (RepL.cons (rep_v _) (RepL.cons sl RepL.nil))) ?_
  rintro c G ⟨eG, rc⟩
  have k0 := k0.grow eG
  obtain ⟨f, a, b, rfl⟩ := col_fn rc
  repeat (refine WS_build ?_)
  refine WS_insert (mi := k0.map) (look_none _ _ (by decide +kernel)) ?_
  refine WS_gen ?_
  intro H1 hH
  have k1 := k0.add (e := ⟨(⟨#[105]⟩ : ByteArray), 1, 0, true, true, (⟨#[105]⟩ : ByteArray)⟩) rfl rfl rfl rc hH
  refine WS_live1 1 ?_
  intro s g1
  clear hH
  repeat (refine WS_buildSlice (by decide) rfl rfl (by simp [Value.cells]) ?_)
  refine WS_gen ?_
  intro G hG
  have sl : Rep (newMem h G) (.sl 1 (intRows [0])) (.slice (some (ad H1.fresh 0)) 1 1) := hG ▸ slice_new k1.fresh [0] (by decide)
  have k1 := k1.grow (H' := G) (hG ▸ Ext.push _ _)
  clear hG
  refine WS_call (made_ev (flipT 1 [0]) k1.fresh (RepL.cons (rep_v _) (RepL.cons sl RepL.nil))) ?_
  rintro c G ⟨eG, rc⟩
  have k1 := k1.grow eG
  obtain ⟨f, a, b, rfl⟩ := col_fn rc
  repeat (refine WS_build ?_)
  refine WS_insert (mi := k1.map) (look_none _ _ (by decide +kernel)) ?_
  refine WS_gen ?_
  intro H2 hH
  have k2 := k1.add (e := ⟨(⟨#[120]⟩ : ByteArray), 1, 0, true, false, (⟨#[120]⟩ : ByteArray)⟩) rfl rfl rfl rc hH
  refine WS_live1 1 ?_
  intro s g1
  clear hH
  repeat (refine WS_buildSlice (by decide) rfl rfl (by simp [Value.cells]) ?_)
  refine WS_gen ?_
  intro G hG
  have sl : Rep (newMem h G) (.sl 1 (intRows [2, 6])) (.slice (some (ad H2.fresh 0)) 2 2) := hG ▸ slice_new k2.fresh [2, 6] (by decide)
  have k2 := k2.grow (H' := G) (hG ▸ Ext.push _ _)
  clear hG
  refine WS_call (made_ev (flipT 1 [2, 6]) k2.fresh (RepL.cons (rep_v _) (RepL.cons sl RepL.nil))) ?_
  rintro c G ⟨eG, rc⟩
  have k2 := k2.grow eG
  obtain ⟨f, a, b, rfl⟩ := col_fn rc
  repeat (refine WS_build ?_)
  refine WS_insert (mi := k2.map) (look_none _ _ (by decide +kernel)) ?_
  refine WS_gen ?_
  intro H3 hH
  have k3 := k2.add (e := ⟨(⟨#[121]⟩ : ByteArray), 1, 0, true, false, (⟨#[121]⟩ : ByteArray)⟩) rfl rfl rfl rc hH
  refine WS_live1 1 ?_
  intro s g1
  clear hH
  skip
  refine WS_call (made_ev (lastT 1 4) k3.fresh (RepL.cons (rep_v _) (RepL.cons (rep_v _) RepL.nil))) ?_
  rintro c G ⟨eG, rc⟩
  have k3 := k3.grow eG
  obtain ⟨f, a, b, rfl⟩ := col_fn rc
  repeat (refine WS_build ?_)
  refine WS_insert (mi := k3.map) (look_none _ _ (by decide +kernel)) ?_
  refine WS_gen ?_
  intro H4 hH
  have k4 := k3.add (e := ⟨(⟨#[122]⟩ : ByteArray), 1, 0, true, true, (⟨#[122]⟩ : ByteArray)⟩) rfl rfl rfl rc hH
  refine WS_live1 1 ?_
  intro s g1
  clear hH
  skip
  refine WS_call (made_ev (mixedT 0 0 4) k4.fresh (RepL.cons (rep_v _) (RepL.cons (rep_v _) (RepL.cons (rep_v _) RepL.nil)))) ?_
  rintro c G ⟨eG, rc⟩
  have k4 := k4.grow eG
  obtain ⟨f, a, b, rfl⟩ := col_fn rc
  repeat (refine WS_build ?_)
  refine WS_insert (mi := k4.map) (look_none _ _ (by decide +kernel)) ?_
  refine WS_gen ?_
  intro H5 hH
  have k5 := k4.add (e := ⟨(⟨#[104]⟩ : ByteArray), 1, 1, true, false, (⟨#[104]⟩ : ByteArray)⟩) rfl rfl rfl rc hH
  refine WS_live1 1 ?_
  intro s g1
  clear hH
  skip
  refine WS_call (made_ev (lastT 1 2) k5.fresh (RepL.cons (rep_v _) (RepL.cons (rep_v _) RepL.nil))) ?_
  rintro c G ⟨eG, rc⟩
  have k5 := k5.grow eG
  obtain ⟨f, a, b, rfl⟩ := col_fn rc
  repeat (refine WS_build ?_)
  refine WS_insert (mi := k5.map) (look_none _ _ (by decide +kernel)) ?_
  refine WS_gen ?_
  intro H6 hH
  have k6 := k5.add (e := ⟨(⟨#[115]⟩ : ByteArray), 1, 0, true, true, (⟨#[115, 100, 103]⟩ : ByteArray)⟩) rfl rfl rfl rc hH
  refine WS_live1 1 ?_
  intro s g1
  clear hH
  skip
  refine WS_call (made_ev (lastT 1 6) k6.fresh (RepL.cons (rep_v _) (RepL.cons (rep_v _) RepL.nil))) ?_
  rintro c G ⟨eG, rc⟩
  have k6 := k6.grow eG
  obtain ⟨f, a, b, rfl⟩ := col_fn rc
  repeat (refine WS_build ?_)
  refine WS_insert (mi := k6.map) (look_none _ _ (by decide +kernel)) ?_
  refine WS_gen ?_
  intro H7 hH
  have k7 := k6.add (e := ⟨(⟨#[115, 100, 103]⟩ : ByteArray), 1, 0, true, true, (⟨#[115]⟩ : ByteArray)⟩) rfl rfl rfl rc hH
  refine WS_live1 1 ?_
  intro s g1
  clear hH
  skip
  refine WS_call (made_ev (lastT 1 1) k7.fresh (RepL.cons (rep_v _) (RepL.cons (rep_v _) RepL.nil))) ?_
  rintro c G ⟨eG, rc⟩
  have k7 := k7.grow eG
  obtain ⟨f, a, b, rfl⟩ := col_fn rc
  repeat (refine WS_build ?_)
  refine WS_insert (mi := k7.map) (look_none _ _ (by decide +kernel)) ?_
  refine WS_gen ?_
  intro H8 hH
  have k8 := k7.add (e := ⟨(⟨#[116]⟩ : ByteArray), 1, 0, false, true, (⟨#[116, 100, 103]⟩ : ByteArray)⟩) rfl rfl rfl rc hH
  refine WS_live1 1 ?_
  intro s g1
  clear hH
  skip
  refine WS_call (made_ev (lastT 1 7) k8.fresh (RepL.cons (rep_v _) (RepL.cons (rep_v _) RepL.nil))) ?_
  rintro c G ⟨eG, rc⟩
  have k8 := k8.grow eG
  obtain ⟨f, a, b, rfl⟩ := col_fn rc
  repeat (refine WS_build ?_)
  refine WS_insert (mi := k8.map) (look_none _ _ (by decide +kernel)) ?_
  refine WS_gen ?_
  intro H9 hH
  have k9 := k8.add (e := ⟨(⟨#[116, 100, 103]⟩ : ByteArray), 1, 0, false, true, (⟨#[116]⟩ : ByteArray)⟩) rfl rfl rfl rc hH
  refine WS_live1 1 ?_
  intro s g1
  clear hH
  skip
  refine WS_call (made_ev (mixedT 1 7 1) k9.fresh (RepL.cons (rep_v _) (RepL.cons (rep_v _) (RepL.cons (rep_v _) RepL.nil)))) ?_
  rintro c G ⟨eG, rc⟩
  have k9 := k9.grow eG
  obtain ⟨f, a, b, rfl⟩ := col_fn rc
  repeat (refine WS_build ?_)
  refine WS_insert (mi := k9.map) (look_none _ _ (by decide +kernel)) ?_
  refine WS_gen ?_
  intro H10 hH
  have k10 := k9.add (e := ⟨(⟨#[118]⟩ : ByteArray), 1, 1, true, false, (⟨#[118, 100, 103]⟩ : ByteArray)⟩) rfl rfl rfl rc hH
  refine WS_live1 1 ?_
  intro s g1
  clear hH
  skip
  refine WS_call (made_ev (mixedT 7 1 7) k10.fresh (RepL.cons (rep_v _) (RepL.cons (rep_v _) (RepL.cons (rep_v _) RepL.nil)))) ?_
  rintro c G ⟨eG, rc⟩
  have k10 := k10.grow eG
  obtain ⟨f, a, b, rfl⟩ := col_fn rc
  repeat (refine WS_build ?_)
  refine WS_insert (mi := k10.map) (look_none _ _ (by decide +kernel)) ?_
  refine WS_gen ?_
  intro H11 hH
  have k11 := k10.add (e := ⟨(⟨#[118, 100, 103]⟩ : ByteArray), 1, 1, true, false, (⟨#[118]⟩ : ByteArray)⟩) rfl rfl rfl rc hH
  refine WS_live1 1 ?_
  intro s g1
  clear hH
  repeat (refine WS_buildSlice (by decide) rfl rfl (by simp [Value.cells]) ?_)
  refine WS_gen ?_
  intro G hG
  have sl : Rep (newMem h G) (.sl 1 (intRows [1])) (.slice (some (ad H11.fresh 0)) 1 1) := hG ▸ slice_new k11.fresh [1] (by decide)
  have k11 := k11.grow (H' := G) (hG ▸ Ext.push _ _)
  clear hG
  refine WS_call (made_ev (flipT 0 [1]) k11.fresh (RepL.cons (rep_v _) (RepL.cons sl RepL.nil))) ?_
  rintro c G ⟨eG, rc⟩
  have k11 := k11.grow eG
  obtain ⟨f, a, b, rfl⟩ := col_fn rc
  repeat (refine WS_build ?_)
  refine WS_insert (mi := k11.map) (look_none _ _ (by decide +kernel)) ?_
  refine WS_gen ?_
  intro H12 hH
  have k12 := k11.add (e := ⟨(⟨#[119]⟩ : ByteArray), 1, 0, true, true, (⟨#[119, 100, 103]⟩ : ByteArray)⟩) rfl rfl rfl rc hH
  refine WS_live1 1 ?_
  intro s g1
  clear hH
  repeat (refine WS_buildSlice (by decide) rfl rfl (by simp [Value.cells]) ?_)
  refine WS_gen ?_
  intro G hG
  have sl : Rep (newMem h G) (.sl 1 (intRows [7])) (.slice (some (ad H12.fresh 0)) 1 1) := hG ▸ slice_new k12.fresh [7] (by decide)
  have k12 := k12.grow (H' := G) (hG ▸ Ext.push _ _)
  clear hG
  refine WS_call (made_ev (flipT 0 [7]) k12.fresh (RepL.cons (rep_v _) (RepL.cons sl RepL.nil))) ?_
  rintro c G ⟨eG, rc⟩
  have k12 := k12.grow eG
  obtain ⟨f, a, b, rfl⟩ := col_fn rc
  repeat (refine WS_build ?_)
  refine WS_insert (mi := k12.map) (look_none _ _ (by decide +kernel)) ?_
  refine WS_gen ?_
  intro H13 hH
  have k13 := k12.add (e := ⟨(⟨#[119, 100, 103]⟩ : ByteArray), 1, 0, true, true, (⟨#[119]⟩ : ByteArray)⟩) rfl rfl rfl rc hH
  refine WS_live1 1 ?_
  intro s g1
  clear hH
  skip
  refine WS_call (made_ev (swappedT 1 3 0) k13.fresh (RepL.cons (rep_v _) (RepL.cons (rep_v _) (RepL.cons (rep_v _) RepL.nil)))) ?_
  rintro c G ⟨eG, rc⟩
  have k13 := k13.grow eG
  obtain ⟨f, a, b, rfl⟩ := col_fn rc
  repeat (refine WS_build ?_)
  refine WS_insert (mi := k13.map) (look_none _ _ (by decide +kernel)) ?_
  refine WS_gen ?_
  intro H14 hH
  have k14 := k13.add (e := ⟨(⟨#[99, 120]⟩ : ByteArray), 2, 0, true, false, (⟨#[99, 120]⟩ : ByteArray)⟩) rfl rfl rfl rc hH
  refine WS_live1 1 ?_
  intro s g1
  clear hH
  repeat (refine WS_build ?_)
  have rc : Rep (newMem h H14) (colT .turnedY) (.func (.func 45) #[] #[]) := by
    simp only [colT, Rep]
    exact ⟨[], [], rfl, RepL.nil, RepL.nil⟩
  refine WS_insert (mi := k14.map) (look_none _ _ (by decide +kernel)) ?_
  refine WS_gen ?_
  intro H15 hH
  have k15 := k14.add (e := ⟨(⟨#[99, 121]⟩ : ByteArray), 2, 0, true, false, (⟨#[99, 121]⟩ : ByteArray)⟩) rfl rfl rfl rc hH
  refine WS_live1 1 ?_
  intro s g1
  clear hH
  skip
  refine WS_call (made_ev (lastT 3 4) k15.fresh (RepL.cons (rep_v _) (RepL.cons (rep_v _) RepL.nil))) ?_
  rintro c G ⟨eG, rc⟩
  have k15 := k15.grow eG
  obtain ⟨f, a, b, rfl⟩ := col_fn rc
  repeat (refine WS_build ?_)
  refine WS_insert (mi := k15.map) (look_none _ _ (by decide +kernel)) ?_
  refine WS_gen ?_
  intro H16 hH
  have k16 := k15.add (e := ⟨(⟨#[99, 122]⟩ : ByteArray), 2, 0, true, true, (⟨#[99, 122]⟩ : ByteArray)⟩) rfl rfl rfl rc hH
  refine WS_live1 1 ?_
  intro s g1
  clear hH
  repeat (refine WS_build ?_)
  have rc : Rep (newMem h H16) (colT .controlled) (.func (.func 46) #[] #[]) := by
    simp only [colT, Rep]
    exact ⟨[], [], rfl, RepL.nil, RepL.nil⟩
  refine WS_insert (mi := k16.map) (look_none _ _ (by decide +kernel)) ?_
  refine WS_gen ?_
  intro H17 hH
  have k17 := k16.add (e := ⟨(⟨#[99, 104]⟩ : ByteArray), 2, 1, false, false, (⟨#[99, 104]⟩ : ByteArray)⟩) rfl rfl rfl rc hH
  refine WS_live1 1 ?_
  intro s g1
  clear hH
  skip
  refine WS_call (made_ev (lastT 3 2) k17.fresh (RepL.cons (rep_v _) (RepL.cons (rep_v _) RepL.nil))) ?_
  rintro c G ⟨eG, rc⟩
  have k17 := k17.grow eG
  obtain ⟨f, a, b, rfl⟩ := col_fn rc
  repeat (refine WS_build ?_)
  refine WS_insert (mi := k17.map) (look_none _ _ (by decide +kernel)) ?_
  refine WS_gen ?_
  intro H18 hH
  have k18 := k17.add (e := ⟨(⟨#[99, 115]⟩ : ByteArray), 2, 0, false, true, (⟨#[99, 115, 100, 103]⟩ : ByteArray)⟩) rfl rfl rfl rc hH
  refine WS_live1 1 ?_
  intro s g1
  clear hH
  skip
  refine WS_call (made_ev (lastT 3 6) k18.fresh (RepL.cons (rep_v _) (RepL.cons (rep_v _) RepL.nil))) ?_
  rintro c G ⟨eG, rc⟩
  have k18 := k18.grow eG
  obtain ⟨f, a, b, rfl⟩ := col_fn rc
  repeat (refine WS_build ?_)
  refine WS_insert (mi := k18.map) (look_none _ _ (by decide +kernel)) ?_
  refine WS_gen ?_
  intro H19 hH
  have k19 := k18.add (e := ⟨(⟨#[99, 115, 100, 103]⟩ : ByteArray), 2, 0, false, true, (⟨#[99, 115]⟩ : ByteArray)⟩) rfl rfl rfl rc hH
  refine WS_live1 1 ?_
  intro s g1
  clear hH
  skip
  refine WS_call (made_ev (swappedT 1 2 0) k19.fresh (RepL.cons (rep_v _) (RepL.cons (rep_v _) (RepL.cons (rep_v _) RepL.nil)))) ?_
  rintro c G ⟨eG, rc⟩
  have k19 := k19.grow eG
  obtain ⟨f, a, b, rfl⟩ := col_fn rc
  repeat (refine WS_build ?_)
  refine WS_insert (mi := k19.map) (look_none _ _ (by decide +kernel)) ?_
  refine WS_gen ?_
  intro H20 hH
  have k20 := k19.add (e := ⟨(⟨#[115, 119, 97, 112]⟩ : ByteArray), 2, 0, true, false, (⟨#[115, 119, 97, 112]⟩ : ByteArray)⟩) rfl rfl rfl rc hH
  refine WS_live1 1 ?_
  intro s g1
  clear hH
  skip
  refine WS_call (made_ev (swappedT 1 2 2) k20.fresh (RepL.cons (rep_v _) (RepL.cons (rep_v _) (RepL.cons (rep_v _) RepL.nil)))) ?_
  rintro c G ⟨eG, rc⟩
  have k20 := k20.grow eG
  obtain ⟨f, a, b, rfl⟩ := col_fn rc
  repeat (refine WS_build ?_)
  refine WS_insert (mi := k20.map) (look_none _ _ (by decide +kernel)) ?_
  refine WS_gen ?_
  intro H21 hH
  have k21 := k20.add (e := ⟨(⟨#[105, 115, 119, 97, 112]⟩ : ByteArray), 2, 0, true, false, (⟨#[105, 115, 119, 97, 112, 100, 103]⟩ : ByteArray)⟩) rfl rfl rfl rc hH
  refine WS_live1 1 ?_
  intro s g1
  clear hH
  skip
  refine WS_call (made_ev (swappedT 1 2 6) k21.fresh (RepL.cons (rep_v _) (RepL.cons (rep_v _) (RepL.cons (rep_v _) RepL.nil)))) ?_
  rintro c G ⟨eG, rc⟩
  have k21 := k21.grow eG
  obtain ⟨f, a, b, rfl⟩ := col_fn rc
  repeat (refine WS_build ?_)
  refine WS_insert (mi := k21.map) (look_none _ _ (by decide +kernel)) ?_
  refine WS_gen ?_
  intro H22 hH
  have k22 := k21.add (e := ⟨(⟨#[105, 115, 119, 97, 112, 100, 103]⟩ : ByteArray), 2, 0, true, false, (⟨#[105, 115, 119, 97, 112]⟩ : ByteArray)⟩) rfl rfl rfl rc hH
  refine WS_live1 1 ?_
  intro s g1
  clear hH
  skip
  refine WS_call (made_ev (swappedT 3 7 0) k22.fresh (RepL.cons (rep_v _) (RepL.cons (rep_v _) (RepL.cons (rep_v _) RepL.nil)))) ?_
  rintro c G ⟨eG, rc⟩
  have k22 := k22.grow eG
  obtain ⟨f, a, b, rfl⟩ := col_fn rc
  repeat (refine WS_build ?_)
  refine WS_insert (mi := k22.map) (look_none _ _ (by decide +kernel)) ?_
  refine WS_gen ?_
  intro H23 hH
  have k23 := k22.add (e := ⟨(⟨#[99, 99, 120]⟩ : ByteArray), 3, 0, false, false, (⟨#[99, 99, 120]⟩ : ByteArray)⟩) rfl rfl rfl rc hH
  refine WS_live1 1 ?_
  intro s g1
  clear hH
  skip
  refine WS_call (made_ev (lastT 7 4) k23.fresh (RepL.cons (rep_v _) (RepL.cons (rep_v _) RepL.nil))) ?_
  rintro c G ⟨eG, rc⟩
  have k23 := k23.grow eG
  obtain ⟨f, a, b, rfl⟩ := col_fn rc
  repeat (refine WS_build ?_)
  refine WS_insert (mi := k23.map) (look_none _ _ (by decide +kernel)) ?_
  refine WS_gen ?_
  intro H24 hH
  have k24 := k23.add (e := ⟨(⟨#[99, 99, 122]⟩ : ByteArray), 3, 0, false, true, (⟨#[99, 99, 122]⟩ : ByteArray)⟩) rfl rfl rfl rc hH
  refine WS_live1 1 ?_
  intro s g1
  clear hH
  skip
  refine WS_call (made_ev (swappedT 3 5 0) k24.fresh (RepL.cons (rep_v _) (RepL.cons (rep_v _) (RepL.cons (rep_v _) RepL.nil)))) ?_
  rintro c G ⟨eG, rc⟩
  have k24 := k24.grow eG
  obtain ⟨f, a, b, rfl⟩ := col_fn rc
  repeat (refine WS_build ?_)
  refine WS_insert (mi := k24.map) (look_none _ _ (by decide +kernel)) ?_
  refine WS_gen ?_
  intro H25 hH
  have k25 := k24.add (e := ⟨(⟨#[99, 115, 119, 97, 112]⟩ : ByteArray), 3, 0, false, false, (⟨#[99, 115, 119, 97, 112]⟩ : ByteArray)⟩) rfl rfl rfl rc hH
  refine WS_live1 1 ?_
  intro s g1
  clear hH
  repeat (first | refine WS_nil ?_ | refine S_normal ?_ | refine V_ret ?_ | refine WS_move ?_ | refine WS_assign ?_)
  exact retK_1 ⟨k25.ext, _, _, rfl, by rw [hm]; exact Nat.le_refl _, k25.map, k25.len, k25.fns⟩ (.inr rfl)
end Go.Ideal

-- Jc
set_option linter.unusedSimpArgs false
set_option linter.unusedVariables false
namespace Go.Ideal
open Go Go.Proofs Go.RowKit
/-! ### A gate is looked up -/
def colOf (b : ByteArray) : Option ColD := ((KT.zip KC).find? fun x => beqS b x.1.name).map (·.2)
theorem look2 {b : ByteArray} {R : ColD → Value → Prop} : ∀ (es : List KE) (qs : List ColD) (cs : List Value), cs.length = es.length → qs.length = es.length → (∀ (i : Nat) c, cs[i]? = some c → ∃ q, qs[i]? = some q ∧ R q c) →
    match es.find? (fun e => beqS b e.name) with
    | none => lookB b (rowsOf es cs) = none
    | some e => ∃ c q, lookB b (rowsOf es cs) = some (krow e c).2 ∧ ((es.zip qs).find? fun x => beqS b x.1.name).map (·.2) = some q ∧ R q c := by
  intro es
  induction es with
  | nil => intro qs cs h _ _; cases cs <;> simp [rowsOf, lookB] at h ⊢
  | cons e es ih =>
    intro qs cs h h2 hR
    match cs, qs, h, h2 with
    | c :: cs, q :: qs, h, h2 =>
      simp only [List.length_cons, Nat.add_right_cancel_iff] at h h2
      rw [List.find?_cons]
      cases hb : beqS b e.name with
      | true =>
        obtain ⟨q', h3, h4⟩ := hR 0 c rfl
        cases h3
        exact ⟨c, q, by simp [rowsOf, krow, lookB, hb], by simp [hb], h4⟩
      | false =>
        have h1 := ih qs cs h h2 (fun i c hc => hR (i + 1) c hc)
        cases hf : es.find? (fun e => beqS b e.name) with
        | none => rw [hf] at h1; simp only at h1 ⊢; simpa [rowsOf, krow, lookB, hb] using h1
        | some e' =>
          rw [hf] at h1
          obtain ⟨c', q', h3, h4, h5⟩ := h1
          exact ⟨c', q', by simpa [rowsOf, krow, lookB, hb] using h3, by simpa [hb] using h4, h5⟩
@[reducible] def kT (e : KE) (q : ColD) : Tr := .agg [intT e.arity, intT e.halves, boolT e.cliff, boolT e.diag, strT e.back, colT q]
section
variable {X : Cx} {E : Env} {σ : Nat → Tr} {B : Boxes} {ops : Array Oper} {K : TK} {l : List Oper} {H : List (Nat × Nat)}
theorem TS_kinds {b : ByteArray} {d1 dk d2 : Tmp} {t kt et : TypeId} {ty1 ty2 ty3 : TypeId} {p1 p2 p3 : String} {a1 a2 a3 : Array Edge} {at_ : Array TypeId} [ex : TGet σ 0 (strT b)] (h10 : Nat.beq 0 d1 = false) (h1k : Nat.beq d1 dk = false) [u : UnderIs Try.prog t (.map kt et)] [uk : UnderIs Try.prog kt .string] [zi : ZeroIs Try.prog et (.agg [.int .i64 0, .int .i64 0, .bool false, .bool false, .string ByteArray.empty, .nilFunc].toArray)]
    (k0 : kOf b = none → ∀ m, TS X Try.prog E ops K l H (putT (putT (putT σ (some d1) (.v (.map (some m)))) (some dk) (strT b)) (some d2) (.tup [.agg [intT 0, intT 0, boolT false, boolT false, strT ByteArray.empty, .v .nilFunc], boolT false])) B)
    (k1 : ∀ e q, kOf b = some e → colOf b = some q → ∀ m, TS X Try.prog E ops K l H (putT (putT (putT σ (some d1) (.v (.map (some m)))) (some dk) (strT b)) (some d2) (.tup [kT e q, boolT true])) B) :
    TS X Try.prog E ops K (⟨some d1, .call ⟨.value (.func 30), #[], at_⟩, ty1, p1, a1, none⟩ :: ⟨some dk, .move (.tmp 0), ty2, p2, a2, none⟩ :: ⟨some d2, .lookup t (.tmp d1) (.tmp dk) true, ty3, p3, a3, none⟩ :: l) H σ B := by
  unfold TS at *
  intro F s h held r hh
  have g0 : Get s 0 (.string b) := ex.is r
  refine WS_call (ps := []) (kinds_spec2 h) ?_
  rintro _ h' ⟨ext, m, cs, rfl, hm, mi, hl, fns⟩
  have g1 : Get (putS s (some d1) (.map (some m))) 0 (.string b) := Get.ne h10 g0
  refine WS_move ?_
  have g2 : Get (putS (putS s (some d1) (.map (some m))) (some dk) (.string b)) d1 (.map (some m)) := Get.ne h1k inferInstance
  refine WS_lookup_ok ?_
  have hF : Sub F (fun b off => if h.fresh ≤ b then h'.cell? b off else F b off) := fun b off v hf => by
    by_cases hb : h.fresh ≤ b
    · simp only [hb, if_true]; exact cell_ext ext (r.sub _ _ _ hf)
    · simp only [hb, if_false]; exact hf
  have r' := r.grow ext hF (fun b off v hf => by
    by_cases hb : h.fresh ≤ b
    · simp only [hb, if_true] at hf; exact hf
    · simp only [hb, if_false] at hf; exact cell_ext ext (r.sub _ _ _ hf)) (fun b off v hf => by
    by_cases hb : h.fresh ≤ b
    · exact .inr hb
    · simp only [hb, if_false] at hf; exact .inl hf)
  have hN : Sub (newMem h h') (fun b off => if h.fresh ≤ b then h'.cell? b off else F b off) := fun b off v hf => by
    unfold newMem at hf
    split at hf
    · rename_i hb; simp only [hb, if_true]; exact hf
    · cases hf
  have hh' : HeldOk (fun b off => if h.fresh ≤ b then h'.cell? b off else F b off) B H h' held := hh.keys (fun b off v hc => cell_ext ext hc) hF (fun b hb => hb)
  have h3 := look2 (b := b) (R := fun q c => Rep (newMem h h') (colT q) c) KT KC cs hl rfl fns
  cases hk : kOf b with
  | none =>
    unfold kOf at hk
    rw [hk] at h3
    simp only at h3
    rw [h3]
    refine k0 hk m _ _ h' held (((r'.put (rep_v _)).put (rep_v _)).put ?_) hh'
    simp only [Rep]
    exact ⟨_, rfl, RepL.cons (by simp only [Rep]; exact ⟨_, rfl, RepL.cons (rep_v _) (RepL.cons (rep_v _) (RepL.cons (rep_v _) (RepL.cons (rep_v _) (RepL.cons (rep_v _) (RepL.cons (rep_v _) RepL.nil)))))⟩) (RepL.cons (rep_v _) RepL.nil)⟩
  | some e =>
    have hk' := hk
    unfold kOf at hk
    rw [hk] at h3
    obtain ⟨c, q, h4, h5, h6⟩ := h3
    rw [h4]
    refine k1 e q hk' h5 m _ _ h' held (((r'.put (rep_v _)).put (rep_v _)).put ?_) hh'
    simp only [Rep]
    exact ⟨_, rfl, RepL.cons (by simp only [Rep]; exact ⟨_, rfl, RepL.cons (rep_v _) (RepL.cons (rep_v _) (RepL.cons (rep_v _) (RepL.cons (rep_v _) (RepL.cons (rep_v _) (RepL.cons (Rep.sub hN h6) RepL.nil)))))⟩) (RepL.cons (rep_v _) RepL.nil)⟩
end
end Go.Ideal

-- Jd
set_option linter.unusedSimpArgs false
set_option linter.unusedVariables false
namespace Go.Ideal
open Go Go.Proofs Go.RowKit
/-! ### Whole numbers as floats: what math tells of them -/
@[reducible] def flT (n : Int) : Tr := .v (.float .f64 (flb n))
@[reducible] def cxT (a b : Int) : Tr := .v (.complex .f64 (flb a) (flb b))
theorem ext_trunc (v : Value) : pureOf Try.prog (callFunc 94 #[v]) = pureOf Try.prog (do pure (.value (← Extern.MathFloor.toIntegral "math.archTrunc" .zero #[v]))) := by rfl
theorem ext_bits (v : Value) : pureOf Try.prog (callFunc 93 #[v]) = pureOf Try.prog (do pure (.value (← Extern.MathFloatBits.float64bits #[v]))) := by rfl
theorem ext_from (v : Value) : pureOf Try.prog (callFunc 92 #[v]) = pureOf Try.prog (do pure (.value (← Extern.MathFloatBits.float64frombits #[v]))) := by rfl
theorem truncT {n : Int} [h : Sm53 n] : Fn Try.prog 89 [flT n] (fun r => r = flT n) := by
  refine Fn_of Try.func89 rfl (Nat.le_of_ble_eq_true rfl) (fun X => ?_)
  repeat (first | refine StepC.go ?_ | (refine TV_cond_t ?_ ?_; · first | rfl | assumption))
  refine TS_ext (v := .float .f64 (flb n)) (r := .float .f64 (flb n)) rfl rfl ?_ rfl ?_
  · rw [ext_trunc]
    obtain ⟨m, p, h1, _, _⟩ := read_flb h.lt
    have h2 : FloatKind.f64.decode (flb n) = .number (decide (n < 0)) m p := h1
    have h3 := fl_trunc h.lt
    rw [h1] at h3
    have h4 : FloatKind.f64.encode (Ieee.Datum.integral .zero (.number (decide (n < 0)) m p)) = flb n := h3
    have hR : Extern.MathFloor.toIntegral "math.archTrunc" .zero #[.float .f64 (flb n)] = pure (.float .f64 (flb n)) := by
      show (match FloatKind.f64.decode (flb n) with
        | .nan s t => _
        | d => (pure (Value.float .f64 (FloatKind.f64.encode (d.integral .zero))) : Sem Value)) = _
      rw [h2]
      simp only
      rw [h4]
    rw [hR]
    rfl
  repeat (refine StepC.go ?_)
  exact retT_1 (.inr rfl) rfl
instance : CallIs Try.prog 89 := .of Try.func89 rfl rfl
theorem fz_lt {w : Nat} {n : Int} (h : FzIs w n) : w < 2 ^ 64 ∧ w % 2 ^ 63 = flb (n.natAbs : Int) := by
  have hr := rungI_lt h.sm
  have h0 : flb (n.natAbs : Int) = rungI n.natAbs := by rw [flb_pos (by omega), Int.natAbs_natCast]
  rw [h0]
  rcases h.eq with h1 | ⟨rfl, s, h1⟩
  · rw [h1]
    by_cases h2 : n < 0
    · rw [flb_neg h2]
      exact ⟨by omega, by rw [Nat.add_mod_left, Nat.mod_eq_of_lt hr]⟩
    · rw [flb_pos (by omega)]
      exact ⟨by omega, Nat.mod_eq_of_lt hr⟩
  · rw [h1]
    cases s <;> exact ⟨by decide +kernel, by decide +kernel⟩
theorem bits_abs {w : Nat} (h : w < 2 ^ 64) : ibits .andNot .u64 (w : Int) 9223372036854775808 = ((w % 2 ^ 63 : Nat) : Int) := by
  have h1 : (BitVec.ofInt 64 (w : Int) &&& ~~~BitVec.ofInt 64 9223372036854775808).toNat = w % 2 ^ 63 := by
    have h2 : (~~~BitVec.ofInt 64 9223372036854775808 : BitVec 64) = BitVec.ofNat 64 (2 ^ 63 - 1) := by decide +kernel
    rw [h2, BitVec.toNat_and, BitVec.toNat_ofNat, ofInt_u64 h, show (2 ^ 63 - 1) % 2 ^ 64 = 2 ^ 63 - 1 by decide +kernel, Nat.and_two_pow_sub_one_eq_mod]
  show IntKind.u64.wrap ((BitVec.ofInt 64 (w : Int) &&& ~~~BitVec.ofInt 64 9223372036854775808).toNat : Int) = _
  rw [h1]
  have h3 : w % 2 ^ 63 < 2 ^ 64 := Nat.lt_of_lt_of_le (Nat.mod_lt _ (Nat.two_pow_pos _)) (by decide +kernel)
  exact wrap_u64 h3
theorem absT {w : Nat} {n : Int} (h : FzIs w n) : Fn Try.prog 88 [.v (.float .f64 w)] (fun r => r = flT (n.natAbs : Int)) := by
  refine Fn_of Try.func88 rfl (Nat.le_of_ble_eq_true rfl) (fun X => ?_)
  obtain ⟨hw, hm⟩ := fz_lt h
  repeat (refine StepC.go ?_)
  refine TS_ext (v := .float .f64 w) (r := .int .u64 w) rfl rfl (by rw [ext_bits]; rfl) rfl ?_
  repeat (refine StepC.go ?_)
  rw [bits_abs hw, hm]
  refine TS_ext (v := .int .u64 (flb (n.natAbs : Int) : Nat)) (r := .float .f64 (flb (n.natAbs : Int))) rfl rfl (by rw [ext_from]; rfl) rfl ?_
  repeat (refine StepC.go ?_)
  exact retT_1 (.inr rfl) rfl
instance : CallIs Try.prog 88 := .of Try.func88 rfl rfl
theorem sign_bit {n : Int} (h : n.natAbs < 2 ^ 53) : decide (IntKind.i64.wrap ((flb n : Nat) : Int) < 0) = decide (n < 0) := by
  have hr := rungI_lt h
  have hb : (2 : Int) ^ IntKind.i64.bits = 18446744073709551616 := by rfl
  have hb' : (2 : Int) ^ (IntKind.i64.bits - 1) = 9223372036854775808 := by rfl
  have hs : IntKind.i64.signed = true := rfl
  have h63 : (2 : Nat) ^ 63 = 9223372036854775808 := by decide +kernel
  rw [h63] at hr
  rw [Bool.eq_iff_iff]
  simp only [decide_eq_true_eq]
  unfold IntKind.wrap
  simp only [hb, hb', hs]
  by_cases h2 : n < 0
  · rw [flb_neg h2, h63]
    rw [Int.emod_eq_of_lt (by omega) (by omega)]
    rw [if_pos (by simp; omega)]
    omega
  · rw [flb_pos (by omega)]
    rw [Int.emod_eq_of_lt (by omega) (by omega)]
    rw [if_neg (by simp; omega)]
    omega
theorem signT {n : Int} [h : Sm53 n] : Fn Try.prog 90 [flT n] (fun r => r = boolT (decide (n < 0))) := by
  refine Fn_of Try.func90 rfl (Nat.le_of_ble_eq_true rfl) (fun X => ?_)
  repeat (refine StepC.go ?_)
  refine TS_ext (v := .float .f64 (flb n)) (r := .int .u64 (flb n : Nat)) rfl rfl (by rw [ext_bits]; rfl) rfl ?_
  repeat (refine StepC.go ?_)
  refine retT_1 (.inr rfl) ?_
  simp only [tret]
  have := sign_bit (n := n) h.lt
  rw [Bool.eq_iff_iff] at this
  congr 3
  exact propext (by simpa using this)
instance : CallIs Try.prog 90 := .of Try.func90 rfl rfl
end Go.Ideal

-- Je
set_option linter.unusedSimpArgs false
set_option linter.unusedVariables false
namespace Go.Ideal
open Go Go.Proofs Go.RowKit
/-! ### Gaussian integers: the program -/
theorem wholeT {n : Int} [h : Sm53 n] : Fn Try.prog 83 [flT n] (fun r => r = boolT true) := by
  refine Fn_of Try.func83 rfl (Nat.le_of_ble_eq_true rfl) (fun X => ?_)
  have hl := h.lt
  repeat (refine StepC.go ?_)
  refine TS_callE truncT ?_
  have d1 : decide (n = n) = true := by simp
  have d2 : decide ((n.natAbs : Int) ≤ 9007199254740991) = true := by simp; omega
  have d5 : (if decide (n = n) = true then decide ((n.natAbs : Int) ≤ 9007199254740991) else false) = true := by rw [d1, d2]; rfl
  have hz : Sm53 (n.natAbs : Int) := ⟨by rw [Int.natAbs_natCast]; exact hl⟩
  repeat (first | refine StepC.go ?_ | (refine TS_on rfl ?_ ?_; · first | rfl | assumption))
  refine TS_callE (absT (FzIs.of (h := ⟨rfl, hl⟩))) ?_
  repeat (first | refine StepC.go ?_ | (refine TS_on rfl ?_ ?_; · first | rfl | assumption))
  by_cases h0 : n = 0
  · have d3 : decide (n = 0) = true := by simpa using h0
    repeat (first | refine StepC.go ?_ | (refine TS_on rfl ?_ ?_; · first | rfl | assumption))
    refine TS_callE signT ?_
    have d4 : decide (n < 0) = false := by simp [h0]
    rw [d4]
    repeat (first | refine StepC.go ?_ | (refine TS_on rfl ?_ ?_; · first | rfl | assumption))
    refine retT_1 (.inr rfl) ?_
    show Tr.v (.bool _) = _
    rw [d5, d3]; rfl
  · have d3 : decide (n = 0) = false := by simpa using h0
    repeat (first | refine StepC.go ?_ | (refine TS_on rfl ?_ ?_; · first | rfl | assumption) | (refine TS_off rfl ?_ ?_; · first | rfl | assumption) | (refine TS_puw (Pu.pick_f ?_) ?_; · first | rfl | assumption))
    refine retT_1 (.inr rfl) ?_
    show Tr.v (.bool _) = _
    rw [d5]; rfl
instance : CallIs Try.prog 83 := .of Try.func83 rfl rfl
theorem gCheckT {a b : Int} [h : Sm53 a] [h2 : Sm53 b] : Fn Try.prog 75 [cxT a b] (fun r => r = intT 0) := by
  refine Fn_of Try.func75 rfl (Nat.le_of_ble_eq_true rfl) (fun X => ?_)
  repeat (refine StepC.go ?_)
  refine TS_callE wholeT ?_
  repeat (first | refine StepC.go ?_ | (refine TS_on rfl ?_ ?_; · first | rfl | assumption))
  refine TS_callE wholeT ?_
  repeat (first | refine StepC.go ?_ | (refine TS_on rfl ?_ ?_; · first | rfl | assumption) | (refine TV_cond_f ?_ ?_; · first | rfl | assumption))
  exact retT_1 (.inr rfl) rfl
instance : CallIs Try.prog 75 := .of Try.func75 rfl rfl
theorem madeT {u v : Nat} {a b : Int} (h : FzIs u a) (h2 : FzIs v b) : Fn Try.prog 76 [.v (.float .f64 u), .v (.float .f64 v)] (fun r => r = cxT a b) := by
  refine Fn_of Try.func76 rfl (Nat.le_of_ble_eq_true rfl) (fun X => ?_)
  repeat (refine StepC.go ?_)
  exact retT_1 (.inr rfl) rfl
instance : CallIs Try.prog 76 := .of Try.func76 rfl rfl
/-- times i to the power k -/
def gTurn (k : Int) (a b : Int) : Int × Int := if k = 1 then (-b, a) else if k = 2 then (-a, -b) else if k = 3 then (b, -a) else (a, b)
theorem gTurnT {a b k : Int} [h : Sm53 a] [h2 : Sm53 b] (hk : k = 0 ∨ k = 1 ∨ k = 2 ∨ k = 3) : Fn Try.prog 63 [cxT a b, intT k] (fun r => r = .tup [cxT (gTurn k a b).1 (gTurn k a b).2, intT 0]) := by
  refine Fn_of Try.func63 rfl (Nat.le_of_ble_eq_true rfl) (fun X => ?_)
  have hA : ibits .and .i64 k 3 = k := by rcases hk with rfl | rfl | rfl | rfl <;> decide +kernel
  have hz1 : FzIs (flb a) a := ⟨.inl rfl, h.lt⟩
  have hz2 : FzIs (flb b) b := ⟨.inl rfl, h2.lt⟩
  repeat (refine StepC.go ?_)
  refine TS_callE gCheckT ?_
  repeat (first | refine StepC.go ?_ | (refine TV_cond_f ?_ ?_; · first | rfl | assumption))
  rw [hA]
  rcases hk with rfl | rfl | rfl | rfl
  · repeat (first | refine StepC.go ?_ | (refine TV_cond_f ?_ ?_; · first | rfl | assumption))
    exact retT_2 (.inr rfl) rfl
  · repeat (first | refine StepC.go ?_ | intro _ | (refine TV_cond_t ?_ ?_; · first | rfl | assumption))
    rename_i w hw
    refine TS_callE (madeT hw hz1) ?_
    repeat (refine StepC.go ?_)
    exact retT_2 (.inr rfl) rfl
  · repeat (first | refine StepC.go ?_ | intro _ | (refine TV_cond_t ?_ ?_; · first | rfl | assumption) | (refine TV_cond_f ?_ ?_; · first | rfl | assumption))
    rename_i w hw w2 hw2
    refine TS_callE (madeT hw hw2) ?_
    repeat (refine StepC.go ?_)
    exact retT_2 (.inr rfl) rfl
  · repeat (first | refine StepC.go ?_ | intro _ | (refine TV_cond_t ?_ ?_; · first | rfl | assumption) | (refine TV_cond_f ?_ ?_; · first | rfl | assumption))
    rename_i w hw
    refine TS_callE (madeT hz2 hw) ?_
    repeat (refine StepC.go ?_)
    exact retT_2 (.inr rfl) rfl
instance : CallIs Try.prog 63 := .of Try.func63 rfl rfl
theorem gConjT {a b : Int} [h : Sm53 a] [h2 : Sm53 b] : Fn Try.prog 74 [cxT a b] (fun r => r = .tup [cxT a (-b), intT 0]) := by
  refine Fn_of Try.func74 rfl (Nat.le_of_ble_eq_true rfl) (fun X => ?_)
  have hz1 : FzIs (flb a) a := ⟨.inl rfl, h.lt⟩
  repeat (refine StepC.go ?_)
  refine TS_callE gCheckT ?_
  repeat (first | refine StepC.go ?_ | intro _ | (refine TV_cond_f ?_ ?_; · first | rfl | assumption))
  rename_i w hw
  refine TS_callE (madeT hz1 hw) ?_
  repeat (refine StepC.go ?_)
  exact retT_2 (.inr rfl) rfl
instance : CallIs Try.prog 74 := .of Try.func74 rfl rfl
end Go.Ideal

-- Jf
set_option linter.unusedSimpArgs false
set_option linter.unusedVariables false
namespace Go.Ideal
open Go Go.Proofs Go.RowKit
/-! ### Elements a + b i + (c + d i) w: the program -/
structure RgD where
  a : Int
  b : Int
  c : Int
  d : Int
  deriving DecidableEq
@[reducible] def rgCs (r : RgD) : List Tr := [cxT r.a r.b, cxT r.c r.d]
@[reducible] def rgT (r : RgD) : Tr := .agg (rgCs r)
class RgS (r : RgD) : Prop where
  a : r.a.natAbs < 2 ^ 53
  b : r.b.natAbs < 2 ^ 53
  c : r.c.natAbs < 2 ^ 53
  d : r.d.natAbs < 2 ^ 53
def rTurn (k : Int) (r : RgD) : RgD :=
  let r := if k % 2 = 1 then ⟨-r.d, r.c, r.a, r.b⟩ else r
  ⟨(gTurn (k / 2) r.a r.b).1, (gTurn (k / 2) r.a r.b).2, (gTurn (k / 2) r.c r.d).1, (gTurn (k / 2) r.c r.d).2⟩
theorem rCheckT {r : RgD} [h : RgS r] : Fn Try.prog 62 [rgT r] (fun t => t = intT 0) := by
  refine Fn_of Try.func62 rfl (Nat.le_of_ble_eq_true rfl) (fun X => ?_)
  have : Sm53 r.a := ⟨h.a⟩
  have : Sm53 r.b := ⟨h.b⟩
  have : Sm53 r.c := ⟨h.c⟩
  have : Sm53 r.d := ⟨h.d⟩
  repeat (first | refine StepC.go ?_ | intro _)
  refine TS_callE gCheckT ?_
  repeat (first | refine StepC.go ?_ | (refine TV_cond_f ?_ ?_; · first | rfl | assumption))
  refine TS_callE gCheckT ?_
  repeat (refine StepC.go ?_)
  exact retT_1 (.inr rfl) rfl
instance : CallIs Try.prog 62 := .of Try.func62 rfl rfl
theorem pairT {a b c d : Int} : Fn Try.prog 64 [cxT a b, intT 0, cxT c d, intT 0] (fun t => t = .tup [rgT ⟨a, b, c, d⟩, intT 0]) := by
  refine Fn_of Try.func64 rfl (Nat.le_of_ble_eq_true rfl) (fun X => ?_)
  repeat (first | refine StepC.go ?_ | intro _ | (refine TV_cond_f ?_ ?_; · first | rfl | assumption))
  exact retT_2 (.inr rfl) rfl
instance : CallIs Try.prog 64 := .of Try.func64 rfl rfl
theorem rTurnT {r : RgD} [h : RgS r] {k : Int} (hk : 0 ≤ k ∧ k < 8) : Fn Try.prog 47 [rgT r, intT k] (fun t => t = .tup [rgT (rTurn k r), intT 0]) := by
  refine Fn_of Try.func47 rfl (Nat.le_of_ble_eq_true rfl) (fun X => ?_)
  have : Sm53 r.a := ⟨h.a⟩
  have : Sm53 r.b := ⟨h.b⟩
  have : Sm53 r.c := ⟨h.c⟩
  have : Sm53 r.d := ⟨h.d⟩
  have : Sm53 (-r.d) := ⟨by rw [Int.natAbs_neg]; exact h.d⟩
  have hA : ibits .and .i64 k 7 = k := by
    obtain ⟨n, rfl⟩ : ∃ n : Nat, k = n := ⟨k.toNat, by omega⟩
    have : n < 8 := by omega
    match n, this with
    | 0, _ | 1, _ | 2, _ | 3, _ | 4, _ | 5, _ | 6, _ | 7, _ => decide +kernel
  have hB : ibits .and .i64 k 1 = k % 2 := by
    obtain ⟨n, rfl⟩ : ∃ n : Nat, k = n := ⟨k.toNat, by omega⟩
    have : n < 8 := by omega
    match n, this with
    | 0, _ | 1, _ | 2, _ | 3, _ | 4, _ | 5, _ | 6, _ | 7, _ => decide +kernel
  repeat (first | refine StepC.go ?_ | intro _)
  refine TS_callE rCheckT ?_
  repeat (first | refine StepC.go ?_ | (refine TV_cond_f ?_ ?_; · first | rfl | assumption))
  rw [hA]
  skip
  rw [hB]
  have hk2 : k / 2 = 0 ∨ k / 2 = 1 ∨ k / 2 = 2 ∨ k / 2 = 3 := by omega
  have hdv : idivs .quo .i64 k 2 = some (k / 2) := by
    clear hA hB hk2
    obtain ⟨n, rfl⟩ : ∃ n : Nat, k = n := ⟨k.toNat, by omega⟩
    have : n < 8 := by omega
    match n, this with
    | 0, _ | 1, _ | 2, _ | 3, _ | 4, _ | 5, _ | 6, _ | 7, _ => decide
  by_cases h1 : k % 2 = 1
  · have d1 : decide (k % 2 = 1) = true := by simpa using h1
    repeat (first | refine StepC.go ?_ | (refine TV_cond_t ?_ ?_; · first | rfl | assumption))
    refine TS_callE (gTurnT (.inr (.inl rfl))) ?_
    repeat (refine StepC.go ?_)
    refine TS_puw (Pu.divw (r := k / 2) (by decide) hdv) ?_
    skip
    refine TS_callE (gTurnT (a := -r.d) (b := r.c) hk2) ?_
    repeat (refine StepC.go ?_)
    refine TS_puw (Pu.divw (r := k / 2) (by decide) hdv) ?_
    skip
    refine TS_callE (gTurnT (a := r.a) (b := r.b) hk2) ?_
    repeat (refine StepC.go ?_)
    refine TS_callE pairT ?_
    repeat (refine StepC.go ?_)
    refine retT_2 (.inr rfl) ?_
    simp only [rTurn, if_pos h1]; rfl
  · have d1 : decide (k % 2 = 1) = false := by simpa using h1
    repeat (first | refine StepC.go ?_ | (refine TV_cond_f ?_ ?_; · first | rfl | assumption))
    refine TS_puw (Pu.divw (r := k / 2) (by decide) hdv) ?_
    skip
    refine TS_callE (gTurnT (a := r.a) (b := r.b) hk2) ?_
    repeat (refine StepC.go ?_)
    refine TS_puw (Pu.divw (r := k / 2) (by decide) hdv) ?_
    skip
    refine TS_callE (gTurnT (a := r.c) (b := r.d) hk2) ?_
    repeat (refine StepC.go ?_)
    refine TS_callE pairT ?_
    repeat (refine StepC.go ?_)
    refine retT_2 (.inr rfl) ?_
    simp only [rTurn, if_neg h1]; rfl
instance : CallIs Try.prog 47 := .of Try.func47 rfl rfl
end Go.Ideal

-- Jg
set_option linter.unusedSimpArgs false
set_option linter.unusedVariables false
namespace Go.Ideal
open Go Go.Proofs Go.RowKit
/-! ### The columns -/
structure CellD where
  row : Int
  turn : Int
  under : Int
  deriving DecidableEq
@[reducible] def cellCs (c : CellD) : List Tr := [intT c.row, intT c.turn, intT c.under]
@[reducible] def cellT (c : CellD) : Tr := .agg (cellCs c)
@[reducible] def cellRows (l : List CellD) : List (List Tr) := l.map cellCs
def colV : ColD → Nat → List CellD
  | .flip b ts, y => [⟨ibits .xor .i64 (y : Int) b, ts.getD (y % ts.length) 0, 0⟩]
  | .last n t, y => if (y : Int) = n then [⟨y, t, 0⟩] else [⟨y, 0, 0⟩]
  | .mixed a b c, y => if y = 0 then [⟨0, a, 1⟩, ⟨1, b, 1⟩] else [⟨0, b, 1⟩, ⟨1, c, 1⟩]
  | .swapped a b t, y => if (y : Int) = a then [⟨b, t, 0⟩] else if (y : Int) = b then [⟨a, t, 0⟩] else [⟨y, 0, 0⟩]
  | .turnedY, y => if y = 1 then [⟨3, 2, 0⟩] else if y = 3 then [⟨1, 6, 0⟩] else [⟨y, 0, 0⟩]
  | .controlled, y => if y = 1 then [⟨1, 0, 1⟩, ⟨3, 0, 1⟩] else if y = 3 then [⟨1, 0, 1⟩, ⟨3, 4, 1⟩] else [⟨y, 0, 0⟩]
theorem lastC {n t : Int} {y : Nat} : Fn Try.prog 59 [intT (y : Int), .pf [intT n], .pf [intT t]] (fun r => r = .sl 3 (cellRows (colV (.last n t) y))) := by
  refine Fn_of Try.func59 rfl (Nat.le_of_ble_eq_true rfl) (fun X => ?_)
  repeat (refine StepC.go ?_)
  by_cases h1 : (y : Int) = n
  · have d1 : decide ((y : Int) = n) = true := by simpa using h1
    repeat (first | refine StepC.go ?_ | intro _ | (refine TV_cond_t ?_ ?_; · first | rfl | assumption))
    refine retT_1 (.inr rfl) ?_
    simp only [colV, if_pos h1]; rfl
  · have d1 : decide ((y : Int) = n) = false := by simpa using h1
    repeat (first | refine StepC.go ?_ | intro _ | (refine TV_cond_f ?_ ?_; · first | rfl | assumption))
    refine retT_1 (.inr rfl) ?_
    simp only [colV, if_neg h1]; rfl
theorem mixedC {a b c : Int} {y : Nat} : Fn Try.prog 60 [intT (y : Int), .pf [intT a], .pf [intT b], .pf [intT c]] (fun r => r = .sl 3 (cellRows (colV (.mixed a b c) y))) := by
  refine Fn_of Try.func60 rfl (Nat.le_of_ble_eq_true rfl) (fun X => ?_)
  repeat (refine StepC.go ?_)
  by_cases h1 : y = 0
  · have d1 : decide ((y : Int) = 0) = true := by simp; omega
    repeat (first | refine StepC.go ?_ | intro _ | (refine TV_cond_t ?_ ?_; · first | rfl | assumption))
    refine retT_1 (.inr rfl) ?_
    simp only [colV, if_pos h1]; rfl
  · have d1 : decide ((y : Int) = 0) = false := by simp; omega
    repeat (first | refine StepC.go ?_ | intro _ | (refine TV_cond_f ?_ ?_; · first | rfl | assumption))
    refine retT_1 (.inr rfl) ?_
    simp only [colV, if_neg h1]; rfl
theorem swappedC {a b t : Int} {y : Nat} : Fn Try.prog 61 [intT (y : Int), .pf [intT a], .pf [intT b], .pf [intT t]] (fun r => r = .sl 3 (cellRows (colV (.swapped a b t) y))) := by
  refine Fn_of Try.func61 rfl (Nat.le_of_ble_eq_true rfl) (fun X => ?_)
  repeat (refine StepC.go ?_)
  by_cases h1 : (y : Int) = a
  · have d1 : decide ((y : Int) = a) = true := by simpa using h1
    repeat (first | refine StepC.go ?_ | intro _ | (refine TV_cond_t ?_ ?_; · first | rfl | assumption))
    refine retT_1 (.inr rfl) ?_
    simp only [colV, if_pos h1]; rfl
  have d1 : decide ((y : Int) = a) = false := by simpa using h1
  repeat (first | refine StepC.go ?_ | (refine TV_cond_f ?_ ?_; · first | rfl | assumption))
  by_cases h2 : (y : Int) = b
  · have d2 : decide ((y : Int) = b) = true := by simpa using h2
    repeat (first | refine StepC.go ?_ | intro _ | (refine TV_cond_t ?_ ?_; · first | rfl | assumption))
    refine retT_1 (.inr rfl) ?_
    simp only [colV, if_neg h1, if_pos h2]; rfl
  · have d2 : decide ((y : Int) = b) = false := by simpa using h2
    repeat (first | refine StepC.go ?_ | intro _ | (refine TV_cond_f ?_ ?_; · first | rfl | assumption))
    refine retT_1 (.inr rfl) ?_
    simp only [colV, if_neg h1, if_neg h2]; rfl
theorem turnedC {y : Nat} : Fn Try.prog 45 [intT (y : Int)] (fun r => r = .sl 3 (cellRows (colV .turnedY y))) := by
  refine Fn_of Try.func45 rfl (Nat.le_of_ble_eq_true rfl) (fun X => ?_)
  repeat (refine StepC.go ?_)
  by_cases h1 : y = 1
  · have d1 : decide ((y : Int) = 1) = true := by simp; omega
    repeat (first | refine StepC.go ?_ | intro _ | (refine TV_cond_t ?_ ?_; · first | rfl | assumption))
    refine retT_1 (.inr rfl) ?_
    simp only [colV, if_pos h1]; rfl
  have d1 : decide ((y : Int) = 1) = false := by simp; omega
  repeat (first | refine StepC.go ?_ | (refine TV_cond_f ?_ ?_; · first | rfl | assumption))
  by_cases h2 : y = 3
  · have d2 : decide ((y : Int) = 3) = true := by simp; omega
    repeat (first | refine StepC.go ?_ | intro _ | (refine TV_cond_t ?_ ?_; · first | rfl | assumption))
    refine retT_1 (.inr rfl) ?_
    simp only [colV, if_neg h1, if_pos h2]; rfl
  · have d2 : decide ((y : Int) = 3) = false := by simp; omega
    repeat (first | refine StepC.go ?_ | intro _ | (refine TV_cond_f ?_ ?_; · first | rfl | assumption))
    refine retT_1 (.inr rfl) ?_
    simp only [colV, if_neg h1, if_neg h2]; rfl
theorem controlledC {y : Nat} : Fn Try.prog 46 [intT (y : Int)] (fun r => r = .sl 3 (cellRows (colV .controlled y))) := by
  refine Fn_of Try.func46 rfl (Nat.le_of_ble_eq_true rfl) (fun X => ?_)
  repeat (refine StepC.go ?_)
  by_cases h1 : y = 1
  · have d1 : decide ((y : Int) = 1) = true := by simp; omega
    repeat (first | refine StepC.go ?_ | intro _ | (refine TV_cond_t ?_ ?_; · first | rfl | assumption))
    refine retT_1 (.inr rfl) ?_
    simp only [colV, if_pos h1]; rfl
  have d1 : decide ((y : Int) = 1) = false := by simp; omega
  repeat (first | refine StepC.go ?_ | (refine TV_cond_f ?_ ?_; · first | rfl | assumption))
  by_cases h2 : y = 3
  · have d2 : decide ((y : Int) = 3) = true := by simp; omega
    repeat (first | refine StepC.go ?_ | intro _ | (refine TV_cond_t ?_ ?_; · first | rfl | assumption))
    refine retT_1 (.inr rfl) ?_
    simp only [colV, if_neg h1, if_pos h2]; rfl
  · have d2 : decide ((y : Int) = 3) = false := by simp; omega
    repeat (first | refine StepC.go ?_ | intro _ | (refine TV_cond_f ?_ ?_; · first | rfl | assumption))
    refine retT_1 (.inr rfl) ?_
    simp only [colV, if_neg h1, if_neg h2]; rfl
theorem flipC {b : Int} {y : Nat} {ts : List Int} (h1 : 0 < ts.length) (h2 : ts.length < 2 ^ 31) : Fn Try.prog 58 [intT (y : Int), .pf [intT b], .pf [.sl 1 (intRows ts)]] (fun r => r = .sl 3 (cellRows (colV (.flip b ts) y))) := by
  refine Fn_of Try.func58 rfl (Nat.le_of_ble_eq_true rfl) (fun X => ?_)
  have hl : (intRows ts).length = ts.length := by simp [intRows]
  have hdv : idivs .rem .i64 (y : Int) ((intRows ts).length : Int) = some ((y % ts.length : Nat) : Int) := by
    show some ((y : Int).tmod ((intRows ts).length : Int)) = _
    rw [hl, Int.tmod_eq_emod_of_nonneg (by omega)]; rfl
  have hlt : y % ts.length < ts.length := Nat.mod_lt _ h1
  have hg : ts[y % ts.length]? = some (ts.getD (y % ts.length) 0) := by
    rw [List.getD_eq_getElem?_getD, List.getElem?_eq_getElem hlt]; rfl
  have ng : NthG (intRows ts) (y % ts.length) [intT (ts.getD (y % ts.length) 0)] := .map (fun x => [intT x]) hg
  repeat (first | refine StepC.go ?_ | refine TD_take rfl rfl ?_ | refine TD_load rfl rfl ?_ | refine TV_draw (id := 1) (plan := [.take 0, .take 1, .take 2, .take 3, .take 4, .take 5, .take 6, .take 7, .take 8, .take 9, .take 10, .one 11, .take 12]) (by kernel_rfl) ?_)
  refine TD_takew rfl rfl (Pu.divw (r := ((y % ts.length : Nat) : Int)) (by omega) hdv) ?_
  repeat (first | refine StepC.go ?_ | intro _ | refine TD_take rfl rfl ?_ | refine TD_load rfl rfl ?_ | refine TD_one rfl ?_ | refine FiltT_nil ?_)
  refine retT_1 (.inr rfl) ?_
  rfl
end Go.Ideal

-- Jh
set_option linter.unusedSimpArgs false
set_option linter.unusedVariables false
namespace Go.Ideal
open Go Go.Proofs Go.RowKit
/-! ### The closures in one; amplitudes -/
@[reducible] def colF : ColD → Nat
  | .flip _ _ => 58
  | .last _ _ => 59
  | .mixed _ _ _ => 60
  | .swapped _ _ _ => 61
  | .turnedY => 45
  | .controlled => 46
def colB : ColD → List Tr
  | .flip b ts => [.pf [intT b], .pf [.sl 1 (intRows ts)]]
  | .last n t => [.pf [intT n], .pf [intT t]]
  | .mixed a b c => [.pf [intT a], .pf [intT b], .pf [intT c]]
  | .swapped a b t => [.pf [intT a], .pf [intT b], .pf [intT t]]
  | .turnedY => []
  | .controlled => []
theorem colT_eq (q : ColD) : colT q = .fn (colF q) [] (colB q) := by cases q <;> rfl
theorem colT_cells (q : ColD) : CellsT (colT q) [colT q] := by rw [colT_eq]; infer_instance
attribute [instance] colT_cells
def ColOk : ColD → Prop
  | .flip _ ts => 0 < ts.length ∧ ts.length < 2 ^ 31
  | _ => True
instance : CallIs Try.prog 58 := .of Try.func58 rfl rfl
instance : CallIs Try.prog 59 := .of Try.func59 rfl rfl
instance : CallIs Try.prog 60 := .of Try.func60 rfl rfl
instance : CallIs Try.prog 61 := .of Try.func61 rfl rfl
instance : CallIs Try.prog 45 := .of Try.func45 rfl rfl
instance : CallIs Try.prog 46 := .of Try.func46 rfl rfl
theorem col_call (q : ColD) : CallIs Try.prog (colF q) := by cases q <;> infer_instance
theorem colC {q : ColD} {y : Nat} (h : ColOk q) : Fn Try.prog (colF q) (([] ++ [intT (y : Int)]) ++ colB q) (fun r => r = .sl 3 (cellRows (colV q y))) := by
  cases q with
  | flip b ts => exact flipC h.1 h.2
  | last n t => exact lastC
  | mixed a b c => exact mixedC
  | swapped a b t => exact swappedC
  | turnedY => exact turnedC
  | controlled => exact controlledC
structure AmD where
  r : RgD
  k : Int
  deriving DecidableEq
@[reducible] def amCs (a : AmD) : List Tr := [cxT a.r.a a.r.b, cxT a.r.c a.r.d, intT a.k]
@[reducible] def amT (a : AmD) : Tr := .agg (amCs a)
@[reducible] def amRows (l : List AmD) : List (List Tr) := l.map amCs
@[reducible] def oneR : RgD := ⟨1, 0, 0, 0⟩
instance : RgS oneR := ⟨by decide, by decide, by decide, by decide⟩
theorem flb1 : flb 1 = 4607182418800017408 := by decide +kernel
theorem flb0 : flb 0 = 0 := by decide +kernel
theorem rTurn1T {k : Int} (hk : 0 ≤ k ∧ k < 8) : Fn Try.prog 47 [.agg [.v (.complex .f64 4607182418800017408 0), .v (.complex .f64 0 0)], intT k] (fun t => t = .tup [rgT (rTurn k oneR), intT 0]) := by
  have h := rTurnT (r := oneR) hk
  simp only [rgT, rgCs, cxT, flb1, flb0] at h ⊢
  exact h
def cellA (c : CellD) : AmD := ⟨rTurn c.turn oneR, c.under⟩
theorem valueT {c : CellD} (hk : 0 ≤ c.turn ∧ c.turn < 8) : Fn Try.prog 31 [cellT c] (fun t => t = amT (cellA c)) := by
  refine Fn_of Try.func31 rfl (Nat.le_of_ble_eq_true rfl) (fun X => ?_)
  repeat (first | refine StepC.go ?_ | intro _)
  refine TS_callE (rTurn1T hk) ?_
  repeat (first | refine StepC.go ?_ | intro _)
  exact retT_1 (.inr rfl) rfl
instance : CallIs Try.prog 31 := .of Try.func31 rfl rfl
end Go.Ideal

-- Ji
set_option linter.unusedSimpArgs false
set_option linter.unusedVariables false
namespace Go.Ideal
open Go Go.Proofs Go.RowKit
/-! ### What holds of all gates; a column -/
theorem take_snoc {α : Type} {l : List α} {i : Nat} {x : α} (h : l[i]? = some x) : l.take (i + 1) = l.take i ++ [x] := by
  rw [List.take_add_one, h]; rfl
def in8 (t : Int) : Bool := decide (0 ≤ t) && decide (t < 8)
def fineB (x : KE × ColD) : Bool := (decide (x.1.arity = 1) || decide (x.1.arity = 2) || decide (x.1.arity = 3)) && match x.2 with
  | .flip _ ts => decide (0 < ts.length) && decide (ts.length < 8) && ts.all in8
  | .last _ t => in8 t
  | .mixed a b c => in8 a && in8 b && in8 c
  | .swapped _ _ t => in8 t
  | _ => true
theorem fine_all : (KT.zip KC).all fineB = true := by decide +kernel
theorem in8_iff {t : Int} (h : in8 t = true) : 0 ≤ t ∧ t < 8 := by simpa [in8] using h
structure GFine (e : KE) (q : ColD) : Prop where
  ar : e.arity = 1 ∨ e.arity = 2 ∨ e.arity = 3
  ok : ColOk q
  tu : ∀ y, ∀ c ∈ colV q y, 0 ≤ c.turn ∧ c.turn < 8
theorem colV_len (q : ColD) (y : Nat) : (colV q y).length = 1 ∨ (colV q y).length = 2 := by
  cases q <;> simp only [colV] <;> repeat' split
  all_goals simp
theorem fine_of {b : ByteArray} {e : KE} {q : ColD} (h1 : kOf b = some e) (h2 : colOf b = some q) : GFine e q := by
  have hz : ∀ (l : List KE) (m : List ColD), l.length = m.length → l.find? (fun e => beqS b e.name) = some e → ((l.zip m).find? fun x => beqS b x.1.name).map (·.2) = some q → (e, q) ∈ l.zip m := by
    intro l
    induction l with
    | nil => intro m _ h; cases h
    | cons a l ih =>
      intro m hm h3 h4
      match m, hm with
      | c :: m, hm =>
        rw [List.find?_cons] at h3
        rw [List.zip_cons_cons, List.find?_cons] at h4
        cases hb : beqS b a.name with
        | true =>
          simp only [hb] at h3 h4
          simp only [Option.map_some, Option.some.injEq] at h3 h4
          subst h3; subst h4
          exact List.mem_cons_self
        | false =>
          simp only [hb] at h3 h4
          exact List.mem_cons_of_mem _ (ih m (by simpa using hm) h3 h4)
  have h3 := hz KT KC rfl h1 h2
  have h4 := List.all_eq_true.1 fine_all _ h3
  simp only [fineB, Bool.and_eq_true, Bool.or_eq_true, decide_eq_true_eq] at h4
  obtain ⟨h5, h6⟩ := h4
  refine ⟨by omega, ?_, fun y c hc => ?_⟩
  · cases q <;> simp only [ColOk] <;> simp at h6 <;> omega
  · cases q with
    | flip b ts =>
      simp only [Bool.and_eq_true, decide_eq_true_eq] at h6
      simp only [colV, List.mem_singleton] at hc
      subst hc
      refine in8_iff (List.all_eq_true.1 h6.2 _ ?_)
      have hl : y % ts.length < ts.length := Nat.mod_lt _ h6.1.1
      rw [List.getD_eq_getElem?_getD, List.getElem?_eq_getElem hl]
      exact List.getElem_mem _
    | last n t =>
      have := in8_iff h6
      simp only [colV] at hc
      split at hc <;> (rw [List.mem_singleton.1 hc]; simp; try omega)
    | mixed a b' c' =>
      simp only [Bool.and_eq_true] at h6
      have h7 := in8_iff h6.1.1
      have h8 := in8_iff h6.1.2
      have h9 := in8_iff h6.2
      simp only [colV] at hc
      split at hc <;> (simp only [List.mem_cons, List.not_mem_nil, or_false] at hc; rcases hc with rfl | rfl <;> assumption)
    | swapped a b' t =>
      have := in8_iff h6
      simp only [colV] at hc
      repeat' split at hc
      all_goals (rw [List.mem_singleton.1 hc]; simp; try omega)
    | turnedY =>
      simp only [colV] at hc
      repeat' split at hc
      all_goals (rw [List.mem_singleton.1 hc]; simp)
    | controlled =>
      simp only [colV] at hc
      repeat' split at hc
      all_goals (simp only [List.mem_cons, List.not_mem_nil, or_false] at hc)
      · rcases hc with rfl | rfl <;> simp
      · rcases hc with rfl | rfl <;> simp
      · rw [hc]; simp
def wS (e : KE) : Nat := 2 ^ e.arity.toNat
theorem wS_shi {e : KE} {q : ColD} (g : GFine e q) : ShiT .shl .i64 1 e.arity (wS e : Int) := by
  unfold wS
  rcases g.ar with h | h | h <;> rw [h] <;> exact ⟨by decide, by decide⟩
theorem wS_le {e : KE} {q : ColD} (g : GFine e q) : wS e = 2 ∨ wS e = 4 ∨ wS e = 8 := by
  unfold wS
  rcases g.ar with h | h | h <;> rw [h] <;> decide
def columnS (b : ByteArray) (y : Int) : List Int × List AmD × Int :=
  match kOf b, colOf b with
  | some e, some q => if y < 0 ∨ (wS e : Int) ≤ y then ([], [], 2) else ((colV q y.toNat).map (·.row), (colV q y.toNat).map cellA, 0)
  | _, _ => ([], [], 80)
set_option synthInstance.maxSize 4000 in
set_option synthInstance.maxHeartbeats 400000 in
set_option maxHeartbeats 4000000 in
theorem columnT {b : ByteArray} {y : Int} : Fn Try.prog 21 [strT b, intT y] (fun r => r = .tup [.sl 1 (intRows (columnS b y).1), .sl 3 (amRows (columnS b y).2.1), intT (columnS b y).2.2]) := by
  refine Fn_of Try.func21 rfl (Nat.le_of_ble_eq_true rfl) (fun X => ?_)
  repeat (refine StepC.go ?_)
  refine TS_kinds (by rfl) (by rfl) ?_ ?_
  · intro hk m
    repeat (first | refine StepC.go ?_ | intro _ | (refine TV_cond_t ?_ ?_; · first | rfl | assumption))
    refine retT_3c [.sl 1 [], .sl 3 [], intT 80] (.inr rfl) ?_
    simp only [columnS, hk]; rfl
  · intro e q hk hq m
    have g := fine_of hk hq
    have hsh := wS_shi g
    have hw := wS_le g
    repeat (first | refine StepC.go ?_ | intro _ | (refine TV_cond_f ?_ ?_; · first | rfl | assumption))
    by_cases hy : y < 0
    · have d1 : decide (y < 0) = true := by simpa using hy
      repeat (first | refine StepC.go ?_ | (refine TS_off rfl ?_ ?_; · first | rfl | assumption) | (refine TS_puw (Pu.pick_t ?_) ?_; · first | rfl | assumption) | (refine TV_cond_t ?_ ?_; · first | rfl | assumption))
      refine retT_3c [.sl 1 [], .sl 3 [], intT 2] (.inr rfl) ?_
      simp only [columnS, hk, hq]; rw [if_pos (.inl hy)]; rfl
    have d1 : decide (y < 0) = false := by simpa using hy
    repeat (first | refine StepC.go ?_ | (refine TS_on rfl ?_ ?_; · first | rfl | assumption))
    by_cases hy2 : (wS e : Int) ≤ y
    · have d2 : decide ((wS e : Int) ≤ y) = true := by simpa using hy2
      have d3 : (if decide (y < 0) = true then true else decide ((wS e : Int) ≤ y)) = true := by rw [d1, d2]; rfl
      repeat (first | refine StepC.go ?_ | (refine TV_cond_t ?_ ?_; · first | rfl | assumption))
      refine retT_3c [.sl 1 [], .sl 3 [], intT 2] (.inr rfl) ?_
      simp only [columnS, hk, hq]; rw [if_pos (.inr hy2)]; rfl
    have d2 : decide ((wS e : Int) ≤ y) = false := by simpa using hy2
    obtain ⟨yn, rfl⟩ : ∃ n : Nat, y = n := ⟨y.toNat, by omega⟩
    repeat (first | refine StepC.go ?_ | (refine TV_cond_f ?_ ?_; · first | rfl | assumption))
    have := col_call q
    refine TS_callV (f := colF q) (a := []) (b := colB q) (ef := colT_eq q ▸ inferInstance) (colC (y := yn) g.ok) ?_
    rintro _ rfl
    obtain ⟨L, hL⟩ : ∃ L, L = colV q yn := ⟨_, rfl⟩
    have hl2 := colV_len q yn
    have htu := g.tu yn
    rw [← hL] at hl2 htu ⊢
    have hLL : (cellRows L).length = L.length := by simp [cellRows]
    repeat (refine StepC.go ?_)
    rw [hLL]
    refine TV_ghost 1 3 ?_
    intro g1
    refine TV_ghost 3 46 ?_
    intro g2
    refine TV_loop (fun d σ B => ∃ (i : Nat) (b1 b2 : Nat), d = L.length - i ∧ i ≤ L.length ∧ TGet σ 35 (intT i) ∧ TGet σ 34 (intT L.length) ∧ TGet σ 33 (.sl 3 (cellRows L)) ∧ TGet σ 9 (.v (gsv b1 i)) ∧ TGet σ 10 (.v (gsv b2 i)) ∧
      SubP B [(b1, .arr 1 (intRows ((L.take i).map (·.row))) 3 false), (b2, .arr 3 (amRows ((L.take i).map cellA)) 46 false)]) L.length
      ⟨0, g1, g2, by omega, by omega, inferInstance, inferInstance, inferInstance, tget_as rfl, tget_as rfl, ?_⟩ ?_
    · exact ⟨_, List.Perm.swap _ _ _⟩
    rintro d σ B ⟨i, b1, b2, rfl, hi, g35, g34, g33, g9, g10, hB⟩
    refine TV_keep _ (p := hB) ?_
    have hs1 : 8 * (i + 1) ≤ 2 ^ 47 + 2 ^ 20 := by omega
    repeat (refine StepC.go ?_)
    refine TV_cond ?_ ?_ <;> intro hc
    · have hil : i < L.length := by have := of_decide_eq_true hc; omega
      obtain ⟨c, hcc⟩ : ∃ c, L[i]? = some c := ⟨_, List.getElem?_eq_getElem hil⟩
      have ngc : NthG (cellRows L) i (cellCs c) := .map cellCs hcc
      have h8 := htu c (List.mem_of_getElem? hcc)
      have ln1 : LenT (intRows ((L.take i).map (·.row))) i := ⟨by simp [intRows]; omega⟩
      have ln2 : LenT (amRows ((L.take i).map cellA)) i := ⟨by simp [amRows]; omega⟩
      have lo1 : LenO (intRows ((L.take i).map (·.row))) i := ⟨by simp [intRows]; omega⟩
      have lo2 : LenO (amRows ((L.take i).map cellA)) i := ⟨by simp [amRows]; omega⟩
      have hr1 : intRows ((L.take (i + 1)).map (·.row)) = intRows ((L.take i).map (·.row)) ++ [[intT c.row]] := by rw [take_snoc hcc]; simp [intRows]
      have hr2 : amRows ((L.take (i + 1)).map cellA) = amRows ((L.take i).map cellA) ++ [amCs (cellA c)] := by rw [take_snoc hcc]; simp [amRows]
      repeat (first | refine StepC.go ?_ | intro _ | (refine TS_append ?_ (fun _ => ?_); · omega) | refine TD_take rfl rfl ?_ | refine TD_load rfl rfl ?_ | refine TD_one rfl ?_ | refine FiltT_nil ?_ | refine FiltT_drop rfl ?_ | refine FiltT_keep rfl ?_ | refine TV_draw (id := 11) (plan := [.take 0, .take 1, .take 2, .take 5, .take 6, .one 3, .one 4, .one 7, .one 8, .one 9, .take 10, .take 11]) (by kernel_rfl) ?_)
      refine TS_callE (valueT h8) ?_
      repeat (first | refine StepC.go ?_ | intro _ | (refine TS_puw (Pu.addi ?_) ?_; · omega) | (refine TS_append ?_ (fun _ => ?_); · omega) | refine TD_take rfl rfl ?_ | refine TD_one rfl ?_ | refine FiltT_nil ?_)
      rename_i w1 w2 w3 w4 w5
      refine ⟨_, ?_, i + 1, w3, w5, rfl, by omega, tget_as rfl, inferInstance, inferInstance, inferInstance, inferInstance, ?_⟩
      · omega
      · rw [hr1, hr2]; infer_instance
    · have hil : i = L.length := by have := of_decide_eq_false hc; omega
      subst hil
      have ln1 : LenT (intRows ((L.take L.length).map (·.row))) L.length := ⟨by simp [intRows]⟩
      have ln2 : LenT (amRows ((L.take L.length).map cellA)) L.length := ⟨by simp [amRows]⟩
      have : Sm63 L.length := ⟨by omega⟩
      repeat (refine StepC.go ?_)
      refine retT_3 (.inr rfl) ?_
      have hcs : columnS b (yn : Int) = (L.map (·.row), L.map cellA, 0) := by
        simp only [columnS, hk, hq]
        rw [if_neg (by omega), Int.toNat_natCast, ← hL]
      rw [hcs, List.take_length]
      rfl
instance : CallIs Try.prog 21 := .of Try.func21 rfl rfl
end Go.Ideal

-- Jj
set_option linter.unusedSimpArgs false
set_option linter.unusedVariables false
namespace Go.Ideal
open Go Go.Proofs Go.RowKit
/-! ### A gate's matrix: the program -/
def zeroA : AmD := ⟨⟨0, 0, 0, 0⟩, 0⟩
theorem zeroA_cs : amCs zeroA = [.v (.complex .f64 0 0), .v (.complex .f64 0 0), .v (.int .i64 0)] := by
  simp only [zeroA, amCs, cxT, flb0]
def matT (m : List (List AmD)) : Tr := .sl 1 (m.map fun l => [.sl 3 (amRows l)])
def amB (fam : List (Nat × List AmD)) : Boxes := fam.map fun x => (x.1, .arr 3 (amRows x.2) 46 true)
def amR (n : Nat) (fam : List (Nat × List AmD)) : List (List Tr) := fam.map fun x => [.v (.slice (some (ad x.1 0)) n n)]
def putA (m : List (List AmD)) (y : Nat) (c : CellD) : List (List AmD) := m.set c.row.toNat ((m.getD c.row.toNat []).set y (cellA c))
def colsA (q : ColD) (m : List (List AmD)) (n : Nat) : List (List AmD) := (List.range n).foldl (fun m y => (colV q y).foldl (fun m c => putA m y c) m) m
def matrixS (e : KE) (q : ColD) : List (List AmD) := colsA q (List.replicate (wS e) (List.replicate (wS e) zeroA)) (wS e)
def matrixC (b : ByteArray) : List (List AmD) × Int :=
  match kOf b, colOf b with
  | some e, some q => (matrixS e q, 0)
  | _, _ => ([], 80)
def rowsFine (x : KE × ColD) : Bool := (List.range (wS x.1)).all fun y => (colV x.2 y).all fun c => decide (0 ≤ c.row) && decide (c.row < (wS x.1 : Int))
theorem rows_all : (KT.zip KC).all rowsFine = true := by decide +kernel
theorem zip_of {b : ByteArray} {e : KE} {q : ColD} (h1 : kOf b = some e) (h2 : colOf b = some q) : (e, q) ∈ KT.zip KC := by
  have hz : ∀ (l : List KE) (m : List ColD), l.length = m.length → l.find? (fun e => beqS b e.name) = some e → ((l.zip m).find? fun x => beqS b x.1.name).map (·.2) = some q → (e, q) ∈ l.zip m := by
    intro l
    induction l with
    | nil => intro m _ h; cases h
    | cons a l ih =>
      intro m hm h3 h4
      match m, hm with
      | c :: m, hm =>
        rw [List.find?_cons] at h3
        rw [List.zip_cons_cons, List.find?_cons] at h4
        cases hb : beqS b a.name with
        | true =>
          simp only [hb] at h3 h4
          simp only [Option.map_some, Option.some.injEq] at h3 h4
          subst h3; subst h4
          exact List.mem_cons_self
        | false =>
          simp only [hb] at h3 h4
          exact List.mem_cons_of_mem _ (ih m (by simpa using hm) h3 h4)
  exact hz KT KC rfl h1 h2
theorem row_fine {b : ByteArray} {e : KE} {q : ColD} (h1 : kOf b = some e) (h2 : colOf b = some q) {y : Nat} (hy : y < wS e) : ∀ c ∈ colV q y, 0 ≤ c.row ∧ c.row < (wS e : Int) := by
  intro c hc
  have h3 := List.all_eq_true.1 rows_all _ (zip_of h1 h2)
  have h4 := List.all_eq_true.1 h3 y (List.mem_range.2 hy)
  have h5 := List.all_eq_true.1 h4 c hc
  simpa using h5
theorem amB_is {fam : List (Nat × List AmD)} {k b : Nat} {l : List AmD} (h : fam[k]? = some (b, l)) : BoxIs (amB fam) b (.arr 3 (amRows l) 46 true) := ⟨List.mem_map.2 ⟨(b, l), List.mem_of_getElem? h, rfl⟩⟩
theorem amB_in {fam : List (Nat × List AmD)} {k b : Nat} {l : List AmD} (h : fam[k]? = some (b, l)) : InKeys (amB fam) b := ⟨List.mem_map.2 ⟨_, (amB_is h).mem, rfl⟩⟩
theorem amB_put {fam : List (Nat × List AmD)} {k b : Nat} {l l2 : List AmD} (h : fam[k]? = some (b, l)) : BoxPut (amB fam) b b (.arr 3 (amRows l2) 46 true) (amB (fam.set k (b, l2))) := ⟨by
  have hk := (List.getElem?_eq_some_iff.1 h).1
  have hd := drop_cons h
  refine ⟨amB (fam.take k), .arr 3 (amRows l) 46 true, amB (fam.drop (k + 1)), ?_, ?_⟩
  · conv => lhs; rw [← List.take_append_drop k fam, hd]
    simp [amB]
  · rw [List.set_eq_take_append_cons_drop, if_pos hk]
    simp [amB]⟩
theorem amR_at {n : Nat} {fam : List (Nat × List AmD)} {k b : Nat} {l : List AmD} (h : fam[k]? = some (b, l)) : NthG (amR n fam) k [.v (.slice (some (ad b 0)) n n)] := ⟨by simp [amR, h]⟩
theorem amR_set {n : Nat} {fam : List (Nat × List AmD)} {k b : Nat} {l l2 : List AmD} (h : fam[k]? = some (b, l)) : amR n (fam.set k (b, l2)) = amR n fam := by
  refine List.ext_getElem? fun i => ?_
  simp only [amR, List.getElem?_map, List.getElem?_set]
  by_cases hi : k = i
  · subst hi
    rw [if_pos rfl, if_pos (List.getElem?_eq_some_iff.1 h).1, h]; rfl
  · rw [if_neg hi]
theorem amR_frz {B : Boxes} {n : Nat} {fam : List (Nat × List AmD)} (hb : ∀ x ∈ fam, BoxIs B x.1 (.arr 3 (amRows x.2) 46 true)) (hs : n < 2 ^ 63) (hn : ∀ x ∈ fam, x.2.length = n) (h0 : 0 < n) : FrzR B (amR n fam) ((fam.map Prod.snd).map fun l => [.sl 3 (amRows l)]) := ⟨by simp [amR], fun i row hr => by
  simp only [amR, List.getElem?_map, Option.map_eq_some_iff] at hr
  obtain ⟨x, hx, rfl⟩ := hr
  have hm := List.mem_of_getElem? hx
  have := hb x hm
  have : Sm63 n := ⟨hs⟩
  have : LenT (amRows x.2) n := ⟨by simp [amRows, hn x hm]⟩
  refine ⟨[.sl 3 (amRows x.2)], by simp [hx], ?_⟩
  have : FrzL B [.v (.slice (some (ad x.1 0)) n n)] [.sl 3 (amRows x.2)] := inferInstance
  exact this.eq⟩
theorem colsA_succ (q : ColD) (m : List (List AmD)) (n : Nat) : colsA q m (n + 1) = (colV q n).foldl (fun m c => putA m n c) (colsA q m n) := by
  simp [colsA, List.range_succ]
set_option synthInstance.maxSize 4000 in
set_option synthInstance.maxHeartbeats 400000 in
set_option maxHeartbeats 4000000 in
theorem matrixT {b : ByteArray} : Fn Try.prog 18 [strT b] (fun r => r = .tup [matT (matrixC b).1, intT (matrixC b).2]) := by
  refine Fn_of Try.func18 rfl (Nat.le_of_ble_eq_true rfl) (fun X => ?_)
  repeat (refine StepC.go ?_)
  refine TS_kinds (by rfl) (by rfl) ?_ ?_
  · intro hk m
    repeat (first | refine StepC.go ?_ | intro _ | (refine TV_cond_t ?_ ?_; · first | rfl | assumption))
    refine retT_2c [.sl 1 [], intT 80] (.inr rfl) ?_
    simp only [matrixC, hk]; rfl
  · intro e q hk hq m
    have g := fine_of hk hq
    have hsh := wS_shi g
    have hw := wS_le g
    have hrf := fun {y} => row_fine hk hq (y := y)
    have hmc : matrixC b = (matrixS e q, 0) := by simp only [matrixC, hk, hq]
    rw [hmc]
    unfold matrixS
    obtain ⟨n, hn⟩ : ∃ n, n = wS e := ⟨_, rfl⟩
    rw [← hn] at hsh hw hrf ⊢
    repeat (first | refine StepC.go ?_ | intro _ | (refine TS_makeSlice ?_ (fun _ => ?_); · omega) | (refine TV_cond_f ?_ ?_; · first | rfl | assumption))
    rename_i pk bs
    refine TV_loop (fun d σ B => ∃ (i : Nat) (fam : List (Nat × List AmD)), d = n - i ∧ i ≤ n ∧ TGet σ 27 (intT i) ∧ TGet σ 26 (intT n) ∧ TGet σ 7 (.v (.slice (some (ad bs 0)) n n)) ∧ TGet σ 6 (intT n) ∧ TGet σ 4 ((.v (.pointer (some (ad pk 0))))) ∧
      SubP B ((pk, .cells [intT e.arity, intT e.halves, boolT e.cliff, boolT e.diag, strT e.back, colT q] 61 true) :: (bs, .arr 1 (amR n fam ++ List.replicate (n - i) [.v (.slice none 0 0)]) 37 true) :: amB fam) ∧ fam.map Prod.snd = List.replicate i (List.replicate n zeroA)) n
      ⟨0, [], by omega, by omega, tget_as rfl, inferInstance, inferInstance, inferInstance, inferInstance, ?_, rfl⟩ ?_
    · exact ⟨[], List.Perm.swap _ _ _⟩
    rintro d σ B ⟨i, fam, rfl, hi, g27, g26, g7, g6, g4, hB, hfam⟩
    refine TV_keep _ (p := hB) ?_
    have hfl : fam.length = i := by have := congrArg List.length hfam; simpa using this
    repeat (refine StepC.go ?_)
    refine TV_cond ?_ ?_ <;> intro hc
    · have hin : i < n := by have := of_decide_eq_true hc; omega
      have q1 : NthG (amR n fam ++ List.replicate (n - i) [Tr.v (.slice none 0 0)]) i [Tr.v (.slice none 0 0)] := ⟨by
        have h1 : (amR n fam).length = i := by simp [amR, hfl]
        rw [List.getElem?_append_right (by omega), h1, Nat.sub_self, List.getElem?_replicate, if_pos (by omega)]⟩
      have q2 : ∀ b', SetR (amR n fam ++ List.replicate (n - i) [Tr.v (.slice none 0 0)]) i [.v (.slice (some (ad b' 0)) n n)] (amR n (fam ++ [(b', List.replicate n zeroA)]) ++ List.replicate (n - (i + 1)) [Tr.v (.slice none 0 0)]) := fun b' => ⟨by
        rw [show n - i = (n - (i + 1)) + 1 by omega, List.replicate_succ, List.set_append_right _ _ (by simp [amR, hfl])]
        simp [amR, hfl]⟩
      have q3 : LenT (amR n fam ++ List.replicate (n - i) [Tr.v (.slice none 0 0)]) n := ⟨by simp [amR, hfl]; omega⟩
      repeat (first | refine StepC.go ?_ | (refine TS_puw (Pu.addi ?_) ?_; · omega) | (refine TS_makeSlice ?_ (fun _ => ?_); · omega))
      rename_i b2
      refine ⟨_, ?_, i + 1, fam ++ [(b2, List.replicate n zeroA)], rfl, by omega, tget_as rfl, inferInstance, inferInstance, inferInstance, inferInstance, ?_, ?_⟩
      · omega
      · refine ⟨[], ?_⟩
        have h1 : amRows (List.replicate n zeroA) = List.replicate n [Tr.v (.complex .f64 0 0), .v (.complex .f64 0 0), .v (.int .i64 0)] := by rw [← zeroA_cs]; simp [amRows]
        have h2 : amB (fam ++ [(b2, List.replicate n zeroA)]) = amB fam ++ [(b2, .arr 3 (List.replicate n [Tr.v (.complex .f64 0 0), .v (.complex .f64 0 0), .v (.int .i64 0)]) 46 true)] := by simp [amB, h1]
        rw [h2, List.append_nil]
        exact (List.perm_append_singleton _ (_ :: _ :: _)).symm
      · rw [List.map_append, hfam, List.replicate_succ']; rfl
    · have hin : i = n := by have := of_decide_eq_false hc; omega
      subst hin
      repeat (refine StepC.go ?_)
      simp only [Nat.sub_self, List.replicate_zero, List.append_nil]
      obtain ⟨M0, hM0⟩ : ∃ M0, M0 = List.replicate i (List.replicate i zeroA) := ⟨_, rfl⟩
      have hlen0 : ∀ x ∈ fam, x.2.length = i := fun x hx => by
        have h1 : x.2 ∈ fam.map Prod.snd := List.mem_map.2 ⟨x, hx, rfl⟩
        rw [hfam] at h1; rw [List.eq_of_mem_replicate h1]; simp
      rw [← hM0] at hfam ⊢
      refine TV_loop (fun d σ B => ∃ (y : Nat) (fam : List (Nat × List AmD)), d = i - y ∧ y ≤ i ∧ TGet σ 37 (intT y) ∧ TGet σ 36 (intT i) ∧ TGet σ 7 (.v (.slice (some (ad bs 0)) i i)) ∧ TGet σ 4 (.v (.pointer (some (ad pk 0)))) ∧
        SubP B ((pk, .cells [intT e.arity, intT e.halves, boolT e.cliff, boolT e.diag, strT e.back, colT q] 61 true) :: (bs, .arr 1 (amR i fam) 37 true) :: amB fam) ∧ fam.length = i ∧ (∀ x ∈ fam, x.2.length = i) ∧ fam.map Prod.snd = colsA q M0 y) i
        ⟨0, fam, by omega, by omega, tget_as rfl, inferInstance, inferInstance, inferInstance, inferInstance, hfl, hlen0, hfam⟩ ?_
      clear hlen0 hfam hfl hB
      rintro d σ B ⟨y, fam, rfl, hy, g37, g36, g7, g4, hB, hfl, hlen, hfam⟩
      refine TV_keep _ (p := hB) ?_
      repeat (refine StepC.go ?_)
      refine TV_cond ?_ ?_ <;> intro hc2
      · have hyi : y < i := by have := of_decide_eq_true hc2; omega
        repeat (refine StepC.go ?_)
        have := col_call q
        refine TS_callV (f := colF q) (a := []) (b := colB q) (ef := colT_eq q ▸ inferInstance) (colC (y := y) g.ok) ?_
        rintro _ rfl
        have hrf2 := hrf hyi
        have htu := g.tu y
        have hcs := colsA_succ q M0 y
        obtain ⟨L, hL⟩ : ∃ L, L = colV q y := ⟨_, rfl⟩
        have hl2 := colV_len q y
        rw [← hL] at hrf2 htu hcs hl2 ⊢
        have hLL : (cellRows L).length = L.length := by simp [cellRows]
        repeat (refine StepC.go ?_)
        rw [hLL]
        refine TV_loop (fun d σ B => ∃ (j : Nat) (fam : List (Nat × List AmD)), d = L.length - j ∧ j ≤ L.length ∧ TGet σ 45 (intT j) ∧ TGet σ 44 (intT L.length) ∧ TGet σ 43 (.sl 3 (cellRows L)) ∧ TGet σ 9 (intT y) ∧ TGet σ 37 (intT y) ∧ TGet σ 36 (intT i) ∧ TGet σ 7 (.v (.slice (some (ad bs 0)) i i)) ∧ TGet σ 4 (.v (.pointer (some (ad pk 0)))) ∧
          SubP B ((pk, .cells [intT e.arity, intT e.halves, boolT e.cliff, boolT e.diag, strT e.back, colT q] 61 true) :: (bs, .arr 1 (amR i fam) 37 true) :: amB fam) ∧ fam.length = i ∧ (∀ x ∈ fam, x.2.length = i) ∧ fam.map Prod.snd = (L.take j).foldl (fun m c => putA m y c) (colsA q M0 y)) L.length
          ⟨0, fam, by omega, by omega, tget_as rfl, inferInstance, inferInstance, inferInstance, inferInstance, inferInstance, inferInstance, inferInstance, inferInstance, hfl, hlen, hfam⟩ ?_
        clear hlen hfam hfl hB fam g37 g36 g7 g4
        rintro d σ B ⟨j, fam, rfl, hj, g45, g44, g43, g9, g37, g36, g7, g4, hB, hfl, hlen, hfam⟩
        refine TV_keep _ (p := hB) ?_
        repeat (refine StepC.go ?_)
        refine TV_cond ?_ ?_ <;> intro hc3
        · have hjl : j < L.length := by have := of_decide_eq_true hc3; omega
          obtain ⟨c, hcc⟩ : ∃ c, L[j]? = some c := ⟨_, List.getElem?_eq_getElem hjl⟩
          have ngc : NthG (cellRows L) j (cellCs c) := .map cellCs hcc
          have h8 := htu c (List.mem_of_getElem? hcc)
          have hr := hrf2 c (List.mem_of_getElem? hcc)
          obtain ⟨k, hk⟩ : ∃ k : Nat, c.row = (k : Int) := ⟨c.row.toNat, by omega⟩
          have hkn : k < i := by omega
          have hA : AsNat c.row k := ⟨hk⟩
          obtain ⟨⟨bk, lk⟩, hx⟩ : ∃ x, fam[k]? = some x := ⟨_, List.getElem?_eq_getElem (by omega)⟩
          have hlk : lk.length = i := hlen _ (List.mem_of_getElem? hx)
          obtain ⟨a0, ha0⟩ : ∃ a, lk[y]? = some a := ⟨_, List.getElem?_eq_getElem (by omega)⟩
          have q1 := amB_is hx
          have q2 := amB_in hx
          have q3 := amB_put (l2 := lk.set y (cellA c)) hx
          have q4 := amR_at (n := i) hx
          have q5 : LenT (amR i fam) i := ⟨by simp [amR, hfl]⟩
          have q6 : LenT (amRows lk) i := ⟨by simp [amRows, hlk]⟩
          have q7 : NthG (amRows lk) y (amCs a0) := .map amCs ha0
          have q8 : SetR (amRows lk) y (amCs (cellA c)) (amRows (lk.set y (cellA c))) := ⟨by simp [amRows, List.map_set]⟩
          repeat (first | refine StepC.go ?_ | intro _ | refine TD_take rfl rfl ?_ | refine TD_load rfl rfl ?_ | refine TD_one rfl ?_ | refine FiltT_nil ?_ | refine FiltT_drop rfl ?_ | refine FiltT_keep rfl ?_ | refine TV_draw (id := 17) (plan := [.take 0, .take 1, .take 2, .take 3, .take 4, .take 5, .take 6, .one 7, .take 8, .one 9]) (by kernel_rfl) ?_)
          refine TS_callE (valueT h8) ?_
          repeat (first | refine StepC.go ?_ | (refine TS_puw (Pu.addi ?_) ?_; · omega) | refine TD_take rfl rfl ?_ | refine TD_one rfl ?_ | refine FiltT_nil ?_ | refine FiltT_drop rfl ?_)
          refine ⟨_, ?_, j + 1, fam.set k (bk, lk.set y (cellA c)), rfl, by omega, tget_as rfl, inferInstance, inferInstance, inferInstance, inferInstance, inferInstance, inferInstance, inferInstance, ?_, by simp [hfl], ?_, ?_⟩
          · omega
          · rw [amR_set hx]; infer_instance
          · intro x hxx
            rcases List.mem_or_eq_of_mem_set hxx with h1 | rfl
            · exact hlen x h1
            · simpa using hlk
          · rw [take_snoc hcc, List.foldl_append, ← hfam]
            simp [putA, List.map_set, hk, hx]
        · have hjl : j = L.length := by have := of_decide_eq_false hc3; omega
          subst hjl
          rw [List.take_length] at hfam
          repeat (first | refine StepC.go ?_ | (refine TS_puw (Pu.addi ?_) ?_; · omega))
          refine ⟨_, ?_, y + 1, fam, rfl, by omega, tget_as rfl, inferInstance, inferInstance, inferInstance, inferInstance, hfl, hlen, by rw [hcs, hfam]⟩
          omega
      · have hyi : y = i := by have := of_decide_eq_false hc2; omega
        subst hyi
        have : Sm63 y := ⟨by omega⟩
        have q5 : LenT (amR y fam) y := ⟨by simp [amR, hfl]⟩
        have hfz := amR_frz (n := y) (B := (bs, .arr 1 (amR y fam) 37 true) :: amB fam) (fam := fam) (fun x hx => by
          have : BoxIs (amB fam) x.1 (.arr 3 (amRows x.2) 46 true) := ⟨List.mem_map.2 ⟨x, hx, rfl⟩⟩
          infer_instance) (by omega) hlen (by omega)
        refine TV_drop ((bs, .arr 1 (amR y fam) 37 true) :: amB fam) (List.sublist_cons_self _ _) ?_
        repeat (refine StepC.go ?_)
        refine retT_2 (.inr rfl) ?_
        rw [← hfam]
        rfl
instance : CallIs Try.prog 18 := .of Try.func18 rfl rfl
end Go.Ideal

-- Jk
set_option linter.unusedSimpArgs false
set_option linter.unusedVariables false
namespace Go.Ideal
open Go Go.Proofs Go.RowKit
/-! ### Whole numbers, turns: the reference -/
instance : FlIs (no_index 14069245235905429503) (-9007199254740991) := ⟨by decide +kernel, by decide⟩
instance : CallIs Try.prog 91 := .of Try.func91 rfl rfl
instance : CallIs Try.prog 84 := .of Try.func84 rfl rfl
instance : CallIs Try.prog 87 := .of Try.func87 rfl rfl
instance : CallIs Try.prog 79 := .of Try.func79 rfl rfl
instance : CallIs Try.prog 77 := .of Try.func77 rfl rfl
instance : CallIs Try.prog 68 := .of Try.func68 rfl rfl
end Go.Ideal

-- Jl
set_option linter.unusedSimpArgs false
set_option linter.unusedVariables false
namespace Go.Ideal
open Go Go.Proofs Go.RowKit
/-! ### Powers of w: the reference -/
instance : CallIs Try.prog 85 := .of Try.func85 rfl rfl
instance : CallIs Try.prog 78 := .of Try.func78 rfl rfl
instance : CallIs Try.prog 67 := .of Try.func67 rfl rfl
instance : CallIs Try.prog 50 := .of Try.func50 rfl rfl
instance : CallIs Try.prog 33 := .of Try.func33 rfl rfl
end Go.Ideal

-- Jm
set_option linter.unusedSimpArgs false
set_option linter.unusedVariables false
namespace Go.Ideal
open Go Go.Proofs Go.RowKit
/-! ### Entries: the reference, evaluated at all places -/
instance : CallIs Try.prog 32 := .of Try.func32 rfl rfl
end Go.Ideal

-- Jn
set_option linter.unusedSimpArgs false
set_option linter.unusedVariables false
namespace Go.Ideal
open Go Go.Proofs Go.RowKit
/-! ### A column: the reference -/
instance : CallIs Try.prog 22 := .of Try.func22 rfl rfl
end Go.Ideal

-- Jo
set_option linter.unusedSimpArgs false
set_option linter.unusedVariables false
namespace Go.Ideal
open Go Go.Proofs Go.RowKit
/-! ### A gate's matrix: the reference -/
instance : CallIs Try.prog 19 := .of Try.func19 rfl rfl
end Go.Ideal

-- Jp
set_option linter.unusedSimpArgs false
set_option linter.unusedVariables false
namespace Go.Ideal
open Go Go.Proofs Go.RowKit
/-! ### The program's columns and matrices are the reference's -/
end Go.Ideal

-- Jq
set_option linter.unusedSimpArgs false
set_option linter.unusedVariables false
namespace Go.Ideal
open Go Go.Proofs Go.RowKit
/-! ### Amplitudes compared -/
def ringEq (r s : RgD) : Bool := (decide (r.a = s.a) && decide (r.b = s.b)) && ((decide (r.c = s.c) && decide (r.d = s.d)) && true)
def ampEq (a b : AmD) : Bool := ringEq a.r b.r && ((a.k == b.k) && true)
theorem ampEq_iff {a b : AmD} : ampEq a b = decide (a = b) := by
  obtain ⟨⟨a1, a2, a3, a4⟩, a5⟩ := a
  obtain ⟨⟨b1, b2, b3, b4⟩, b5⟩ := b
  rw [Bool.eq_iff_iff]
  simp [ampEq, ringEq]
  intro _
  constructor
  · rintro ⟨⟨h1, h2⟩, h3, h4⟩; exact ⟨h1, h2, h3, h4⟩
  · rintro ⟨h1, h2, h3, h4⟩; exact ⟨⟨h1, h2⟩, h3, h4⟩
@[reducible] def cxV (a b : Int) : Value := .complex .f64 (flb a) (flb b)
@[reducible] def amVs (a : AmD) : List Value := [cxV a.r.a a.r.b, cxV a.r.c a.r.d, .int .i64 a.k]
theorem ring_eqG {r s : RgD} (h : RgS r) (h2 : RgS s) {n : Nat} : pureOf Try.prog (Op.equalIn (n + 2) 44 (.agg [cxV r.a r.b, cxV r.c r.d].toArray) (.agg [cxV s.a s.b, cxV s.c s.d].toArray)) = some (ringEq r s) := by
  refine eqIn_struct (P := Try.prog) Try.underlying44 (by kernel_rfl) ?_
  refine .cons (by decide) (part_leaf Try.underlying42 (fun _ h => by cases h) (fun _ _ h => by cases h) rfl) (part_leaf Try.underlying42 (fun _ h => by cases h) (fun _ _ h => by cases h) rfl) (eqIn_complex Try.underlying42 h.a h.b h2.a h2.b) ?_
  refine .cons (by decide) (part_leaf Try.underlying42 (fun _ h => by cases h) (fun _ _ h => by cases h) rfl) (part_leaf Try.underlying42 (fun _ h => by cases h) (fun _ _ h => by cases h) rfl) (eqIn_complex Try.underlying42 h.c h.d h2.c h2.d) ?_
  exact .nil
theorem am_eqG {a b : AmD} (h : RgS a.r) (h2 : RgS b.r) : ∃ fs, Try.prog.underlying 46 = some (.struct fs) ∧ EqG Try.prog 9999 fs.toList (amVs a).toArray (amVs b).toArray (ampEq a b) := by
  refine ⟨_, Try.underlying46, ?_⟩
  refine .cons (by decide) (part_struct (n := 2) Try.underlying44 (by kernel_rfl)) (part_struct (n := 2) Try.underlying44 (by kernel_rfl)) (ring_eqG (n := 9997) h h2) ?_
  refine .cons (by decide) (part_leaf Try.underlying3 (fun _ h => by cases h) (fun _ _ h => by cases h) rfl) (part_leaf Try.underlying3 (fun _ h => by cases h) (fun _ _ h => by cases h) rfl) (eqIn_int Try.underlying3) ?_
  exact .nil
section
variable {σ : Nat → Tr} {B : Boxes}
theorem Pu.amNe {yt : TypeId} {x y : Operand} {a b : AmD} (h : RgS a.r) (h2 : RgS b.r) [e1 : TEval σ x (amT a)] [e2 : TEval σ y (amT b)] : Pu Try.prog σ B (.binOp .neq 46 x y yt) (.v (.bool (!decide (a = b)))) := by
  obtain ⟨fs, u, e⟩ := am_eqG h h2
  rw [← ampEq_iff]
  exact Pu.eqG (amVs a) (amVs b) (e1 := e1) (e2 := e2) (.inr ⟨rfl, rfl⟩) rfl rfl u (by kernel_rfl) (by kernel_rfl) rfl rfl e
theorem Pu.amEq {yt : TypeId} {x y : Operand} {a b : AmD} (h : RgS a.r) (h2 : RgS b.r) [e1 : TEval σ x (amT a)] [e2 : TEval σ y (amT b)] : Pu Try.prog σ B (.binOp .eql 46 x y yt) (.v (.bool (decide (a = b)))) := by
  obtain ⟨fs, u, e⟩ := am_eqG h h2
  rw [← ampEq_iff]
  exact Pu.eqG (amVs a) (amVs b) (e1 := e1) (e2 := e2) (.inl ⟨rfl, rfl⟩) rfl rfl u (by kernel_rfl) (by kernel_rfl) rfl rfl e
end
end Go.Ideal

-- Jr
set_option linter.unusedSimpArgs false
set_option linter.unusedVariables false
namespace Go.Ideal
open Go Go.Proofs Go.RowKit
/-! ### The same matrix -/
set_option synthInstance.maxSize 4000 in
set_option synthInstance.maxHeartbeats 400000 in
set_option maxHeartbeats 4000000 in
theorem mSameT {m : List (List AmD)} (h1 : m.length < 2 ^ 40) (h2 : ∀ l ∈ m, l.length < 2 ^ 40) (h3 : ∀ l ∈ m, ∀ a ∈ l, RgS a.r) : Fn Try.prog 20 [matT m, matT m] (fun r => r = boolT true) := by
  refine Fn_of Try.func20 rfl (Nat.le_of_ble_eq_true rfl) (fun X => ?_)
  unfold matT
  obtain ⟨R, hR⟩ : ∃ R, R = m.map fun l => [Tr.sl 3 (amRows l)] := ⟨_, rfl⟩
  have hL : R.length = m.length := by rw [hR]; simp
  rw [← hR]
  repeat (first | refine StepC.go ?_ | (refine TV_cond_f ?_ ?_; · first | rfl | assumption))
  rw [hL]
  refine TV_loop (fun d σ B => ∃ i : Nat, d = m.length - i ∧ i ≤ m.length ∧ TGet σ 5 (intT i) ∧ TGet σ 0 (.sl 1 R) ∧ TGet σ 1 (.sl 1 R)) m.length
    ⟨0, by omega, by omega, inferInstance, inferInstance, inferInstance⟩ ?_
  rintro d σ B ⟨i, rfl, hi, g5, g0, g1⟩
  repeat (refine StepC.go ?_)
  rw [hL]
  refine TV_cond ?_ ?_ <;> intro hc
  · have hil : i < m.length := by have := of_decide_eq_true hc; omega
    obtain ⟨l, hl⟩ : ∃ l, m[i]? = some l := ⟨_, List.getElem?_eq_getElem hil⟩
    have ng : NthG R i [Tr.sl 3 (amRows l)] := ⟨by rw [hR]; simp [hl]⟩
    have hlm := List.mem_of_getElem? hl
    have hL2 : (amRows l).length = l.length := by simp [amRows]
    repeat (first | refine StepC.go ?_ | refine TD_take rfl rfl ?_ | refine TD_load rfl rfl ?_ | refine TV_draw (id := 6) (plan := [.take 0, .take 1, .take 2, .take 3, .take 4, .take 5, .take 6, .take 7, .take 8, .take 9, .take 10]) (by kernel_rfl) ?_ | (refine TV_cond_f ?_ ?_; · first | rfl | assumption))
    rw [hL2]
    refine TV_loop (fun d σ B => ∃ j : Nat, d = l.length - j ∧ j ≤ l.length ∧ TGet σ 6 (intT j) ∧ TGet σ 5 (intT i) ∧ TGet σ 0 (.sl 1 R) ∧ TGet σ 1 (.sl 1 R)) l.length
      ⟨0, by omega, by omega, inferInstance, inferInstance, inferInstance, inferInstance⟩ ?_
    rintro d σ B ⟨j, rfl, hj, g6, g5, g0, g1⟩
    repeat (refine StepC.go ?_)
    rw [hL2]
    refine TV_cond ?_ ?_ <;> intro hc2
    · have hjl : j < l.length := by have := of_decide_eq_true hc2; omega
      obtain ⟨a, ha⟩ : ∃ a, l[j]? = some a := ⟨_, List.getElem?_eq_getElem hjl⟩
      have nga : NthG (amRows l) j (amCs a) := .map amCs ha
      have hs2 := h2 l hlm
      have hra := h3 l hlm a (List.mem_of_getElem? ha)
      repeat (first | refine StepC.go ?_ | refine TD_take rfl rfl ?_ | refine TD_load rfl rfl ?_ | refine TV_draw (id := 11) (plan := [.take 0, .take 1, .take 2, .take 3, .take 4, .take 5, .take 6, .take 7, .take 8, .take 9, .take 10, .take 11, .take 12, .take 13, .take 14]) (by kernel_rfl) ?_)
      refine TD_takew rfl rfl (Pu.amNe (a := a) (b := a) hra hra) ?_
      have dd : (!decide (a = a)) = false := by simp
      rw [dd]
      repeat (first | refine StepC.go ?_ | (refine TS_puw (Pu.addi ?_) ?_; · omega) | (refine TV_cond_f ?_ ?_; · first | rfl | assumption))
      refine ⟨_, ?_, j + 1, rfl, by omega, inferInstance, inferInstance, inferInstance, inferInstance⟩
      omega
    · repeat (first | refine StepC.go ?_ | (refine TS_puw (Pu.addi ?_) ?_; · omega))
      refine ⟨_, ?_, i + 1, rfl, by omega, inferInstance, inferInstance, inferInstance⟩
      omega
  · repeat (refine StepC.go ?_)
    refine retT_1 (.inr rfl) ?_
    rfl
instance : CallIs Try.prog 20 := .of Try.func20 rfl rfl
end Go.Ideal

-- Js
set_option linter.unusedSimpArgs false
set_option linter.unusedVariables false
namespace Go.Ideal
open Go Go.Proofs Go.RowKit
/-! ### The other questions: both -/
theorem gateDiagonal_spec (b : ByteArray) (h : IHp) : EvX Try.prog 14 [.string b].toArray h (fun v h' => v = .bool (diagS b) ∧ Ext h h') := by
  refine EvX_of Try.func14 rfl (by show 1 ≤ 7; decide) ?_
  repeat' (first | refine V_seq ?_ | refine V_region ?_ | refine WS_nil ?_ | refine S_normal ?_ | refine WS_assign ?_)
  refine WS_call (kinds_spec h) ?_
  rintro _ H ⟨eH, m, cs, rfl, hm, hmap, hl, _⟩
  obtain ⟨c, hc, _⟩ := look_row b hl
  repeat' (refine WS_move ?_)
  refine WS_lookup (mi := hmap) ?_
  rw [hc]
  repeat' (first | refine WS_nil ?_ | refine S_normal ?_ | refine V_ret ?_ | refine WS_assign ?_ | refine WS_field ?_)
  exact retK_1 ⟨rfl, eH⟩ (.inr rfl)
instance : CallIs Try.prog 14 := .of Try.func14 rfl rfl
theorem diagT (b : ByteArray) : Fn Try.prog 14 [strT b] (fun r => r = boolT (diagS b)) := Fn_vals (ws := [_]) (fun h => gateDiagonal_spec b h) (fun F => rep_v _)
instance : CallIs Try.prog 15 := .of Try.func15 rfl rfl
end Go.Ideal

-- Jt
set_option linter.unusedSimpArgs false
set_option linter.unusedVariables false
namespace Go.Ideal
open Go Go.Proofs Go.RowKit
/-! ### The names; alive -/
theorem flbm1 : flb (-1) = 13830554455654793216 := by decide +kernel
theorem rgm1 : RgS ⟨-1, 0, 0, 0⟩ := ⟨by decide, by decide, by decide, by decide⟩
def nameRows : List (List Tr) := KT.map fun e => [strT e.name]
set_option synthInstance.maxSize 4000 in
set_option synthInstance.maxHeartbeats 400000 in
set_option maxHeartbeats 4000000 in
theorem listedT : Fn Try.prog 34 [] (fun r => r = .sl 1 nameRows) := by
  refine Fn_of Try.func34 rfl (Nat.le_of_ble_eq_true rfl) (fun X => ?_)
  repeat (first | refine StepC.go ?_ | intro _)
  refine retT_1 (.inr rfl) ?_
  rfl
instance : CallIs Try.prog 34 := .of Try.func34 rfl rfl
theorem namesT : Fn Try.prog 23 [] (fun r => r = .sl 1 nameRows) := by
  refine Fn_of Try.func23 rfl (Nat.le_of_ble_eq_true rfl) (fun X => ?_)
  repeat (refine StepC.go ?_)
  refine TS_call listedT ?_
  rintro _ rfl
  repeat (refine StepC.go ?_)
  refine retT_1 (.inr rfl) ?_
  rfl
instance : CallIs Try.prog 23 := .of Try.func23 rfl rfl
set_option synthInstance.maxSize 4000 in
set_option synthInstance.maxHeartbeats 400000 in
set_option maxHeartbeats 4000000 in
theorem alive08T : Fn Try.prog 7 [] (fun r => r = boolT true) := by
  refine Fn_of Try.func7 rfl (Nat.le_of_ble_eq_true rfl) (fun X => ?_)
  repeat (refine StepC.go ?_)
  refine TS_call (columnT (b := ⟨#[99, 104]⟩) (y := 3)) ?_
  have hc : columnS ⟨#[99, 104]⟩ 3 = ([1, 3], [⟨⟨1, 0, 0, 0⟩, 1⟩, ⟨⟨-1, 0, 0, 0⟩, 1⟩], 0) := by decide +kernel
  rw [hc]
  intro r hr
  dsimp only at hr
  obtain ⟨R, hR⟩ : ∃ R, R = intRows [1, 3] := ⟨_, rfl⟩
  obtain ⟨A, hA⟩ : ∃ A, A = amRows [⟨⟨1, 0, 0, 0⟩, 1⟩, ⟨⟨-1, 0, 0, 0⟩, 1⟩] := ⟨_, rfl⟩
  rw [← hR, ← hA] at hr
  subst hr
  have hRl : R.length = 2 := by rw [hR]; rfl
  have hAl : A.length = 2 := by rw [hA]; rfl
  have ng1 : NthG R 1 [intT 3] := ⟨by rw [hR]; rfl⟩
  have ng2 : NthG A 1 (amCs ⟨⟨-1, 0, 0, 0⟩, 1⟩) := ⟨by rw [hA]; rfl⟩
  clear hR hA
  repeat (refine StepC.go ?_)
  refine TS_callE (backT ⟨#[88]⟩) ?_
  have hb : backS ⟨#[88]⟩ = (⟨#[]⟩, 80) := by decide +kernel
  rw [hb]
  repeat (refine StepC.go ?_)
  refine TS_callE (backT ⟨#[118]⟩) ?_
  have hv : backS ⟨#[118]⟩ = (⟨#[118, 100, 103]⟩, 0) := by decide +kernel
  rw [hv]
  repeat (first | refine StepC.go ?_ | (refine TS_on rfl ?_ ?_; · first | rfl | assumption))
  refine TS_call namesT ?_
  rintro _ rfl
  have hn : nameRows.length = 25 := rfl
  repeat (first | refine StepC.go ?_ | (refine TS_on rfl ?_ ?_; · first | rfl | assumption) | (refine TV_cond_f ?_ ?_; · first | rfl | assumption))
  rw [hn]
  skip
  rw [hRl]
  repeat (first | refine StepC.go ?_ | (refine TS_on rfl ?_ ?_; · first | rfl | assumption))
  rw [hAl]
  repeat (first | refine StepC.go ?_ | (refine TS_on rfl ?_ ?_; · first | rfl | assumption))
  have e1 : amT ⟨⟨-1, 0, 0, 0⟩, 1⟩ = .agg [.v (.complex .f64 13830554455654793216 0), .v (.complex .f64 0 0), .v (.int .i64 1)] := by simp only [amT, amCs, cxT, flbm1, flb0]
  refine TS_puw (Pu.amEq (a := ⟨⟨-1, 0, 0, 0⟩, 1⟩) (b := ⟨⟨-1, 0, 0, 0⟩, 1⟩) (e2 := by rw [e1]; infer_instance) rgm1 rgm1) ?_
  repeat (first | refine StepC.go ?_ | (refine TS_on rfl ?_ ?_; · first | rfl | assumption))
  refine TS_callE (arityT _) ?_
  repeat (first | refine StepC.go ?_ | (refine TS_on rfl ?_ ?_; · first | rfl | assumption))
  refine retT_1 (.inr rfl) ?_
  rfl
instance : CallIs Try.prog 7 := .of Try.func7 rfl rfl
end Go.Ideal

-- Ju
set_option linter.unusedSimpArgs false
set_option linter.unusedVariables false
namespace Go.Ideal
open Go Go.Proofs Go.RowKit
/-! ### The law GateAsks -/
def smR (r : RgD) : Bool := decide (r.a.natAbs < 2 ^ 53) && decide (r.b.natAbs < 2 ^ 53) && decide (r.c.natAbs < 2 ^ 53) && decide (r.d.natAbs < 2 ^ 53)
theorem smR_iff {r : RgD} (h : smR r = true) : RgS r := by
  simp only [smR, Bool.and_eq_true, decide_eq_true_eq] at h
  exact ⟨h.1.1.1, h.1.1.2, h.1.2, h.2⟩
def matFine (p : KE × ColD) : Bool := decide ((matrixS p.1 p.2).length ≤ 8) && (matrixS p.1 p.2).all fun l => decide (l.length ≤ 8) && l.all fun a => smR a.r
theorem matFine_all : (KT.zip KC).all matFine = true := by decide +kernel
theorem matrix_fine (b : ByteArray) : (matrixC b).1.length < 2 ^ 40 ∧ (∀ l ∈ (matrixC b).1, l.length < 2 ^ 40) ∧ ∀ l ∈ (matrixC b).1, ∀ a ∈ l, RgS a.r := by
  unfold matrixC
  cases hk : kOf b with
  | none => exact ⟨show (0 : Nat) < 2 ^ 40 by decide, by simp, by simp⟩
  | some e =>
    cases hq : colOf b with
    | none => exact ⟨show (0 : Nat) < 2 ^ 40 by decide, by simp, by simp⟩
    | some q =>
      simp only
      have h1 := List.all_eq_true.1 matFine_all _ (zip_of hk hq)
      simp only [matFine, Bool.and_eq_true, decide_eq_true_eq, List.all_eq_true] at h1
      refine ⟨by omega, fun l hl => ?_, fun l hl a ha => smR_iff ((h1.2 l hl).2 a ha)⟩
      have := (h1.2 l hl).1
      omega
theorem beqS_self (b : ByteArray) : beqS b b = true := beqS_iff.2 rfl
theorem EvX_of_FnG {P : Program} {f : FuncId} {ts : List Tr} {vs : List Value} {h : IHp} (x : Fn P f ts (fun r => r = boolT true)) (hr : RepL h.cell? ts vs) : EvX P f vs.toArray h (fun v _ => v = .bool true) := by
  unfold Fn at x
  refine (x h.cell? h vs (Sub.refl _) hr).mono ?_
  rintro v h' ⟨_, F, r, _, _, _, h1, rfl⟩
  simpa only [Rep] using h1
end Go.Ideal

-- Jv
set_option linter.unusedSimpArgs false
set_option linter.unusedVariables false
namespace Go.Ideal
open Go Go.Proofs Go.RowKit
/-! ### Gaussian integers: sums and products that fit -/
theorem gBothT {a b c d : Int} [h1 : Sm53 a] [h2 : Sm53 b] [h3 : Sm53 c] [h4 : Sm53 d] : Fn Try.prog 80 [cxT a b, cxT c d] (fun r => r = intT 0) := by
  refine Fn_of Try.func80 rfl (Nat.le_of_ble_eq_true rfl) (fun X => ?_)
  repeat (refine StepC.go ?_)
  refine TS_callE gCheckT ?_
  repeat (first | refine StepC.go ?_ | (refine TV_cond_f ?_ ?_; · first | rfl | assumption))
  refine TS_callE gCheckT ?_
  repeat (refine StepC.go ?_)
  exact retT_1 (.inr rfl) rfl
instance : CallIs Try.prog 80 := .of Try.func80 rfl rfl
@[reducible] def flRows (l : List Nat) : List (List Tr) := l.map fun w => [.v (.float .f64 w)]
theorem smallT {l : List Nat} (hl : l.length < 2 ^ 20) (hs : ∀ w ∈ l, ∃ n, FzIs w n) : Fn Try.prog 81 [.sl 1 (flRows l)] (fun r => r = boolT true) := by
  refine Fn_of Try.func81 rfl (Nat.le_of_ble_eq_true rfl) (fun X => ?_)
  have hL : (flRows l).length = l.length := by simp [flRows]
  repeat (refine StepC.go ?_)
  rw [hL]
  refine TV_loop (fun d σ B => ∃ i : Nat, d = l.length - i ∧ i ≤ l.length ∧ TGet σ 7 (intT i) ∧ TGet σ 6 (intT l.length) ∧ TGet σ 5 (.sl 1 (flRows l))) l.length
    ⟨0, by omega, by omega, inferInstance, inferInstance, inferInstance⟩ ?_
  rintro d σ B ⟨i, rfl, hi, g7, g6, g5⟩
  repeat (refine StepC.go ?_)
  refine TV_cond ?_ ?_ <;> intro hc
  · have hil : i < l.length := by have := of_decide_eq_true hc; omega
    obtain ⟨w, hw⟩ : ∃ w, l[i]? = some w := ⟨_, List.getElem?_eq_getElem hil⟩
    obtain ⟨n, hn⟩ := hs w (List.mem_of_getElem? hw)
    have ng : NthG (flRows l) i [.v (.float .f64 w)] := .map (fun w => [Tr.v (.float .f64 w)]) hw
    repeat (refine StepC.go ?_)
    refine TS_callE (absT hn) ?_
    have hz : Sm53 (n.natAbs : Int) := ⟨by rw [Int.natAbs_natCast]; exact hn.sm⟩
    have dd : decide ((n.natAbs : Int) ≤ 9007199254740991) = true := by have := hn.sm; simp; omega
    repeat (refine StepC.go ?_)
    rw [dd]
    repeat (first | refine StepC.go ?_ | (refine TS_puw (Pu.addi ?_) ?_; · omega) | (refine TV_cond_f ?_ ?_; · first | rfl | assumption))
    refine ⟨_, ?_, i + 1, rfl, by omega, inferInstance, inferInstance, inferInstance⟩
    omega
  · repeat (refine StepC.go ?_)
    exact retT_1 (.inr rfl) rfl
instance : CallIs Try.prog 81 := .of Try.func81 rfl rfl
theorem small2T {u v : Nat} {m n : Int} (h1 : FzIs u m) (h2 : FzIs v n) : Fn Try.prog 81 [.sl 1 [[.v (.float .f64 u)], [.v (.float .f64 v)]]] (fun r => r = boolT true) := smallT (l := [u, v]) (by simp) (by
  intro w hw
  simp at hw
  rcases hw with rfl | rfl
  · exact ⟨_, h1⟩
  · exact ⟨_, h2⟩)
theorem small4T {u v u2 v2 : Nat} {m n m2 n2 : Int} (h1 : FzIs u m) (h2 : FzIs v n) (h3 : FzIs u2 m2) (h4 : FzIs v2 n2) : Fn Try.prog 81 [.sl 1 [[.v (.float .f64 u)], [.v (.float .f64 v)], [.v (.float .f64 u2)], [.v (.float .f64 v2)]]] (fun r => r = boolT true) := smallT (l := [u, v, u2, v2]) (by simp) (by
  intro w hw
  simp at hw
  rcases hw with rfl | rfl | rfl | rfl
  · exact ⟨_, h1⟩
  · exact ⟨_, h2⟩
  · exact ⟨_, h3⟩
  · exact ⟨_, h4⟩)
theorem gAddT {a b c d : Int} [h1 : Sm53 a] [h2 : Sm53 b] [h3 : Sm53 c] [h4 : Sm53 d] [h5 : Sm53 (a + c)] [h6 : Sm53 (b + d)] : Fn Try.prog 71 [cxT a b, cxT c d] (fun r => r = .tup [cxT (a + c) (b + d), intT 0]) := by
  refine Fn_of Try.func71 rfl (Nat.le_of_ble_eq_true rfl) (fun X => ?_)
  have z1 : FzIs (flb (a + c)) (a + c) := ⟨.inl rfl, h5.lt⟩
  have z2 : FzIs (flb (b + d)) (b + d) := ⟨.inl rfl, h6.lt⟩
  repeat (refine StepC.go ?_)
  refine TS_callE gBothT ?_
  repeat (first | refine StepC.go ?_ | intro _ | (refine TV_cond_f ?_ ?_; · first | rfl | assumption))
  refine TS_callE (small2T z1 z2) ?_
  repeat (first | refine StepC.go ?_ | (refine TV_cond_f ?_ ?_; · first | rfl | assumption))
  refine TS_callE (madeT z1 z2) ?_
  repeat (refine StepC.go ?_)
  exact retT_2 (.inr rfl) rfl
instance : CallIs Try.prog 71 := .of Try.func71 rfl rfl
theorem gMulT {a b c d : Int} [h1 : Sm53 a] [h2 : Sm53 b] [h3 : Sm53 c] [h4 : Sm53 d] [h5 : Sm53 (a * c)] [h6 : Sm53 (b * d)] [h7 : Sm53 (a * d)] [h8 : Sm53 (b * c)] [h9 : Sm53 (a * c - b * d)] [h10 : Sm53 (a * d + b * c)] :
    Fn Try.prog 70 [cxT a b, cxT c d] (fun r => r = .tup [cxT (a * c - b * d) (a * d + b * c), intT 0]) := by
  refine Fn_of Try.func70 rfl (Nat.le_of_ble_eq_true rfl) (fun X => ?_)
  repeat (refine StepC.go ?_)
  refine TS_callE gBothT ?_
  repeat (first | refine StepC.go ?_ | intro _ | (refine TV_cond_f ?_ ?_; · first | rfl | assumption))
  rename_i w1 z1 w2 z2 w3 z3 w4 z4 bx
  refine TS_callE (small4T z1 z2 z3 z4) ?_
  repeat (first | refine StepC.go ?_ | intro _ | (refine TV_cond_f ?_ ?_; · first | rfl | assumption))
  rename_i w5 z5 w6 z6 bx2
  refine TS_callE (small2T z5 z6) ?_
  repeat (first | refine StepC.go ?_ | (refine TV_cond_f ?_ ?_; · first | rfl | assumption))
  refine TS_callE (madeT z5 z6) ?_
  repeat (refine StepC.go ?_)
  exact retT_2 (.inr rfl) rfl
instance : CallIs Try.prog 70 := .of Try.func70 rfl rfl
end Go.Ideal

-- Jw
set_option linter.unusedSimpArgs false
set_option linter.unusedVariables false
namespace Go.Ideal
open Go Go.Proofs Go.RowKit
/-! ### Ring elements: sums, products, doubles, halves, conjugates that fit -/
theorem wrap_id {z : Int} (h : -9223372036854775808 ≤ z ∧ z ≤ 9223372036854775807) : IntKind.i64.wrap z = z := wrap_i64_id h
theorem xor_mod2 (x y : Nat) : (x ^^^ y) % 2 = (x + y) % 2 := by
  have h1 := @Nat.testBit_xor x y 0
  simp only [Nat.testBit_zero] at h1
  have hx : x % 2 = 0 ∨ x % 2 = 1 := by omega
  have hy : y % 2 = 0 ∨ y % 2 = 1 := by omega
  have hz : (x ^^^ y) % 2 = 0 ∨ (x ^^^ y) % 2 = 1 := by omega
  rcases hx with hx | hx <;> rcases hy with hy | hy <;> rcases hz with hz | hz <;> simp [hx, hy, hz] at h1 <;> omega
theorem ofInt_mod2 (a : Int) : ((BitVec.ofInt 64 a).toNat : Int) % 2 = a % 2 := by
  rw [BitVec.toNat_ofInt]
  have : (0 : Int) ≤ a % ((2 ^ 64 : Nat) : Int) := Int.emod_nonneg _ (by decide)
  rw [Int.toNat_of_nonneg this]
  omega
theorem ofInt_wrap (n : Nat) (h : n < 2 ^ 64) : BitVec.ofInt 64 (IntKind.i64.wrap (n : Int)) = BitVec.ofNat 64 n := by
  apply BitVec.eq_of_toNat_eq
  rw [BitVec.toNat_ofInt, BitVec.toNat_ofNat]
  have hb : (2 : Int) ^ IntKind.i64.bits = 18446744073709551616 := by rfl
  have hb' : (2 : Int) ^ (IntKind.i64.bits - 1) = 9223372036854775808 := by rfl
  have hs : IntKind.i64.signed = true := rfl
  unfold IntKind.wrap
  simp only [hb, hb', hs]
  split <;> omega
theorem parity_bits (a b : Int) : ibits .and .i64 (ibits .xor .i64 a b) 1 = (a + b) % 2 := by
  have h1 : ibits .xor .i64 a b = IntKind.i64.wrap (((BitVec.ofInt 64 a ^^^ BitVec.ofInt 64 b).toNat : Nat) : Int) := rfl
  have h2 : ibits .and .i64 (ibits .xor .i64 a b) 1 = IntKind.i64.wrap (((BitVec.ofInt 64 (ibits .xor .i64 a b) &&& BitVec.ofInt 64 1).toNat : Nat) : Int) := rfl
  rw [h2, h1, ofInt_wrap _ (BitVec.isLt _), BitVec.ofNat_toNat]
  have h3 : (BitVec.ofInt 64 1).toNat = 1 := by decide
  rw [BitVec.toNat_and, h3, Nat.and_one_is_mod, BitVec.toNat_setWidth, BitVec.toNat_xor]
  have h4 := xor_mod2 (BitVec.ofInt 64 a).toNat (BitVec.ofInt 64 b).toNat
  have h5 := ofInt_mod2 a
  have h6 := ofInt_mod2 b
  have h7 : ((BitVec.ofInt 64 a).toNat ^^^ (BitVec.ofInt 64 b).toNat) % 2 ^ 64 % 2 = ((BitVec.ofInt 64 a).toNat ^^^ (BitVec.ofInt 64 b).toNat) % 2 := by omega
  rw [h7, h4, wrap_id (by omega)]
  omega
def evS (a b : Int) : Bool := decide ((a + b) % 2 = 0)
theorem evenT {a b : Int} [h1 : Sm53 a] [h2 : Sm53 b] : Fn Try.prog 82 [cxT a b] (fun r => r = boolT (evS a b)) := by
  refine Fn_of Try.func82 rfl (Nat.le_of_ble_eq_true rfl) (fun X => ?_)
  repeat (refine StepC.go ?_)
  rw [parity_bits]
  refine retT_1 (.inr rfl) ?_
  rfl
instance : CallIs Try.prog 82 := .of Try.func82 rfl rfl
def rAdd (r s : RgD) : RgD := ⟨r.a + s.a, r.b + s.b, r.c + s.c, r.d + s.d⟩
def rDouble (r : RgD) : RgD := ⟨r.c + -r.d, r.d + r.c, r.a - -r.b, r.b - r.a⟩
def rEven (r : RgD) : Bool := evS r.a r.b && evS r.c r.d
def rHalf (r : RgD) : RgD := ⟨(r.c - r.d) / 2, (r.c + r.d) / 2, (r.a + r.b) / 2, (r.b - r.a) / 2⟩
def rConj (r : RgD) : RgD := ⟨r.a, -r.b, -r.d, -r.c⟩
theorem RgS.sa {r : RgD} (h : RgS r) : Sm53 r.a := ⟨h.a⟩
theorem RgS.sb {r : RgD} (h : RgS r) : Sm53 r.b := ⟨h.b⟩
theorem RgS.sc {r : RgD} (h : RgS r) : Sm53 r.c := ⟨h.c⟩
theorem RgS.sd {r : RgD} (h : RgS r) : Sm53 r.d := ⟨h.d⟩
theorem sm_neg {n : Int} (h : Sm53 n) : Sm53 (-n) := ⟨by rw [Int.natAbs_neg]; exact h.lt⟩
theorem rBothT {r s : RgD} [h : RgS r] [h2 : RgS s] : Fn Try.prog 69 [rgT r, rgT s] (fun t => t = intT 0) := by
  refine Fn_of Try.func69 rfl (Nat.le_of_ble_eq_true rfl) (fun X => ?_)
  repeat (first | refine StepC.go ?_ | intro _)
  refine TS_callE rCheckT ?_
  repeat (first | refine StepC.go ?_ | (refine TV_cond_f ?_ ?_; · first | rfl | assumption))
  refine TS_callE rCheckT ?_
  repeat (refine StepC.go ?_)
  exact retT_1 (.inr rfl) rfl
instance : CallIs Try.prog 69 := .of Try.func69 rfl rfl
theorem rAddT {r s : RgD} [h : RgS r] [h2 : RgS s] [h3 : RgS (rAdd r s)] : Fn Try.prog 56 [rgT r, rgT s] (fun t => t = .tup [rgT (rAdd r s), intT 0]) := by
  refine Fn_of Try.func56 rfl (Nat.le_of_ble_eq_true rfl) (fun X => ?_)
  have := h.sa; have := h.sb; have := h.sc; have := h.sd
  have := h2.sa; have := h2.sb; have := h2.sc; have := h2.sd
  have : Sm53 (r.a + s.a) := h3.sa
  have : Sm53 (r.b + s.b) := h3.sb
  have : Sm53 (r.c + s.c) := h3.sc
  have : Sm53 (r.d + s.d) := h3.sd
  repeat (first | refine StepC.go ?_ | intro _)
  refine TS_callE rBothT ?_
  repeat (first | refine StepC.go ?_ | (refine TV_cond_f ?_ ?_; · first | rfl | assumption))
  refine TS_callE gAddT ?_
  repeat (refine StepC.go ?_)
  refine TS_callE gAddT ?_
  repeat (refine StepC.go ?_)
  refine TS_callE pairT ?_
  repeat (refine StepC.go ?_)
  exact retT_2 (.inr rfl) rfl
instance : CallIs Try.prog 56 := .of Try.func56 rfl rfl
theorem rConjT {r : RgD} [h : RgS r] : Fn Try.prog 57 [rgT r] (fun t => t = .tup [rgT (rConj r), intT 0]) := by
  refine Fn_of Try.func57 rfl (Nat.le_of_ble_eq_true rfl) (fun X => ?_)
  have := h.sa; have := h.sb; have := h.sc; have := h.sd
  have : Sm53 (-r.d) := sm_neg h.sd
  repeat (first | refine StepC.go ?_ | intro _)
  refine TS_callE rCheckT ?_
  repeat (first | refine StepC.go ?_ | (refine TV_cond_f ?_ ?_; · first | rfl | assumption))
  refine TS_callE gConjT ?_
  repeat (refine StepC.go ?_)
  refine TS_callE gConjT ?_
  repeat (refine StepC.go ?_)
  refine TS_callE (gTurnT (a := r.c) (b := -r.d) (.inr (.inr (.inr rfl)))) ?_
  repeat (refine StepC.go ?_)
  refine TS_callE pairT ?_
  repeat (refine StepC.go ?_)
  exact retT_2 (.inr rfl) rfl
instance : CallIs Try.prog 57 := .of Try.func57 rfl rfl
theorem ari_sub {a b : Int} (h1 : Sm53 a) (h2 : Sm53 b) : AriT .sub .i64 a b (a - b) := ⟨by
  have := h1.lt; have := h2.lt
  simp only [iarith]; rw [wrap_id (by omega)]⟩
theorem ari_add {a b : Int} (h1 : Sm53 a) (h2 : Sm53 b) : AriT .add .i64 a b (a + b) := ⟨by
  have := h1.lt; have := h2.lt
  simp only [iarith]; rw [wrap_id (by omega)]⟩
theorem half_div {x : Int} (h1 : x % 2 = 0) (h2 : x.natAbs < 2 ^ 54) : idivs .quo .i64 x 2 = some (x / 2) := by
  have h3 : x.tdiv 2 = x / 2 := Int.tdiv_eq_ediv_of_dvd (Int.dvd_of_emod_eq_zero h1)
  simp only [idivs, h3]
  rw [wrap_id (by omega)]
theorem rHalf_sm {r : RgD} (h : RgS r) : RgS (rHalf r) := by
  have := h.a; have := h.b; have := h.c; have := h.d
  refine ⟨?_, ?_, ?_, ?_⟩ <;> simp only [rHalf] <;> omega
set_option synthInstance.maxSize 4000 in
set_option synthInstance.maxHeartbeats 400000 in
set_option maxHeartbeats 4000000 in
theorem rHalveT {r : RgD} [h : RgS r] : Fn Try.prog 72 [rgT r] (fun t => t = .tup [rgT (if rEven r then rHalf r else ⟨0, 0, 0, 0⟩), boolT (rEven r), intT 0]) := by
  refine Fn_of Try.func72 rfl (Nat.le_of_ble_eq_true rfl) (fun X => ?_)
  have sa := h.sa; have sb := h.sb; have sc := h.sc; have sd := h.sd
  repeat (first | refine StepC.go ?_ | intro _)
  refine TS_callE rCheckT ?_
  repeat (first | refine StepC.go ?_ | (refine TV_cond_f ?_ ?_; · first | rfl | assumption))
  refine TS_callE evenT ?_
  repeat (refine StepC.go ?_)
  by_cases h1 : evS r.a r.b = true
  · rw [h1]
    repeat (first | refine StepC.go ?_ | (refine TS_on rfl ?_ ?_; · first | rfl | assumption))
    refine TS_callE evenT ?_
    by_cases h2 : evS r.c r.d = true
    · rw [h2]
      have a1 := ari_sub sc sd
      have a2 := ari_add sc sd
      have a3 := ari_add sa sb
      have a4 := ari_sub sb sa
      have hs := rHalf_sm h
      have : Sm53 ((r.c - r.d) / 2) := hs.sa
      have : Sm53 ((r.c + r.d) / 2) := hs.sb
      have : Sm53 ((r.a + r.b) / 2) := hs.sc
      have : Sm53 ((r.b - r.a) / 2) := hs.sd
      have e1 := of_decide_eq_true h1
      have e2 := of_decide_eq_true h2
      have l1 := h.a; have l2 := h.b; have l3 := h.c; have l4 := h.d
      have d1 := half_div (x := r.c - r.d) (by omega) (by omega)
      have d2 := half_div (x := r.c + r.d) (by omega) (by omega)
      have d3 := half_div (x := r.a + r.b) (by omega) (by omega)
      have d4 := half_div (x := r.b - r.a) (by omega) (by omega)
      clear e1 e2 l1 l2 l3 l4
      repeat (first | refine StepC.go ?_ | (refine TS_on rfl ?_ ?_; · first | rfl | assumption) | refine TD_take rfl rfl ?_ | refine TD_load rfl rfl ?_ | refine TV_draw (id := 6) (plan := [.take 0, .take 1, .take 2, .take 3, .take 4, .take 5, .take 6, .take 7, .take 8, .take 9]) (by kernel_rfl) ?_ | refine TV_draw (id := 7) (plan := [.take 0, .take 1, .take 2, .take 3, .take 4, .take 5, .take 6, .take 7, .take 8, .take 9]) (by kernel_rfl) ?_ | (refine TV_cond_f ?_ ?_; · first | rfl | assumption))
      refine TS_puw (Pu.divw (by decide) d1) ?_
      repeat (refine StepC.go ?_)
      refine TS_puw (Pu.divw (by decide) d2) ?_
      repeat (refine StepC.go ?_)
      refine TS_puw (Pu.divw (by decide) d3) ?_
      repeat (refine StepC.go ?_)
      refine TS_puw (Pu.divw (by decide) d4) ?_
      repeat (refine StepC.go ?_)
      refine retT_3 (.inr rfl) ?_
      simp only [rEven, h1, h2, Bool.and_self, if_true, rHalf, tret]
    · have h2' : evS r.c r.d = false := by simpa using h2
      rw [h2']
      repeat (first | refine StepC.go ?_ | (refine TS_on rfl ?_ ?_; · first | rfl | assumption) | (refine TV_cond_t ?_ ?_; · first | rfl | assumption))
      refine retT_3 (.inr rfl) ?_
      simp only [rEven, h1, h2', Bool.and_false, Bool.false_eq_true, if_false, tret, rgT, rgCs, cxT, flb0]
  · have h1' : evS r.a r.b = false := by simpa using h1
    rw [h1']
    repeat (first | refine StepC.go ?_ | (refine TS_off rfl ?_ ?_; · first | rfl | assumption) | (refine TS_puw (Pu.pick_t ?_) ?_; · first | rfl | assumption) | (refine TV_cond_t ?_ ?_; · first | rfl | assumption))
    refine retT_3 (.inr rfl) ?_
    simp only [rEven, h1', Bool.false_and, Bool.false_eq_true, if_false, tret, rgT, rgCs, cxT, flb0]
instance : CallIs Try.prog 72 := .of Try.func72 rfl rfl
end Go.Ideal

-- Jx
set_option linter.unusedSimpArgs false
set_option linter.unusedVariables false
namespace Go.Ideal
open Go Go.Proofs Go.RowKit
/-! ### Ring elements: differences of parts, doubles, products -/
theorem gSubT {a b c d : Int} [h1 : Sm53 a] [h2 : Sm53 b] [h3 : Sm53 c] [h4 : Sm53 d] [h5 : Sm53 (a - c)] [h6 : Sm53 (b - d)] : Fn Try.prog 73 [cxT a b, cxT c d] (fun r => r = .tup [cxT (a - c) (b - d), intT 0]) := by
  refine Fn_of Try.func73 rfl (Nat.le_of_ble_eq_true rfl) (fun X => ?_)
  have z1 : FzIs (flb (a - c)) (a - c) := ⟨.inl rfl, h5.lt⟩
  have z2 : FzIs (flb (b - d)) (b - d) := ⟨.inl rfl, h6.lt⟩
  repeat (refine StepC.go ?_)
  refine TS_callE gBothT ?_
  repeat (first | refine StepC.go ?_ | intro _ | (refine TV_cond_f ?_ ?_; · first | rfl | assumption))
  refine TS_callE (small2T z1 z2) ?_
  repeat (first | refine StepC.go ?_ | (refine TV_cond_f ?_ ?_; · first | rfl | assumption))
  refine TS_callE (madeT z1 z2) ?_
  repeat (refine StepC.go ?_)
  exact retT_2 (.inr rfl) rfl
instance : CallIs Try.prog 73 := .of Try.func73 rfl rfl
set_option synthInstance.maxSize 4000 in
set_option synthInstance.maxHeartbeats 400000 in
set_option maxHeartbeats 4000000 in
theorem rDoubleT {r : RgD} [h : RgS r] [h3 : RgS (rDouble r)] : Fn Try.prog 55 [rgT r] (fun t => t = .tup [rgT (rDouble r), intT 0]) := by
  refine Fn_of Try.func55 rfl (Nat.le_of_ble_eq_true rfl) (fun X => ?_)
  have := h.sa; have := h.sb; have := h.sc; have := h.sd
  have : Sm53 (-r.d) := sm_neg h.sd
  have : Sm53 (-r.b) := sm_neg h.sb
  have : Sm53 (r.c + -r.d) := h3.sa
  have : Sm53 (r.d + r.c) := h3.sb
  have : Sm53 (r.a - -r.b) := h3.sc
  have : Sm53 (r.b - r.a) := h3.sd
  repeat (first | refine StepC.go ?_ | intro _)
  refine TS_callE rCheckT ?_
  repeat (first | refine StepC.go ?_ | (refine TV_cond_f ?_ ?_; · first | rfl | assumption))
  refine TS_callE (gTurnT (.inr (.inl rfl))) ?_
  repeat (refine StepC.go ?_)
  refine TS_callE (gTurnT (.inr (.inl rfl))) ?_
  repeat (refine StepC.go ?_)
  refine TS_callE (gAddT (a := r.c) (b := r.d) (c := -r.d) (d := r.c)) ?_
  repeat (refine StepC.go ?_)
  refine TS_callE (gSubT (a := r.a) (b := r.b) (c := -r.b) (d := r.a)) ?_
  repeat (refine StepC.go ?_)
  refine TS_callE pairT ?_
  repeat (refine StepC.go ?_)
  exact retT_2 (.inr rfl) rfl
instance : CallIs Try.prog 55 := .of Try.func55 rfl rfl
/-- the product of Gaussian integers -/
def gMul (x y : Int × Int) : Int × Int := (x.1 * y.1 - x.2 * y.2, x.1 * y.2 + x.2 * y.1)
def rMul (r s : RgD) : RgD :=
  let p0 := gMul (r.a, r.b) (s.a, s.b)
  let p1 := gMul (r.c, r.d) (s.c, s.d)
  let p2 := gMul (r.a, r.b) (s.c, s.d)
  let p3 := gMul (r.c, r.d) (s.a, s.b)
  ⟨p0.1 + -p1.2, p0.2 + p1.1, p2.1 + p3.1, p2.2 + p3.2⟩
/-- all steps of a product of Gaussian integers fit -/
structure GFit (x y : Int × Int) : Prop where
  a : Sm53 (x.1 * y.1)
  b : Sm53 (x.2 * y.2)
  c : Sm53 (x.1 * y.2)
  d : Sm53 (x.2 * y.1)
  e : Sm53 (x.1 * y.1 - x.2 * y.2)
  f : Sm53 (x.1 * y.2 + x.2 * y.1)
structure RFit (r s : RgD) : Prop where
  g0 : GFit (r.a, r.b) (s.a, s.b)
  g1 : GFit (r.c, r.d) (s.c, s.d)
  g2 : GFit (r.a, r.b) (s.c, s.d)
  g3 : GFit (r.c, r.d) (s.a, s.b)
  sm : RgS (rMul r s)
theorem gMulT' {a b c d : Int} (h1 : Sm53 a) (h2 : Sm53 b) (h3 : Sm53 c) (h4 : Sm53 d) (g : GFit (a, b) (c, d)) : Fn Try.prog 70 [cxT a b, cxT c d] (fun r => r = .tup [cxT (gMul (a, b) (c, d)).1 (gMul (a, b) (c, d)).2, intT 0]) := by
  have := g.a; have := g.b; have := g.c; have := g.d; have := g.e; have := g.f
  exact gMulT
set_option synthInstance.maxSize 4000 in
set_option synthInstance.maxHeartbeats 400000 in
set_option maxHeartbeats 4000000 in
theorem rMulT {r s : RgD} [h : RgS r] [h2 : RgS s] (g : RFit r s) : Fn Try.prog 53 [rgT r, rgT s] (fun t => t = .tup [rgT (rMul r s), intT 0]) := by
  refine Fn_of Try.func53 rfl (Nat.le_of_ble_eq_true rfl) (fun X => ?_)
  have := h.sa; have := h.sb; have := h.sc; have := h.sd
  have := h2.sa; have := h2.sb; have := h2.sc; have := h2.sd
  repeat (first | refine StepC.go ?_ | intro _)
  refine TS_callE rBothT ?_
  repeat (first | refine StepC.go ?_ | intro _ | (refine TV_cond_f ?_ ?_; · first | rfl | assumption))
  refine TS_puw (Pu.buildA rfl) ?_
  repeat (refine StepC.go ?_)
  refine TS_puw (Pu.buildA rfl) ?_
  repeat (refine StepC.go ?_)
  refine TS_puw (Pu.buildA rfl) ?_
  repeat (refine StepC.go ?_)
  refine TS_puw (Pu.buildA rfl) ?_
  skip
  refine TS_puw (Pu.buildA rfl) ?_
  repeat (refine StepC.go ?_)
  refine TV_unroll ?_
  repeat (first | refine StepC.go ?_ | (refine TV_cond_t ?_ ?_; · first | rfl | assumption))
  refine TS_puw (Pu.index_arr (r := [cxT r.a r.b, cxT s.a s.b]) ?_ ?_ ?_) ?_
  · exact Nat.le_of_ble_eq_true rfl
  · exact Nat.le_of_ble_eq_true rfl
  · rfl
  repeat (first | refine StepC.go ?_ | intro _)
  refine TS_puw (Pu.indexAddr_arr (off' := 0) ?_ rfl) ?_
  · exact Nat.le_of_ble_eq_true rfl
  repeat (refine StepC.go ?_)
  refine TS_puw (Pu.indexAddr_arr (off' := 1) ?_ rfl) ?_
  · exact Nat.le_of_ble_eq_true rfl
  repeat (refine StepC.go ?_)
  refine TS_callE (gMulT' (a := r.a) (b := r.b) (c := s.a) (d := s.b) inferInstance inferInstance inferInstance inferInstance g.g0) ?_
  repeat (first | refine StepC.go ?_ | (refine TV_cond_f ?_ ?_; · first | rfl | assumption))
  refine TS_puw (Pu.indexAddr_arr (off' := 0) ?_ rfl) ?_
  · exact Nat.le_of_ble_eq_true rfl
  repeat (first | refine StepC.go ?_ | (refine TS_puw (Pu.addi ?_) ?_; · omega))
  rw [show ((0 : Int) + 1) = 1 from rfl]
  refine TV_unroll ?_
  repeat (first | refine StepC.go ?_ | (refine TV_cond_t ?_ ?_; · first | rfl | assumption))
  refine TS_puw (Pu.index_arr (r := [cxT r.c r.d, cxT s.c s.d]) ?_ ?_ ?_) ?_
  · exact Nat.le_of_ble_eq_true rfl
  · exact Nat.le_of_ble_eq_true rfl
  · rfl
  repeat (first | refine StepC.go ?_ | intro _)
  refine TS_puw (Pu.indexAddr_arr (off' := 0) ?_ rfl) ?_
  · exact Nat.le_of_ble_eq_true rfl
  repeat (refine StepC.go ?_)
  refine TS_puw (Pu.indexAddr_arr (off' := 1) ?_ rfl) ?_
  · exact Nat.le_of_ble_eq_true rfl
  repeat (refine StepC.go ?_)
  refine TS_callE (gMulT' (a := r.c) (b := r.d) (c := s.c) (d := s.d) inferInstance inferInstance inferInstance inferInstance g.g1) ?_
  repeat (first | refine StepC.go ?_ | (refine TV_cond_f ?_ ?_; · first | rfl | assumption))
  refine TS_puw (Pu.indexAddr_arr (off' := 1) ?_ rfl) ?_
  · exact Nat.le_of_ble_eq_true rfl
  repeat (first | refine StepC.go ?_ | (refine TS_puw (Pu.addi ?_) ?_; · omega))
  rw [show ((1 : Int) + 1) = 2 from rfl]
  refine TV_unroll ?_
  repeat (first | refine StepC.go ?_ | (refine TV_cond_t ?_ ?_; · first | rfl | assumption))
  refine TS_puw (Pu.index_arr (r := [cxT r.a r.b, cxT s.c s.d]) ?_ ?_ ?_) ?_
  · exact Nat.le_of_ble_eq_true rfl
  · exact Nat.le_of_ble_eq_true rfl
  · rfl
  repeat (first | refine StepC.go ?_ | intro _)
  refine TS_puw (Pu.indexAddr_arr (off' := 0) ?_ rfl) ?_
  · exact Nat.le_of_ble_eq_true rfl
  repeat (refine StepC.go ?_)
  refine TS_puw (Pu.indexAddr_arr (off' := 1) ?_ rfl) ?_
  · exact Nat.le_of_ble_eq_true rfl
  repeat (refine StepC.go ?_)
  refine TS_callE (gMulT' (a := r.a) (b := r.b) (c := s.c) (d := s.d) inferInstance inferInstance inferInstance inferInstance g.g2) ?_
  repeat (first | refine StepC.go ?_ | (refine TV_cond_f ?_ ?_; · first | rfl | assumption))
  refine TS_puw (Pu.indexAddr_arr (off' := 2) ?_ rfl) ?_
  · exact Nat.le_of_ble_eq_true rfl
  repeat (first | refine StepC.go ?_ | (refine TS_puw (Pu.addi ?_) ?_; · omega))
  rw [show ((2 : Int) + 1) = 3 from rfl]
  refine TV_unroll ?_
  repeat (first | refine StepC.go ?_ | (refine TV_cond_t ?_ ?_; · first | rfl | assumption))
  refine TS_puw (Pu.index_arr (r := [cxT r.c r.d, cxT s.a s.b]) ?_ ?_ ?_) ?_
  · exact Nat.le_of_ble_eq_true rfl
  · exact Nat.le_of_ble_eq_true rfl
  · rfl
  repeat (first | refine StepC.go ?_ | intro _)
  refine TS_puw (Pu.indexAddr_arr (off' := 0) ?_ rfl) ?_
  · exact Nat.le_of_ble_eq_true rfl
  repeat (refine StepC.go ?_)
  refine TS_puw (Pu.indexAddr_arr (off' := 1) ?_ rfl) ?_
  · exact Nat.le_of_ble_eq_true rfl
  repeat (refine StepC.go ?_)
  refine TS_callE (gMulT' (a := r.c) (b := r.d) (c := s.a) (d := s.b) inferInstance inferInstance inferInstance inferInstance g.g3) ?_
  repeat (first | refine StepC.go ?_ | (refine TV_cond_f ?_ ?_; · first | rfl | assumption))
  refine TS_puw (Pu.indexAddr_arr (off' := 3) ?_ rfl) ?_
  · exact Nat.le_of_ble_eq_true rfl
  repeat (first | refine StepC.go ?_ | (refine TS_puw (Pu.addi ?_) ?_; · omega))
  rw [show ((3 : Int) + 1) = 4 from rfl]
  refine TV_unroll ?_
  repeat (first | refine StepC.go ?_ | (refine TV_cond_f ?_ ?_; · first | rfl | assumption))
  have n1 : Sm53 (gMul (r.c, r.d) (s.c, s.d)).1 := g.g1.e
  have n2 : Sm53 (gMul (r.c, r.d) (s.c, s.d)).2 := g.g1.f
  have n3 := sm_neg n2
  have n4 : Sm53 (gMul (r.a, r.b) (s.a, s.b)).1 := g.g0.e
  have n5 : Sm53 (gMul (r.a, r.b) (s.a, s.b)).2 := g.g0.f
  have n6 : Sm53 (gMul (r.a, r.b) (s.c, s.d)).1 := g.g2.e
  have n7 : Sm53 (gMul (r.a, r.b) (s.c, s.d)).2 := g.g2.f
  have n8 : Sm53 (gMul (r.c, r.d) (s.a, s.b)).1 := g.g3.e
  have n9 : Sm53 (gMul (r.c, r.d) (s.a, s.b)).2 := g.g3.f
  have m1 : Sm53 ((gMul (r.a, r.b) (s.a, s.b)).1 + -(gMul (r.c, r.d) (s.c, s.d)).2) := g.sm.sa
  have m2 : Sm53 ((gMul (r.a, r.b) (s.a, s.b)).2 + (gMul (r.c, r.d) (s.c, s.d)).1) := g.sm.sb
  have m3 : Sm53 ((gMul (r.a, r.b) (s.c, s.d)).1 + (gMul (r.c, r.d) (s.a, s.b)).1) := g.sm.sc
  have m4 : Sm53 ((gMul (r.a, r.b) (s.c, s.d)).2 + (gMul (r.c, r.d) (s.a, s.b)).2) := g.sm.sd
  refine TS_puw (Pu.indexAddr_arr (off' := 1) ?_ rfl) ?_
  · exact Nat.le_of_ble_eq_true rfl
  repeat (refine StepC.go ?_)
  refine TS_callE (gTurnT (.inr (.inl rfl))) ?_
  repeat (refine StepC.go ?_)
  refine TS_puw (Pu.indexAddr_arr (off' := 0) ?_ rfl) ?_
  · exact Nat.le_of_ble_eq_true rfl
  repeat (refine StepC.go ?_)
  refine TS_callE (gAddT (a := (gMul (r.a, r.b) (s.a, s.b)).1) (b := (gMul (r.a, r.b) (s.a, s.b)).2) (c := -(gMul (r.c, r.d) (s.c, s.d)).2) (d := (gMul (r.c, r.d) (s.c, s.d)).1)) ?_
  repeat (refine StepC.go ?_)
  refine TS_puw (Pu.indexAddr_arr (off' := 2) ?_ rfl) ?_
  · exact Nat.le_of_ble_eq_true rfl
  repeat (refine StepC.go ?_)
  refine TS_puw (Pu.indexAddr_arr (off' := 3) ?_ rfl) ?_
  · exact Nat.le_of_ble_eq_true rfl
  repeat (refine StepC.go ?_)
  refine TS_callE gAddT ?_
  repeat (refine StepC.go ?_)
  refine TS_callE pairT ?_
  repeat (refine StepC.go ?_)
  exact retT_2 (.inr rfl) rfl
instance : CallIs Try.prog 53 := .of Try.func53 rfl rfl
end Go.Ideal

-- Jy
set_option linter.unusedSimpArgs false
set_option linter.unusedVariables false
namespace Go.Ideal
open Go Go.Proofs Go.RowKit
/-! ### Amplitudes: the one form, Check, Turn, Conj, Mul, Add -/
@[reducible] def zeroR : RgD := ⟨0, 0, 0, 0⟩
instance : RgS zeroR := ⟨by decide, by decide, by decide, by decide⟩
def formedN : Nat → RgD → AmD
  | 0, r => ⟨r, 0⟩
  | k + 1, r => if rEven r then formedN k (rHalf r) else ⟨r, ((k + 1 : Nat) : Int)⟩
def formedS (r : RgD) (k : Nat) : AmD := if r = zeroR then zeroA else formedN k r
theorem zeroR_tr : rgT zeroR = .agg [.v (.complex .f64 0 0), .v (.complex .f64 0 0)] := by simp only [rgT, rgCs, cxT, flb0]
theorem Pu.rgEq {σ : Nat → Tr} {B : Boxes} {yt : TypeId} {x y : Operand} {r s : RgD} (h : RgS r) (h2 : RgS s) [e1 : TEval σ x (rgT r)] [e2 : TEval σ y (rgT s)] : Pu Try.prog σ B (.binOp .eql 44 x y yt) (.v (.bool (decide (r = s)))) := by
  have he : ringEq r s = decide (r = s) := by
    obtain ⟨a1, a2, a3, a4⟩ := r
    obtain ⟨b1, b2, b3, b4⟩ := s
    rw [Bool.eq_iff_iff]
    simp [ringEq, and_assoc]
  rw [← he]
  refine Pu.eqG [cxV r.a r.b, cxV r.c r.d] [cxV s.a s.b, cxV s.c s.d] (e1 := e1) (e2 := e2) (.inl ⟨rfl, rfl⟩) rfl rfl Try.underlying44 (by kernel_rfl) (by kernel_rfl) rfl rfl ?_
  refine .cons (by decide) (part_leaf Try.underlying42 (fun _ h => by cases h) (fun _ _ h => by cases h) rfl) (part_leaf Try.underlying42 (fun _ h => by cases h) (fun _ _ h => by cases h) rfl) (eqIn_complex Try.underlying42 h.a h.b h2.a h2.b) ?_
  refine .cons (by decide) (part_leaf Try.underlying42 (fun _ h => by cases h) (fun _ _ h => by cases h) rfl) (part_leaf Try.underlying42 (fun _ h => by cases h) (fun _ _ h => by cases h) rfl) (eqIn_complex Try.underlying42 h.c h.d h2.c h2.d) ?_
  exact .nil
theorem formedN_k (k : Nat) : ∀ r, 0 ≤ (formedN k r).k ∧ (formedN k r).k ≤ k := by
  induction k with
  | zero => intro r; exact ⟨Int.le_refl 0, Int.le_refl 0⟩
  | succ k ih =>
    intro r
    simp only [formedN]
    split
    · have := ih (rHalf r); omega
    · exact ⟨by simp only; omega, by simp only; omega⟩
set_option synthInstance.maxSize 4000 in
set_option synthInstance.maxHeartbeats 400000 in
set_option maxHeartbeats 4000000 in
theorem formedT {r : RgD} [h : RgS r] {k : Nat} (hk : k < 2 ^ 40) (h60 : (formedS r k).k ≤ 60) : Fn Try.prog 54 [rgT r, intT k] (fun t => t = .tup [amT (formedS r k), intT 0]) := by
  refine Fn_of Try.func54 rfl (Nat.le_of_ble_eq_true rfl) (fun X => ?_)
  repeat (first | refine StepC.go ?_ | intro _)
  refine TS_puw (Pu.rgEq (r := r) (s := zeroR) (e2 := by rw [zeroR_tr]; infer_instance) h inferInstance) ?_
  repeat (refine StepC.go ?_)
  refine TV_cond ?_ ?_ <;> intro hc
  · have hr := of_decide_eq_true hc
    repeat (refine StepC.go ?_)
    refine retT_2 (.inr rfl) ?_
    simp only [formedS, if_pos hr, amT, zeroA_cs]; rfl
  · have hr := of_decide_eq_false hc
    have hF : formedS r k = formedN k r := by simp only [formedS, if_neg hr]
    rw [hF] at h60 ⊢
    repeat (refine StepC.go ?_)
    rename_i b0 b1
    refine TV_loop (fun d σ B => ∃ (k' : Nat) (r' : RgD), d = k' ∧ k' ≤ k ∧ formedN k' r' = formedN k r ∧ RgS r' ∧ TGet σ 1 (intT k') ∧ TGet σ 2 (.v (.pointer (some (ad b0 0)))) ∧ TGet σ 4 (.v (.pointer (some (ad b1 0)))) ∧
      SubP B [(b1, .cells [.v (.complex .f64 0 0), .v (.complex .f64 0 0), .v (.int .i64 0)] 46 true), (b0, .cells (rgCs r') 44 true)]) k
      ⟨k, r, rfl, Nat.le_refl _, rfl, h, inferInstance, inferInstance, inferInstance, inferInstance⟩ ?_
    rintro k' σ B ⟨_, r', rfl, hk', hf, hr', g1, g2, g4, hB⟩
    refine TV_keep _ (p := hB) ?_
    repeat (refine StepC.go ?_)
    refine TV_cond ?_ ?_ <;> intro hc
    · have hk0 : 0 < k' := by have := of_decide_eq_true hc; omega
      obtain ⟨n, rfl⟩ : ∃ n, k' = n + 1 := ⟨k' - 1, by omega⟩
      repeat (refine StepC.go ?_)
      refine TS_callE rHalveT ?_
      by_cases he : rEven r' = true
      · rw [he]
        simp only [if_true]
        have hs := rHalf_sm hr'
        simp only [formedN, he, if_true] at hf
        repeat (first | refine StepC.go ?_ | intro _ | (refine TS_puw (Pu.subi ?_) ?_; · omega) | (refine TV_cond_f ?_ ?_; · first | rfl | assumption))
        exact ⟨n, Nat.lt_succ_self n, n, rHalf r', rfl, by omega, hf, hs, tget_as (by rw [show (((n + 1 : Nat) : Int) - 1) = (n : Int) by omega]), inferInstance, inferInstance, inferInstance⟩
      · have he' : rEven r' = false := by simpa using he
        rw [he']
        simp only [Bool.false_eq_true, if_false]
        have hfe : formedN k r = ⟨r', ((n + 1 : Nat) : Int)⟩ := by rw [← hf]; simp only [formedN, he', Bool.false_eq_true, if_false]
        rw [hfe] at h60 ⊢
        have d60 : decide (60 < ((n + 1 : Nat) : Int)) = false := by simp only at h60; simp only [decide_eq_false_iff_not]; omega
        repeat (first | refine StepC.go ?_ | intro _ | (refine TV_cond_t ?_ ?_; · first | rfl | assumption) | (refine TV_cond_f ?_ ?_; · first | rfl | assumption))
        rw [d60]
        skip
        exact retT_2 (.inr rfl) rfl
    · have hk0 : k' = 0 := by have := of_decide_eq_false hc; omega
      subst hk0
      have hfe : formedN k r = ⟨r', 0⟩ := by rw [← hf]; rfl
      rw [hfe]
      repeat (first | refine StepC.go ?_ | (refine TV_cond_f ?_ ?_; · first | rfl | assumption))
      exact retT_2 (.inr rfl) rfl
instance : CallIs Try.prog 54 := .of Try.func54 rfl rfl
end Go.Ideal

-- Jz
set_option linter.unusedSimpArgs false
set_option linter.unusedVariables false
namespace Go.Ideal
open Go Go.Proofs Go.RowKit
/-! ### Amplitudes in their one form -/
class AmOk (a : AmD) : Prop where
  sm : RgS a.r
  lo : 0 ≤ a.k
  hi : a.k ≤ 60
  form : formedS a.r a.k.toNat = a
set_option synthInstance.maxSize 4000 in
set_option synthInstance.maxHeartbeats 400000 in
set_option maxHeartbeats 4000000 in
theorem amCheckT {a : AmD} [h : AmOk a] : Fn Try.prog 51 [amT a] (fun t => t = intT 0) := by
  refine Fn_of Try.func51 rfl (Nat.le_of_ble_eq_true rfl) (fun X => ?_)
  have hs := h.sm
  have h0 := h.lo
  have h6 := h.hi
  have hf := h.form
  obtain ⟨k, hk⟩ : ∃ k : Nat, a.k = k := ⟨a.k.toNat, by omega⟩
  have hkn : a.k.toNat = k := by omega
  rw [hkn] at hf
  have d1 : decide (a.k < 0) = false := by simp; omega
  have d2 : decide (60 < a.k) = false := by simp; omega
  repeat (first | refine StepC.go ?_ | intro _)
  refine TS_callE (rCheckT (r := a.r)) ?_
  repeat (first | refine StepC.go ?_ | (refine TS_on rfl ?_ ?_; · first | rfl | assumption) | (refine TV_cond_f ?_ ?_; · first | rfl | assumption))
  rw [d1]
  repeat (first | refine StepC.go ?_ | (refine TV_cond_f ?_ ?_; · first | rfl | assumption))
  rw [d2]
  skip
  refine TS_callE (t := .tup [amT a, intT 0]) (by have := formedT (r := a.r) (k := k) (by omega) (by rw [hf]; omega); rw [hf] at this; rw [hk]; exact this) ?_
  repeat (first | refine StepC.go ?_ | intro _ | (refine TS_on rfl ?_ ?_; · first | rfl | assumption))
  refine TS_puw (Pu.amNe (a := a) (b := a) hs hs) ?_
  have dd : (!decide (a = a)) = false := by simp
  rw [dd]
  repeat (first | refine StepC.go ?_ | (refine TV_cond_f ?_ ?_; · first | rfl | assumption))
  exact retT_1 (.inr rfl) rfl
instance : CallIs Try.prog 51 := .of Try.func51 rfl rfl
theorem amBothT {a b : AmD} [h : AmOk a] [h2 : AmOk b] : Fn Try.prog 52 [amT a, amT b] (fun t => t = intT 0) := by
  refine Fn_of Try.func52 rfl (Nat.le_of_ble_eq_true rfl) (fun X => ?_)
  repeat (first | refine StepC.go ?_ | intro _)
  refine TS_callE amCheckT ?_
  repeat (first | refine StepC.go ?_ | (refine TV_cond_f ?_ ?_; · first | rfl | assumption))
  refine TS_callE amCheckT ?_
  repeat (refine StepC.go ?_)
  exact retT_1 (.inr rfl) rfl
instance : CallIs Try.prog 52 := .of Try.func52 rfl rfl
def amConj (a : AmD) : AmD := ⟨rConj a.r, a.k⟩
def amMul (a b : AmD) : AmD := formedS (rMul a.r b.r) (a.k + b.k).toNat
def rDbl : Nat → RgD → RgD
  | 0, r => r
  | n + 1, r => rDouble (rDbl n r)
def amAdd1 (a b : AmD) : AmD := formedS (rAdd (rDbl (b.k - a.k).toNat a.r) b.r) b.k.toNat
def amAdd (a b : AmD) : AmD := if b.k < a.k then amAdd1 b a else amAdd1 a b
instance : CallIs Try.prog 35 := .of Try.func35 rfl rfl
theorem amConjT {a : AmD} [h : AmOk a] : Fn Try.prog 40 [amT a] (fun t => t = .tup [amT (amConj a), intT 0]) := by
  refine Fn_of Try.func40 rfl (Nat.le_of_ble_eq_true rfl) (fun X => ?_)
  have hs := h.sm
  repeat (first | refine StepC.go ?_ | intro _)
  refine TS_callE amCheckT ?_
  repeat (first | refine StepC.go ?_ | (refine TV_cond_f ?_ ?_; · first | rfl | assumption))
  refine TS_callE (rConjT (r := a.r)) ?_
  repeat (first | refine StepC.go ?_ | intro _)
  exact retT_2 (.inr rfl) rfl
instance : CallIs Try.prog 40 := .of Try.func40 rfl rfl
/-- a product fits -/
structure MFit (a b : AmD) : Prop where
  r : RFit a.r b.r
  k : (amMul a b).k ≤ 60
theorem amMulT {a b : AmD} [h : AmOk a] [h2 : AmOk b] (g : MFit a b) : Fn Try.prog 38 [amT a, amT b] (fun t => t = .tup [amT (amMul a b), intT 0]) := by
  refine Fn_of Try.func38 rfl (Nat.le_of_ble_eq_true rfl) (fun X => ?_)
  have hs := h.sm
  have hs2 := h2.sm
  have hs3 := g.r.sm
  have l1 := h.lo; have l2 := h.hi; have l3 := h2.lo; have l4 := h2.hi
  have ha : AriT .add .i64 a.k b.k (((a.k + b.k).toNat : Nat) : Int) := ⟨by simp only [iarith]; rw [wrap_id (by omega)]; congr 1; omega⟩
  repeat (first | refine StepC.go ?_ | intro _)
  refine TS_callE amBothT ?_
  repeat (first | refine StepC.go ?_ | (refine TV_cond_f ?_ ?_; · first | rfl | assumption))
  refine TS_callE (rMulT (r := a.r) (s := b.r) g.r) ?_
  repeat (first | refine StepC.go ?_ | intro _ | (refine TV_cond_f ?_ ?_; · first | rfl | assumption))
  refine TS_callE (formedT (r := rMul a.r b.r) (k := (a.k + b.k).toNat) (by omega) g.k) ?_
  repeat (refine StepC.go ?_)
  exact retT_2 (.inr rfl) rfl
instance : CallIs Try.prog 38 := .of Try.func38 rfl rfl
end Go.Ideal

-- Ka
set_option linter.unusedSimpArgs false
set_option linter.unusedVariables false
namespace Go.Ideal
open Go Go.Proofs Go.RowKit
/-! ### Sums of amplitudes -/
/-- all steps of a sum fit; a has the lesser power -/
structure AFit1 (a b : AmD) : Prop where
  le : a.k ≤ b.k
  d : ∀ i, i ≤ (b.k - a.k).toNat → RgS (rDbl i a.r)
  s : RgS (rAdd (rDbl (b.k - a.k).toNat a.r) b.r)
def AFit (a b : AmD) : Prop := if b.k < a.k then AFit1 b a else AFit1 a b
theorem amAdd1_k (a b : AmD) (h : 0 ≤ b.k ∧ b.k ≤ 60) : (amAdd1 a b).k ≤ 60 := by
  unfold amAdd1 formedS
  split
  · show (0 : Int) ≤ 60; decide
  · have := formedN_k b.k.toNat (rAdd (rDbl (b.k - a.k).toNat a.r) b.r)
    omega
theorem rDbl_0 (n : Nat) (r : RgD) : rDbl (n + 1) r = rDouble (rDbl n r) := rfl
set_option synthInstance.maxSize 4000 in
set_option synthInstance.maxHeartbeats 400000 in
set_option maxHeartbeats 4000000 in
theorem amAddT {a b : AmD} [h : AmOk a] [h2 : AmOk b] (g : AFit a b) : Fn Try.prog 39 [amT a, amT b] (fun t => t = .tup [amT (amAdd a b), intT 0]) := by
  refine Fn_of Try.func39 rfl (Nat.le_of_ble_eq_true rfl) (fun X => ?_)
  repeat (first | refine StepC.go ?_ | intro _)
  refine TS_callE amBothT ?_
  repeat (first | refine StepC.go ?_ | (refine TV_cond_f ?_ ?_; · first | rfl | assumption))
  rename_i b0 b1 b2
  refine TV_cut (fun σ B => ∃ x y : AmD, AmOk x ∧ AmOk y ∧ AFit1 x y ∧ amAdd a b = amAdd1 x y ∧ TGet σ 2 (.v (.pointer (some (ad b0 0)))) ∧ TGet σ 3 (.v (.pointer (some (ad b1 0)))) ∧ TGet σ 4 (.v (.pointer (some (ad b2 0)))) ∧
    SubP B [(b2, .cells [.v (.complex .f64 0 0), .v (.complex .f64 0 0), .v (.int .i64 0)] 46 true), (b1, .cells (amCs y) 46 true), (b0, .cells (amCs x) 46 true)]) ?_ ?_
  · refine TV_cond ?_ ?_ <;> intro hc
    · have hl : b.k < a.k := of_decide_eq_true hc
      have g' : AFit1 b a := by unfold AFit at g; rw [if_pos hl] at g; exact g
      have e' : amAdd a b = amAdd1 b a := by simp only [amAdd, if_pos hl]
      repeat (refine StepC.go ?_)
      exact ⟨b, a, h2, h, g', e', inferInstance, inferInstance, inferInstance, inferInstance⟩
    · have hl : ¬ b.k < a.k := of_decide_eq_false hc
      have g' : AFit1 a b := by unfold AFit at g; rw [if_neg hl] at g; exact g
      have e' : amAdd a b = amAdd1 a b := by simp only [amAdd, if_neg hl]
      repeat (refine StepC.go ?_)
      exact ⟨a, b, h, h2, g', e', inferInstance, inferInstance, inferInstance, inferInstance⟩
  clear h h2 g
  rintro σ B ⟨x, y, h, h2, g, e, g2, g3, g4, hB⟩
  refine TV_keep _ (p := hB) ?_
  rw [e]
  have hle := g.le
  have l1 := h.lo; have l2 := h.hi; have l3 := h2.lo; have l4 := h2.hi
  have hsy := h2.sm
  repeat (refine StepC.go ?_)
  refine TV_loop (fun d σ B => ∃ i : Nat, d = (y.k - x.k).toNat - i ∧ i ≤ (y.k - x.k).toNat ∧ TGet σ 2 (.v (.pointer (some (ad b0 0)))) ∧ TGet σ 3 (.v (.pointer (some (ad b1 0)))) ∧ TGet σ 4 (.v (.pointer (some (ad b2 0)))) ∧
    SubP B [(b2, .cells [.v (.complex .f64 0 0), .v (.complex .f64 0 0), .v (.int .i64 0)] 46 true), (b1, .cells (amCs y) 46 true), (b0, .cells (amCs ⟨rDbl i x.r, x.k + i⟩) 46 true)]) (y.k - x.k).toNat
    ⟨0, by omega, by omega, inferInstance, inferInstance, inferInstance, by
      have : (⟨rDbl 0 x.r, x.k + ((0 : Nat) : Int)⟩ : AmD) = x := by obtain ⟨r, k⟩ := x; simp [rDbl]
      rw [this]; infer_instance⟩ ?_
  rintro d σ B ⟨i, rfl, hi, g2, g3, g4, hB⟩
  refine TV_keep _ (p := hB) ?_
  repeat (refine StepC.go ?_)
  refine TV_cond ?_ ?_ <;> intro hc
  · have hil : i + 1 ≤ (y.k - x.k).toNat := by have hc := of_decide_eq_true hc; dsimp only at hc; omega
    have := g.d i (by omega)
    have : RgS (rDouble (rDbl i x.r)) := g.d (i + 1) hil
    have ha : AriT .add .i64 (x.k + i) 1 (x.k + ((i + 1 : Nat) : Int)) := ⟨by simp only [iarith]; rw [wrap_id (by omega)]; congr 1; omega⟩
    repeat (refine StepC.go ?_)
    refine TS_callE (rDoubleT (r := rDbl i x.r)) ?_
    repeat (first | refine StepC.go ?_ | intro _ | (refine TV_cond_f ?_ ?_; · first | rfl | assumption))
    refine ⟨_, ?_, i + 1, rfl, hil, inferInstance, inferInstance, inferInstance, ?_⟩
    · omega
    · simp only [rDbl_0]; infer_instance
  · have hil : i = (y.k - x.k).toNat := by have hc := of_decide_eq_false hc; dsimp only at hc; omega
    subst hil
    have := g.d _ (Nat.le_refl _)
    have := g.s
    have hk : ((y.k.toNat : Nat) : Int) = y.k := by omega
    repeat (refine StepC.go ?_)
    refine TS_callE (rAddT (r := rDbl (y.k - x.k).toNat x.r) (s := y.r)) ?_
    repeat (first | refine StepC.go ?_ | intro _ | (refine TV_cond_f ?_ ?_; · first | rfl | assumption))
    refine TS_callE (t := .tup [amT (amAdd1 x y), intT 0]) (by have := formedT (r := rAdd (rDbl (y.k - x.k).toNat x.r) y.r) (k := y.k.toNat) (by omega) (amAdd1_k x y ⟨l3, l4⟩); rw [hk] at this; exact this) ?_
    repeat (refine StepC.go ?_)
    exact retT_2 (.inr rfl) rfl
instance : CallIs Try.prog 39 := .of Try.func39 rfl rfl
end Go.Ideal

-- Kb
set_option linter.unusedSimpArgs false
set_option linter.unusedVariables false
namespace Go.Ideal
open Go Go.Proofs Go.RowKit
/-! ### Powers of w, known again -/
@[reducible] def oneA : AmD := ⟨oneR, 0⟩
theorem oneA_tr : amT oneA = .agg [.v (.complex .f64 4607182418800017408 0), .v (.complex .f64 0 0), .v (.int .i64 0)] := by simp only [amT, amCs, cxT, flb1, flb0]
instance : AmOk oneA := ⟨inferInstance, by decide, by decide, by decide +kernel⟩
instance : CallIs Try.prog 24 := .of Try.func24 rfl rfl
end Go.Ideal

-- Kc
set_option linter.unusedSimpArgs false
set_option linter.unusedVariables false
namespace Go.Ideal
open Go Go.Proofs Go.RowKit
/-! ### The law GateEntries -/
/-- every name stands for itself -/
theorem zeroA_sm : RgS zeroA.r := ⟨by decide, by decide, by decide, by decide⟩
theorem name_at {i : Nat} (hi : i < 25) : ∃ e q, KT[i]? = some e ∧ KC[i]? = some q ∧ kOf e.name = some e ∧ colOf e.name = some q := by
  match i, hi with
  | 0, _ | 1, _ | 2, _ | 3, _ | 4, _ | 5, _ | 6, _ | 7, _ | 8, _ | 9, _ | 10, _ | 11, _ | 12, _ | 13, _ | 14, _ | 15, _ | 16, _ | 17, _ | 18, _ | 19, _ | 20, _ | 21, _ | 22, _ | 23, _ | 24, _ => exact ⟨_, _, rfl, rfl, rfl, rfl⟩
  | n + 25, hi => exact absurd hi (by omega)
theorem rem_add {k : Int} (h : -9223372036854775808 ≤ k ∧ k ≤ 9223372036854775807) : ∃ n : Nat, n < 25 ∧ idivs .rem .i64 k 25 = some (k.tmod 25) ∧ AriT .add .i64 (k.tmod 25) 25 (k.tmod 25 + 25) ∧ idivs .rem .i64 (k.tmod 25 + 25) 25 = some (n : Int) := by
  have h1 : -25 < k.tmod 25 ∧ k.tmod 25 < 25 := ⟨Int.lt_tmod_of_pos k (by decide), Int.tmod_lt_of_pos k (by decide)⟩
  refine ⟨((k.tmod 25 + 25).tmod 25).toNat, ?_, rfl, ⟨by simp only [iarith]; rw [wrap_id (by omega)]⟩, ?_⟩
  · have : (k.tmod 25 + 25).tmod 25 < 25 := Int.tmod_lt_of_pos _ (by decide)
    omega
  · have : 0 ≤ (k.tmod 25 + 25).tmod 25 := Int.tmod_nonneg _ (by omega)
    simp only [idivs]
    congr 1
    omega
end Go.Ideal

-- Kd
set_option linter.unusedSimpArgs false
set_option linter.unusedVariables false
namespace Go.Ideal
open Go Go.Proofs Go.RowKit
/-! ### Matrices of amplitudes: shape, entries -/
@[reducible] def mRows (m : List (List AmD)) : List (List Tr) := m.map fun l => [.sl 3 (amRows l)]
theorem mRows_at {m : List (List AmD)} {x : Nat} {l : List AmD} (h : m[x]? = some l) : NthG (mRows m) x [.sl 3 (amRows l)] := ⟨by simp [mRows, h]⟩
theorem mRows_len (m : List (List AmD)) : (mRows m).length = m.length := by simp [mRows]
theorem amRows_len (l : List AmD) : (amRows l).length = l.length := by simp [amRows]
structure MatOk (m : List (List AmD)) (r c : Nat) : Prop where
  len : m.length = r
  row : ∀ l ∈ m, l.length = c
  ok : ∀ l ∈ m, ∀ a ∈ l, AmOk a
  r0 : 0 < r
  c0 : 0 < c
  r9 : r < 2 ^ 20
  c9 : c < 2 ^ 20
theorem MatOk.at {m : List (List AmD)} {r c x : Nat} (h : MatOk m r c) (hx : x < r) : ∃ l, m[x]? = some l ∧ l.length = c ∧ ∀ a ∈ l, AmOk a := by
  obtain ⟨l, hl⟩ : ∃ l, m[x]? = some l := ⟨_, List.getElem?_eq_getElem (by rw [h.len]; exact hx)⟩
  have hm := List.mem_of_getElem? hl
  exact ⟨l, hl, h.row l hm, h.ok l hm⟩
set_option synthInstance.maxSize 4000 in
set_option synthInstance.maxHeartbeats 400000 in
set_option maxHeartbeats 4000000 in
theorem shapeT {m : List (List AmD)} {r c : Nat} (h : MatOk m r c) : Fn Try.prog 36 [.sl 1 (mRows m)] (fun t => t = boolT true) := by
  refine Fn_of Try.func36 rfl (Nat.le_of_ble_eq_true rfl) (fun X => ?_)
  have hr0 := h.r0; have hc0 := h.c0; have hr9 := h.r9; have hc9 := h.c9
  have hL : (mRows m).length = r := by rw [mRows_len, h.len]
  obtain ⟨l0, hl0, hc0', _⟩ := h.at hr0
  have ng0 := mRows_at hl0
  have la0 : (amRows l0).length = c := by rw [amRows_len, hc0']
  have d0 : decide ((r : Int) = 0) = false := by simp; omega
  have d1 : decide ((c : Int) = 0) = false := by simp; omega
  repeat (refine StepC.go ?_)
  rw [hL, d0]
  repeat (first | refine StepC.go ?_ | (refine TS_on rfl ?_ ?_; · first | rfl | assumption))
  rw [la0, d1]
  repeat (first | refine StepC.go ?_ | (refine TV_cond_f ?_ ?_; · first | rfl | assumption))
  rw [hL]
  refine TV_loop (fun d σ B => ∃ i : Nat, d = r - i ∧ i ≤ r ∧ TGet σ 17 (intT i) ∧ TGet σ 16 (intT r) ∧ TGet σ 15 (.sl 1 (mRows m)) ∧ TGet σ 0 (.sl 1 (mRows m))) r
    ⟨0, by omega, by omega, inferInstance, inferInstance, inferInstance, inferInstance⟩ ?_
  rintro d σ B ⟨i, rfl, hi, g17, g16, g15, g0⟩
  repeat (refine StepC.go ?_)
  refine TV_cond ?_ ?_ <;> intro hc
  · have hil : i < r := by have := of_decide_eq_true hc; omega
    obtain ⟨l, hl, hlc, _⟩ := h.at hil
    have ng := mRows_at hl
    have la : (amRows l).length = c := by rw [amRows_len, hlc]
    repeat (refine StepC.go ?_)
    rw [la, la0, show (!decide ((c : Int) = (c : Int))) = false by simp]
    repeat (first | refine StepC.go ?_ | (refine TS_puw (Pu.addi ?_) ?_; · omega) | (refine TV_cond_f ?_ ?_; · first | rfl | assumption))
    refine ⟨_, ?_, i + 1, rfl, by omega, inferInstance, inferInstance, inferInstance, inferInstance⟩
    omega
  · repeat (refine StepC.go ?_)
    exact retT_1 (.inr rfl) rfl
instance : CallIs Try.prog 36 := .of Try.func36 rfl rfl
set_option synthInstance.maxSize 4000 in
set_option synthInstance.maxHeartbeats 400000 in
set_option maxHeartbeats 4000000 in
theorem entriesT {m : List (List AmD)} {r c : Nat} (h : MatOk m r c) : Fn Try.prog 37 [.sl 1 (mRows m)] (fun t => t = intT 0) := by
  refine Fn_of Try.func37 rfl (Nat.le_of_ble_eq_true rfl) (fun X => ?_)
  have hr0 := h.r0; have hc0 := h.c0; have hr9 := h.r9; have hc9 := h.c9
  have hL : (mRows m).length = r := by rw [mRows_len, h.len]
  repeat (refine StepC.go ?_)
  rw [hL]
  refine TV_loop (fun d σ B => ∃ i : Nat, d = r - i ∧ i ≤ r ∧ TGet σ 10 (intT i) ∧ TGet σ 9 (intT r) ∧ TGet σ 8 (.sl 1 (mRows m))) r
    ⟨0, by omega, by omega, inferInstance, inferInstance, inferInstance⟩ ?_
  rintro d σ B ⟨i, rfl, hi, g10, g9, g8⟩
  repeat (refine StepC.go ?_)
  refine TV_cond ?_ ?_ <;> intro hc
  · have hil : i < r := by have := of_decide_eq_true hc; omega
    obtain ⟨l, hl, hlc, hok⟩ := h.at hil
    have ng := mRows_at hl
    have la : (amRows l).length = c := by rw [amRows_len, hlc]
    repeat (refine StepC.go ?_)
    rw [la]
    refine TV_loop (fun d σ B => ∃ j : Nat, d = c - j ∧ j ≤ c ∧ TGet σ 16 (intT j) ∧ TGet σ 15 (intT c) ∧ TGet σ 14 (.sl 3 (amRows l)) ∧ TGet σ 10 (intT i) ∧ TGet σ 9 (intT r) ∧ TGet σ 8 (.sl 1 (mRows m))) c
      ⟨0, by omega, by omega, inferInstance, inferInstance, inferInstance, inferInstance, inferInstance, inferInstance⟩ ?_
    rintro d σ B ⟨j, rfl, hj, g16, g15, g14, g10, g9, g8⟩
    repeat (refine StepC.go ?_)
    refine TV_cond ?_ ?_ <;> intro hc2
    · have hjl : j < c := by have := of_decide_eq_true hc2; omega
      obtain ⟨a, ha⟩ : ∃ a, l[j]? = some a := ⟨_, List.getElem?_eq_getElem (by omega)⟩
      have nga : NthG (amRows l) j (amCs a) := .map amCs ha
      have hao := hok a (List.mem_of_getElem? ha)
      repeat (first | refine StepC.go ?_ | intro _)
      refine TS_callE (amCheckT (a := a)) ?_
      repeat (first | refine StepC.go ?_ | (refine TS_puw (Pu.addi ?_) ?_; · omega) | (refine TV_cond_f ?_ ?_; · first | rfl | assumption))
      refine ⟨_, ?_, j + 1, rfl, by omega, inferInstance, inferInstance, inferInstance, inferInstance, inferInstance, inferInstance⟩
      omega
    · repeat (first | refine StepC.go ?_ | (refine TS_puw (Pu.addi ?_) ?_; · omega))
      refine ⟨_, ?_, i + 1, rfl, by omega, inferInstance, inferInstance, inferInstance⟩
      omega
  · repeat (refine StepC.go ?_)
    exact retT_1 (.inr rfl) rfl
instance : CallIs Try.prog 37 := .of Try.func37 rfl rfl
end Go.Ideal

-- Ke
set_option linter.unusedSimpArgs false
set_option linter.unusedVariables false
namespace Go.Ideal
open Go Go.Proofs Go.RowKit
/-! ### The product of matrices -/
def dotS (l : List AmD) (b : List (List AmD)) (y : Nat) : Nat → AmD
  | 0 => zeroA
  | k + 1 => amAdd (dotS l b y k) (amMul (l.getD k zeroA) ((b.getD k []).getD y zeroA))
/-- all steps of one entry fit -/
structure DotOk (l : List AmD) (b : List (List AmD)) (y n : Nat) : Prop where
  mul : ∀ k, k < n → MFit (l.getD k zeroA) ((b.getD k []).getD y zeroA)
  prod : ∀ k, k < n → AmOk (amMul (l.getD k zeroA) ((b.getD k []).getD y zeroA))
  add : ∀ k, k < n → AFit (dotS l b y k) (amMul (l.getD k zeroA) ((b.getD k []).getD y zeroA))
  sum : ∀ k, k ≤ n → AmOk (dotS l b y k)
def rowP (l : List AmD) (b : List (List AmD)) (n c y : Nat) : List AmD := (List.range c).map fun j => if j < y then dotS l b j n else zeroA
def rowM2 (b : List (List AmD)) (n c : Nat) (l : List AmD) : List AmD := (List.range c).map fun j => dotS l b j n
def matMul (a b : List (List AmD)) (n c : Nat) : List (List AmD) := a.map (rowM2 b n c)
theorem rowP_0 (l : List AmD) (b : List (List AmD)) (n c : Nat) : rowP l b n c 0 = List.replicate c zeroA := by
  refine List.ext_getElem? fun i => ?_
  simp only [rowP, List.getElem?_map, List.getElem?_range', List.getElem?_replicate, Nat.not_lt_zero, if_false]
  by_cases hi : i < c
  · rw [List.getElem?_range hi, if_pos hi]; rfl
  · rw [List.getElem?_eq_none (by simpa using hi), if_neg hi]; rfl
theorem rowP_n (l : List AmD) (b : List (List AmD)) (n c : Nat) : rowP l b n c c = rowM2 b n c l := by
  simp only [rowP, rowM2]
  exact List.map_congr_left fun j hj => if_pos (List.mem_range.1 hj)
theorem rowP_len (l : List AmD) (b : List (List AmD)) (n c y : Nat) : (rowP l b n c y).length = c := by simp [rowP]
theorem rowP_succ (l : List AmD) (b : List (List AmD)) (n c y : Nat) (hy : y < c) : rowP l b n c (y + 1) = (rowP l b n c y).set y (dotS l b y n) := by
  refine List.ext_getElem? fun i => ?_
  rw [List.getElem?_set]
  simp only [rowP, List.length_map, List.length_range, List.getElem?_map]
  by_cases hi : y = i
  · subst hi
    rw [if_pos rfl, if_pos hy, List.getElem?_range hy]
    simp
  · rw [if_neg hi]
    by_cases hic : i < c
    · rw [List.getElem?_range hic]
      simp only [Option.map_some, Option.some.injEq]
      by_cases h1 : i < y
      · rw [if_pos h1, if_pos (by omega)]
      · rw [if_neg h1, if_neg (by omega)]
    · rw [List.getElem?_eq_none (by simpa using hic)]; rfl
set_option synthInstance.maxSize 4000 in
set_option synthInstance.maxHeartbeats 400000 in
set_option maxHeartbeats 4000000 in
theorem gateMulT {a b : List (List AmD)} {r n c : Nat} (hA : MatOk a r n) (hB' : MatOk b n c) (hf : ∀ l ∈ a, ∀ y, y < c → DotOk l b y n) : Fn Try.prog 26 [.sl 1 (mRows a), .sl 1 (mRows b)] (fun t => t = .tup [.sl 1 (mRows (matMul a b n c)), intT 0]) := by
  refine Fn_of Try.func26 rfl (Nat.le_of_ble_eq_true rfl) (fun X => ?_)
  have hr0 := hA.r0; have hn0 := hA.c0; have hc0 := hB'.c0; have hr9 := hA.r9; have hn9 := hA.c9; have hc9 := hB'.c9
  have hLa : (mRows a).length = r := by rw [mRows_len, hA.len]
  have hLb : (mRows b).length = n := by rw [mRows_len, hB'.len]
  obtain ⟨a0, ha0, hac0, _⟩ := hA.at hr0
  have nga0 := mRows_at ha0
  have la0 : (amRows a0).length = n := by rw [amRows_len, hac0]
  obtain ⟨b0, hb0, hbc0, _⟩ := hB'.at hn0
  have ngb0 := mRows_at hb0
  have lb0 : (amRows b0).length = c := by rw [amRows_len, hbc0]
  repeat (refine StepC.go ?_)
  refine TS_callE (shapeT hA) ?_
  repeat (first | refine StepC.go ?_ | (refine TS_on rfl ?_ ?_; · first | rfl | assumption))
  refine TS_callE (shapeT hB') ?_
  repeat (first | refine StepC.go ?_ | (refine TS_on rfl ?_ ?_; · first | rfl | assumption))
  rw [la0, hLb, show (!decide ((n : Int) = (n : Int))) = false by simp]
  repeat (first | refine StepC.go ?_ | (refine TV_cond_f ?_ ?_; · first | rfl | assumption))
  refine TS_callE (entriesT hA) ?_
  repeat (first | refine StepC.go ?_ | (refine TV_cond_f ?_ ?_; · first | rfl | assumption))
  refine TS_callE (entriesT hB') ?_
  repeat (first | refine StepC.go ?_ | (refine TS_makeSlice ?_ (fun _ => ?_); · omega) | (refine TV_cond_f ?_ ?_; · first | rfl | assumption))
  rw [hLa]
  have hs1 : 24 * r ≤ 2 ^ 46 := by omega
  skip
  rename_i bs
  refine TV_loop (fun d σ B => ∃ (x : Nat) (fam : List (Nat × List AmD)), d = r - x ∧ x ≤ r ∧ TGet σ 47 (intT x) ∧ TGet σ 46 (intT r) ∧ TGet σ 8 (.v (.slice (some (ad bs 0)) r r)) ∧ TGet σ 0 (.sl 1 (mRows a)) ∧ TGet σ 1 (.sl 1 (mRows b)) ∧
    SubP B ((bs, .arr 1 (amR c fam ++ List.replicate (r - x) [.v (.slice none 0 0)]) 37 true) :: amB fam) ∧ fam.map Prod.snd = (a.take x).map (rowM2 b n c)) r
    ⟨0, [], by omega, by omega, tget_as rfl, inferInstance, inferInstance, inferInstance, inferInstance, by simp only [amR, amB, List.map_nil, List.nil_append, Nat.sub_zero]; infer_instance, rfl⟩ ?_
  rintro d σ B ⟨x, fam, rfl, hx, g47, g46, g8, g0, g1, hB, hfam⟩
  refine TV_keep _ (p := hB) ?_
  have hfl : fam.length = x := by have := congrArg List.length hfam; simp at this; have h1 := hA.len; omega
  repeat (refine StepC.go ?_)
  refine TV_cond ?_ ?_ <;> intro hc
  · have hxr : x < r := by have := of_decide_eq_true hc; omega
    obtain ⟨l, hl, hlc, hlo⟩ := hA.at hxr
    have ngl := mRows_at hl
    have hdot := hf l (List.mem_of_getElem? hl)
    have q1 : NthG (amR c fam ++ List.replicate (r - x) [Tr.v (.slice none 0 0)]) x [Tr.v (.slice none 0 0)] := ⟨by
      have h1 : (amR c fam).length = x := by simp [amR, hfl]
      rw [List.getElem?_append_right (by omega), h1, Nat.sub_self, List.getElem?_replicate, if_pos (by omega)]⟩
    have q2 : ∀ b', SetR (amR c fam ++ List.replicate (r - x) [Tr.v (.slice none 0 0)]) x [.v (.slice (some (ad b' 0)) c c)] (amR c (fam ++ [(b', List.replicate c zeroA)]) ++ List.replicate (r - (x + 1)) [Tr.v (.slice none 0 0)]) := fun b' => ⟨by
      rw [show r - x = (r - (x + 1)) + 1 by omega, List.replicate_succ, List.set_append_right _ _ (by simp [amR, hfl])]
      simp [amR, hfl]⟩
    have q3 : LenT (amR c fam ++ List.replicate (r - x) [Tr.v (.slice none 0 0)]) r := ⟨by simp [amR, hfl]; omega⟩
    have hs2 : 40 * c ≤ 2 ^ 46 := by omega
    repeat (first | refine StepC.go ?_ | (refine TS_makeSlice ?_ (fun _ => ?_); · omega))
    rw [lb0]
    skip
    rename_i b2
    have hz : amRows (rowP l b n c 0) = List.replicate c [Tr.v (.complex .f64 0 0), .v (.complex .f64 0 0), .v (.int .i64 0)] := by rw [rowP_0, ← zeroA_cs]; simp [amRows]
    refine TV_loop (fun d σ B => ∃ y : Nat, d = c - y ∧ y ≤ c ∧ TGet σ 62 (intT y) ∧ TGet σ 61 (intT c) ∧ TGet σ 9 (intT x) ∧ TGet σ 47 (intT x) ∧ TGet σ 46 (intT r) ∧ TGet σ 8 (.v (.slice (some (ad bs 0)) r r)) ∧ TGet σ 0 (.sl 1 (mRows a)) ∧ TGet σ 1 (.sl 1 (mRows b)) ∧
      SubP B ((b2, .arr 3 (amRows (rowP l b n c y)) 46 true) :: (bs, .arr 1 (amR c (fam ++ [(b2, List.replicate c zeroA)]) ++ List.replicate (r - (x + 1)) [.v (.slice none 0 0)]) 37 true) :: amB fam)) c
      ⟨0, by omega, by omega, tget_as rfl, inferInstance, inferInstance, inferInstance, inferInstance, inferInstance, inferInstance, inferInstance, by rw [hz, ← (q2 b2).eq]; infer_instance⟩ ?_
    clear q1 q2 q3 hB g47 g46 g8 g0 g1
    rintro d σ B ⟨y, rfl, hy, g62, g61, g9, g47, g46, g8, g0, g1, hB⟩
    refine TV_keep _ (p := hB) ?_
    repeat (refine StepC.go ?_)
    refine TV_cond ?_ ?_ <;> intro hc2
    · have hyc : y < c := by have := of_decide_eq_true hc2; omega
      have hd := hdot y hyc
      repeat (first | refine StepC.go ?_ | intro _)
      rw [hLb]
      rename_i ps
      have hz0 : amCs (dotS l b y 0) = [.v (.complex .f64 0 0), .v (.complex .f64 0 0), .v (.int .i64 0)] := by rw [dotS, zeroA_cs]
      refine TV_loop (fun d σ B => ∃ k : Nat, d = n - k ∧ k ≤ n ∧ TGet σ 67 (intT k) ∧ TGet σ 66 (intT n) ∧ TGet σ 10 (intT y) ∧ TGet σ 11 (.v (.pointer (some (ad ps 0)))) ∧ TGet σ 62 (intT y) ∧ TGet σ 61 (intT c) ∧ TGet σ 9 (intT x) ∧ TGet σ 47 (intT x) ∧ TGet σ 46 (intT r) ∧ TGet σ 8 (.v (.slice (some (ad bs 0)) r r)) ∧ TGet σ 0 (.sl 1 (mRows a)) ∧ TGet σ 1 (.sl 1 (mRows b)) ∧
        SubP B ((ps, .cells (amCs (dotS l b y k)) 46 true) :: (b2, .arr 3 (amRows (rowP l b n c y)) 46 true) :: (bs, .arr 1 (amR c (fam ++ [(b2, List.replicate c zeroA)]) ++ List.replicate (r - (x + 1)) [.v (.slice none 0 0)]) 37 true) :: amB fam)) n
        ⟨0, by omega, by omega, tget_as rfl, inferInstance, inferInstance, inferInstance, inferInstance, inferInstance, inferInstance, inferInstance, inferInstance, inferInstance, inferInstance, inferInstance, by rw [hz0]; infer_instance⟩ ?_
      clear hB g62 g61 g9 g47 g46 g8 g0 g1
      rintro d σ B ⟨k, rfl, hk, g67, g66, g10, g11, g62, g61, g9, g47, g46, g8, g0, g1, hB⟩
      refine TV_keep _ (p := hB) ?_
      repeat (refine StepC.go ?_)
      refine TV_cond ?_ ?_ <;> intro hc3
      · have hkn : k < n := by have := of_decide_eq_true hc3; omega
        obtain ⟨u, hu⟩ : ∃ u, l[k]? = some u := ⟨_, List.getElem?_eq_getElem (by omega)⟩
        obtain ⟨bl, hbl, hblc, hblo⟩ := hB'.at hkn
        obtain ⟨w, hw⟩ : ∃ w, bl[y]? = some w := ⟨_, List.getElem?_eq_getElem (by omega)⟩
        have ngu : NthG (amRows l) k (amCs u) := .map amCs hu
        have ngb := mRows_at hbl
        have ngw : NthG (amRows bl) y (amCs w) := .map amCs hw
        have e1 : l.getD k zeroA = u := by simp [List.getD, hu]
        have e2 : (b.getD k []).getD y zeroA = w := by simp [List.getD, hbl, hw]
        have m1 := hd.mul k hkn
        have m2 := hd.prod k hkn
        have m3 := hd.add k hkn
        have m4 := hd.sum k (by omega)
        have m5 := hd.sum (k + 1) (by omega)
        simp only [dotS, e1, e2] at m1 m2 m3 m5
        have mu := hlo u (List.mem_of_getElem? hu)
        have mw := hblo w (List.mem_of_getElem? hw)
        repeat (first | refine StepC.go ?_ | refine TD_take rfl rfl ?_ | refine TD_load rfl rfl ?_ | refine TD_one rfl ?_ | refine FiltT_nil ?_ | refine FiltT_keep rfl ?_ | refine TD_virt rfl rfl rfl (fun _ => ?_) | refine TV_draw (id := 21) (plan := [.take 0, .take 1, .take 2, .take 3, .take 4, .take 5, .take 6, .take 7, .take 8, .take 9, .take 10, .take 11, .take 12, .take 13, .virt 18, .one 14, .take 15, .take 16, .take 17, .one 19, .take 20]) (by kernel_rfl) ?_)
        refine TS_callE (amMulT (a := u) (b := w) m1) ?_
        repeat (first | refine StepC.go ?_ | refine TD_take rfl rfl ?_ | refine TD_one rfl ?_ | refine FiltT_nil ?_ | refine FiltT_drop rfl ?_ | (refine TV_cond_f ?_ ?_; · first | rfl | assumption))
        refine TS_callE (amAddT (a := dotS l b y k) (b := amMul u w) m3) ?_
        repeat (first | refine StepC.go ?_ | (refine TS_puw (Pu.addi ?_) ?_; · omega) | (refine TV_cond_f ?_ ?_; · first | rfl | assumption))
        refine ⟨_, ?_, k + 1, rfl, by omega, tget_as rfl, inferInstance, inferInstance, inferInstance, inferInstance, inferInstance, inferInstance, inferInstance, inferInstance, inferInstance, inferInstance, inferInstance, by simp only [dotS, e1, e2]; infer_instance⟩
        omega
      · have hkn : k = n := by have := of_decide_eq_false hc3; omega
        subst hkn
        have q4 : NthG (amR c (fam ++ [(b2, List.replicate c zeroA)]) ++ List.replicate (r - (x + 1)) [Tr.v (.slice none 0 0)]) x [.v (.slice (some (ad b2 0)) c c)] := ⟨by
          rw [List.getElem?_append_left (by simp [amR, hfl])]
          simp [amR, ← hfl]⟩
        have q5 : LenT (amR c (fam ++ [(b2, List.replicate c zeroA)]) ++ List.replicate (r - (x + 1)) [Tr.v (.slice none 0 0)]) r := ⟨by simp [amR, hfl]; omega⟩
        have q6 : LenT (amRows (rowP l b k c y)) c := ⟨by rw [amRows_len, rowP_len]⟩
        have q7 : SetR (amRows (rowP l b k c y)) y (amCs (dotS l b y k)) (amRows (rowP l b k c (y + 1))) := ⟨by rw [rowP_succ l b k c y hyc]; simp [amRows, List.map_set]⟩
        have q8 : NthG (amRows (rowP l b k c y)) y (amCs zeroA) := .map amCs (by simp only [rowP, List.getElem?_map, List.getElem?_range hyc, Option.map_some, Nat.lt_irrefl, if_false])
        repeat (first | refine StepC.go ?_ | (refine TS_puw (Pu.addi ?_) ?_; · omega) | refine TD_take rfl rfl ?_ | refine TD_load rfl rfl ?_ | refine TD_one rfl ?_ | refine FiltT_nil ?_ | refine FiltT_drop rfl ?_ | refine TV_draw (id := 28) (plan := [.take 0, .take 1, .take 2, .take 3, .take 4, .take 5, .take 6, .one 7]) (by kernel_rfl) ?_)
        refine ⟨_, ?_, y + 1, rfl, by omega, tget_as rfl, inferInstance, inferInstance, inferInstance, inferInstance, inferInstance, inferInstance, inferInstance, inferInstance⟩
        omega
    · have hyc : y = c := by have := of_decide_eq_false hc2; omega
      subst hyc
      rw [rowP_n] at *
      have hm : rowM2 b n y l = rowM2 b n y l := rfl
      repeat (first | refine StepC.go ?_ | (refine TS_puw (Pu.addi ?_) ?_; · omega))
      refine ⟨_, ?_, x + 1, fam ++ [(b2, rowM2 b n y l)], rfl, by omega, tget_as rfl, inferInstance, inferInstance, inferInstance, inferInstance, ?_, ?_⟩
      · omega
      · refine ⟨[], ?_⟩
        have h1 : amR y (fam ++ [(b2, rowM2 b n y l)]) = amR y (fam ++ [(b2, List.replicate y zeroA)]) := by simp [amR]
        have h2 : amB (fam ++ [(b2, rowM2 b n y l)]) = amB fam ++ [(b2, .arr 3 (amRows (rowM2 b n y l)) 46 true)] := by simp [amB]
        rw [h1, h2, List.append_nil]
        exact ((List.perm_append_singleton _ (_ :: _)).trans (List.Perm.refl _)).symm
      · rw [List.map_append, hfam, take_snoc hl, List.map_append]; rfl
  · have hxr : x = r := by have := of_decide_eq_false hc; omega
    subst hxr
    have htk : a.take x = a := List.take_of_length_le (by rw [hA.len]; exact Nat.le_refl _)
    rw [htk] at hfam
    simp only [Nat.sub_self, List.replicate_zero, List.append_nil] at *
    have hlen : ∀ z ∈ fam, z.2.length = c := fun z hz => by
      have h1 : z.2 ∈ fam.map Prod.snd := List.mem_map.2 ⟨z, hz, rfl⟩
      rw [hfam] at h1
      obtain ⟨l, _, h2⟩ := List.mem_map.1 h1
      rw [← h2]; simp [rowM2]
    have : Sm63 x := ⟨by omega⟩
    have : Sm63 c := ⟨by omega⟩
    have q5 : LenT (amR c fam) x := ⟨by simp [amR, hfl]⟩
    have hfz := amR_frz (n := c) (B := (bs, .arr 1 (amR c fam) 37 true) :: amB fam) (fam := fam) (fun x hx => by
      have : BoxIs (amB fam) x.1 (.arr 3 (amRows x.2) 46 true) := ⟨List.mem_map.2 ⟨x, hx, rfl⟩⟩
      infer_instance) (by omega) hlen hc0
    repeat (refine StepC.go ?_)
    refine retT_2 (.inr rfl) ?_
    rw [hfam]
    rfl
instance : CallIs Try.prog 26 := .of Try.func26 rfl rfl
end Go.Ideal

-- Kf
set_option linter.unusedSimpArgs false
set_option linter.unusedVariables false
namespace Go.Ideal
open Go Go.Proofs Go.RowKit
/-! ### Products of gates' matrices -/
def smB (n : Int) : Bool := decide (n.natAbs < 2 ^ 53)
def gFitB (x y : Int × Int) : Bool := smB (x.1 * y.1) && smB (x.2 * y.2) && smB (x.1 * y.2) && smB (x.2 * y.1) && smB (x.1 * y.1 - x.2 * y.2) && smB (x.1 * y.2 + x.2 * y.1)
def rFitB (r s : RgD) : Bool := gFitB (r.a, r.b) (s.a, s.b) && gFitB (r.c, r.d) (s.c, s.d) && gFitB (r.a, r.b) (s.c, s.d) && gFitB (r.c, r.d) (s.a, s.b) && smR (rMul r s)
def amOkB (a : AmD) : Bool := smR a.r && decide (0 ≤ a.k) && decide (a.k ≤ 60) && decide (formedS a.r a.k.toNat = a)
def mFitB (a b : AmD) : Bool := rFitB a.r b.r && decide ((amMul a b).k ≤ 60)
def aFit1B (a b : AmD) : Bool := decide (a.k ≤ b.k) && ((List.range ((b.k - a.k).toNat + 1)).all fun i => smR (rDbl i a.r)) && smR (rAdd (rDbl (b.k - a.k).toNat a.r) b.r)
def aFitB (a b : AmD) : Bool := if b.k < a.k then aFit1B b a else aFit1B a b
theorem smB_iff {n : Int} (h : smB n = true) : Sm53 n := ⟨of_decide_eq_true h⟩
theorem gFitB_iff {x y : Int × Int} (h : gFitB x y = true) : GFit x y := by
  simp only [gFitB, Bool.and_eq_true] at h
  obtain ⟨⟨⟨⟨⟨h1, h2⟩, h3⟩, h4⟩, h5⟩, h6⟩ := h
  exact ⟨smB_iff h1, smB_iff h2, smB_iff h3, smB_iff h4, smB_iff h5, smB_iff h6⟩
theorem rFitB_iff {r s : RgD} (h : rFitB r s = true) : RFit r s := by
  simp only [rFitB, Bool.and_eq_true] at h
  obtain ⟨⟨⟨⟨h1, h2⟩, h3⟩, h4⟩, h5⟩ := h
  exact ⟨gFitB_iff h1, gFitB_iff h2, gFitB_iff h3, gFitB_iff h4, smR_iff h5⟩
theorem amOkB_iff {a : AmD} (h : amOkB a = true) : AmOk a := by
  simp only [amOkB, Bool.and_eq_true, decide_eq_true_eq] at h
  obtain ⟨⟨⟨h1, h2⟩, h3⟩, h4⟩ := h
  exact ⟨smR_iff h1, h2, h3, h4⟩
theorem mFitB_iff {a b : AmD} (h : mFitB a b = true) : MFit a b := by
  simp only [mFitB, Bool.and_eq_true, decide_eq_true_eq] at h
  exact ⟨rFitB_iff h.1, h.2⟩
theorem aFit1B_iff {a b : AmD} (h : aFit1B a b = true) : AFit1 a b := by
  simp only [aFit1B, Bool.and_eq_true, decide_eq_true_eq, List.all_eq_true] at h
  exact ⟨h.1.1, fun i hi => smR_iff (h.1.2 i (List.mem_range.2 (by omega))), smR_iff h.2⟩
theorem aFitB_iff {a b : AmD} (h : aFitB a b = true) : AFit a b := by
  unfold aFitB at h
  unfold AFit
  split
  · rename_i hl; rw [if_pos hl] at h; exact aFit1B_iff h
  · rename_i hl; rw [if_neg hl] at h; exact aFit1B_iff h
def dotOkB (l : List AmD) (b : List (List AmD)) (y n : Nat) : Bool := (List.range n).all fun k => mFitB (l.getD k zeroA) ((b.getD k []).getD y zeroA) && amOkB (amMul (l.getD k zeroA) ((b.getD k []).getD y zeroA)) && aFitB (dotS l b y k) (amMul (l.getD k zeroA) ((b.getD k []).getD y zeroA)) && amOkB (dotS l b y (k + 1))
theorem zeroA_ok : AmOk zeroA := ⟨zeroA_sm, by decide, by decide, by decide +kernel⟩
theorem dotOkB_iff {l : List AmD} {b : List (List AmD)} {y n : Nat} (h : dotOkB l b y n = true) : DotOk l b y n := by
  simp only [dotOkB, List.all_eq_true, List.mem_range, Bool.and_eq_true] at h
  refine ⟨fun k hk => mFitB_iff (h k hk).1.1.1, fun k hk => amOkB_iff (h k hk).1.1.2, fun k hk => aFitB_iff (h k hk).1.2, fun k hk => ?_⟩
  cases k with
  | zero => exact zeroA_ok
  | succ k => exact amOkB_iff (h k (by omega)).2
def matOkB (m : List (List AmD)) (r c : Nat) : Bool := m.length == r && (m.all fun l => l.length == c && l.all amOkB) && decide (0 < r) && decide (0 < c) && decide (r < 2 ^ 20) && decide (c < 2 ^ 20)
theorem matOkB_iff {m : List (List AmD)} {r c : Nat} (h : matOkB m r c = true) : MatOk m r c := by
  simp only [matOkB, Bool.and_eq_true, beq_iff_eq, decide_eq_true_eq, List.all_eq_true] at h
  obtain ⟨⟨⟨⟨⟨h1, h2⟩, h3⟩, h4⟩, h5⟩, h6⟩ := h
  exact ⟨h1, fun l hl => (h2 l hl).1, fun l hl a ha => amOkB_iff ((h2 l hl).2 a ha), h3, h4, h5, h6⟩
def mulOkB (a b : List (List AmD)) (n c : Nat) : Bool := a.all fun l => (List.range c).all fun y => dotOkB l b y n
theorem mulOkB_iff {a b : List (List AmD)} {n c : Nat} (h : mulOkB a b n c = true) : ∀ l ∈ a, ∀ y, y < c → DotOk l b y n := by
  simp only [mulOkB, List.all_eq_true, List.mem_range] at h
  exact fun l hl y hy => dotOkB_iff (h l hl y hy)
def prodF (n : Nat) (m : List (List AmD)) : List (KE × ColD) → List (List AmD)
  | [] => m
  | p :: ps => prodF n (matMul m (matrixS p.1 p.2) n n) ps
def chainB (n : Nat) (m : List (List AmD)) : List (KE × ColD) → Bool
  | [] => matOkB m n n
  | p :: ps => matOkB m n n && matOkB (matrixS p.1 p.2) n n && mulOkB m (matrixS p.1 p.2) n n && chainB n (matMul m (matrixS p.1 p.2) n n) ps
def pDef : KE × ColD := (⟨⟨#[]⟩, 0, 0, true, true, ⟨#[]⟩⟩, .turnedY)
def pAt (i : Nat) : KE × ColD := (KT.zip KC).getD i pDef
end Go.Ideal

-- Kg
set_option linter.unusedSimpArgs false
set_option linter.unusedVariables false
namespace Go.Ideal
open Go Go.Proofs Go.RowKit
/-! ### The law GateMakes -/
structure NameOk (p : KE × ColD) : Prop where
  k : kOf p.1.name = some p.1
  c : colOf p.1.name = some p.2
theorem pAt_ok {i : Nat} (h : i < 25) : NameOk (pAt i) := by
  obtain ⟨e, q, h1, h2, h3, h4⟩ := name_at h
  have : pAt i = (e, q) := by
    unfold pAt
    have hz : (KT.zip KC)[i]? = some (e, q) := List.getElem?_zip_eq_some.2 ⟨h1, h2⟩
    rw [List.getD_eq_getElem?_getD, hz]; rfl
  rw [this]
  exact ⟨h3, h4⟩
theorem NameOk.mat {p : KE × ColD} (h : NameOk p) : matrixC p.1.name = (matrixS p.1 p.2, 0) := by simp only [matrixC, h.k, h.c]
theorem chain_at {n : Nat} : ∀ (ps : List (KE × ColD)) (m : List (List AmD)) (i : Nat) (p : KE × ColD), chainB n m ps = true → ps[i]? = some p →
    MatOk (prodF n m (ps.take i)) n n ∧ MatOk (matrixS p.1 p.2) n n ∧ ∀ l ∈ prodF n m (ps.take i), ∀ y, y < n → DotOk l (matrixS p.1 p.2) y n := by
  intro ps
  induction ps with
  | nil => intro m i p _ h; simp at h
  | cons a ps ih =>
    intro m i p hc h
    simp only [chainB, Bool.and_eq_true] at hc
    obtain ⟨⟨⟨h1, h2⟩, h3⟩, h4⟩ := hc
    cases i with
    | zero => simp at h; subst h; exact ⟨matOkB_iff h1, matOkB_iff h2, mulOkB_iff h3⟩
    | succ i => exact ih _ i p h4 (by simpa using h)
instance : CallIs Try.prog 25 := .of Try.func25 rfl rfl
end Go.Ideal

-- Kh
set_option linter.unusedSimpArgs false
set_option linter.unusedVariables false
namespace Go.Ideal
open Go Go.Proofs Go.RowKit
/-! ### The law GateMakes: the walk -/
end Go.Ideal

-- Ki
set_option linter.unusedSimpArgs false
set_option linter.unusedVariables false
namespace Go.Ideal
open Go Go.Proofs Go.RowKit
/-! ### The adjoint -/
def adjE (m : List (List AmD)) (x y : Nat) : AmD := amConj ((m.getD y []).getD x zeroA)
def adjRow (m : List (List AmD)) (r x : Nat) : List AmD := (List.range r).map (adjE m x)
def adjM (m : List (List AmD)) (r c : Nat) : List (List AmD) := (List.range c).map (adjRow m r)
def adjP (m : List (List AmD)) (r x y : Nat) : List AmD := (List.range r).map fun j => if j < y then adjE m x j else zeroA
theorem adjP_0 (m : List (List AmD)) (r x : Nat) : adjP m r x 0 = List.replicate r zeroA := by
  refine List.ext_getElem? fun i => ?_
  simp only [adjP, List.getElem?_map, List.getElem?_replicate, Nat.not_lt_zero, if_false]
  by_cases hi : i < r
  · rw [List.getElem?_range hi, if_pos hi]; rfl
  · rw [List.getElem?_eq_none (by simpa using hi), if_neg hi]; rfl
theorem adjP_n (m : List (List AmD)) (r x : Nat) : adjP m r x r = adjRow m r x := by
  simp only [adjP, adjRow]
  exact List.map_congr_left fun j hj => if_pos (List.mem_range.1 hj)
theorem adjP_len (m : List (List AmD)) (r x y : Nat) : (adjP m r x y).length = r := by simp [adjP]
theorem adjP_succ (m : List (List AmD)) (r x y : Nat) (hy : y < r) : adjP m r x (y + 1) = (adjP m r x y).set y (adjE m x y) := by
  refine List.ext_getElem? fun i => ?_
  rw [List.getElem?_set]
  simp only [adjP, List.length_map, List.length_range, List.getElem?_map]
  by_cases hi : y = i
  · subst hi
    rw [if_pos rfl, if_pos hy, List.getElem?_range hy]
    simp
  · rw [if_neg hi]
    by_cases hic : i < r
    · rw [List.getElem?_range hic]
      simp only [Option.map_some, Option.some.injEq]
      by_cases h1 : i < y
      · rw [if_pos h1, if_pos (by omega)]
      · rw [if_neg h1, if_neg (by omega)]
    · rw [List.getElem?_eq_none (by simpa using hic)]; rfl
set_option synthInstance.maxSize 4000 in
set_option synthInstance.maxHeartbeats 400000 in
set_option maxHeartbeats 4000000 in
theorem adjointT {m : List (List AmD)} {r c : Nat} (hM : MatOk m r c) : Fn Try.prog 27 [.sl 1 (mRows m)] (fun t => t = .tup [.sl 1 (mRows (adjM m r c)), intT 0]) := by
  refine Fn_of Try.func27 rfl (Nat.le_of_ble_eq_true rfl) (fun X => ?_)
  have hr0 := hM.r0; have hc0 := hM.c0; have hr9 := hM.r9; have hc9 := hM.c9
  have hL : (mRows m).length = r := by rw [mRows_len, hM.len]
  obtain ⟨a0, ha0, hac0, _⟩ := hM.at hr0
  have nga0 := mRows_at ha0
  have la0 : (amRows a0).length = c := by rw [amRows_len, hac0]
  repeat (refine StepC.go ?_)
  refine TS_callE (shapeT hM) ?_
  repeat (first | refine StepC.go ?_ | (refine TV_cond_f ?_ ?_; · first | rfl | assumption))
  refine TS_callE (entriesT hM) ?_
  repeat (first | refine StepC.go ?_ | (refine TS_makeSlice ?_ (fun _ => ?_); · omega) | (refine TV_cond_f ?_ ?_; · first | rfl | assumption))
  rw [la0]
  have hs1 : 24 * c ≤ 2 ^ 46 := by omega
  skip
  rename_i bs
  refine TV_loop (fun d σ B => ∃ (x : Nat) (fam : List (Nat × List AmD)), d = c - x ∧ x ≤ c ∧ TGet σ 25 (intT x) ∧ TGet σ 24 (intT c) ∧ TGet σ 5 (.v (.slice (some (ad bs 0)) c c)) ∧ TGet σ 0 (.sl 1 (mRows m)) ∧
    SubP B ((bs, .arr 1 (amR r fam ++ List.replicate (c - x) [.v (.slice none 0 0)]) 37 true) :: amB fam) ∧ fam.map Prod.snd = (List.range x).map (adjRow m r)) c
    ⟨0, [], by omega, by omega, tget_as rfl, inferInstance, inferInstance, inferInstance, by simp only [amR, amB, List.map_nil, List.nil_append, Nat.sub_zero]; infer_instance, rfl⟩ ?_
  rintro d σ B ⟨x, fam, rfl, hx, g25, g24, g5, g0, hB, hfam⟩
  refine TV_keep _ (p := hB) ?_
  have hfl : fam.length = x := by have := congrArg List.length hfam; simpa using this
  repeat (refine StepC.go ?_)
  refine TV_cond ?_ ?_ <;> intro hc
  · have hxc : x < c := by have := of_decide_eq_true hc; omega
    have q1 : NthG (amR r fam ++ List.replicate (c - x) [Tr.v (.slice none 0 0)]) x [Tr.v (.slice none 0 0)] := ⟨by
      have h1 : (amR r fam).length = x := by simp [amR, hfl]
      rw [List.getElem?_append_right (by omega), h1, Nat.sub_self, List.getElem?_replicate, if_pos (by omega)]⟩
    have q2 : ∀ b', SetR (amR r fam ++ List.replicate (c - x) [Tr.v (.slice none 0 0)]) x [.v (.slice (some (ad b' 0)) r r)] (amR r (fam ++ [(b', List.replicate r zeroA)]) ++ List.replicate (c - (x + 1)) [Tr.v (.slice none 0 0)]) := fun b' => ⟨by
      rw [show c - x = (c - (x + 1)) + 1 by omega, List.replicate_succ, List.set_append_right _ _ (by simp [amR, hfl])]
      simp [amR, hfl]⟩
    have q3 : LenT (amR r fam ++ List.replicate (c - x) [Tr.v (.slice none 0 0)]) c := ⟨by simp [amR, hfl]; omega⟩
    have hs2 : 40 * r ≤ 2 ^ 46 := by omega
    repeat (first | refine StepC.go ?_ | (refine TS_makeSlice ?_ (fun _ => ?_); · omega))
    rw [hL]
    skip
    rename_i b2
    have hz : amRows (adjP m r x 0) = List.replicate r [Tr.v (.complex .f64 0 0), .v (.complex .f64 0 0), .v (.int .i64 0)] := by rw [adjP_0, ← zeroA_cs]; simp [amRows]
    refine TV_loop (fun d σ B => ∃ y : Nat, d = r - y ∧ y ≤ r ∧ TGet σ 36 (intT y) ∧ TGet σ 35 (intT r) ∧ TGet σ 6 (intT x) ∧ TGet σ 25 (intT x) ∧ TGet σ 24 (intT c) ∧ TGet σ 5 (.v (.slice (some (ad bs 0)) c c)) ∧ TGet σ 0 (.sl 1 (mRows m)) ∧
      SubP B ((b2, .arr 3 (amRows (adjP m r x y)) 46 true) :: (bs, .arr 1 (amR r (fam ++ [(b2, List.replicate r zeroA)]) ++ List.replicate (c - (x + 1)) [.v (.slice none 0 0)]) 37 true) :: amB fam)) r
      ⟨0, by omega, by omega, tget_as rfl, inferInstance, inferInstance, inferInstance, inferInstance, inferInstance, inferInstance, by rw [hz, ← (q2 b2).eq]; infer_instance⟩ ?_
    clear q1 q2 q3 hB g25 g24 g5 g0
    rintro d σ B ⟨y, rfl, hy, g36, g35, g6, g25, g24, g5, g0, hB⟩
    refine TV_keep _ (p := hB) ?_
    repeat (refine StepC.go ?_)
    refine TV_cond ?_ ?_ <;> intro hc2
    · have hyr : y < r := by have := of_decide_eq_true hc2; omega
      obtain ⟨l, hl, hlc, hlo⟩ := hM.at hyr
      obtain ⟨u, hu⟩ : ∃ u, l[x]? = some u := ⟨_, List.getElem?_eq_getElem (by omega)⟩
      have ngl := mRows_at hl
      have ngu : NthG (amRows l) x (amCs u) := .map amCs hu
      have mu := hlo u (List.mem_of_getElem? hu)
      have eE : adjE m x y = amConj u := by simp [adjE, List.getD, hl, hu]
      have q4 : NthG (amR r (fam ++ [(b2, List.replicate r zeroA)]) ++ List.replicate (c - (x + 1)) [Tr.v (.slice none 0 0)]) x [.v (.slice (some (ad b2 0)) r r)] := ⟨by
        rw [List.getElem?_append_left (by simp [amR, hfl])]
        simp [amR, ← hfl]⟩
      have q5 : LenT (amR r (fam ++ [(b2, List.replicate r zeroA)]) ++ List.replicate (c - (x + 1)) [Tr.v (.slice none 0 0)]) c := ⟨by simp [amR, hfl]; omega⟩
      have q6 : LenT (amRows (adjP m r x y)) r := ⟨by rw [amRows_len, adjP_len]⟩
      have q7 : SetR (amRows (adjP m r x y)) y (amCs (amConj u)) (amRows (adjP m r x (y + 1))) := ⟨by rw [adjP_succ m r x y hyr, eE]; simp [amRows, List.map_set]⟩
      have q8 : NthG (amRows (adjP m r x y)) y (amCs zeroA) := .map amCs (by simp only [adjP, List.getElem?_map, List.getElem?_range hyr, Option.map_some, Nat.lt_irrefl, if_false])
      repeat (refine StepC.go ?_)
      refine TS_callE (amConjT (a := u)) ?_
      repeat (first | refine StepC.go ?_ | intro _ | (refine TS_puw (Pu.addi ?_) ?_; · omega) | refine TD_take rfl rfl ?_ | refine TD_load rfl rfl ?_ | refine TD_one rfl ?_ | refine FiltT_nil ?_ | refine FiltT_drop rfl ?_ | refine TV_draw (id := 17) (plan := [.take 0, .take 1, .take 2, .take 3, .take 4, .take 5, .take 6, .one 7]) (by kernel_rfl) ?_ | (refine TV_cond_f ?_ ?_; · first | rfl | assumption))
      refine ⟨_, ?_, y + 1, rfl, by omega, tget_as rfl, inferInstance, inferInstance, inferInstance, inferInstance, inferInstance, inferInstance, inferInstance⟩
      omega
    · have hyr : y = r := by have := of_decide_eq_false hc2; omega
      subst hyr
      rw [adjP_n] at *
      repeat (first | refine StepC.go ?_ | (refine TS_puw (Pu.addi ?_) ?_; · omega))
      refine ⟨_, ?_, x + 1, fam ++ [(b2, adjRow m y x)], rfl, by omega, tget_as rfl, inferInstance, inferInstance, inferInstance, ?_, ?_⟩
      · omega
      · refine ⟨[], ?_⟩
        have h1 : amR y (fam ++ [(b2, adjRow m y x)]) = amR y (fam ++ [(b2, List.replicate y zeroA)]) := by simp [amR]
        have h2 : amB (fam ++ [(b2, adjRow m y x)]) = amB fam ++ [(b2, .arr 3 (amRows (adjRow m y x)) 46 true)] := by simp [amB]
        rw [h1, h2, List.append_nil]
        exact ((List.perm_append_singleton _ (_ :: _)).trans (List.Perm.refl _)).symm
      · rw [List.map_append, hfam, List.range_succ, List.map_append]; rfl
  · have hxc : x = c := by have := of_decide_eq_false hc; omega
    subst hxc
    simp only [Nat.sub_self, List.replicate_zero, List.append_nil] at *
    have hlen : ∀ z ∈ fam, z.2.length = r := fun z hz => by
      have h1 : z.2 ∈ fam.map Prod.snd := List.mem_map.2 ⟨z, hz, rfl⟩
      rw [hfam] at h1
      obtain ⟨l, _, h2⟩ := List.mem_map.1 h1
      rw [← h2]; simp [adjRow]
    have : Sm63 x := ⟨by omega⟩
    have : Sm63 r := ⟨by omega⟩
    have q5 : LenT (amR r fam) x := ⟨by simp [amR, hfl]⟩
    have hfz := amR_frz (n := r) (B := (bs, .arr 1 (amR r fam) 37 true) :: amB fam) (fam := fam) (fun x hx => by
      have : BoxIs (amB fam) x.1 (.arr 3 (amRows x.2) 46 true) := ⟨List.mem_map.2 ⟨x, hx, rfl⟩⟩
      infer_instance) (by omega) hlen hr0
    repeat (refine StepC.go ?_)
    refine retT_2 (.inr rfl) ?_
    rw [hfam]
    rfl
instance : CallIs Try.prog 27 := .of Try.func27 rfl rfl
end Go.Ideal

-- Kj
set_option linter.unusedSimpArgs false
set_option linter.unusedVariables false
namespace Go.Ideal
open Go Go.Proofs Go.RowKit
/-! ### One on the diagonal -/
def eyeE (i j : Nat) : AmD := if i = j then oneA else zeroA
def eyeRow (n i : Nat) : List AmD := (List.range n).map (eyeE i)
def eyeM (n : Nat) : List (List AmD) := (List.range n).map (eyeRow n)
theorem eyeM_at {n i : Nat} (h : i < n) : (eyeM n)[i]? = some (eyeRow n i) := by simp [eyeM, h]
theorem eyeRow_at {n i j : Nat} (h : j < n) : (eyeRow n i)[j]? = some (eyeE i j) := by simp [eyeRow, h]
theorem eyeE_sm (i j : Nat) : RgS (eyeE i j).r := by unfold eyeE; split <;> exact ⟨by decide, by decide, by decide, by decide⟩
theorem zeroA_tr : amT zeroA = .agg [.v (.complex .f64 0 0), .v (.complex .f64 0 0), .v (.int .i64 0)] := by rw [amT, zeroA_cs]
set_option synthInstance.maxSize 4000 in
set_option synthInstance.maxHeartbeats 400000 in
set_option maxHeartbeats 4000000 in
theorem eyeT {n : Nat} (hn : n < 2 ^ 20) : Fn Try.prog 29 [.sl 1 (mRows (eyeM n))] (fun t => t = boolT true) := by
  refine Fn_of Try.func29 rfl (Nat.le_of_ble_eq_true rfl) (fun X => ?_)
  have hL : (mRows (eyeM n)).length = n := by simp [mRows, eyeM]
  have hng := fun {i} (h : i < n) => mRows_at (eyeM_at h)
  have hlr : ∀ i, (amRows (eyeRow n i)).length = n := fun i => by simp [amRows, eyeRow]
  generalize mRows (eyeM n) = R at *
  repeat (refine StepC.go ?_)
  refine TV_loop (fun d σ B => ∃ i : Nat, d = n - i ∧ i ≤ n ∧ TGet σ 3 (intT i) ∧ TGet σ 0 (.sl 1 R)) n
    ⟨0, by omega, by omega, inferInstance, inferInstance⟩ ?_
  rintro d σ B ⟨i, rfl, hi, g3, g0⟩
  repeat (refine StepC.go ?_)
  rw [hL]
  refine TV_cond ?_ ?_ <;> intro hc
  · have hil : i < n := by have := of_decide_eq_true hc; omega
    have ng1 := hng hil
    have hl1 := hlr i
    repeat (refine StepC.go ?_)
    refine TV_loop (fun d σ B => ∃ j : Nat, d = n - j ∧ j ≤ n ∧ TGet σ 4 (intT j) ∧ TGet σ 3 (intT i) ∧ TGet σ 0 (.sl 1 R)) n
      ⟨0, by omega, by omega, inferInstance, inferInstance, inferInstance⟩ ?_
    rintro d σ B ⟨j, rfl, hj, g4, g3, g0⟩
    repeat (refine StepC.go ?_)
    rw [hL]
    refine TV_cond ?_ ?_ <;> intro hc2
    · have hjl : j < n := by have := of_decide_eq_true hc2; omega
      have ng2 : NthG (amRows (eyeRow n i)) j (amCs (eyeE i j)) := .map amCs (eyeRow_at hjl)
      have dd : (!decide (eyeE i j = eyeE i j)) = false := by simp
      repeat (first | refine StepC.go ?_ | intro _)
      refine TV_cond ?_ ?_ <;> intro hc3
      · have hij : i = j := by have := of_decide_eq_true hc3; omega
        have he : amT (eyeE i j) = .agg [.v (.complex .f64 4607182418800017408 0), .v (.complex .f64 0 0), .v (.int .i64 0)] := by rw [eyeE, if_pos hij, oneA_tr]
        repeat (refine StepC.go ?_)
        refine TV_draw (id := 10) (plan := [.take 0, .take 1, .take 2, .take 3, .take 4, .take 5, .take 6, .take 7, .take 8, .take 9, .take 10, .take 11, .take 12, .take 13, .take 14, .take 15, .take 16, .take 17, .take 18]) (by kernel_rfl) ?_
        repeat (first | refine TD_take rfl rfl ?_ | refine TD_load rfl rfl ?_)
        rw [hl1, hL, show (!decide ((n : Int) = (n : Int))) = false by simp]
        repeat (first | refine TD_take_on rfl rfl (by first | rfl | assumption) rfl ?_ | refine TD_load_on rfl rfl (by first | rfl | assumption) rfl ?_)
        refine TD_take_on (u := false) (b := false) rfl rfl rfl rfl (p := Pu.amNe (a := eyeE i j) (b := eyeE i j) (e2 := by rw [he]; infer_instance) (eyeE_sm i j) (eyeE_sm i j)) ?_
        rw [dd]
        repeat (first | refine StepC.go ?_ | (refine TS_puw (Pu.addi ?_) ?_; · omega) | refine TD_take rfl rfl ?_ | (refine TV_cond_f ?_ ?_; · first | rfl | assumption))
        refine ⟨_, ?_, j + 1, rfl, by omega, tget_as rfl, inferInstance, inferInstance⟩
        omega
      · have hij : i ≠ j := by have := of_decide_eq_false hc3; omega
        have he : amT (eyeE i j) = .agg [.v (.complex .f64 0 0), .v (.complex .f64 0 0), .v (.int .i64 0)] := by rw [eyeE, if_neg hij, zeroA_tr]
        repeat (refine StepC.go ?_)
        refine TV_draw (id := 10) (plan := [.take 0, .take 1, .take 2, .take 3, .take 4, .take 5, .take 6, .take 7, .take 8, .take 9, .take 10, .take 11, .take 12, .take 13, .take 14, .take 15, .take 16, .take 17, .take 18]) (by kernel_rfl) ?_
        repeat (first | refine TD_take rfl rfl ?_ | refine TD_load rfl rfl ?_)
        rw [hl1, hL, show (!decide ((n : Int) = (n : Int))) = false by simp]
        repeat (first | refine TD_take_on rfl rfl (by first | rfl | assumption) rfl ?_ | refine TD_load_on rfl rfl (by first | rfl | assumption) rfl ?_)
        refine TD_take_on (u := false) (b := false) rfl rfl rfl rfl (p := Pu.amNe (a := eyeE i j) (b := eyeE i j) (e2 := by rw [he]; infer_instance) (eyeE_sm i j) (eyeE_sm i j)) ?_
        rw [dd]
        repeat (first | refine StepC.go ?_ | (refine TS_puw (Pu.addi ?_) ?_; · omega) | refine TD_take rfl rfl ?_ | (refine TV_cond_f ?_ ?_; · first | rfl | assumption))
        refine ⟨_, ?_, j + 1, rfl, by omega, tget_as rfl, inferInstance, inferInstance⟩
        omega
    · repeat (first | refine StepC.go ?_ | (refine TS_puw (Pu.addi ?_) ?_; · omega))
      refine ⟨_, ?_, i + 1, rfl, by omega, tget_as rfl, inferInstance⟩
      omega
  · repeat (refine StepC.go ?_)
    exact retT_1 (.inr rfl) rfl
instance : CallIs Try.prog 29 := .of Try.func29 rfl rfl
set_option synthInstance.maxSize 4000 in
set_option synthInstance.maxHeartbeats 400000 in
set_option maxHeartbeats 4000000 in
theorem unitaryT {m : List (List AmD)} {n : Nat} (hM : MatOk m n n) (hA : MatOk (adjM m n n) n n) (hf : ∀ l ∈ m, ∀ y, y < n → DotOk l (adjM m n n) y n) (hp : matMul m (adjM m n n) n n = eyeM n) : Fn Try.prog 28 [.sl 1 (mRows m)] (fun t => t = .tup [boolT true, intT 0]) := by
  refine Fn_of Try.func28 rfl (Nat.le_of_ble_eq_true rfl) (fun X => ?_)
  have hn0 := hM.r0
  have hn9 := hM.r9
  obtain ⟨a0, ha0, hac0, _⟩ := hM.at hn0
  have nga0 := mRows_at ha0
  have la0 : (amRows a0).length = n := by rw [amRows_len, hac0]
  have hLm : (mRows m).length = n := by rw [mRows_len, hM.len]
  have hng := fun {i} (h : i < n) => mRows_at (eyeM_at h)
  have hL : (mRows (eyeM n)).length = n := by simp [mRows, eyeM]
  repeat (refine StepC.go ?_)
  refine TS_call (adjointT hM) ?_
  rintro _ rfl
  repeat (first | refine StepC.go ?_ | (refine TV_cond_f ?_ ?_; · first | rfl | assumption))
  rw [hLm, la0, show (!decide ((n : Int) = (n : Int))) = false by simp]
  repeat (first | refine StepC.go ?_ | (refine TV_cond_f ?_ ?_; · first | rfl | assumption))
  refine TS_call (gateMulT hM hA hf) ?_
  rw [hp]
  rintro _ rfl
  generalize mRows (eyeM n) = R at *
  repeat (first | refine StepC.go ?_ | (refine TV_cond_f ?_ ?_; · first | rfl | assumption))
  rw [hL]
  refine TV_loop (fun d σ B => ∃ i : Nat, d = n - i ∧ i ≤ n ∧ TGet σ 36 (intT i) ∧ TGet σ 35 (intT n) ∧ TGet σ 6 (.sl 1 R)) n
    ⟨0, by omega, by omega, inferInstance, inferInstance, inferInstance⟩ ?_
  rintro d σ B ⟨i, rfl, hi, g36, g35, g6⟩
  repeat (refine StepC.go ?_)
  refine TV_cond ?_ ?_ <;> intro hc
  · have hil : i < n := by have := of_decide_eq_true hc; omega
    have ng1 := hng hil
    repeat (refine StepC.go ?_)
    rw [hL]
    refine TV_loop (fun d σ B => ∃ j : Nat, d = n - j ∧ j ≤ n ∧ TGet σ 41 (intT j) ∧ TGet σ 40 (intT n) ∧ TGet σ 7 (intT i) ∧ TGet σ 36 (intT i) ∧ TGet σ 35 (intT n) ∧ TGet σ 6 (.sl 1 R)) n
      ⟨0, by omega, by omega, inferInstance, inferInstance, inferInstance, inferInstance, inferInstance, inferInstance⟩ ?_
    rintro d σ B ⟨j, rfl, hj, g41, g40, g7, g36, g35, g6⟩
    repeat (refine StepC.go ?_)
    refine TV_cond ?_ ?_ <;> intro hc2
    · have hjl : j < n := by have := of_decide_eq_true hc2; omega
      have ng2 : NthG (amRows (eyeRow n i)) j (amCs (eyeE i j)) := .map amCs (eyeRow_at hjl)
      have dd : (!decide (eyeE i j = eyeE i j)) = false := by simp
      repeat (first | refine StepC.go ?_ | intro _)
      refine TV_cond ?_ ?_ <;> intro hc3
      · have hij : i = j := by have := of_decide_eq_true hc3; omega
        have he : amT (eyeE i j) = .agg [.v (.complex .f64 4607182418800017408 0), .v (.complex .f64 0 0), .v (.int .i64 0)] := by rw [eyeE, if_pos hij, oneA_tr]
        repeat (refine StepC.go ?_)
        refine TV_draw (id := 18) (plan := [.take 0, .take 1, .take 2, .take 3, .take 4, .take 5, .take 6, .take 7, .take 8]) (by kernel_rfl) ?_
        repeat (first | refine TD_take rfl rfl ?_ | refine TD_load rfl rfl ?_)
        refine TD_takew rfl rfl (Pu.amNe (a := eyeE i j) (b := eyeE i j) (e2 := by rw [he]; infer_instance) (eyeE_sm i j) (eyeE_sm i j)) ?_
        rw [dd]
        repeat (first | refine StepC.go ?_ | (refine TS_puw (Pu.addi ?_) ?_; · omega) | (refine TV_cond_f ?_ ?_; · first | rfl | assumption))
        refine ⟨_, ?_, j + 1, rfl, by omega, tget_as rfl, inferInstance, inferInstance, inferInstance, inferInstance, inferInstance⟩
        omega
      · have hij : i ≠ j := by have := of_decide_eq_false hc3; omega
        have he : amT (eyeE i j) = .agg [.v (.complex .f64 0 0), .v (.complex .f64 0 0), .v (.int .i64 0)] := by rw [eyeE, if_neg hij, zeroA_tr]
        repeat (refine StepC.go ?_)
        refine TV_draw (id := 18) (plan := [.take 0, .take 1, .take 2, .take 3, .take 4, .take 5, .take 6, .take 7, .take 8]) (by kernel_rfl) ?_
        repeat (first | refine TD_take rfl rfl ?_ | refine TD_load rfl rfl ?_)
        refine TD_takew rfl rfl (Pu.amNe (a := eyeE i j) (b := eyeE i j) (e2 := by rw [he]; infer_instance) (eyeE_sm i j) (eyeE_sm i j)) ?_
        rw [dd]
        repeat (first | refine StepC.go ?_ | (refine TS_puw (Pu.addi ?_) ?_; · omega) | (refine TV_cond_f ?_ ?_; · first | rfl | assumption))
        refine ⟨_, ?_, j + 1, rfl, by omega, tget_as rfl, inferInstance, inferInstance, inferInstance, inferInstance, inferInstance⟩
        omega
    · repeat (first | refine StepC.go ?_ | (refine TS_puw (Pu.addi ?_) ?_; · omega))
      refine ⟨_, ?_, i + 1, rfl, by omega, tget_as rfl, inferInstance, inferInstance⟩
      omega
  · repeat (refine StepC.go ?_)
    exact retT_2 (.inr rfl) rfl
instance : CallIs Try.prog 28 := .of Try.func28 rfl rfl
end Go.Ideal

-- Kk
set_option linter.unusedSimpArgs false
set_option linter.unusedVariables false
namespace Go.Ideal
open Go Go.Proofs Go.RowKit
/-! ### The law GateBack -/
def bkI : List Nat := [0, 1, 2, 3, 4, 6, 5, 8, 7, 10, 9, 12, 11, 13, 14, 15, 16, 18, 17, 19, 21, 20, 22, 23, 24]
def backB (i : Nat) : Bool :=
  chainB (wS (pAt i).1) (matrixS (pAt i).1 (pAt i).2) [pAt (bkI.getD i 0)] && chainB (wS (pAt i).1) (matrixS (pAt (bkI.getD i 0)).1 (pAt (bkI.getD i 0)).2) [pAt i] &&
  decide (prodF (wS (pAt i).1) (matrixS (pAt i).1 (pAt i).2) [pAt (bkI.getD i 0)] = eyeM (wS (pAt i).1)) && decide (prodF (wS (pAt i).1) (matrixS (pAt (bkI.getD i 0)).1 (pAt (bkI.getD i 0)).2) [pAt i] = eyeM (wS (pAt i).1)) &&
  decide (adjM (matrixS (pAt i).1 (pAt i).2) (wS (pAt i).1) (wS (pAt i).1) = matrixS (pAt (bkI.getD i 0)).1 (pAt (bkI.getD i 0)).2)
theorem back_1 : (List.range 22).all backB = true := by decide +kernel
theorem back_2 : backB 22 = true := by decide +kernel
theorem back_3 : backB 23 = true := by decide +kernel
theorem back_4 : backB 24 = true := by decide +kernel
theorem back_all {i : Nat} (h : i < 25) : backB i = true := by
  by_cases h1 : i < 22
  · exact List.all_eq_true.1 back_1 i (List.mem_range.2 h1)
  · have : i = 22 ∨ i = 23 ∨ i = 24 := by omega
    rcases this with rfl | rfl | rfl
    · exact back_2
    · exact back_3
    · exact back_4
def backI (i : Nat) : Bool := decide (bkI.getD i 0 < 25) && decide ((pAt (bkI.getD i 0)).1.name = (pAt i).1.back) && decide ((pAt (bkI.getD i 0)).1.back = (pAt i).1.name) && decide ((pAt (bkI.getD i 0)).1.arity = (pAt i).1.arity) && decide ((pAt (bkI.getD i 0)).1.halves = (pAt i).1.halves) && ((pAt (bkI.getD i 0)).1.cliff == (pAt i).1.cliff) && ((pAt (bkI.getD i 0)).1.diag == (pAt i).1.diag)
theorem backI_all : (List.range 25).all backI = true := by decide +kernel
theorem pAt_row {i : Nat} (h : i < 25) : nameRows[i]? = some [strT (pAt i).1.name] := by
  obtain ⟨e, q, h1, h2, h3, h4⟩ := name_at h
  have hz : (KT.zip KC)[i]? = some (e, q) := List.getElem?_zip_eq_some.2 ⟨h1, h2⟩
  have : pAt i = (e, q) := by unfold pAt; rw [List.getD_eq_getElem?_getD, hz]; rfl
  rw [this]
  simp only [nameRows, List.getElem?_map, h1]; rfl
end Go.Ideal
