/- Part 6 of what the proof stands on: an interpreter over an ideal memory that is proved sound, steps over it, and contracts of the functions that are called. No condition: no law is claimed here. -/
import Derived.Test.YtodgjkffkjhinaaC5
import Derived.Carry
import Derived.OpenShut
-- Cc
set_option linter.unusedSimpArgs false
set_option linter.unusedVariables false
namespace Go.Ideal
open Go Go.Proofs
/-! ### Operations and circuits -/
def ints (xs : List Int) : List Value := xs.map (Value.int .i64)
theorem ints_len (xs : List Int) : (ints xs).length = xs.length := by simp [ints]
theorem ints_get {xs : List Int} {i : Nat} {v : Value} (h : (ints xs)[i]? = some v) : ∃ x, v = .int .i64 x ∧ xs[i]? = some x := by
  simp only [ints, List.getElem?_map, Option.map_eq_some_iff] at h
  obtain ⟨x, h1, rfl⟩ := h
  exact ⟨x, rfl, h1⟩
structure OpD where
  kind : Int
  name : ByteArray
  qs : List Int
  bit : Int
  iff : Bool
  mask : Nat
  value : Nat
def OpD.cells (o : OpD) (a : Option Addr) (l c : Nat) : List Value := [.int .i64 o.kind, .string o.name, .slice a l c, .int .i64 o.bit, .bool o.iff, .int .u64 o.mask, .int .u64 o.value]
def SpotOk (a : Option Addr) (c : Nat) : Prop := ∀ d, a = some d → d.spot = none ∨ c = 0
/-- the cells of an operation -/
def OpC (h : IHp) (cells : List Value) (o : OpD) : Prop := ∃ a l c, cells = o.cells a l c ∧ SlIs h a l c (ints o.qs) ∧ o.mask < 2 ^ 64 ∧ o.value < 2 ^ 64 ∧ c < 2 ^ 63 ∧ SpotOk a c
theorem OpC.ext {h h' : IHp} (e : Ext h h') {cells : List Value} {o : OpD} (x : OpC h cells o) : OpC h' cells o := by
  obtain ⟨a, l, c, h1, h2, h3⟩ := x
  exact ⟨a, l, c, h1, h2.ext e, h3⟩
/-- a slice of operations -/
def OpsV (h : IHp) (a : Option Addr) (l c : Nat) (ops : List OpD) : Prop := ops.length = l ∧ l ≤ c ∧ c < 2 ^ 63 ∧ match a with
  | none => c = 0
  | some a => ∀ (i : Nat) (o : OpD), ops[i]? = some o → ∃ cells, h.row a.block (a.off + i * 7) 7 = some cells ∧ OpC h cells o
theorem OpsV.ext {h h' : IHp} (e : Ext h h') {a : Option Addr} {l c : Nat} {ops : List OpD} (x : OpsV h a l c ops) : OpsV h' a l c ops := by
  obtain ⟨h1, h2, h4, h3⟩ := x
  refine ⟨h1, h2, h4, ?_⟩
  cases a with
  | none => exact h3
  | some a =>
    intro i o hi
    obtain ⟨cells, h4, h5⟩ := h3 i o hi
    exact ⟨cells, row_ext e h4, h5.ext e⟩
theorem OpsV.at {h : IHp} {a : Option Addr} {l c : Nat} {ops : List OpD} (x : OpsV h a l c ops) {i : Int} (h0 : 0 ≤ i) (h1 : i < l) : ∃ b o cells, a = some b ∧ ops[i.toNat]? = some o ∧ RowIs h b.block (b.off + i.toNat * 7) 7 cells ∧ OpC h cells o := by
  obtain ⟨h2, h3, _, h4⟩ := x
  have hi : i.toNat < ops.length := by omega
  cases a with
  | none => simp at h4; omega
  | some b =>
    obtain ⟨cells, h5, h6⟩ := h4 i.toNat ops[i.toNat] (List.getElem?_eq_getElem hi)
    exact ⟨b, ops[i.toNat], cells, rfl, List.getElem?_eq_getElem hi, ⟨h5⟩, h6⟩
structure CircD where
  qubits : Int
  bits : Int
  ops : List OpD
def CircV (h : IHp) (v : Value) (c : CircD) : Prop := ∃ a l k, v = .agg [.int .i64 c.qubits, .int .i64 c.bits, .slice a l k].toArray ∧ OpsV h a l k c.ops
theorem CircV.ext {h h' : IHp} (e : Ext h h') {v : Value} {c : CircD} (x : CircV h v c) : CircV h' v c := by
  obtain ⟨a, l, k, h1, h2⟩ := x
  exact ⟨a, l, k, h1, h2.ext e⟩

/-! ### Is a number in a list? -/
def idxK (x : Int) : List Int → Nat → Int
  | [], _ => -1
  | y :: ys, i => if x = y then i else idxK x ys (i + 1)
theorem idxK_mem (x : Int) : ∀ (ys : List Int) (i : Nat), decide (0 ≤ idxK x ys i) = decide (x ∈ ys) := by
  intro ys
  induction ys with
  | nil => intro i; simp [idxK]
  | cons y ys ih =>
    intro i
    rw [idxK]
    by_cases h : x = y
    · simp [h]
    · rw [if_neg h, ih]; simp [h]
theorem Index_spec (a : Option Addr) (l c : Nat) (ys : List Int) (x : Int) (h : IHp) (hy : SlIs h a l c (ints ys)) (hl : l < 2 ^ 63) : EvX Try.prog 84 [.slice a l c, .int .i64 x].toArray h (fun v h' => v = .int .i64 (idxK x ys 0) ∧ h' = h) := by
  have hlen : ys.length = l := by have := hy.1; rwa [ints_len] at this
  refine EvX_of Try.func84 rfl (by show 2 ≤ 19; decide) ?_
  repeat (first | refine V_seq ?_ | refine V_region ?_ | refine WS_nil ?_ | refine S_normal ?_ | refine V_block ?_ | refine WS_move ?_ | refine WS_assign ?_ | refine WS_len_slice ?_)
  refine V_loop (fun d s h' => ∃ i : Nat, d = l - i ∧ i ≤ l ∧ Get s 8 (.int .i64 i) ∧ Get s 7 (.int .i64 l) ∧ Get s 0 (.slice a l c) ∧ Get s 1 (.int .i64 x) ∧ h' = h ∧ idxK x ys 0 = idxK x (ys.drop i) i) l ⟨0, by omega, by omega, inferInstanceAs (Get _ 8 (.int .i64 0)), inferInstance, inferInstance, inferInstance, rfl, rfl⟩ ?_
  rintro d s h' ⟨i, rfl, hi, g8, g7, g0, g1, rfl, hK⟩
  repeat' (first | refine V_seq ?_ | refine V_region ?_ | refine WS_nil ?_ | refine S_normal ?_ | refine V_block ?_ | refine V_skip ?_ | refine V_exit ?_ | refine V_ret ?_ | refine S_exit ?_ | refine B_exit ?_ | refine WS_move ?_ | refine WS_assign ?_ | refine WS_cmp rfl ?_ | (refine V_cond ?_ ?_ <;> intro hc <;> try (cases hc; done)))
  · have hil : i < l := by simp at hc; omega
    obtain ⟨b, v, rfl, hv, c1⟩ := hy.at (i := (i : Int)) (by omega) (by omega)
    rw [Int.toNat_natCast] at hv
    obtain ⟨y, rfl, hy1⟩ := ints_get hv
    have hb : 0 ≤ (i : Int) ∧ (i : Int) < (l : Int) := by omega
    have hd : ys.drop i = y :: ys.drop (i + 1) := by
      rw [List.drop_eq_getElem_cons (by omega)]
      rw [List.getElem?_eq_getElem (by omega)] at hy1
      rw [Option.some.inj hy1]
    rw [hd, idxK] at hK
    repeat' (first | refine V_seq ?_ | refine V_region ?_ | refine WS_nil ?_ | refine S_normal ?_ | refine B_normal ?_ | refine V_skip ?_ | refine V_ret ?_ | refine S_ret ?_ | refine B_ret ?_ | refine WS_move ?_ | refine WS_assign ?_ | refine WS_cmp rfl ?_ | refine WS_addi (by omega) ?_ | refine WS_load ?_ | refine WS_indexAddr (by first | decide | omega) ?_ | (refine V_cond ?_ ?_ <;> intro hc <;> try (cases hc; done)))
    · refine retK_1 ⟨?_, rfl⟩ (.inr rfl)
      rw [hK, if_pos (by simpa using hc)]
    · refine ⟨_, ?_, i + 1, rfl, by omega, ?_, inferInstance, inferInstance, inferInstance, rfl, ?_⟩
      · omega
      · exact get_as (v := .int .i64 ((i : Int) + 1)) (by simp)
      · rw [hK, if_neg (by simpa using hc)]
  · have hil : i = l := by simp at hc; omega
    refine retK_1 ⟨?_, rfl⟩ (.inr rfl)
    rw [hK, List.drop_of_length_le (by omega)]; rfl
instance : CallIs Try.prog 84 := .of Try.func84 rfl rfl
theorem Contains_spec (a : Option Addr) (l c : Nat) (ys : List Int) (x : Int) (h : IHp) (hy : SlIs h a l c (ints ys)) (hl : l < 2 ^ 63) : EvX Try.prog 74 [.slice a l c, .int .i64 x].toArray h (fun v h' => v = .bool (decide (x ∈ ys)) ∧ h' = h) := by
  refine EvX_of Try.func74 rfl (by show 2 ≤ 9; decide) ?_
  repeat' (first | refine V_seq ?_ | refine V_region ?_ | refine WS_nil ?_ | refine S_normal ?_ | refine WS_move ?_ | refine WS_assign ?_)
  refine WS_call (Index_spec a l c ys x h hy hl) ?_
  rintro _ _ ⟨rfl, rfl⟩
  repeat' (first | refine WS_nil ?_ | refine S_normal ?_ | refine V_ret ?_ | refine WS_assign ?_ | refine WS_cmp rfl ?_)
  refine retK_1 ⟨?_, rfl⟩ (.inr rfl)
  rw [idxK_mem]
instance : CallIs Try.prog 74 := .of Try.func74 rfl rfl

/-! ### halves -/
def halvesO (o : OpD) : Int := if o.kind = 1 then halvesS o.name else 0
theorem halvesO_01 (o : OpD) : 0 ≤ halvesO o ∧ halvesO o ≤ 1 := by
  unfold halvesO
  split
  · rcases halvesS_01 o.name with h | h <;> omega
  · omega
theorem halves_spec (o : OpD) (a : Option Addr) (l c : Nat) (h : IHp) : EvX Try.prog 53 [.agg (o.cells a l c).toArray].toArray h (fun v h' => v = .int .i64 (halvesO o) ∧ Ext h h') := by
  refine EvX_of Try.func53 rfl (by show 1 ≤ 9; decide) ?_
  unfold OpD.cells
  repeat' (first | refine V_seq ?_ | refine V_region ?_ | refine WS_nil ?_ | refine S_normal ?_ | refine V_skip ?_ | refine V_ret ?_ | refine S_ret ?_ | refine WS_assign ?_ | refine WS_cmp rfl ?_ | refine WS_fieldAddr ?_ | refine WS_load ?_ | refine WS_box_agg rfl ?_ | (refine V_cond ?_ ?_ <;> intro hc <;> try (cases hc; done)))
  · refine retK_1 ⟨?_, Ext.push _ _⟩ (.inr rfl)
    rw [halvesO, if_neg (by simpa using hc)]
  · refine WS_call (gateHalves_spec o.name _) ?_
    rintro _ H ⟨rfl, eH⟩
    repeat' (first | refine WS_nil ?_ | refine S_normal ?_ | refine V_ret ?_ | refine WS_assign ?_)
    refine retK_1 ⟨?_, (Ext.push _ _).trans eH⟩ (.inr rfl)
    rw [halvesO, if_pos (by simpa using hc)]
instance : CallIs Try.prog 53 := .of Try.func53 rfl rfl
instance : CallIs Try.prog 63 := .of Try.func63 rfl rfl
end Go.Ideal

-- Cd
set_option linter.unusedSimpArgs false
set_option linter.unusedVariables false
namespace Go.Ideal
open Go Go.Proofs
/-! ### The shape of an operation -/
def beyondS (x : Nat) (n : Int) : Bool := decide (n < 64) && !decide ((x >>> n.toNat : Nat) = (0 : Int))
instance : CallIs Try.prog 89 := .of Try.func89 rfl rfl
def anS (v m : Nat) : Int := ibits .andNot .u64 v m
def bad1 (o : OpD) : Bool := decide (o.kind < 1) || decide (3 < o.kind)
def bad2 (o : OpD) : Bool := !o.iff && (!decide ((o.mask : Int) = 0) || !decide ((o.value : Int) = 0))
def bad3 (o : OpD) (bits : Int) : Bool := o.iff && (decide ((o.mask : Int) = 0) || beyondS o.mask bits || !decide (anS o.value o.mask = 0))
def bad4 (o : OpD) : Bool := (!decide (o.kind = 1) && !beqS o.name ⟨#[]⟩) || (!decide (o.kind = 2) && !decide (o.bit = 0))
def shapeBad (o : OpD) (bits : Int) : Bool := bad1 o || bad2 o || bad3 o bits || bad4 o
instance : CallIs Try.prog 82 := .of Try.func82 rfl rfl
end Go.Ideal

-- Ce
set_option linter.unusedSimpArgs false
set_option linter.unusedVariables false
namespace Go.Ideal
open Go Go.Proofs
/-! ### What an operation by itself is refused for -/
def outS (q x : Int) : Bool := decide (x < 0) || decide (q ≤ x)
def nS (o : OpD) : Int := if o.kind = 1 then arityS o.name else 1
def bitBad (o : OpD) (bits : Int) : Bool := decide (o.kind = 2) && (decide (o.bit < 0) || decide (bits ≤ o.bit))
def dupK (qs : List Int) : Nat → Bool
  | 0 => false
  | i + 1 => dupK qs i || decide (qs.getD i 0 ∈ qs.take i)
theorem dupK_more {qs : List Int} {i : Nat} (h : dupK qs i = true) : ∀ n, i ≤ n → dupK qs n = true := by
  intro n hn
  induction hn with
  | refl => exact h
  | step _ ih => rw [dupK, ih]; rfl
def faultS (o : OpD) (q bits : Int) : Int :=
  if shapeBad o bits = true then 120
  else if o.kind = 1 ∧ arityS o.name = 0 then 80
  else if (o.qs.length : Int) ≠ nS o then 111
  else if o.qs.any (outS q) = true then 112
  else if bitBad o bits = true then 112
  else if dupK o.qs o.qs.length = true then 113
  else 0
theorem any_take {qs : List Int} {p : Int → Bool} {i : Nat} {x : Int} (h : (qs.take i).any p = false) (hx : qs[i]? = some x) (hp : p x = false) : (qs.take (i + 1)).any p = false := by
  rw [List.take_add_one, List.any_append, h, hx]; simp [hp]
theorem any_at {qs : List Int} {p : Int → Bool} {i : Nat} {x : Int} (hx : qs[i]? = some x) (hp : p x = true) : qs.any p = true :=
  List.any_eq_true.2 ⟨x, List.mem_of_getElem? hx, hp⟩
theorem getD_at {qs : List Int} {i : Nat} {x : Int} (hx : qs[i]? = some x) : qs.getD i 0 = x := by simp [List.getD_eq_getElem?_getD, hx]
instance : CallIs Try.prog 62 := .of Try.func62 rfl rfl
end Go.Ideal

-- Cf
set_option linter.unusedSimpArgs false
set_option linter.unusedVariables false
namespace Go.Ideal
open Go Go.Proofs
/-! ### circuit.fault -/
def bmS (bits : Int) : Nat := if bits = 64 then 2 ^ 64 - 1 else 2 ^ bits.toNat - 1
def knownS (o : OpD) : Bool := decide (o.kind = 1) || decide (o.kind = 2) || decide (o.kind = 3)
def bad5 (o : OpD) (bits : Int) : Bool := !knownS o || (o.iff && decide ((o.mask : Int) = 0)) || (!o.iff && (!decide ((o.mask : Int) = 0) || !decide ((o.value : Int) = 0))) || !decide (anS o.mask (bmS bits) = 0) || !decide (anS o.value o.mask = 0)
theorem bmS_lt {bits : Int} (hb : 0 ≤ bits ∧ bits ≤ 64) : bmS bits < 2 ^ 64 := by
  unfold bmS
  split
  · decide
  · have : 2 ^ bits.toNat ≤ 2 ^ 64 := Nat.pow_le_pow_right (by decide) (by omega)
    have : 0 < 2 ^ bits.toNat := Nat.pow_pos (by decide)
    omega
theorem anS_zero {v m : Nat} (hv : v < 2 ^ 64) (hm : m < 2 ^ 64) : anS v m = 0 ↔ ∀ i, v.testBit i = true → m.testBit i = true := by
  have h1 : anS v m = (((BitVec.ofNat 64 v) &&& ~~~(BitVec.ofNat 64 m)).toNat : Int) := by
    show IntKind.u64.wrap (((BitVec.ofInt 64 v) &&& ~~~(BitVec.ofInt 64 m)).toNat : Int) = _
    rw [BitVec.ofInt_natCast, BitVec.ofInt_natCast]
    have hlt : ((BitVec.ofNat 64 v) &&& ~~~(BitVec.ofNat 64 m)).toNat < 2 ^ 64 := BitVec.isLt _
    exact wrap_u64_id (Int.natCast_nonneg _) (by omega)
  rw [h1]
  have h2 : ((((BitVec.ofNat 64 v) &&& ~~~(BitVec.ofNat 64 m)).toNat : Nat) : Int) = 0 ↔ ((BitVec.ofNat 64 v) &&& ~~~(BitVec.ofNat 64 m)) = 0#64 := by
    constructor
    · intro h; apply BitVec.eq_of_toNat_eq; simpa using (Int.natCast_eq_zero.1 h)
    · intro h; rw [h]; rfl
  rw [h2]
  constructor
  · intro h i hi
    have hi64 : i < 64 := by
      apply Decidable.byContradiction
      intro hc
      rw [Nat.testBit_lt_two_pow (Nat.lt_of_lt_of_le hv (Nat.pow_le_pow_right (by decide) (by omega)))] at hi
      cases hi
    have h3 := congrArg (fun b => b.getLsbD i) h
    simp only [BitVec.getLsbD_and, BitVec.getLsbD_not, BitVec.getLsbD_ofNat, hi64, decide_true, Bool.true_and, hi, BitVec.getLsbD_zero] at h3
    simpa using h3
  · intro h
    apply BitVec.eq_of_getLsbD_eq
    intro i hi
    simp only [BitVec.getLsbD_and, BitVec.getLsbD_not, BitVec.getLsbD_ofNat, hi, decide_true, Bool.true_and, BitVec.getLsbD_zero]
    cases hvi : v.testBit i with
    | false => simp
    | true => rw [h i hvi]; simp
theorem beyond_an {x : Nat} {bits : Int} (hx : x < 2 ^ 64) (hb : 0 ≤ bits ∧ bits ≤ 64) : (!decide (anS x (bmS bits) = 0)) = beyondS x bits := by
  have hbit : ∀ i, (bmS bits).testBit i = decide (i < bits.toNat) := by
    intro i
    unfold bmS
    split
    · rename_i h
      rw [Nat.testBit_two_pow_sub_one, h]; rfl
    · rw [Nat.testBit_two_pow_sub_one]
  have key : anS x (bmS bits) = 0 ↔ beyondS x bits = false := by
    rw [anS_zero hx (bmS_lt hb)]
    unfold beyondS
    rw [Nat.shiftRight_eq_div_pow]
    constructor
    · intro h
      by_cases h64 : bits < 64
      · have hlt : x < 2 ^ bits.toNat := by
          apply Nat.lt_pow_two_of_testBit
          intro i hi
          cases hxi : x.testBit i with
          | false => rfl
          | true => have := h i hxi; rw [hbit] at this; simp at this; omega
        simp [h64, Nat.div_eq_of_lt hlt]
      · simp [h64]
    · intro h i hi
      rw [hbit]
      by_cases h64 : bits < 64
      · simp only [h64, decide_true, Bool.true_and, Bool.not_eq_false', decide_eq_true_eq] at h
        have hlt : x < 2 ^ bits.toNat := by
          have h0 : x / 2 ^ bits.toNat = 0 := Int.natCast_eq_zero.1 h
          exact (Nat.div_eq_zero_iff_lt (Nat.pow_pos (by decide))).1 h0
        apply Decidable.byContradiction
        intro hc
        rw [Nat.testBit_lt_two_pow (Nat.lt_of_lt_of_le hlt (Nat.pow_le_pow_right (by decide) (by simp at hc; omega)))] at hi
        cases hi
      · apply Decidable.byContradiction
        intro hc
        rw [Nat.testBit_lt_two_pow (Nat.lt_of_lt_of_le hx (Nat.pow_le_pow_right (by decide) (by simp at hc; omega)))] at hi
        cases hi
  cases hc : beyondS x bits with
  | false => rw [decide_eq_true (key.2 hc)]; rfl
  | true => rw [decide_eq_false (fun h => by rw [key.1 h] at hc; cases hc)]; rfl
theorem bad_same {o : OpD} {bits : Int} (hm : o.mask < 2 ^ 64) (hv : o.value < 2 ^ 64) (hb : 0 ≤ bits ∧ bits ≤ 64) : (bad5 o bits || bad4 o) = shapeBad o bits := by
  unfold bad5 shapeBad
  rw [beyond_an hm hb]
  have hk : (!knownS o) = bad1 o := by
    unfold knownS bad1
    by_cases h1 : o.kind = 1
    · simp [h1]
    by_cases h2 : o.kind = 2
    · simp [h2]
    by_cases h3 : o.kind = 3
    · simp [h3]
    simp only [h1, h2, h3, decide_false, Bool.or_false, Bool.not_false]
    symm
    rw [Bool.or_eq_true, decide_eq_true_eq, decide_eq_true_eq]
    omega
  rw [hk]
  have hz : beyondS 0 bits = false := by simp [beyondS]
  have ha : anS 0 0 = 0 := (anS_zero (by decide) (by decide)).2 fun i hi => by simp at hi
  cases hi : o.iff with
  | true =>
    simp only [bad2, bad3, hi, Bool.true_and, Bool.not_true, Bool.false_and, Bool.or_false]
    cases bad1 o <;> cases decide ((o.mask : Int) = 0) <;> cases beyondS o.mask bits <;> cases decide (anS o.value o.mask = 0) <;> cases bad4 o <;> rfl
  | false =>
    simp only [bad2, bad3, hi, Bool.true_and, Bool.not_false, Bool.false_and, Bool.or_false]
    by_cases h1 : (o.mask : Int) = 0
    · by_cases h2 : (o.value : Int) = 0
      · have e1 : o.mask = 0 := by omega
        have e2 : o.value = 0 := by omega
        rw [e1, e2, hz, ha]
        cases bad1 o <;> cases bad4 o <;> rfl
      · simp only [h1, h2, decide_true, decide_false, Bool.not_true, Bool.not_false, Bool.false_or, Bool.or_true, Bool.true_or]
    · simp only [h1, decide_false, Bool.not_false, Bool.true_or, Bool.or_true]
theorem bm_64 {bits : Int} (h : bits = 64) : (18446744073709551615 : Int) = (bmS bits : Nat) := by rw [bmS, if_pos h]; decide
theorem bm_lt {bits : Int} (h0 : 0 ≤ bits) (h1 : bits ≤ 64) (h : ¬ bits = 64) : IntKind.u64.wrap (IntKind.u64.wrap (1 * 2 ^ min bits.toNat IntKind.u64.bits) - 1) = (bmS bits : Nat) := by
  rw [shl_one h0 (by omega), bmS, if_neg h]
  have hp : 0 < 2 ^ bits.toNat := Nat.pow_pos (by decide)
  have hq : 2 ^ bits.toNat ≤ 2 ^ 64 := Nat.pow_le_pow_right (by decide) (by omega)
  rw [wrap_u64_id (by omega) (by omega)]
  omega
end Go.Ideal

-- Cg
set_option linter.unusedSimpArgs false
set_option linter.unusedVariables false
namespace Go.Ideal
open Go Go.Proofs
set_option maxHeartbeats 8000000 in
theorem fault_spec (o : OpD) (a : Option Addr) (l c : Nat) (q bits : Int) (cv : Option Addr) (cl cc : Nat) (hb : 0 ≤ bits ∧ bits ≤ 64) (hm : o.mask < 2 ^ 64) (hv : o.value < 2 ^ 64) (h : IHp) (hs : SlIs h a l c (ints o.qs)) (hc63 : c < 2 ^ 63) (hsp : SpotOk a c) :
    EvX Try.prog 54 [.agg [.int .i64 q, .int .i64 bits, .slice cv cl cc].toArray, .agg (o.cells a l c).toArray].toArray h (fun v h' => v = .int .i64 (faultS o q bits) ∧ Ext h h') := by
  have hlen : o.qs.length = l := by have := hs.1; rwa [ints_len] at this
  have hlc : l ≤ c := hs.2.1
  refine EvX_of Try.func54 rfl (by show 2 ≤ 142; decide) ?_
  unfold OpD.cells
  repeat (first | refine V_seq ?_ | refine V_region ?_ | refine WS_nil ?_ | refine S_normal ?_ | refine WS_move ?_ | refine WS_assign ?_ | refine WS_cmp rfl ?_ | refine WS_fieldAddr ?_ | refine WS_load ?_ | refine WS_box_agg rfl ?_)
  refine WS_gen ?_
  intro H hH
  obtain ⟨r, hr⟩ : ∃ r, r = (h.push (.cells [.int .i64 q, .int .i64 bits, .slice cv cl cc] 24 true)).fresh := ⟨_, rfl⟩
  have o2 : ObjIs H h.fresh [.int .i64 q, .int .i64 bits, .slice cv cl cc] 24 true := hH ▸ inferInstance
  have o3 : ObjIs H r [.int .i64 o.kind, .string o.name, .slice a l c, .int .i64 o.bit, .bool o.iff, .int .u64 o.mask, .int .u64 o.value] 29 true := hr ▸ hH ▸ inferInstance
  have eH : Ext h H := hH ▸ (Ext.push _ _).push' _
  rw [← hr]
  clear hH hr
  generalize h.fresh = p at *
  refine WS_cut (fun s' h' => Get s' 5 (.bool (knownS o)) ∧ Get s' 2 (.pointer (some (ad p 0))) ∧ Get s' 3 (.pointer (some (ad r 0))) ∧ h' = H) ?_ ?_
  · repeat' (first | refine WS_nil ?_ | refine WS_off rfl (by first | rfl | assumption) ?_ | refine WS_on rfl (by first | rfl | assumption) ?_ | refine WS_move ?_ | refine WS_assign ?_ | refine WS_pick_t (by first | rfl | assumption) ?_ | refine WS_pick_f (by first | rfl | assumption) ?_ | refine WS_cmp rfl ?_ | refine WS_fieldAddr ?_ | refine WS_load ?_ | (refine WS_guard rfl ?_ ?_ <;> intro hg))
    all_goals exact ⟨get_as (by simp only [knownS, *] <;> rfl), inferInstance, inferInstance, rfl⟩
  rintro s H ⟨g5, g2, g3, rfl⟩
  repeat (first | refine V_seq ?_ | refine V_region ?_ | refine WS_nil ?_ | refine S_normal ?_ | refine WS_assign ?_ | refine WS_cmp rfl ?_ | refine WS_arith rfl ?_ | refine WS_fieldAddr ?_ | refine WS_load ?_ | refine WS_shift (by first | decide | omega) rfl ?_)
  refine V_cut (fun s' h' => Get s' 6 (.int .u64 (bmS bits : Nat)) ∧ Get s' 5 (.bool (knownS o)) ∧ Get s' 2 (.pointer (some (ad p 0))) ∧ Get s' 3 (.pointer (some (ad r 0))) ∧ h' = H) ?_ ?_
  · refine V_cond ?_ ?_ <;> intro hk
    · repeat' (first | refine V_region ?_ | refine WS_nil ?_ | refine C_normal ?_ | refine WS_assign ?_)
      exact ⟨get_as (congrArg (Value.int .u64) (bm_64 (by simpa using hk))), inferInstance, inferInstance, inferInstance, rfl⟩
    · repeat' (first | refine V_skip ?_ | refine C_normal ?_)
      exact ⟨get_as (congrArg (Value.int .u64) (bm_lt hb.1 hb.2 (by simpa using hk))), inferInstance, inferInstance, inferInstance, rfl⟩
  rintro s H ⟨g6, g5, g2, g3, rfl⟩
  repeat (first | refine V_seq ?_ | refine V_region ?_ | refine WS_nil ?_ | refine S_normal ?_ | refine V_block ?_ | refine WS_move ?_ | refine WS_assign ?_ | refine WS_not ?_)
  refine V_cut (fun s' h' => Get s' 32 (.bool (bad5 o bits)) ∧ Get s' 2 (.pointer (some (ad p 0))) ∧ Get s' 3 (.pointer (some (ad r 0))) ∧ h' = H) ?_ ?_
  · repeat' (first | refine V_seq ?_ | refine V_region ?_ | refine WS_nil ?_ | refine S_normal ?_ | refine V_skip ?_ | refine C_normal ?_ | refine WS_off rfl (by first | rfl | assumption) ?_ | refine WS_on rfl (by first | rfl | assumption) ?_ | refine WS_move ?_ | refine WS_assign ?_ | refine WS_pick_t (by first | rfl | assumption) ?_ | refine WS_pick_f (by first | rfl | assumption) ?_ | refine WS_off_undef rfl ?_ | refine WS_cmp rfl ?_ | refine WS_arith rfl ?_ | refine WS_not ?_ | refine WS_fieldAddr ?_ | refine WS_load ?_ | (refine WS_guard rfl ?_ ?_ <;> intro hg) | refine V_cond_t (by first | rfl | assumption) ?_ | refine V_cond_f (by first | rfl | assumption) ?_ | (refine V_cond ?_ ?_ <;> intro hc <;> try (cases hc; done)))
    all_goals exact ⟨get_as (by simp_all [bad5, anS] <;> rfl), inferInstance, inferInstance, rfl⟩
  rintro s H ⟨g32, g2, g3, rfl⟩
  skip
  refine V_cond ?_ ?_ <;> intro h5
  · repeat' (first | refine V_seq ?_ | refine V_region ?_ | refine WS_nil ?_ | refine S_normal ?_ | refine V_ret ?_ | refine S_ret ?_ | refine B_ret ?_ | refine WS_assign ?_)
    refine retK_1 ⟨?_, eH⟩ (.inr rfl)
    rw [faultS, ← bad_same hm hv hb, h5]; rfl
  repeat (first | refine V_seq ?_ | refine V_region ?_ | refine WS_move ?_ | refine WS_cmp rfl ?_ | refine WS_fieldAddr ?_ | refine WS_load ?_)
  refine WS_cut (fun s' h' => Get s' 66 (.bool (!decide (o.kind = 1) && !beqS o.name ⟨#[]⟩)) ∧ Get s' 2 (.pointer (some (ad p 0))) ∧ Get s' 3 (.pointer (some (ad r 0))) ∧ h' = H) ?_ ?_
  · repeat' (first | refine WS_nil ?_ | refine WS_off rfl (by first | rfl | assumption) ?_ | refine WS_on rfl (by first | rfl | assumption) ?_ | refine WS_assign ?_ | refine WS_pick_t (by first | rfl | assumption) ?_ | refine WS_pick_f (by first | rfl | assumption) ?_ | refine WS_strne ?_ | refine WS_fieldAddr ?_ | refine WS_load ?_ | (refine WS_guard rfl ?_ ?_ <;> intro hg))
    all_goals exact ⟨get_as (by simp only [*] <;> rfl), inferInstance, inferInstance, rfl⟩
  rintro s H ⟨g66, g2, g3, rfl⟩
  skip
  refine V_cond ?_ ?_ <;> intro h41
  · repeat' (first | refine V_seq ?_ | refine V_region ?_ | refine WS_nil ?_ | refine S_normal ?_ | refine V_skip ?_ | refine V_ret ?_ | refine S_ret ?_ | refine B_ret ?_ | refine WS_assign ?_ | refine V_cond_t (by first | rfl | assumption) ?_)
    refine retK_1 ⟨?_, eH⟩ (.inr rfl)
    rw [faultS, ← bad_same hm hv hb, h5, bad4, h41]; rfl
  repeat (first | refine V_region ?_ | refine WS_move ?_ | refine WS_cmp rfl ?_ | refine WS_fieldAddr ?_ | refine WS_load ?_)
  refine WS_cut (fun s' h' => Get s' 66 (.bool (!decide (o.kind = 2) && !decide (o.bit = 0))) ∧ Get s' 2 (.pointer (some (ad p 0))) ∧ Get s' 3 (.pointer (some (ad r 0))) ∧ h' = H) ?_ ?_
  · repeat' (first | refine WS_nil ?_ | refine WS_off rfl (by first | rfl | assumption) ?_ | refine WS_on rfl (by first | rfl | assumption) ?_ | refine WS_assign ?_ | refine WS_pick_t (by first | rfl | assumption) ?_ | refine WS_pick_f (by first | rfl | assumption) ?_ | refine WS_cmp rfl ?_ | refine WS_fieldAddr ?_ | refine WS_load ?_ | (refine WS_guard rfl ?_ ?_ <;> intro hg))
    all_goals exact ⟨get_as (by simp only [*] <;> rfl), inferInstance, inferInstance, rfl⟩
  rintro s H ⟨g66, g2, g3, rfl⟩
  skip
  refine V_cond ?_ ?_ <;> intro h42
  · repeat' (first | refine V_seq ?_ | refine V_region ?_ | refine WS_nil ?_ | refine S_normal ?_ | refine V_ret ?_ | refine S_ret ?_ | refine B_ret ?_ | refine WS_assign ?_)
    refine retK_1 ⟨?_, eH⟩ (.inr rfl)
    rw [faultS, ← bad_same hm hv hb, h5, bad4, h41, h42]; rfl
  have hsb : ¬ shapeBad o bits = true := by rw [← bad_same hm hv hb, h5, bad4, h41, h42]; decide
  repeat (first | refine V_seq ?_ | refine V_region ?_ | refine WS_nil ?_ | refine S_normal ?_ | refine B_normal ?_ | refine V_skip ?_ | refine WS_assign ?_ | refine WS_cmp rfl ?_ | refine WS_fieldAddr ?_ | refine WS_load ?_)
  refine V_cut (fun s' h' => ∃ H2, Get s' 7 (.int .i64 (nS o)) ∧ (o.kind = 1 → arityS o.name ≠ 0) ∧ Get s' 2 (.pointer (some (ad p 0))) ∧ Get s' 3 (.pointer (some (ad r 0))) ∧ h' = H2 ∧ Ext H H2) ?_ ?_
  · refine V_cond ?_ ?_ <;> intro hk
    · repeat' (first | refine V_seq ?_ | refine V_region ?_ | refine WS_fieldAddr ?_ | refine WS_load ?_)
      refine WS_call (gateArity_spec o.name _) ?_
      rintro _ H2 ⟨rfl, e2⟩
      have hk1 : o.kind = 1 := by simpa using hk
      repeat' (first | refine V_seq ?_ | refine V_region ?_ | refine WS_nil ?_ | refine S_normal ?_ | refine V_skip ?_ | refine V_ret ?_ | refine S_ret ?_ | refine C_normal ?_ | refine C_ret ?_ | refine WS_move ?_ | refine WS_assign ?_ | refine WS_cmp rfl ?_ | (refine V_cond ?_ ?_ <;> intro hc <;> try (cases hc; done)))
      · refine retK_1 ⟨?_, eH.trans e2⟩ (.inr rfl)
        rw [faultS, if_neg hsb, if_pos ⟨hk1, by simpa using hc⟩]
      · exact ⟨H2, get_as (by simp [nS, hk1]), fun _ => by simpa using hc, inferInstance, inferInstance, rfl, e2⟩
    · repeat' (first | refine V_skip ?_ | refine C_normal ?_)
      have hk1 : ¬ o.kind = 1 := by simpa using hk
      exact ⟨H, get_as (by simp [nS, hk1]), fun h => absurd h hk1, inferInstance, inferInstance, rfl, Ext.refl _⟩
  rintro s H2 ⟨_, g7, hk1, g2, g3, rfl, e2⟩
  have p2 := ObjIs.ext (e := e2) (i := o2)
  have p3 := ObjIs.ext (e := e2) (i := o3)
  have eH2 := eH.trans e2
  clear e2 eH o2 o3
  have hk2 : ¬ (o.kind = 1 ∧ arityS o.name = 0) := fun hh => hk1 hh.1 hh.2
  repeat (first | refine V_seq ?_ | refine V_region ?_ | refine WS_nil ?_ | refine S_normal ?_ | refine WS_move ?_ | refine WS_cmp rfl ?_ | refine WS_len_slice ?_ | refine WS_fieldAddr ?_ | refine WS_load ?_)
  refine V_cond ?_ ?_ <;> intro hn
  · have hn1 : (o.qs.length : Int) ≠ nS o := by rw [hlen]; simpa using hn
    repeat' (first | refine V_seq ?_ | refine V_region ?_ | refine WS_nil ?_ | refine S_normal ?_ | refine V_ret ?_ | refine S_ret ?_ | refine WS_assign ?_)
    refine retK_1 ⟨?_, eH2⟩ (.inr rfl)
    rw [faultS, if_neg hsb, if_neg hk2, if_pos hn1]
  have hn2 : ¬ (o.qs.length : Int) ≠ nS o := by rw [hlen]; simpa using hn
  repeat (first | refine V_seq ?_ | refine V_region ?_ | refine WS_nil ?_ | refine S_normal ?_ | refine V_block ?_ | refine V_skip ?_ | refine WS_move ?_ | refine WS_len_slice ?_ | refine WS_fieldAddr ?_ | refine WS_load ?_)
  refine V_loop (fun d s h' => ∃ i : Int, d = (l - i).toNat ∧ 0 ≤ i ∧ i ≤ l ∧ Get s 99 (.int .i64 i) ∧ Get s 98 (.int .i64 l) ∧ Get s 97 (.slice a l c) ∧ Get s 2 (.pointer (some (ad p 0))) ∧ Get s 3 (.pointer (some (ad r 0))) ∧ h' = H2 ∧ (o.qs.take i.toNat).any (outS q) = false) l
    ⟨0, by omega, by omega, by omega, inferInstance, inferInstance, inferInstance, inferInstance, inferInstance, rfl, by simp⟩ ?_
  rintro d s H2 ⟨i, rfl, hi0, hi1, g99, g98, g97, g2, g3, rfl, hany⟩
  repeat (first | refine V_seq ?_ | refine V_region ?_ | refine WS_nil ?_ | refine S_normal ?_ | refine WS_cmp rfl ?_)
  refine V_cond ?_ ?_ <;> intro hi
  · have hil : i < l := by simpa using hi
    obtain ⟨b, v, rfl, hv1, c1⟩ := (hs.ext eH2).at hi0 hil
    obtain ⟨x, rfl, hx⟩ := ints_get hv1
    have hbnd : 0 ≤ i ∧ i < (l : Int) := ⟨hi0, hil⟩
    repeat (first | refine V_seq ?_ | refine V_region ?_ | refine WS_nil ?_ | refine S_normal ?_ | refine V_block ?_ | refine V_skip ?_ | refine WS_move ?_ | refine WS_assign ?_ | refine WS_cmp rfl ?_ | refine WS_load ?_ | refine WS_indexAddr (by first | decide | omega) ?_)
    refine WS_cut (fun s' h' => Get s' 110 (.bool (outS q x)) ∧ Get s' 99 (.int .i64 i) ∧ Get s' 98 (.int .i64 l) ∧ Get s' 97 (.slice (some b) l c) ∧ Get s' 2 (.pointer (some (ad p 0))) ∧ Get s' 3 (.pointer (some (ad r 0))) ∧ h' = H2) ?_ ?_
    · repeat' (first | refine WS_nil ?_ | refine WS_off rfl (by first | rfl | assumption) ?_ | refine WS_on rfl (by first | rfl | assumption) ?_ | refine WS_move ?_ | refine WS_pick_t (by first | rfl | assumption) ?_ | refine WS_pick_f (by first | rfl | assumption) ?_ | refine WS_cmp rfl ?_ | refine WS_fieldAddr ?_ | refine WS_load ?_ | (refine WS_guard rfl ?_ ?_ <;> intro hg))
      all_goals exact ⟨get_as (by rw [outS, hg]; rfl), inferInstance, inferInstance, inferInstance, inferInstance, inferInstance, rfl⟩
    rintro s H2 ⟨g110, g99, g98, g97, g2, g3, rfl⟩
    repeat' (first | refine V_seq ?_ | refine V_region ?_ | refine WS_nil ?_ | refine S_normal ?_ | refine B_normal ?_ | refine V_skip ?_ | refine V_ret ?_ | refine S_ret ?_ | refine B_ret ?_ | refine WS_move ?_ | refine WS_assign ?_ | refine WS_addi (by omega) ?_ | (refine V_cond ?_ ?_ <;> intro hc <;> try (cases hc; done)))
    · refine retK_1 ⟨?_, eH2⟩ (.inr rfl)
      rw [faultS, if_neg hsb, if_neg hk2, if_neg hn2, if_pos (any_at hx hc)]
    · refine ⟨_, ?_, i + 1, rfl, by omega, by omega, inferInstance, inferInstance, inferInstance, inferInstance, inferInstance, rfl, ?_⟩
      · omega
      · rw [show (i + 1).toNat = i.toNat + 1 by omega]; exact any_take hany hx hc
  have hil : i = l := by simp at hi; omega
  rw [hil, Int.toNat_natCast, List.take_of_length_le (by omega)] at hany
  repeat (first | refine V_seq ?_ | refine V_region ?_ | refine S_normal ?_ | refine V_exit ?_ | refine S_exit ?_ | refine B_exit ?_ | refine WS_move ?_ | refine WS_cmp rfl ?_ | refine WS_fieldAddr ?_ | refine WS_load ?_)
  refine WS_cut (fun s' h' => Get s' 126 (.bool (bitBad o bits)) ∧ Get s' 3 (.pointer (some (ad r 0))) ∧ h' = H2) ?_ ?_
  · repeat' (first | refine WS_nil ?_ | refine WS_off rfl (by first | rfl | assumption) ?_ | refine WS_on rfl (by first | rfl | assumption) ?_ | refine WS_move ?_ | refine WS_pick_t (by first | rfl | assumption) ?_ | refine WS_pick_f (by first | rfl | assumption) ?_ | refine WS_off_undef rfl ?_ | refine WS_cmp rfl ?_ | refine WS_fieldAddr ?_ | refine WS_load ?_ | (refine WS_guard rfl ?_ ?_ <;> intro hg))
    all_goals exact ⟨get_as (by simp only [bitBad, *] <;> rfl), inferInstance, rfl⟩
  rintro s H2 ⟨g126, g3, rfl⟩
  skip
  refine V_cond ?_ ?_ <;> intro hbb
  · repeat' (first | refine V_seq ?_ | refine V_region ?_ | refine WS_nil ?_ | refine S_normal ?_ | refine V_ret ?_ | refine S_ret ?_ | refine WS_assign ?_)
    refine retK_1 ⟨?_, eH2⟩ (.inr rfl)
    rw [faultS, if_neg hsb, if_neg hk2, if_neg hn2, if_neg (by rw [hany]; decide), if_pos hbb]
  repeat (first | refine V_seq ?_ | refine V_region ?_ | refine WS_nil ?_ | refine S_normal ?_ | refine V_block ?_ | refine V_skip ?_ | refine WS_move ?_ | refine WS_len_slice ?_ | refine WS_fieldAddr ?_ | refine WS_load ?_)
  refine V_loop (fun d s h' => ∃ i : Int, d = (l - i).toNat ∧ 0 ≤ i ∧ i ≤ l ∧ Get s 130 (.int .i64 i) ∧ Get s 129 (.int .i64 l) ∧ Get s 128 (.slice a l c) ∧ Get s 3 (.pointer (some (ad r 0))) ∧ h' = H2 ∧ dupK o.qs i.toNat = false) l
    ⟨0, by omega, by omega, by omega, inferInstance, inferInstance, inferInstance, inferInstance, rfl, rfl⟩ ?_
  rintro d s H2 ⟨i, rfl, hi0, hi1, g130, g129, g128, g3, rfl, hdup⟩
  repeat (first | refine V_seq ?_ | refine V_region ?_ | refine WS_nil ?_ | refine S_normal ?_ | refine WS_cmp rfl ?_)
  refine V_cond ?_ ?_ <;> intro hi
  · have hil : i < l := by simpa using hi
    obtain ⟨b, v, rfl, hv1, c1⟩ := (hs.ext eH2).at hi0 hil
    obtain ⟨x, rfl, hx⟩ := ints_get hv1
    have hbnd : 0 ≤ i ∧ i < (l : Int) := ⟨hi0, hil⟩
    have hspot : b.spot = none := by
      rcases hsp b rfl with h1 | h1
      · exact h1
      · omega
    repeat (first | refine V_seq ?_ | refine V_region ?_ | refine WS_nil ?_ | refine S_normal ?_ | refine V_block ?_ | refine V_skip ?_ | refine WS_move ?_ | refine WS_assign ?_ | refine WS_fieldAddr ?_ | refine WS_load ?_ | refine WS_indexAddr (by first | decide | omega) ?_)
    refine WS_slice_hi hspot (by omega) ?_
    repeat (refine WS_move ?_)
    have hsl : SlIs H2 (some (ad b.block b.off)) i.toNat c (ints (o.qs.take i.toNat)) := by
      obtain ⟨s1, s2, s3⟩ := hs.ext eH2
      refine ⟨by simp [ints]; omega, by omega, ?_⟩
      simp only at s3 ⊢
      have := row_take s3 (show i.toNat ≤ l by omega)
      rw [this, ints, ints, List.map_take]
    refine WS_call (Contains_spec _ _ _ _ x _ hsl (by omega)) ?_
    rintro _ _ ⟨rfl, rfl⟩
    repeat' (first | refine V_seq ?_ | refine V_region ?_ | refine WS_nil ?_ | refine S_normal ?_ | refine B_normal ?_ | refine V_skip ?_ | refine V_ret ?_ | refine S_ret ?_ | refine B_ret ?_ | refine WS_move ?_ | refine WS_assign ?_ | refine WS_addi (by omega) ?_ | (refine V_cond ?_ ?_ <;> intro hc <;> try (cases hc; done)))
    · have hd : dupK o.qs (i.toNat + 1) = true := by
        rw [dupK, getD_at hx, Bool.or_eq_true]; exact .inr hc
      refine retK_1 ⟨?_, eH2⟩ (.inr rfl)
      rw [faultS, if_neg hsb, if_neg hk2, if_neg hn2, if_neg (by rw [hany]; decide), if_neg (by rw [hbb]; decide), if_pos (dupK_more hd _ (by omega))]
    · refine ⟨_, ?_, i + 1, rfl, by omega, by omega, inferInstance, inferInstance, inferInstance, inferInstance, rfl, ?_⟩
      · omega
      · rw [show (i + 1).toNat = i.toNat + 1 by omega, dupK, hdup, getD_at hx, hc]; rfl
  have hil : i = l := by simp at hi; omega
  repeat' (first | refine V_seq ?_ | refine V_region ?_ | refine WS_nil ?_ | refine S_normal ?_ | refine V_exit ?_ | refine V_ret ?_ | refine S_exit ?_ | refine B_exit ?_ | refine WS_assign ?_)
  refine retK_1 ⟨?_, eH2⟩ (.inr rfl)
  rw [hil, Int.toNat_natCast, ← hlen] at hdup
  rw [faultS, if_neg hsb, if_neg hk2, if_neg hn2, if_neg (by rw [hany]; decide), if_neg (by rw [hbb]; decide), if_neg (by rw [hdup]; decide)]
instance : CallIs Try.prog 54 := .of Try.func54 rfl rfl
end Go.Ideal

-- Ch
set_option linter.unusedSimpArgs false
set_option linter.unusedVariables false
namespace Go.Ideal
open Go Go.Proofs
/-! ### Check -/
def rangeBad (c : CircD) : Bool := decide (c.qubits < 0) || decide (64 < c.qubits) || decide (c.bits < 0) || decide (64 < c.bits)
theorem rangeBad_no {c : CircD} (h : rangeBad c = false) : 0 ≤ c.qubits ∧ c.qubits ≤ 64 ∧ 0 ≤ c.bits ∧ c.bits ≤ 64 := by
  simp [rangeBad] at h; omega
def chkK (q b : Int) : List OpD → Int → Int → Int × Int
  | [], _, _ => (0, 0)
  | o :: os, i, n => if faultS o q b ≠ 0 then (i, faultS o q b) else if 36 < n + halvesO o then (i, 116) else chkK q b os (i + 1) (n + halvesO o)
def checkC (c : CircD) : Int × Int :=
  if rangeBad c = true then (0, 2) else if 4096 < c.ops.length then (0, 115) else chkK c.qubits c.bits c.ops 0 0
theorem drop_at {α : Type} {l : List α} {i : Nat} {x : α} (h : l[i]? = some x) : l.drop i = x :: l.drop (i + 1) := by
  have hi := (List.getElem?_eq_some_iff.1 h).1
  rw [List.drop_eq_getElem_cons hi]
  rw [List.getElem?_eq_getElem hi] at h
  rw [Option.some.inj h]
set_option maxHeartbeats 4000000 in
theorem circCheck_spec {c : CircD} {v : Value} {h : IHp} (hv : CircV h v c) : EvX Try.prog 29 [v].toArray h (fun v h' => v = .tuple [.int .i64 (checkC c).1, .int .i64 (checkC c).2].toArray ∧ Ext h h') := by
  obtain ⟨a, l, k, rfl, hops⟩ := hv
  have hlen : c.ops.length = l := hops.1
  have hlk : l ≤ k := hops.2.1
  refine EvX_of Try.func29 rfl (by show 1 ≤ 53; decide) ?_
  repeat (first | refine V_seq ?_ | refine V_region ?_ | refine WS_nil ?_ | refine S_normal ?_ | refine WS_move ?_ | refine WS_assign ?_ | refine WS_cmp rfl ?_ | refine WS_fieldAddr ?_ | refine WS_load ?_ | refine WS_box_agg rfl ?_)
  refine WS_gen ?_
  intro H hH
  have o1 : ObjIs H h.fresh [.int .i64 c.qubits, .int .i64 c.bits, .slice a l k] 24 true := hH ▸ inferInstance
  have eH : Ext h H := hH ▸ Ext.push _ _
  clear hH
  generalize h.fresh = p at *
  refine WS_cut (fun s' h' => Get s' 25 (.bool (rangeBad c)) ∧ Get s' 1 (.pointer (some (ad p 0))) ∧ h' = H) ?_ ?_
  · repeat' (first | refine WS_nil ?_ | refine WS_off rfl (by first | rfl | assumption) ?_ | refine WS_on rfl (by first | rfl | assumption) ?_ | refine WS_move ?_ | refine WS_pick_t (by first | rfl | assumption) ?_ | refine WS_pick_f (by first | rfl | assumption) ?_ | refine WS_cmp rfl ?_ | refine WS_fieldAddr ?_ | refine WS_load ?_ | (refine WS_guard rfl ?_ ?_ <;> intro hg))
    all_goals exact ⟨get_as (by simp only [rangeBad, *] <;> rfl), inferInstance, rfl⟩
  rintro s H ⟨g25, g1, rfl⟩
  skip
  refine V_cond ?_ ?_ <;> intro hr
  · repeat' (first | refine V_seq ?_ | refine V_region ?_ | refine WS_nil ?_ | refine S_normal ?_ | refine V_ret ?_ | refine S_ret ?_ | refine WS_assign ?_)
    refine retK_2 ⟨?_, eH⟩ (.inr rfl)
    rw [checkC, if_pos hr]
  have hrn : ¬ rangeBad c = true := by rw [hr]; decide
  obtain ⟨hq0, hq1, hb0, hb1⟩ := rangeBad_no hr
  repeat (first | refine V_seq ?_ | refine V_region ?_ | refine WS_nil ?_ | refine S_normal ?_ | refine V_skip ?_ | refine WS_cmp rfl ?_ | refine WS_len_slice ?_ | refine WS_fieldAddr ?_ | refine WS_load ?_)
  refine V_cond ?_ ?_ <;> intro hm
  · repeat' (first | refine V_seq ?_ | refine V_region ?_ | refine WS_nil ?_ | refine S_normal ?_ | refine V_ret ?_ | refine S_ret ?_ | refine WS_assign ?_)
    refine retK_2 ⟨?_, eH⟩ (.inr rfl)
    rw [checkC, if_neg hrn, if_pos (by simp at hm; omega)]
  have hmn : ¬ 4096 < c.ops.length := by simp at hm; omega
  repeat (first | refine V_seq ?_ | refine V_region ?_ | refine WS_nil ?_ | refine S_normal ?_ | refine V_block ?_ | refine V_skip ?_ | refine WS_move ?_ | refine WS_assign ?_ | refine WS_len_slice ?_ | refine WS_fieldAddr ?_ | refine WS_load ?_)
  refine V_loop (fun d s h' => ∃ i n : Int, d = (l - i).toNat ∧ 0 ≤ i ∧ i ≤ l ∧ 0 ≤ n ∧ n ≤ 36 ∧ Get s 33 (.int .i64 i) ∧ Get s 32 (.int .i64 l) ∧ Get s 31 (.slice a l k) ∧ Get s 4 (.int .i64 n) ∧ Get s 1 (.pointer (some (ad p 0))) ∧ Ext H h' ∧ chkK c.qubits c.bits c.ops 0 0 = chkK c.qubits c.bits (c.ops.drop i.toNat) i n) l
    ⟨0, 0, by omega, by omega, by omega, by omega, by omega, inferInstance, inferInstance, inferInstance, inferInstance, inferInstance, Ext.refl _, rfl⟩ ?_
  rintro d s h' ⟨i, n, rfl, hi0, hi1, hn0, hn1, g33, g32, g31, g4, g1, e', hK⟩
  repeat (first | refine V_seq ?_ | refine V_region ?_ | refine WS_nil ?_ | refine S_normal ?_ | refine WS_cmp rfl ?_)
  refine V_cond ?_ ?_ <;> intro hi
  · have hil : i < l := by simpa using hi
    obtain ⟨b, o, cells, rfl, ho, hrow, hC⟩ := ((hops.ext eH).ext e').at hi0 hil
    obtain ⟨qa, ql, qc, rfl, hs, hmk, hvl, hc63, hsp⟩ := hC
    unfold OpD.cells at hrow
    have hbnd : 0 ≤ i ∧ i < (l : Int) := ⟨hi0, hil⟩
    rw [drop_at ho, chkK] at hK
    repeat (first | refine V_seq ?_ | refine V_region ?_ | refine WS_nil ?_ | refine S_normal ?_ | refine V_block ?_ | refine V_skip ?_ | refine WS_move ?_ | refine WS_assign ?_ | refine WS_load_agg ?_ | refine WS_indexAddr (by first | decide | omega) ?_ | refine WS_alloc ?_ | refine WS_store rfl ?_)
    refine WS_gen ?_
    intro H1 hH1
    have o6 : ObjIs H1 h'.fresh [.int .i64 o.kind, .string o.name, .slice qa ql qc, .int .i64 o.bit, .bool o.iff, .int .u64 o.mask, .int .u64 o.value] 29 true := hH1 ▸ inferInstance
    have e1 : Ext h' H1 := hH1 ▸ (Ext.push _ _).putObj (Nat.le_refl _)
    have x1 : Ext H H1 := e'.trans e1
    clear hH1
    generalize h'.fresh = r at *
    repeat (refine WS_load_agg ?_)
    refine WS_call (fault_spec o qa ql qc c.qubits c.bits (some b) l k ⟨hb0, hb1⟩ hmk hvl _ (hs.ext e1) hc63 hsp) ?_
    rintro _ H2 ⟨rfl, e2⟩
    have x2 := x1.trans e2
    have o6' := ObjIs.ext (e := e2) (i := o6)
    clear e1 e2 x1 o6 e'
    repeat (first | refine V_seq ?_ | refine V_region ?_ | refine WS_nil ?_ | refine S_normal ?_ | refine WS_move ?_ | refine WS_assign ?_ | refine WS_cmp rfl ?_)
    refine V_cond ?_ ?_ <;> intro hf
    · have hf1 : faultS o c.qubits c.bits ≠ 0 := by simpa using hf
      repeat' (first | refine V_seq ?_ | refine V_region ?_ | refine WS_nil ?_ | refine S_normal ?_ | refine V_ret ?_ | refine S_ret ?_ | refine B_ret ?_ | refine WS_move ?_ | refine WS_assign ?_)
      refine retK_2 ⟨?_, eH.trans x2⟩ (.inr rfl)
      rw [checkC, if_neg hrn, if_neg hmn, hK, if_pos hf1]
    · have hf1 : ¬ faultS o c.qubits c.bits ≠ 0 := by simpa using hf
      repeat (first | refine V_seq ?_ | refine V_region ?_ | refine S_normal ?_ | refine V_skip ?_ | refine WS_move ?_ | refine WS_load_agg ?_)
      refine WS_call (halves_spec o qa ql qc _) ?_
      rintro _ H3 ⟨rfl, e3⟩
      have x3 := x2.trans e3
      have h01 := halvesO_01 o
      clear e3 x2 o6'
      repeat' (first | refine V_seq ?_ | refine V_region ?_ | refine WS_nil ?_ | refine S_normal ?_ | refine B_normal ?_ | refine V_skip ?_ | refine V_ret ?_ | refine S_ret ?_ | refine B_ret ?_ | refine WS_move ?_ | refine WS_assign ?_ | refine WS_cmp rfl ?_ | refine WS_addi (by omega) ?_ | (refine V_cond ?_ ?_ <;> intro hc <;> try (cases hc; done)))
      · refine retK_2 ⟨?_, eH.trans x3⟩ (.inr rfl)
        rw [checkC, if_neg hrn, if_neg hmn, hK, if_neg hf1, if_pos (by simpa using hc)]
      · have hc1 : ¬ 36 < n + halvesO o := by simpa using hc
        refine ⟨_, ?_, i + 1, n + halvesO o, rfl, by omega, by omega, by omega, by omega, inferInstance, inferInstance, inferInstance, inferInstance, inferInstance, x3, ?_⟩
        · omega
        · rw [hK, if_neg hf1, if_neg hc1, show (i + 1).toNat = i.toNat + 1 by omega]
  · have hil : i = l := by simp at hi; omega
    repeat' (first | refine V_seq ?_ | refine V_region ?_ | refine WS_nil ?_ | refine S_normal ?_ | refine V_exit ?_ | refine V_ret ?_ | refine S_exit ?_ | refine B_exit ?_ | refine WS_assign ?_)
    refine retK_2 ⟨?_, eH.trans e'⟩ (.inr rfl)
    rw [checkC, if_neg hrn, if_neg hmn, hK, List.drop_of_length_le (by omega)]; rfl
instance : CallIs Try.prog 29 := .of Try.func29 rfl rfl
instance : CallIs Try.prog 38 := .of Try.func38 rfl rfl
end Go.Ideal

-- Cia
set_option linter.unusedSimpArgs false
set_option linter.unusedVariables false
namespace Go.Ideal
open Go Go.Proofs Go.RowKit
theorem chk_ok {q b : Int} : ∀ (ops : List OpD) (i n : Int), (chkK q b ops i n).2 = 0 → ∀ o ∈ ops, faultS o q b = 0 := by
  intro ops
  induction ops with
  | nil => intro i n _ o ho; cases ho
  | cons o ops ih =>
    intro i n h o' ho'
    rw [chkK] at h
    split at h
    · rename_i hf; exact absurd h hf
    · rename_i hf
      split at h
      · cases h
      · rcases List.mem_cons.1 ho' with rfl | h2
        · exact Decidable.not_not.1 hf
        · exact ih _ _ h o' h2
theorem checkC_ok {c : CircD} (h : (checkC c).2 = 0) : rangeBad c = false ∧ c.ops.length ≤ 4096 ∧ ∀ o ∈ c.ops, faultS o c.qubits c.bits = 0 := by
  unfold checkC at h
  split at h
  · cases h
  · rename_i hr
    split at h
    · cases h
    · rename_i hm
      exact ⟨by simpa using hr, by omega, chk_ok _ _ _ h⟩
theorem fault_ok {o : OpD} {q b : Int} (h : faultS o q b = 0) : shapeBad o b = false ∧ ¬ (o.kind = 1 ∧ arityS o.name = 0) ∧ (o.qs.length : Int) = nS o ∧ o.qs.any (outS q) = false ∧ bitBad o b = false ∧ dupK o.qs o.qs.length = false := by
  unfold faultS at h
  split at h
  · cases h
  · rename_i h1
    split at h
    · cases h
    · rename_i h2
      split at h
      · cases h
      · rename_i h3
        split at h
        · cases h
        · rename_i h4
          split at h
          · cases h
          · rename_i h5
            split at h
            · cases h
            · rename_i h6
              exact ⟨by simpa using h1, h2, Decidable.not_not.1 h3, by simpa using h4, by simpa using h5, by simpa using h6⟩
end Go.Ideal

-- Ci
set_option linter.unusedSimpArgs false
set_option linter.unusedVariables false
namespace Go.Ideal
open Go Go.Proofs
/-! ### The matrix of a circuit -/
def isCx (o : OpD) : Bool := beqS o.name ⟨#[99, 120]⟩
def isSwap (o : OpD) : Bool := beqS o.name ⟨#[115, 119, 97, 112]⟩
def opBad (o : OpD) : Bool := !decide (o.kind = 1) || o.iff || (!isCx o && !isSwap o)
theorem two_of {o : OpD} {q b : Int} (h : faultS o q b = 0) (hb : opBad o = false) : ∃ x y, o.qs = [x, y] ∧ 0 ≤ x ∧ x < q ∧ 0 ≤ y ∧ y < q ∧ x ≠ y ∧ (isCx o = true ∨ (isCx o = false ∧ isSwap o = true)) := by
  obtain ⟨_, _, h3, h4, _, h6⟩ := fault_ok h
  simp only [opBad, Bool.or_eq_false_iff, Bool.not_eq_false', decide_eq_true_eq] at hb
  obtain ⟨⟨hk, _⟩, hn⟩ := hb
  have hcase : isCx o = true ∨ (isCx o = false ∧ isSwap o = true) := by
    cases h1 : isCx o with
    | true => exact .inl rfl
    | false => rw [h1] at hn; simp at hn; exact .inr ⟨rfl, hn⟩
  have hn2 : nS o = 2 := by
    rw [nS, if_pos hk]
    rcases hcase with h1 | ⟨_, h1⟩
    · have := beqS_iff.1 h1; rw [this]; rfl
    · have := beqS_iff.1 h1; rw [this]; rfl
  rw [hn2] at h3
  match hq : o.qs, h3 with
  | [x, y], _ =>
    rw [hq] at h4 h6
    simp [outS] at h4
    simp [dupK] at h6
    exact ⟨x, y, rfl, h4.1.1, h4.1.2, h4.2.1, h4.2.2, fun h => h6 h.symm, hcase⟩
def stepO (R : List Nat) (o : OpD) : List Nat := match o.qs with
  | x :: y :: _ => if isCx o = true then addStep R x.toNat y.toNat else swapRows R x.toNat y.toNat
  | _ => R
def fromK : List OpD → List Nat → Option (List Nat)
  | [], R => some R
  | o :: os, R => if opBad o = true then none else fromK os (stepO R o)
def fromC (c : CircD) : Int × List Nat × Int :=
  if (checkC c).2 ≠ 0 then (0, [], (checkC c).2) else match fromK c.ops (eyeS c.qubits) with
    | none => (0, [], 120)
    | some R => (c.qubits, R, 0)
set_option maxHeartbeats 8000000 in
theorem From_spec {c : CircD} {v : Value} {h : IHp} (hv : CircV h v c) : EvX Try.prog 26 [v].toArray h (fun v h' => Ext h h' ∧ AnsM h.fresh h' v (fromC c)) := by
  obtain ⟨a, l, k, rfl, hops⟩ := hv
  have hlen : c.ops.length = l := hops.1
  have hlk : l ≤ k := hops.2.1
  have hk63 := hops.2.2.1
  refine EvX_of Try.func26 rfl (by show 1 ≤ 95; decide) ?_
  repeat (first | refine V_seq ?_ | refine V_region ?_ | refine WS_nil ?_ | refine S_normal ?_ | refine WS_assign ?_ | refine WS_load_agg ?_ | refine WS_box_agg rfl ?_ | refine WS_alloc ?_)
  refine WS_gen ?_
  intro H hH
  obtain ⟨p2, hp2⟩ : ∃ r, r = (h.push (.cells [.int .i64 c.qubits, .int .i64 c.bits, .slice a l k] 24 true)).fresh := ⟨_, rfl⟩
  have o1 : ObjIs H h.fresh [.int .i64 c.qubits, .int .i64 c.bits, .slice a l k] 24 true := hH ▸ inferInstance
  have o2 : ObjIs H p2 [.int .i64 0, .slice none 0 0] 50 true := hp2 ▸ hH ▸ inferInstance
  have eH : Ext h H := hH ▸ (Ext.push _ _).push' _
  have hp2' : h.fresh < p2 := by rw [hp2, push_fresh]; omega
  rw [← hp2]
  clear hH hp2
  obtain ⟨p, hp⟩ : ∃ p, p = h.fresh := ⟨_, rfl⟩
  rw [← hp] at o1 hp2' ⊢
  refine WS_call (circCheck_spec (c := c) ⟨a, l, k, rfl, hops.ext eH⟩) ?_
  rintro _ H2 ⟨rfl, e2⟩
  have q1 := ObjIs.ext (e := e2) (i := o1)
  have q2 := ObjIs.ext (e := e2) (i := o2)
  have eH2 := eH.trans e2
  clear o1 o2 eH e2
  repeat (first | refine V_seq ?_ | refine V_region ?_ | refine WS_nil ?_ | refine S_normal ?_ | refine WS_move ?_ | refine WS_assign ?_ | refine WS_cmp rfl ?_ | refine WS_extract ?_)
  refine V_cond ?_ ?_ <;> intro hck
  · have hck1 : (checkC c).2 ≠ 0 := by simpa using hck
    repeat' (first | refine V_seq ?_ | refine V_region ?_ | refine WS_nil ?_ | refine S_normal ?_ | refine V_ret ?_ | refine S_ret ?_ | refine WS_move ?_ | refine WS_assign ?_ | refine WS_build ?_ | refine WS_store rfl ?_)
    refine retK_ct ⟨eH2.putObj (by omega), ?_⟩ (.inr rfl)
    rw [fromC, if_pos hck1]
    exact ⟨_, rfl, MatV.nil _, NewM.nil⟩
  have hck0 : (checkC c).2 = 0 := by simpa using hck
  have hckn : ¬ (checkC c).2 ≠ 0 := fun h => h hck0
  obtain ⟨hr, hm, hfl⟩ := checkC_ok hck0
  obtain ⟨hq0, hq1, _, _⟩ := rangeBad_no hr
  repeat (first | refine V_seq ?_ | refine V_region ?_ | refine S_normal ?_ | refine V_skip ?_ | refine WS_fieldAddr ?_ | refine WS_load ?_)
  refine WS_call (Eye_spec c.qubits _) ?_
  rintro v H3 ⟨e3, hE⟩
  rw [if_pos ⟨hq0, hq1⟩] at hE
  obtain ⟨sl, rfl, hL⟩ := hE
  have hO := hL.own
  obtain ⟨sa, rfl⟩ := hL.isSlice
  repeat (first | refine V_seq ?_ | refine V_region ?_ | refine WS_nil ?_ | refine S_normal ?_ | refine WS_move ?_ | refine WS_assign ?_ | refine WS_fieldAddr ?_ | refine WS_extract ?_ | refine WS_alloc ?_ | refine WS_store rfl ?_)
  refine WS_gen ?_
  intro H4 hH4
  have hlt : ∀ b, blockOf (.slice sa (u64s (eyeS c.qubits)).length (u64s (eyeS c.qubits)).length) = some b → b < H3.fresh := fun b hb => (hO.block hb).2
  have e4 : Ext H3 H4 := hH4 ▸ (Ext.push _ _).putObj (Nat.le_refl _)
  have r6 : ObjIs H4 H3.fresh [.int .i64 c.qubits, .slice sa (u64s (eyeS c.qubits)).length (u64s (eyeS c.qubits)).length] 50 true := hH4 ▸ inferInstance
  have x34 : Ext H2 H4 := e3.trans e4
  have r1 := ObjIs.ext (e := x34) (i := q1)
  have r2 := ObjIs.ext (e := x34) (i := q2)
  have eH4 := eH2.trans x34
  have hO4 := hO.ext e4
  have l2 := q2.lt
  have l6 := e3.fresh
  have hF4 : H3.fresh < H4.fresh := r6.lt
  clear hH4 e4 e3 hO hL q1 q2
  generalize H3.fresh = p6 at *
  rw [u64s_len] at hlt r6 ⊢
  have hen : (eyeS c.qubits).length = c.qubits.toNat := eyeS_length _
  rw [hen] at hlt r6 ⊢
  repeat (first | refine WS_nil ?_ | refine S_normal ?_ | refine V_block ?_ | refine WS_move ?_ | refine WS_len_slice ?_ | refine WS_load ?_)
  refine V_loop (fun d s h' => ∃ (i : Int) (R : List Nat), d = (l - i).toNat ∧ 0 ≤ i ∧ i ≤ l ∧ R.length = c.qubits.toNat ∧ All64 R ∧ Get s 30 (.int .i64 i) ∧ Get s 29 (.int .i64 l) ∧ Get s 28 (.slice a l k) ∧ Get s 6 (.pointer (some (ad p6 0))) ∧ Get s 2 (.pointer (some (ad p2 0))) ∧ Ext h h' ∧ ObjIs h' p2 [.int .i64 0, .slice none 0 0] 50 true ∧ ObjIs h' p6 [.int .i64 c.qubits, .slice sa c.qubits.toNat c.qubits.toNat] 50 true ∧ Own H2.fresh h' (.slice sa c.qubits.toNat c.qubits.toNat) (u64s R) 27 ∧ fromK c.ops (eyeS c.qubits) = fromK (c.ops.drop i.toNat) R) l
    ⟨0, eyeS c.qubits, by omega, by omega, by omega, hen, eyeS_lt hq1, inferInstance, inferInstance, inferInstance, inferInstance, inferInstance, eH4, r2, r6, by rw [u64s_len, hen] at hO4; exact hO4, rfl⟩ ?_
  rintro d s h' ⟨i, R, rfl, hi0, hi1, hRl, hR64, g30, g29, g28, g6, g2, e', o2, o6, hO, hK⟩
  repeat (first | refine V_seq ?_ | refine V_region ?_ | refine WS_nil ?_ | refine S_normal ?_ | refine WS_cmp rfl ?_)
  refine V_cond ?_ ?_ <;> intro hi
  · have hil : i < l := by simpa using hi
    obtain ⟨b, o, cells, rfl, ho, hrow, hC⟩ := (hops.ext e').at hi0 hil
    obtain ⟨qa, ql, qc, rfl, hs, hmk, hvl, hc63, hsp⟩ := hC
    unfold OpD.cells at hrow
    have hbnd : 0 ≤ i ∧ i < (l : Int) := ⟨hi0, hil⟩
    have hfo := hfl o (List.mem_of_getElem? ho)
    rw [drop_at ho, fromK] at hK
    repeat (first | refine V_seq ?_ | refine V_region ?_ | refine WS_nil ?_ | refine S_normal ?_ | refine V_block ?_ | refine V_skip ?_ | refine WS_move ?_ | refine WS_cmp rfl ?_ | refine WS_fieldAddr ?_ | refine WS_load ?_ | refine WS_load_agg ?_ | refine WS_indexAddr (by first | decide | omega) ?_ | refine WS_alloc ?_ | refine WS_store rfl ?_)
    refine WS_gen ?_
    intro H1 hH1
    have o9 : ObjIs H1 h'.fresh [.int .i64 o.kind, .string o.name, .slice qa ql qc, .int .i64 o.bit, .bool o.iff, .int .u64 o.mask, .int .u64 o.value] 29 true := hH1 ▸ inferInstance
    have e1 : Ext h' H1 := hH1 ▸ (Ext.push _ _).putObj (Nat.le_refl _)
    have o2 := ObjIs.ext (e := e1) (i := o2)
    have l6' := o6.lt
    have l2' := o2.lt
    have o6 := ObjIs.ext (e := e1) (i := o6)
    have hO := hO.ext e1
    have e' := e'.trans e1
    have hs := hs.ext e1
    clear hH1 e1
    generalize h'.fresh = r at *
    refine WS_cut (fun s' h' => Get s' 50 (.bool (opBad o)) ∧ Get s' 30 (.int .i64 i) ∧ Get s' 29 (.int .i64 l) ∧ Get s' 28 (.slice (some b) l k) ∧ Get s' 6 (.pointer (some (ad p6 0))) ∧ Get s' 2 (.pointer (some (ad p2 0))) ∧ Get s' 9 (.pointer (some (ad r 0))) ∧ h' = H1) ?_ ?_
    · repeat' (first | refine WS_nil ?_ | refine WS_off rfl (by first | rfl | assumption) ?_ | refine WS_on rfl (by first | rfl | assumption) ?_ | refine WS_move ?_ | refine WS_pick_t (by first | rfl | assumption) ?_ | refine WS_pick_f (by first | rfl | assumption) ?_ | refine WS_strne ?_ | refine WS_off_undef rfl ?_ | refine WS_fieldAddr ?_ | refine WS_load ?_ | (refine WS_guard rfl ?_ ?_ <;> intro hg))
      all_goals exact ⟨get_as (by simp only [opBad, isCx, isSwap, *] <;> rfl), inferInstance, inferInstance, inferInstance, inferInstance, inferInstance, inferInstance, rfl⟩
    rintro s H1 ⟨g50, g30, g29, g28, g6, g2, g9, rfl⟩
    skip
    refine V_cond ?_ ?_ <;> intro hob
    · repeat' (first | refine V_seq ?_ | refine V_region ?_ | refine WS_nil ?_ | refine S_normal ?_ | refine V_ret ?_ | refine S_ret ?_ | refine B_ret ?_ | refine WS_assign ?_ | refine WS_build ?_ | refine WS_store rfl ?_)
      refine retK_ct ⟨e'.putObj (by omega), ?_⟩ (.inr rfl)
      rw [fromC, if_neg hckn, hK, if_pos hob]
      exact ⟨_, rfl, MatV.nil _, NewM.nil⟩
    rw [if_neg (by rw [hob]; decide)] at hK
    obtain ⟨x, y, hqs, hx0, hx1, hy0, hy1, hxy, hcase⟩ := two_of hfo hob
    have hql : ql = 2 := by have := hs.1; rw [hqs] at this; simpa [ints] using this.symm
    rw [hqs] at hs
    obtain ⟨qb, v0, rfl, hv0, c0⟩ := hs.at (i := 0) (by omega) (by omega)
    obtain ⟨qb', v1, hqb, hv1, c1⟩ := hs.at (i := 1) (by omega) (by omega)
    obtain rfl := Option.some.inj hqb
    have hv0 : v0 = .int .i64 x := by simpa [ints] using hv0.symm
    have hv1 : v1 = .int .i64 y := by simpa [ints] using hv1.symm
    subst hv0; subst hv1
    obtain ⟨rb, yy, hlo, hsl, orb⟩ := hO.at (by rw [u64s_len]; omega)
    simp only [Value.slice.injEq] at hsl
    obtain ⟨rfl, _, _⟩ := hsl
    have hrb6 : rb < p6 := hlt rb rfl
    have n2 : NeB p2 rb := .of o2.even orb.even (by omega)
    have n6 : NeB p6 rb := .of o6.even orb.even (by omega)
    have hst : stepO R o = if isCx o = true then addStep R x.toNat y.toNat else swapRows R x.toNat y.toNat := by rw [stepO, hqs]
    have hbx : 0 ≤ x ∧ x < ((c.qubits.toNat : Nat) : Int) := by omega
    have hby : 0 ≤ y ∧ y < ((c.qubits.toNat : Nat) : Int) := by omega
    have cx : CellIs H1 rb (0 + x.toNat * 1) _ := cell_u64 (rows := R) (i := x.toNat) orb (by omega)
    have cy : CellIs H1 rb (0 + y.toNat * 1) _ := cell_u64 (rows := R) (i := y.toNat) orb (by omega)
    have h64x := hR64.get x.toNat
    have h64y := hR64.get y.toNat
    repeat (first | refine V_seq ?_ | refine V_region ?_ | refine WS_nil ?_ | refine S_normal ?_ | refine V_skip ?_ | refine WS_assign ?_ | refine WS_streq ?_ | refine WS_fieldAddr ?_ | refine WS_load ?_ | refine WS_indexAddr (by first | decide | omega) ?_ | refine WDT_go ?_ | refine WD_nil ?_ | refine WD_load rfl ?_ | refine WD_take rfl rfl ?_ | refine V_draw (id := 10) (plan := [.take 0, .take 1, .take 2, .take 3, .take 4, .take 5, .take 6, .take 7, .take 8, .take 9]) (by kernel_rfl) ?_)
    refine V_cond ?_ ?_ <;> intro hcx
    · have hcx1 : isCx o = true := hcx
      have t1 : SetIs (u64s R) (0 + y.toNat * 1) [.int .u64 ((R.getD y.toNat 0 ^^^ R.getD x.toNat 0 : Nat) : Int)] (u64s (addStep R x.toNat y.toNat)) := set_u64 _ (by omega)
      rw [← xor_u64 h64y h64x] at t1
      repeat' (first | refine V_region ?_ | refine WS_nil ?_ | refine S_normal ?_ | refine B_normal ?_ | refine WS_move ?_ | refine WS_addi (by omega) ?_ | refine WS_arith rfl ?_ | refine WS_fieldAddr ?_ | refine WS_indexAddr (by first | decide | omega) ?_ | refine WS_store rfl ?_ | refine WDK_go ?_ | refine WDT_go ?_ | refine WD_nil ?_ | refine WD_load rfl ?_ | refine WD_take rfl rfl ?_ | refine WD_drop rfl rfl ?_ | refine V_draw (id := 12) (plan := [.take 0, .take 1, .take 2, .take 3, .take 4, .take 5, .take 6, .take 7, .take 8, .take 9, .take 10, .take 11, .one 12]) (by kernel_rfl) ?_)
      refine ⟨_, ?_, i + 1, addStep R x.toNat y.toNat, rfl, by omega, by omega, by rw [addStep_len]; exact hRl, hR64.addStep _ _, inferInstance, inferInstance, inferInstance, inferInstance, inferInstance, e'.putObj (Nat.le_trans eH2.fresh hlo), inferInstance, inferInstance, .inr ⟨rb, yy, hlo, by rw [u64s_len, addStep_len, hRl], inferInstance⟩, ?_⟩
      · omega
      · rw [hK, hst, if_pos hcx1, show (i + 1).toNat = i.toNat + 1 by omega]
    · have hcx1 : ¬ isCx o = true := by rw [isCx, hcx]; decide
      have s1 : SetIs (u64s R) (0 + x.toNat * 1) [.int .u64 (R.getD y.toNat 0 : Nat)] (u64s (R.set x.toNat (R.getD y.toNat 0))) := set_u64 _ (by omega)
      have s2 : SetIs (u64s (R.set x.toNat (R.getD y.toNat 0))) (0 + y.toNat * 1) [.int .u64 (R.getD x.toNat 0 : Nat)] (u64s (swapRows R x.toNat y.toNat)) := by rw [← swap_two]; exact set_u64 _ (by simp; omega)
      repeat' (first | refine V_region ?_ | refine WS_nil ?_ | refine S_normal ?_ | refine B_normal ?_ | refine WS_move ?_ | refine WS_addi (by omega) ?_ | refine WS_fieldAddr ?_ | refine WS_indexAddr (by first | decide | omega) ?_ | refine WS_store rfl ?_ | refine WDK_go ?_ | refine WDT_go ?_ | refine WD_nil ?_ | refine WD_load rfl ?_ | refine WD_take rfl rfl ?_ | refine WD_drop rfl rfl ?_ | refine WD_filt rfl ?_ | refine Filt_drop rfl ?_ | refine Filt_keep rfl ?_ | refine Filt_nil ?_ | refine V_draw (id := 13) (plan := [.take 0, .take 1, .take 2, .take 3, .take 4, .take 5, .take 6, .take 7, .take 8, .take 9, .take 10, .take 11, .take 12, .take 13, .take 14, .take 15, .take 16, .one 17, .take 18, .one 19]) (by kernel_rfl) ?_)
      refine ⟨_, ?_, i + 1, swapRows R x.toNat y.toNat, rfl, by omega, by omega, by rw [swapRows_len]; exact hRl, hR64.swap _ _, inferInstance, inferInstance, inferInstance, inferInstance, inferInstance, (e'.putObj (Nat.le_trans eH2.fresh hlo)).putObj (Nat.le_trans eH2.fresh hlo), inferInstance, inferInstance, .inr ⟨rb, yy, hlo, by rw [u64s_len, swapRows_len, hRl], inferInstance⟩, ?_⟩
      · omega
      · rw [hK, hst, if_neg hcx1, show (i + 1).toNat = i.toNat + 1 by omega]
  · have hil : i = l := by simp at hi; omega
    rw [List.drop_of_length_le (by omega), fromK] at hK
    have n2 : NeB p6 p2 := .of o6.even o2.even (by omega)
    repeat' (first | refine V_seq ?_ | refine V_region ?_ | refine WS_nil ?_ | refine S_normal ?_ | refine V_exit ?_ | refine V_ret ?_ | refine S_exit ?_ | refine B_exit ?_ | refine WS_assign ?_ | refine WS_load_agg ?_ | refine WS_store rfl ?_)
    refine retK_ct ⟨e'.putObj (by omega), ?_⟩ (.inr rfl)
    rw [fromC, if_neg hckn, hK]
    have hO5 : Own h.fresh (h'.putObj p2 (.cells [.int .i64 c.qubits, .slice sa c.qubits.toNat c.qubits.toNat] 50 true)) (.slice sa c.qubits.toNat c.qubits.toNat) (u64s R) 27 := (hO.put_ne (by intro hb; have := (hO.block hb).1; omega) o2.even).lower eH2.fresh
    try rw [hp]
    exact ⟨_, rfl, MatV.own hO5 hR64, NewM.own hO5⟩
instance : CallIs Try.prog 26 := .of Try.func26 rfl rfl
end Go.Ideal

-- Cj
set_option linter.unusedSimpArgs false
set_option linter.unusedVariables false
namespace Go.Ideal
open Go Go.Proofs
end Go.Ideal

-- Cm
set_option linter.unusedSimpArgs false
set_option linter.unusedVariables false
set_option maxRecDepth 100000
namespace Go.Ideal
open Go Go.RowKit Go.Proofs

/-! ### slices.Backward -/
theorem back_step (y bx n cap : Nat) (sa : Option Addr) (cs : Nat → List Value) (I : Nat → IHp → Prop) (h : IHp) (hn : n < 2 ^ 62)
    (hbox : ∀ i h, i ≤ n → I i h → CellIs h bx 0 (.slice sa n cap)) (helem : ∀ i h, i < n → I (i + 1) h → ∃ b, sa = some (ad b 0) ∧ RowIs h b (i * 2) 2 (cs i))
    (hbody : ∀ i h, i < n → I (i + 1) h → EvY Try.prog y [.int .i64 (i : Int), .agg (cs i).toArray].toArray h (fun v h' => v = .bool true ∧ I i h')) (h0 : I n h) :
    EvX Try.prog 70 [.func (.yield y) #[] #[], .pointer (some (ad bx 0))].toArray h (fun _ h' => I 0 h') := by
  refine EvX_of Try.func70 rfl (by show 2 ≤ 19; decide) ?_
  have c0 := hbox n h (Nat.le_refl _) h0
  repeat' (first | refine V_seq ?_ | refine V_region ?_ | refine WS_nil ?_ | refine S_normal ?_ | refine V_block ?_ | refine WS_assign ?_ | refine WS_subi (by omega) ?_ | refine WS_len_slice ?_ | refine WS_load ?_)
  refine V_loop (fun d s h' => ∃ i : Nat, d = i ∧ i ≤ n ∧ Get s 3 (.int .i64 ((i : Int) - 1)) ∧ Get s 0 (.func (.yield y) #[] #[]) ∧ Get s 1 (.pointer (some (ad bx 0))) ∧ I i h') n ⟨n, rfl, Nat.le_refl _, get_as rfl, inferInstance, inferInstance, h0⟩ ?_
  rintro d s h' ⟨_, rfl, hi, g3, g0, g1, hI⟩
  cases d with
  | zero =>
    repeat' (first | refine V_seq ?_ | refine V_region ?_ | refine WS_nil ?_ | refine S_normal ?_ | refine V_exit ?_ | refine S_exit ?_ | refine B_exit ?_ | refine WS_move ?_ | refine WS_cmp rfl ?_ | refine V_cond_f (by first | rfl | assumption) ?_)
    exact retK_0 hI (.inl rfl)
  | succ j =>
    have g3' : Get s 3 (.int .i64 (j : Int)) := ⟨g3.eq.trans (by congr 1; omega)⟩
    clear g3
    have c1 := hbox (j + 1) h' hi hI
    obtain ⟨b, rfl, hr⟩ := helem j h' (by omega) hI
    have hb : 0 ≤ (j : Int) ∧ (j : Int) < (n : Int) := by omega
    have hr' : RowIs h' b (0 + (j : Int).toNat * 2) 2 (cs j) := by rw [Int.toNat_natCast, Nat.zero_add]; exact hr
    repeat' (first | refine V_seq ?_ | refine V_region ?_ | refine WS_nil ?_ | refine S_normal ?_ | refine V_block ?_ | refine V_skip ?_ | refine WS_move ?_ | refine WS_cmp rfl ?_ | refine WS_load ?_ | refine WS_load_agg ?_ | refine WS_indexAddr (by first | decide | omega) ?_ | refine V_cond_t (by first | rfl | assumption) ?_)
    refine WS_yield (hbody j h' (by omega) hI) ?_
    rintro _ H ⟨rfl, hI'⟩
    repeat' (first | refine V_region ?_ | refine WS_nil ?_ | refine S_normal ?_ | refine B_normal ?_ | refine V_skip ?_ | refine WS_move ?_ | refine WS_assign ?_ | refine WS_subi (by omega) ?_ | refine WS_not ?_ | refine V_cond_f (by first | rfl | assumption) ?_)
    refine ⟨_, ?_, j, rfl, by omega, inferInstance, inferInstance, inferInstance, hI'⟩
    omega
instance : CallIs Try.prog 70 := .of Try.func70 rfl rfl
end Go.Ideal

-- Cn
set_option linter.unusedSimpArgs false
set_option linter.unusedVariables false
set_option maxRecDepth 100000
namespace Go.Ideal
open Go Go.RowKit Go.Proofs

/-! ### linear.Synth -/
theorem Backward_step (a : Option Addr) (n m : Nat) (h : IHp) : EvX Try.prog 47 [.slice a n m].toArray h (fun v h' => v = .func (.func 70) #[] #[.pointer (some (ad h.fresh 0))] ∧ h' = h.push (.cells [.slice a n m] 88 true)) := by
  refine EvX_of Try.func47 rfl (by show 1 ≤ 4; decide) ?_
  repeat' (first | refine V_seq ?_ | refine V_region ?_ | refine WS_nil ?_ | refine S_normal ?_ | refine V_ret ?_ | refine WS_assign ?_ | refine WS_box rfl ?_ | refine WS_makeFunc ?_)
  exact retK_1 ⟨rfl, rfl⟩ (.inr rfl)
instance : CallIs Try.prog 47 := .of Try.func47 rfl rfl
theorem rangeK_live3 {P : Program} {nt : Nat} {rs : List ResultVar} {f : Operand} {ps : Array Tmp} {ac bd t : Code} {Φ : Value → IHp → Prop} {s : Nat → Value} {h : IHp} (i1 i2 i3 : Nat) {v1 v2 v3 : Value} [g1 : Get s i1 v1] [g2 : Get s i2 v2] [g3 : Get s i3 v3]
    (k : ∀ s', Get s' i1 v1 → Get s' i2 v2 → Get s' i3 v3 → rangeK P nt rs f ps ac bd t Φ .normal s' h) : rangeK P nt rs f ps ac bd t Φ .normal s h := k s g1 g2 g3

/-- the cells of a gate 'cx' whose qubits lie at q -/
def cxCells (d : (Nat × Nat) × Nat) : List Value := [.int .i64 1, .string ⟨#[99, 120]⟩, .slice (some (ad d.2 0)) 2 2, .int .i64 0, .bool false, .int .u64 0, .int .u64 0]
def cxOp (p : Nat × Nat) : OpD := ⟨1, ⟨#[99, 120]⟩, [p.1, p.2], 0, false, 0, 0⟩
/-- what holds between the rounds -/
structure SynI (h0 : IHp) (c7 bx df lp : Nat) (N : Int) (a : Option Addr) (n : Nat) (lo_ : IObj) (dq : List ((Nat × Nat) × Nat)) (h : IHp) : Prop where
  ext : Ext h0 h
  list : ∃ sv, ObjIs h c7 [.int .i64 N, .int .i64 0, sv] 24 true ∧ LstM 7 h0.fresh h sv dq.length (dq.map cxCells).flatten 29
  qs : ∀ d ∈ dq, h0.fresh ≤ d.2 ∧ ObjIs h d.2 [.int .i64 (d.1.1 : Nat), .int .i64 (d.1.2 : Nat)] 3 true
  box : ObjIs h bx [.slice a n n] 88 true
  defr : AtIs h df .defr
  loop : AtIs h lp lo_
  nd : (dq.map Prod.snd).Nodup
theorem SynI.mono {h0 h h1 : IHp} {c7 bx df lp n : Nat} {N : Int} {a : Option Addr} {L : IObj} {dq : List ((Nat × Nat) × Nat)} (I : SynI h0 c7 bx df lp N a n L dq h) (e : Ext h h1) : SynI h0 c7 bx df lp N a n L dq h1 :=
  ⟨I.ext.trans e, let ⟨sv, o, l⟩ := I.list; ⟨sv, ⟨o.even, e.new _ _ o.eq⟩, l.ext e⟩, fun d hd => ⟨(I.qs d hd).1, ⟨(I.qs d hd).2.even, e.new _ _ (I.qs d hd).2.eq⟩⟩, ⟨I.box.even, e.new _ _ I.box.eq⟩, ⟨I.defr.even, e.new _ _ I.defr.eq⟩, ⟨I.loop.even, e.new _ _ I.loop.eq⟩, I.nd⟩
theorem SynI.flip {h0 h : IHp} {c7 bx df lp n : Nat} {N : Int} {a : Option Addr} {L L2 : IObj} {dq : List ((Nat × Nat) × Nat)} (I : SynI h0 c7 bx df lp N a n L dq h) (hc : ∀ c e x, L ≠ .cells c e x) (hlp : h0.fresh ≤ lp) (hne : NeB df lp) : SynI h0 c7 bx df lp N a n L2 dq (h.putObj lp L2) := by
  obtain ⟨sv, o, l⟩ := I.list
  have n7 := I.loop.ne o hc
  have nb := I.loop.ne I.box hc
  have ob := I.box
  have od := I.defr
  have ol := I.loop
  refine ⟨I.ext.putObj hlp, ⟨sv, inferInstance, l.put (fun hb => ?_) I.loop.even⟩, fun d hd => ?_, inferInstance, inferInstance, inferInstance, I.nd⟩
  · rcases l with ⟨rfl, _, _⟩ | ⟨b, _, rfl, ob, _⟩
    · simp [blockOf] at hb
    · simp only [blockOf, Option.some.injEq] at hb
      exact (I.loop.ne ob hc).eq (by rw [hb])
  · obtain ⟨h1, h2⟩ := I.qs d hd
    have nd := I.loop.ne h2 hc
    exact ⟨h1, inferInstance⟩
theorem lst_ne {lo m : Nat} {h : IHp} {sv : Value} {k : Nat} {vs : List Value} {t : TypeId} (l : LstM m lo h sv k vs t) {b : Nat} {c : List Value} {t2 : TypeId} (o : ObjIs h b c t2 true) : blockOf sv ≠ some b := fun hb => by
  rcases l with ⟨rfl, _, _⟩ | ⟨b', _, rfl, ob, _⟩
  · simp [blockOf] at hb
  · simp only [blockOf, Option.some.injEq] at hb
    subst hb
    have h1 := ob.eq
    rw [o.eq] at h1
    cases h1
theorem lst_neA {lo m : Nat} {h : IHp} {sv : Value} {k : Nat} {vs : List Value} {t : TypeId} (l : LstM m lo h sv k vs t) {b : Nat} {o : IObj} (i : AtIs h b o) (hc : ∀ c e x, o ≠ .cells c e x) : blockOf sv ≠ some b := fun hb => by
  rcases l with ⟨rfl, _, _⟩ | ⟨b', _, rfl, ob, _⟩
  · simp [blockOf] at hb
  · simp only [blockOf, Option.some.injEq] at hb
    subst hb
    exact (i.ne ob hc).eq rfl
theorem obj_ne {h : IHp} {b b' : Nat} {c c' : List Value} {t t' : TypeId} {x x' : Bool} (o : ObjIs h b c t x) (o' : ObjIs h b' c' t' x') (hl : c.length ≠ c'.length) : NeB b b' := ⟨fun he => by
  have h1 := o.eq
  rw [he, o'.eq] at h1
  cases h1
  exact hl rfl⟩
theorem Mod.at {v : Value} {h h' : IHp} (m : Mod v h h') {b : Nat} {o : IObj} (i : AtIs h b o) (hb : blockOf v ≠ some b) : AtIs h' b o :=
  ⟨i.even, m.new _ _ i.eq (by have := i.even; rw [show 2 * (b / 2) = b by omega]; exact hb)⟩
theorem SynI.grow {h0 h h1 : IHp} {c7 bx df lp n qb x y : Nat} {N : Int} {a : Option Addr} {L : IObj} {dq : List ((Nat × Nat) × Nat)} (I : SynI h0 c7 bx df lp N a n L dq h) (hc : ∀ c e x, L ≠ .cells c e x) {sv v' : Value} (o : ObjIs h c7 [.int .i64 N, .int .i64 0, sv] 24 true)
    (l : LstM 7 h0.fresh h sv dq.length (dq.map cxCells).flatten 29) (hL : LstM 7 h0.fresh h1 v' (dq.length + 1) ((dq.map cxCells).flatten ++ cxCells ((x, y), qb)) 29) (m : Mod sv h h1) (hb : blockOf v' = some h.fresh) (oq : ObjIs h qb [.int .i64 (x : Nat), .int .i64 (y : Nat)] 3 true) (hq : h0.fresh ≤ qb) (h7 : h0.fresh ≤ c7) (hne : ∀ d ∈ dq, d.2 ≠ qb) :
    SynI h0 c7 bx df lp N a n L (dq ++ [((x, y), qb)]) (h1.put c7 [.int .i64 N, .int .i64 0, v'] 24 true) := by
  have o1 : ObjIs h1 c7 _ _ _ := m.obj o (lst_ne l o)
  have ob1 : ObjIs h1 bx _ _ _ := m.obj I.box (lst_ne l I.box)
  have od1 := m.at I.defr (lst_neA l I.defr (by intro c e x he; cases he))
  have ol1 := m.at I.loop (lst_neA l I.loop hc)
  have nb : NeB bx c7 := obj_ne ob1 o1 (by simp)
  have nd : NeB df c7 := ⟨fun he => (od1.ne o1 (by intro c e x hh; cases hh)).eq he.symm⟩
  have nl : NeB lp c7 := ⟨fun he => (ol1.ne o1 hc).eq he.symm⟩
  have hq1 : ∀ d : (Nat × Nat) × Nat, h0.fresh ≤ d.2 ∧ ObjIs h d.2 [.int .i64 (d.1.1 : Nat), .int .i64 (d.1.2 : Nat)] 3 true → h0.fresh ≤ d.2 ∧ ObjIs (h1.put c7 [.int .i64 N, .int .i64 0, v'] 24 true) d.2 [.int .i64 (d.1.1 : Nat), .int .i64 (d.1.2 : Nat)] 3 true := by
    rintro d ⟨h2, h3⟩
    have h4 := m.obj h3 (lst_ne l h3)
    have h5 : NeB d.2 c7 := obj_ne h4 o1 (by simp)
    exact ⟨h2, inferInstance⟩
  refine ⟨(m.extM I.ext l).putObj h7, ⟨v', inferInstance, ?_⟩, fun d hd => ?_, inferInstance, inferInstance, inferInstance, ?_⟩
  · have h2 : LstM 7 h0.fresh h1 v' (dq ++ [((x, y), qb)]).length ((dq ++ [((x, y), qb)]).map cxCells).flatten 29 := by simpa using hL
    refine h2.put (fun hh => ?_) o.even
    rw [hb] at hh
    have := o.lt
    have := Option.some.inj hh
    omega
  · rcases List.mem_append.1 hd with h2 | h2
    · exact hq1 d (I.qs d h2)
    · simp only [List.mem_singleton] at h2
      subst h2
      exact hq1 _ ⟨hq, oq⟩
  · rw [List.map_append, List.nodup_append]
    refine ⟨I.nd, by simp, fun z hz w hw => ?_⟩
    obtain ⟨d, hd, rfl⟩ := List.mem_map.1 hz
    simp at hw
    rw [hw]; exact hne d hd
theorem stepCells_row : ∀ (l : List (Nat × Nat)) (i : Nat), i < l.length → ((stepCells l).drop (i * 2)).take 2 = [.int .i64 ((l.getD i (0, 0)).1 : Nat), .int .i64 ((l.getD i (0, 0)).2 : Nat)] := by
  intro l
  induction l with
  | nil => intro i hi; simp at hi
  | cons p l ih =>
    intro i hi
    cases i with
    | zero => simp [stepCells]
    | succ i =>
      have := ih i (by simpa using hi)
      have e : (i + 1) * 2 = i * 2 + 2 := by omega
      rw [e]
      simp only [stepCells, List.map_cons, List.flatten_cons, List.getD_cons_succ] at this ⊢
      simp only [List.cons_append, List.nil_append, List.drop_succ_cons]
      exact this
theorem rangeK_go2 {P : Program} {nt g : Nat} {rs : List ResultVar} {f : Operand} {ps : Array Tmp} {ac bd t : Code} {a c : Array Value} {Φ : Value → IHp → Prop} {s : Nat → Value} {h : IHp} [ef : EvalIs s f (.func (.func g) a c)] [cg : CallIs P g]
    (k : ∀ L, L = IObj.loop nt s ps ac bd .ready none → EvX P g ((a ++ #[.func (.yield (h.fresh + 2)) #[] #[]]) ++ c) ((h.push .defr).push L) (fun _ h3 => ∃ T3 ps3 as3 bd3 st3, AtIs h3 (h.fresh + 2) (.loop nt T3 ps3 as3 bd3 st3 none) ∧ notBusy st3 = true ∧ V P ⟨nt, [h.fresh / 2], false⟩ t (tailK P ⟨nt, [h.fresh / 2], false⟩ h.fresh rs Φ) s (h3.putObj (h.fresh + 2) (.loop nt T3 ps3 as3 bd3 .exhausted none)))) :
    rangeK P nt rs f ps ac bd t Φ .normal s h := rangeK_go (Ψ := _) (k _ rfl) (fun _ _ hh => hh)
theorem Synth_spec (N : Int) (a : Option Addr) (len cap : Nat) (xs : List Nat) (h : IHp) (hx : SlIs h a len cap (u64s xs)) (h64 : All64 xs) :
    EvX Try.prog 21 [.agg [.int .i64 N, .slice a len cap].toArray].toArray h (fun v h' => Ext h h' ∧
      if checkS N xs = 0 then
        match redK xs xs.length with
        | none => v = .tuple [.agg [.int .i64 0, .int .i64 0, .slice none 0 0].toArray, .int .i64 200].toArray
        | some st => ∃ (sv : Value) (dq : List ((Nat × Nat) × Nat)), v = .tuple [.agg [.int .i64 N, .int .i64 0, sv].toArray, .int .i64 0].toArray ∧ dq.map Prod.fst = st.2.reverse ∧ LstM 7 h.fresh h' sv dq.length (dq.map cxCells).flatten 29 ∧
            (∀ d ∈ dq, h.fresh ≤ d.2 ∧ ObjIs h' d.2 [.int .i64 (d.1.1 : Nat), .int .i64 (d.1.2 : Nat)] 3 true) ∧ (dq.map Prod.snd).Nodup
      else v = .tuple [.agg [.int .i64 0, .int .i64 0, .slice none 0 0].toArray, .int .i64 (checkS N xs)].toArray) := by
  have hlen : xs.length = len := by have := hx.1; simpa [u64s] using this
  refine EvX_of_range Try.func21 rfl rfl (by show 1 ≤ 43; decide) ?_
  dsimp only
  repeat' (first | refine V_seq ?_ | refine V_region ?_ | refine WS_nil ?_ | refine S_normal ?_ | refine WS_assign ?_ | refine WS_load_agg ?_ | refine WS_box_agg rfl ?_ | refine WS_alloc ?_)
  obtain ⟨H1, hH1⟩ : ∃ H, H = h.push (IObj.cells [Value.int IntKind.i64 N, Value.slice a len cap] 50 true) := ⟨_, rfl⟩
  have f1 : H1.fresh = h.fresh + 2 := by rw [hH1, push_fresh]
  have e1 : Ext h H1 := hH1 ▸ Ext.push _ _
  have p1 : ObjIs H1 h.fresh [.int .i64 N, .slice a len cap] 50 true := hH1 ▸ inferInstance
  rw [← hH1]
  obtain ⟨H2, hH2⟩ : ∃ H, H = H1.push (IObj.cells [Value.int IntKind.i64 0, Value.int IntKind.i64 0, Value.slice none 0 0] 24 true) := ⟨_, rfl⟩
  have f2 : H2.fresh = h.fresh + 4 := by rw [hH2, push_fresh, f1]
  have e2 : Ext H1 H2 := hH2 ▸ Ext.push _ _
  have p2 : ObjIs H2 H1.fresh [.int .i64 0, .int .i64 0, .slice none 0 0] 24 true := hH2 ▸ inferInstance
  rw [← hH2]
  have q1 : ObjIs H2 h.fresh [.int .i64 N, .slice a len cap] 50 true := inferInstance
  have e12 : Ext h H2 := e1.trans e2
  refine WS_call (Check_spec N a len cap xs _ (hx.ext e12) h64) ?_
  rintro _ H3 ⟨rfl, e3⟩
  have r1 : ObjIs H3 h.fresh [.int .i64 N, .slice a len cap] 50 true := inferInstance
  have r2 : ObjIs H3 H1.fresh [.int .i64 0, .int .i64 0, .slice none 0 0] 24 true := inferInstance
  have e13 : Ext h H3 := e12.trans e3
  have g3 := e3.fresh
  have n01 : NeB h.fresh H1.fresh := .fresh (by omega)
  repeat' (first | refine V_seq ?_ | refine V_region ?_ | refine WS_nil ?_ | refine S_normal ?_ | refine V_skip ?_ | refine V_ret ?_ | refine S_ret ?_ | refine WS_move ?_ | refine WS_assign ?_ | refine WS_cmp rfl ?_ | refine WS_load_agg ?_ | refine WS_build ?_ | refine WS_store rfl ?_ | (refine V_cond ?_ ?_ <;> intro hc <;> try (cases hc; done)))
  · refine rangeK_ret (retK_ct ⟨e13.putObj (by omega), ?_⟩ (.inr rfl))
    rw [if_neg]
    simp at hc; simp [hc]
  · have hck : checkS N xs = 0 := by simpa using hc
    obtain ⟨hN0, hN1, hN2, _⟩ := checkS_zero hck
    refine WS_call (reduced_spec N a len cap xs _ (hx.ext e13) h64 hck) ?_
    rintro v4 H4 ⟨e4, hv4⟩
    have s1 : ObjIs H4 h.fresh [.int .i64 N, .slice a len cap] 50 true := ⟨r1.even, e4.new _ _ r1.eq⟩
    have s2 : ObjIs H4 H1.fresh [.int .i64 0, .int .i64 0, .slice none 0 0] 24 true := ⟨r2.even, e4.new _ _ r2.eq⟩
    have e14 : Ext h H4 := e13.trans e4
    have g4 := e4.fresh
    cases hr : redK xs xs.length with
    | none =>
      rw [hr] at hv4
      subst hv4
      repeat' (first | refine V_seq ?_ | refine V_region ?_ | refine WS_nil ?_ | refine S_normal ?_ | refine V_ret ?_ | refine S_ret ?_ | refine WS_move ?_ | refine WS_assign ?_ | refine WS_not ?_ | refine WS_extract ?_ | refine WS_build ?_ | refine WS_store rfl ?_ | refine V_cond_t (by first | rfl | assumption) ?_)
      refine rangeK_ret (retK_ct ⟨e14.putObj (by omega), ?_⟩ (.inr rfl))
      rw [if_pos hck]
    | some st =>
      rw [hr] at hv4
      obtain ⟨sv, rfl, hsv⟩ := hv4
      obtain ⟨asv, rfl⟩ := hsv.isSlice
      repeat' (first | refine V_seq ?_ | refine V_region ?_ | refine WS_nil ?_ | refine S_normal ?_ | refine V_skip ?_ | refine WS_move ?_ | refine WS_assign ?_ | refine WS_not ?_ | refine WS_fieldAddr ?_ | refine WS_load ?_ | refine WS_extract ?_ | refine WS_build ?_ | refine WS_alloc ?_ | refine WS_store rfl ?_ | refine V_cond_f (by first | rfl | assumption) ?_)
      obtain ⟨H5, hH5⟩ : ∃ H, H = (H4.push (IObj.cells [Value.int IntKind.i64 0, Value.int IntKind.i64 0, Value.slice none 0 0] 24 true)).put H4.fresh [.int .i64 N, .int .i64 0, .slice none 0 0] 24 true := ⟨_, rfl⟩
      have o7 : ObjIs H5 H4.fresh [.int .i64 N, .int .i64 0, .slice none 0 0] 24 true := hH5 ▸ inferInstance
      have e5 : Ext H4 H5 := hH5 ▸ (Ext.push _ _).putObj (Nat.le_refl _)
      have f5 : H5.fresh = H4.fresh + 2 := by rw [hH5, putObj_fresh, push_fresh]
      rw [← hH5]
      refine WS_call (Backward_step asv st.2.length st.2.length _) ?_
      rintro _ _ ⟨rfl, rfl⟩
      repeat' (first | refine WS_nil ?_ | refine S_normal ?_ | refine V_skip ?_)
      refine rangeK_live3 2 7 28 ?_
      intro s g2 g7 g28
      obtain ⟨H6, hH6⟩ : ∃ H, H = H5.push (IObj.cells [Value.slice asv st.2.length st.2.length] 88 true) := ⟨_, rfl⟩
      have f6 : H6.fresh = H5.fresh + 2 := by rw [hH6, push_fresh]
      have ob : ObjIs H6 H5.fresh [.slice asv st.2.length st.2.length] 88 true := hH6 ▸ inferInstance
      have e6 : Ext H5 H6 := hH6 ▸ Ext.push _ _
      rw [← hH6]
      refine rangeK_go2 ?_
      intro L hL
      have hA : ((#[] : Array Value) ++ #[.func (.yield (H6.fresh + 2)) #[] #[]]) ++ #[.pointer (some (ad H5.fresh 0))] = [.func (.yield (H6.fresh + 2)) #[] #[], .pointer (some (ad H5.fresh 0))].toArray := rfl
      rw [hA]
      have hln : st.2.length ≤ 64 * (2 * 64) := by
        have h1 := redK_len xs xs.length st hr
        have h2 : xs.length ≤ 64 := by omega
        exact Nat.le_trans h1 (Nat.mul_le_mul h2 (Nat.mul_le_mul (Nat.le_refl _) h2))
      obtain ⟨n, hn⟩ : ∃ n, n = st.2.length := ⟨_, rfl⟩
      rw [← hn] at hsv ob hln
      have e46 : Ext H4 H6 := e5.trans e6
      have q7 : ObjIs H6 H4.fresh [.int .i64 N, .int .i64 0, .slice none 0 0] 24 true := inferInstance
      obtain ⟨H7, hH7⟩ : ∃ H, H = (H6.push .defr).push L := ⟨_, rfl⟩
      rw [← hH7]
      have hd6 : AtIs (H6.push .defr) H6.fresh .defr := inferInstance
      have hf6 : (H6.push .defr).fresh = H6.fresh + 2 := push_fresh _ _
      have I0 : SynI H4 H4.fresh H5.fresh H6.fresh (H6.fresh + 2) N asv n L [] H7 := by
        refine ⟨hH7 ▸ (e46.push' _).push' _, ⟨_, hH7 ▸ inferInstance, .inl ⟨rfl, rfl, rfl⟩⟩, by simp, hH7 ▸ inferInstance, hH7 ▸ inferInstance, ?_, List.nodup_nil⟩
        rw [hH7, ← hf6]; infer_instance
      refine EvX.mono (back_step (H6.fresh + 2) H5.fresh n n asv (fun i => [.int .i64 ((st.2.getD i (0, 0)).1 : Nat), .int .i64 ((st.2.getD i (0, 0)).2 : Nat)]) (fun i h' => ∃ dq : List ((Nat × Nat) × Nat), dq.map Prod.fst = (st.2.drop i).reverse ∧ SynI H4 H4.fresh H5.fresh H6.fresh (H6.fresh + 2) N asv n L dq h') H7 (by omega) ?_ ?_ ?_ ⟨[], by rw [hn]; simp, I0⟩) ?_
      · rintro i h' _ ⟨dq, _, I⟩
        have := I.box
        exact inferInstance
      · rintro i h' hi ⟨dq, _, I⟩
        rcases hsv with ⟨h1, h2, _⟩ | ⟨b, _, h1, h2, _, h3⟩
        · omega
        · injection h1 with h1 _ _
          refine ⟨b, h1, ⟨?_⟩⟩
          have h4 : ObjIs h' b (stepCells st.2) 93 false := ⟨h2.even, I.ext.new _ _ h2.eq⟩
          have hle : i * 2 + 2 ≤ (stepCells st.2).length := by rw [h3]; omega
          rw [row_obj h4 (i * 2) hle, stepCells_row _ _ (by omega)]
      · rintro i h' hi ⟨dq, hdq, I⟩
        have il := I.loop
        rw [hL] at il
        refine EvY_of il rfl ?_
        obtain ⟨sv', ol, hl⟩ := I.list
        obtain ⟨asv', rfl⟩ := hl.isSlice
        obtain ⟨x, hx1⟩ : ∃ x, x = (st.2.getD i (0, 0)).1 := ⟨_, rfl⟩
        obtain ⟨y, hy1⟩ : ∃ y, y = (st.2.getD i (0, 0)).2 := ⟨_, rfl⟩
        rw [← hx1, ← hy1]
        show V Try.prog _ _ _ (putS (putS s (some 29) (.int .i64 (i : Int))) (some 30) (.agg [.int .i64 (x : Nat), .int .i64 (y : Nat)].toArray)) h'
        have hlt := il.lt
        have gI := I.ext.fresh
        repeat' (first | refine V_region ?_ | refine WS_nil ?_ | refine WS_alloc ?_ | refine WS_store rfl ?_)
        obtain ⟨Ha, hHa⟩ : ∃ H, H = (h'.push (IObj.cells [Value.int IntKind.i64 0, Value.int IntKind.i64 0] 93 true)).put h'.fresh [.int .i64 (x : Nat), .int .i64 (y : Nat)] 93 true := ⟨_, rfl⟩
        have ea : Ext h' Ha := hHa ▸ (Ext.push _ _).putObj (Nat.le_refl _)
        have fa : Ha.fresh = h'.fresh + 2 := by rw [hHa, putObj_fresh, push_fresh]
        have oa : ObjIs Ha h'.fresh [.int .i64 (x : Nat), .int .i64 (y : Nat)] 93 true := hHa ▸ inferInstance
        rw [← hHa]
        have Ia := I.mono ea
        have ila := Ia.loop
        rw [hL] at ila
        refine roundK_go ?_
        have hLc : ∀ c e x, L ≠ .cells c e x := by intro c e x he; rw [hL] at he; cases he
        have ndl : NeB H6.fresh (H6.fresh + 2) := ⟨by omega⟩
        refine V_gen ?_
        intro Hb hHb
        have fb : Hb.fresh = Ha.fresh := by rw [hHb, putObj_fresh]
        have nlp : NeB h'.fresh (H6.fresh + 2) := ila.ne oa (by intro c e x he; cases he)
        have ob9 : ObjIs Hb h'.fresh [.int .i64 (x : Nat), .int .i64 (y : Nat)] 93 true := hHb ▸ inferInstance
        obtain ⟨LB, Ib, nt, T, ps, ac, bd, hLB, hLr⟩ : ∃ LB, SynI H4 H4.fresh H5.fresh H6.fresh (H6.fresh + 2) N asv n LB dq Hb ∧ ∃ nt T ps ac bd, LB = .loop nt T ps ac bd .busy none ∧ L = .loop nt T ps ac bd .ready none := by
          rw [hHb]; exact ⟨_, Ia.flip hLc (by omega) ndl, _, _, _, _, _, rfl, hL⟩
        clear hHb
        have hLBc : ∀ c e x, LB ≠ .cells c e x := by intro c e x he; rw [hLB] at he; cases he
        obtain ⟨sv2, o2, l2⟩ := Ib.list
        obtain ⟨asv2, rfl⟩ := l2.isSlice
        have hdl : dq.length ≤ n := by
          have := congrArg List.length hdq
          simp only [List.length_map, List.length_reverse, List.length_drop] at this
          omega
        repeat' (first | refine V_region ?_ | refine V_block ?_ | refine WS_fieldAddr ?_ | refine WS_load ?_ | refine WS_build ?_ | refine WS_buildSlice (by decide) rfl rfl (by simp [Value.cells]) ?_)
        refine WS_gen ?_
        intro Hd hHd
        have ed : Ext Hb Hd := hHd ▸ (Ext.push _ _).push' _
        have fd : Hd.fresh = Hb.fresh + 4 := by rw [hHd, push_fresh, push_fresh]
        have Id := Ib.mono ed
        have oq : ObjIs Hd Hb.fresh [.int .i64 (x : Nat), .int .i64 (y : Nat)] 3 true := hHd ▸ inferInstance
        have oD : ObjIs Hd H4.fresh _ 24 true := ⟨o2.even, ed.new _ _ o2.eq⟩
        have lD := l2.ext ed
        have c3 : RowIs Hd (Hb.push (IObj.cells [.int .i64 (x : Nat), .int .i64 (y : Nat)] 3 true)).fresh 0 7 (cxCells ((x, y), Hb.fresh)) := by rw [hHd]; unfold cxCells; infer_instance
        refine WS_appendM (m := 7) (lo := H4.fresh) lD (by omega) (by omega) ?_
        intro v' He hLe me hbe
        obtain ⟨a2, rfl⟩ := hLe.isSlice
        have o7e : ObjIs He H4.fresh _ 24 true := me.obj oD (lst_ne lD oD)
        repeat' (first | refine WS_nil ?_ | refine B_normal ?_ | refine WS_fieldAddr ?_ | refine WS_store rfl ?_)
        have If := Id.grow hLBc oD lD hLe me hbe oq (by omega) (Nat.le_refl _) (fun d hd => Nat.ne_of_lt (Ib.qs d hd).2.lt)
        have ilf := If.loop
        rw [hLB] at ilf
        refine roundK2_go ?_
        refine ⟨rfl, dq ++ [((x, y), Hb.fresh)], ?_, ?_⟩
        · have hil : i < st.2.length := by omega
          rw [List.map_append, hdq, List.drop_eq_getElem_cons hil, List.reverse_cons, List.map_cons, List.map_nil]
          have hgd : st.2.getD i (0, 0) = st.2[i] := by simp [List.getD, hil]
          rw [hx1, hy1, hgd]
        · have := If.flip (L2 := L) hLBc (by omega) ndl
          rw [hLr] at this
          rw [hLr]
          exact this
      · rintro v h3 ⟨dq, hdq, I⟩
        have il := I.loop
        rw [hL] at il
        refine ⟨_, _, _, _, _, il, rfl, ?_⟩
        have hLc : ∀ c e x, L ≠ .cells c e x := by intro c e x he; rw [hL] at he; cases he
        have ndl : NeB H6.fresh (H6.fresh + 2) := ⟨by omega⟩
        refine V_gen ?_
        intro Hz hHz
        obtain ⟨LE, Iz⟩ : ∃ LE, SynI H4 H4.fresh H5.fresh H6.fresh (H6.fresh + 2) N asv n LE dq Hz := by
          rw [hHz]; exact ⟨_, I.flip hLc (by omega) ndl⟩
        clear hHz
        have t2 : ObjIs Hz H1.fresh [.int .i64 0, .int .i64 0, .slice none 0 0] 24 true := ⟨s2.even, Iz.ext.new _ _ s2.eq⟩
        obtain ⟨sv2, o2, l2⟩ := Iz.list
        obtain ⟨asv2, rfl⟩ := l2.isSlice
        have c7r : RowIs Hz H4.fresh 0 3 [.int .i64 N, .int .i64 0, .slice asv2 dq.length dq.length] := ⟨by rw [row_obj o2 0 (by simp)]; rfl⟩
        have izd := Iz.defr
        have nd1 : NeB H6.fresh H1.fresh := .fresh' (by omega)
        have nd2 : NeB H1.fresh H6.fresh := .fresh (by omega)
        repeat' (first | refine V_seq ?_ | refine V_region ?_ | refine WS_nil ?_ | refine S_normal ?_ | refine V_ret ?_ | refine WS_assign ?_ | refine WS_load_agg ?_ | refine WS_store rfl ?_)
        refine tailK_go ?_
        refine retK_ct ?_ (.inr rfl)
        refine ⟨?_, ?_⟩
        · exact ((e14.trans Iz.ext).putObj (by omega)).putObj (by omega)
        · rw [if_pos hck]
          refine ⟨_, dq, rfl, by simpa using hdq, ((l2.put (lst_ne l2 t2) t2.even).put (fun hh => lst_neA l2 izd (by intro c e x he; cases he) hh) izd.even).lower (by omega), fun d hd => ?_, Iz.nd⟩
          obtain ⟨h5, h6⟩ := Iz.qs d hd
          have n5 : NeB d.2 H1.fresh := .of h6.even t2.even (by omega)
          have n6 : NeB d.2 H6.fresh := izd.ne h6 (by intro c e x he; cases he)
          exact ⟨by omega, inferInstance⟩
end Go.Ideal

-- Co
set_option linter.unusedSimpArgs false
set_option linter.unusedVariables false
namespace Go.Ideal
open Go Go.Proofs
/-! ### The circuit of a matrix -/
theorem fixK_hit {j n f i : Nat} {st : RSt} (hb : bitAt (st.1.getD j 0) j = true) {st' : RSt} (h : fixK j n f i st = some st') : st' = st := by
  cases f with
  | zero => cases h
  | succ f => rw [fixK, if_pos hb] at h; exact (Option.some.inj h).symm
theorem fixK_short {j n : Nat} (hj : j < n) : ∀ (f i : Nat) (st st' : RSt), st.1.length = n → fixK j n f i st = some st' → st'.2.length ≤ st.2.length + 1 := by
  intro f
  induction f with
  | zero => intro i st st' _ h; cases h
  | succ f ih =>
    intro i st st' hl h
    rw [fixK] at h
    split at h
    · obtain rfl := Option.some.inj h; omega
    · rename_i hb
      split at h
      · cases h
      · split at h
        · rename_i hb2
          have := fixK_hit (st := (addStep st.1 (i + 1) j, st.2 ++ [(i + 1, j)])) (by
            simp only
            rw [bitAt_tb, addStep_get (by omega), if_pos rfl, Nat.testBit_xor]
            rw [bitAt_tb] at hb hb2
            rw [hb2, Bool.not_eq_true _ |>.mp hb]; rfl) h
          rw [this]; simp
        · exact ih _ _ _ hl h
theorem clearK_short {j : Nat} : ∀ (m k : Nat) (st : RSt), (clearK j k m st).2.length + (if k ≤ j ∧ j < k + m then 1 else 0) ≤ st.2.length + m := by
  intro m
  induction m with
  | zero => intro k st; rw [clearK]; rw [if_neg (by omega)]; omega
  | succ m ih =>
    intro k st
    rw [clearK]
    have h1 := ih (k + 1) (if k ≠ j ∧ bitAt (st.1.getD k 0) j = true then (addStep st.1 j k, st.2 ++ [(j, k)]) else st)
    by_cases hk : k = j
    · have e : (if k ≠ j ∧ bitAt (st.1.getD k 0) j = true then (addStep st.1 j k, st.2 ++ [(j, k)]) else st) = st := if_neg (by rintro ⟨h, _⟩; exact h hk)
      rw [e] at h1 ⊢
      rw [if_neg (by omega)] at h1
      rw [if_pos (by omega)]
      omega
    · have e : (if k ≠ j ∧ bitAt (st.1.getD k 0) j = true then (addStep st.1 j k, st.2 ++ [(j, k)]) else st).2.length ≤ st.2.length + 1 := by
        split
        · simp
        · omega
      have e2 : (if k ≤ j ∧ j < k + (m + 1) then 1 else 0) = (if k + 1 ≤ j ∧ j < k + 1 + m then 1 else 0) := by
        split
        · rw [if_pos (by omega)]
        · rw [if_neg (by omega)]
      rw [e2]
      omega
theorem redK_short (xs : List Nat) : ∀ (j : Nat) (st : RSt), j ≤ xs.length → redK xs j = some st → st.2.length ≤ j * xs.length := by
  intro j
  induction j with
  | zero => intro st _ h; simp only [redK, Option.some.injEq] at h; subst h; simp
  | succ j ih =>
    intro st hj h
    have h0 := h
    simp only [redK, Option.bind_eq_some_iff, Option.map_eq_some_iff] at h
    obtain ⟨s1, h1, s2, h2, rfl⟩ := h
    have a := ih s1 (by omega) h1
    have l1 := (redK_cols xs j s1 (by omega) h1).2
    have b := fixK_short (show j < xs.length by omega) _ _ _ _ l1 h2
    have c := clearK_short (j := j) xs.length 0 s2
    rw [if_pos (by omega)] at c
    rw [Nat.add_mul, Nat.one_mul]
    omega
theorem addStep_back {X : List Nat} {f t : Nat} (hf : f ≠ t) (ht : t < X.length) : addStep (addStep X f t) f t = X := by
  refine List.ext_getElem? fun i => ?_
  have h1 : ∀ R : List Nat, R.length = X.length → ∀ i, i < X.length → R[i]? = some (R.getD i 0) := fun R hR i hi => by
    rw [List.getD_eq_getElem?_getD, List.getElem?_eq_getElem (by omega)]; rfl
  by_cases hi : i < X.length
  · rw [h1 _ (by simp [addStep_len]) i hi, h1 X rfl i hi]
    congr 1
    rw [addStep_get (by rw [addStep_len]; exact ht), addStep_get ht, addStep_get ht]
    by_cases e : i = t
    · rw [if_pos e, if_pos rfl, if_neg hf, Nat.xor_assoc, Nat.xor_self, Nat.xor_zero, e]
    · rw [if_neg e, addStep_get ht, if_neg e]
  · rw [List.getElem?_eq_none (by simp [addStep_len]; omega), List.getElem?_eq_none (by omega)]
theorem doSteps_back : ∀ (l : List (Nat × Nat)) (X : List Nat), StNe l → StOk X.length l → doSteps (doSteps X l) l.reverse = X := by
  intro l
  induction l with
  | nil => intro X _ _; rfl
  | cons p l ih =>
    intro X hn hk
    have h1 : doSteps X (p :: l) = doSteps (addStep X p.1 p.2) l := rfl
    rw [h1, List.reverse_cons, doSteps_append, ih (addStep X p.1 p.2) (fun q hq => hn q (List.mem_cons_of_mem _ hq)) (fun q hq => by rw [addStep_len]; exact hk q (List.mem_cons_of_mem _ hq))]
    exact addStep_back (hn p (List.mem_cons_self ..)) (hk p (List.mem_cons_self ..)).2
theorem cx_arity : arityS ⟨#[99, 120]⟩ = 2 := by decide
theorem cx_halves : halvesS ⟨#[99, 120]⟩ = 0 := by decide
theorem cx_isCx (p : Nat × Nat) : isCx (cxOp p) = true := by unfold isCx; show beqS ⟨#[99, 120]⟩ ⟨#[99, 120]⟩ = true; decide
theorem cx_good (p : Nat × Nat) : opBad (cxOp p) = false := by
  unfold opBad; rw [cx_isCx]; simp [cxOp]
theorem fromK_cx : ∀ (l : List (Nat × Nat)) (R : List Nat), fromK (l.map cxOp) R = some (doSteps R l) := by
  intro l
  induction l with
  | nil => intro R; rfl
  | cons p l ih =>
    intro R
    rw [List.map_cons, fromK, if_neg (by rw [cx_good]; decide), ih]
    congr 1
theorem cx_fault {p : Nat × Nat} {N : Int} (h1 : (p.1 : Int) < N) (h2 : (p.2 : Int) < N) (hne : p.1 ≠ p.2) : faultS (cxOp p) N 0 = 0 := by
  have hs : shapeBad (cxOp p) 0 = false := by
    simp [shapeBad, bad1, bad2, bad3, bad4, cxOp]
  have hn : nS (cxOp p) = 2 := by simp only [nS, cxOp, cx_arity]; decide
  unfold faultS
  rw [if_neg (by rw [hs]; decide), if_neg, if_neg, if_neg, if_neg, if_neg]
  · simp only [cxOp, List.length_cons, List.length_nil]
    simp [dupK]
    omega
  · simp [bitBad, cxOp]
  · simp [cxOp, outS]; omega
  · rw [hn]; simp [cxOp]
  · rintro ⟨_, h⟩
    rw [show (cxOp p).name = ⟨#[99, 120]⟩ from rfl, cx_arity] at h
    exact absurd h (by decide)
theorem cx_chk {N : Int} : ∀ (l : List (Nat × Nat)) (i n : Int), n ≤ 36 → StNe l → (∀ p ∈ l, (p.1 : Int) < N ∧ (p.2 : Int) < N) → chkK N 0 (l.map cxOp) i n = (0, 0) := by
  intro l
  induction l with
  | nil => intro i n _ _ _; rfl
  | cons p l ih =>
    intro i n h36 hn hk
    obtain ⟨a, b⟩ := hk p (List.mem_cons_self ..)
    have hh : halvesO (cxOp p) = 0 := by simp only [halvesO, cxOp, cx_halves]; decide
    rw [List.map_cons, chkK, cx_fault a b (hn p (List.mem_cons_self ..)), hh]
    simp only [ne_eq, not_true_eq_false, if_false]
    rw [if_neg (by omega)]
    exact ih _ _ (by omega) (fun q hq => hn q (List.mem_cons_of_mem _ hq)) (fun q hq => hk q (List.mem_cons_of_mem _ hq))
theorem synth_from {N : Int} {xs : List Nat} {st : RSt} (hN0 : 0 ≤ N) (hN : N ≤ 64) (hl : N.toNat = xs.length) (hlt : GLt xs xs.length) (hr : redK xs xs.length = some st) :
    fromC ⟨N, 0, st.2.reverse.map cxOp⟩ = (N, xs, 0) ∧ st.2.length ≤ xs.length * xs.length := by
  have hok : StOk xs.length st.2 := redK_ok xs xs.length st (Nat.le_refl _) hr
  have hne : StNe st.2 := redK_ne xs xs.length st hr
  have hsh := redK_short xs xs.length st (Nat.le_refl _) hr
  obtain ⟨hC, hlen⟩ := redK_cols xs xs.length st (Nat.le_refl _) hr
  have hst := redK_steps xs xs.length st hr
  have hG : GLt st.1 xs.length := by rw [hst]; exact hlt.steps _ _ rfl hok
  have heye : st.1 = eyeS N := by
    refine List.ext_getElem? fun i => ?_
    have h1 : ∀ R : List Nat, R.length = xs.length → ∀ i, i < xs.length → R[i]? = some (R.getD i 0) := fun R hR i hi => by
      rw [List.getD_eq_getElem?_getD, List.getElem?_eq_getElem (by omega)]; rfl
    have hel : (eyeS N).length = xs.length := by simp [eyeS, hl]
    by_cases hi : i < xs.length
    · rw [h1 _ hlen i hi, h1 _ hel i hi, cols_eye hC hG hi, eyeS_get (by omega)]
    · rw [List.getElem?_eq_none (by omega), List.getElem?_eq_none (by omega)]
  have h64 : xs.length * xs.length ≤ 4096 := Nat.le_trans (Nat.mul_le_mul (show xs.length ≤ 64 by omega) (show xs.length ≤ 64 by omega)) (by decide)
  refine ⟨?_, hsh⟩
  have hck : checkC ⟨N, 0, st.2.reverse.map cxOp⟩ = (0, 0) := by
    unfold checkC
    rw [if_neg (by simp [rangeBad]; omega), if_neg (by simp; omega)]
    refine cx_chk _ _ _ (by decide) (fun p hp => hne p (List.mem_reverse.1 hp)) (fun p hp => ?_)
    obtain ⟨a, b⟩ := hok p (List.mem_reverse.1 hp)
    show (p.1 : Int) < N ∧ (p.2 : Int) < N
    omega
  unfold fromC
  rw [hck]
  simp only [ne_eq, not_true_eq_false, if_false, fromK_cx]
  rw [← heye, hst, doSteps_back _ _ hne hok]
end Go.Ideal

-- Bra
set_option linter.unusedSimpArgs false
set_option linter.unusedVariables false
namespace Go.Ideal
open Go Go.Proofs Go.RowKit
theorem wf_u64 {i : Int} (h : (Lit.int .u64 i).wf = true) : ∃ x : Nat, i = x ∧ x < 2 ^ 64 := by
  have := bounds_u64 h
  exact ⟨i.toNat, by omega, by omega⟩
theorem law_of_EvX {P : Program} {f : Nat} {args args' : Array Value} {w : World} (hP : okProg P = true) (h : EvX P f args (heapOf w) (fun v _ => v = .bool true)) (ha : RA RM0 args args') :
    Calls P f args' w fun e w' => e = .returned (.bool true) ∧ Below w.heap.size w w' := by
  unfold EvX at h
  obtain ⟨v, h', ⟨n, h1⟩, rfl⟩ := h
  exact law_of_ideal hP h1 ha
end Go.Ideal

-- Ta
set_option linter.unusedSimpArgs false
set_option linter.unusedVariables false
namespace Go.Ideal
open Go Go.Proofs Go.RowKit
/-! ### Circuits as trees; functions of flat values -/
@[reducible] def intT (z : Int) : Tr := .v (.int .i64 z)
@[reducible] def boolT (b : Bool) : Tr := .v (.bool b)
@[reducible] def strT (b : ByteArray) : Tr := .v (.string b)
@[reducible] def u64T (n : Nat) : Tr := .v (.int .u64 n)
def intRows (xs : List Int) : List (List Tr) := xs.map fun x => [intT x]
@[reducible] def opCs (o : OpD) : List Tr := [intT o.kind, strT o.name, .sl 1 (intRows o.qs), intT o.bit, boolT o.iff, u64T o.mask, u64T o.value]
def opRows (os : List OpD) : List (List Tr) := os.map opCs
@[reducible] def circCs (c : CircD) : List Tr := [intT c.qubits, intT c.bits, .sl 7 (opRows c.ops)]
@[reducible] def circT (c : CircD) : Tr := .agg (circCs c)
def OpW (o : OpD) : Prop := o.mask < 2 ^ 64 ∧ o.value < 2 ^ 64
def CircW (c : CircD) : Prop := ∀ o ∈ c.ops, OpW o
theorem NthG.map {α β : Type} {l : List α} {i : Nat} {a : α} (f : α → β) (h : l[i]? = some a) : NthG (l.map f) i (f a) := ⟨by rw [List.getElem?_map, h]; rfl⟩
instance {xs : List Int} : LenO (intRows xs) xs.length := ⟨by simp [intRows]⟩
instance {os : List OpD} : LenO (opRows os) os.length := ⟨by simp [opRows]⟩
instance {xs : List Int} : LenT (intRows xs) xs.length := ⟨by simp [intRows]⟩
instance {os : List OpD} : LenT (opRows os) os.length := ⟨by simp [opRows]⟩
theorem intRows_at {F : Mem} {b : Nat} : ∀ {xs : List Int} {off : Nat}, RepR F b 1 (intRows xs) off → rowM F b off xs.length = some (ints xs) := by
  intro xs
  induction xs with
  | nil => intro off _; rfl
  | cons x xs ih =>
    intro off h
    simp only [intRows, List.map_cons, RepR] at h
    obtain ⟨⟨vs, h1, h2⟩, h3⟩ := h
    simp only [RepL, Rep] at h2
    obtain ⟨v, ws, rfl, rfl, rfl⟩ := h2
    simp only [rowM, Option.bind_eq_some_iff] at h1
    obtain ⟨u, hu, us, hus, h4⟩ := h1
    obtain rfl := Option.some.inj hus
    simp only [Option.some.injEq, List.cons.injEq, and_true] at h4
    subst h4
    simp only [List.length_cons, rowM, hu, Option.bind_some, ih h3, ints, List.map_cons]
theorem sl_ints {F : Mem} {h : IHp} (hs : Sub F h.cell?) {xs : List Int} {v : Value} (hv : Rep F (.sl 1 (intRows xs)) v) : ∃ a l c, v = .slice a l c ∧ SlIs h a l c (ints xs) ∧ c < 2 ^ 63 ∧ SpotOk a c := by
  simp only [Rep] at hv
  obtain ⟨a, n, c, rfl, h2, h3, h4, h5, h6⟩ := hv
  have hl : xs.length = n := by rw [← h2]; simp [intRows]
  refine ⟨a, n, c, rfl, ⟨by rw [ints_len]; exact hl, h3, ?_⟩, h4, h5⟩
  cases a with
  | none => exact h6
  | some a =>
    simp only
    rw [row_rowM, ← hl]
    exact rowM_sub hs (intRows_at h6)
theorem op_inv {F : Mem} {h : IHp} (hs : Sub F h.cell?) {o : OpD} {vs : List Value} (hv : RepL F (opCs o) vs) : ∃ a l c, vs = o.cells a l c ∧ SlIs h a l c (ints o.qs) ∧ c < 2 ^ 63 ∧ SpotOk a c := by
  unfold opCs at hv
  simp only [RepL, Rep.val] at hv
  obtain ⟨_, _, rfl, rfl, _, _, rfl, rfl, v, _, rfl, h1, _, _, rfl, rfl, _, _, rfl, rfl, _, _, rfl, rfl, _, _, rfl, rfl, rfl⟩ := hv
  obtain ⟨a, l, c, rfl, h2, h3, h4⟩ := sl_ints hs h1
  exact ⟨a, l, c, rfl, h2, h3, h4⟩
theorem circ_inv {F : Mem} {h : IHp} (hs : Sub F h.cell?) {c : CircD} (hw : CircW c) {v : Value} (hv : Rep F (circT c) v) : CircV h v c := by
  unfold circT circCs at hv
  simp only [Rep, RepL] at hv
  obtain ⟨_, rfl, _, _, rfl, rfl, _, _, rfl, rfl, _, _, rfl, ⟨a, n, k, rfl, h2, h3, h4, h5, h6⟩, rfl⟩ := hv
  have hl : c.ops.length = n := by rw [← h2]; simp [opRows]
  refine ⟨a, n, k, rfl, hl, h3, h4, ?_⟩
  cases a with
  | none => exact h6
  | some a =>
    intro i o ho
    obtain ⟨vs, h7, h8⟩ := RepR.get h6 (i := i) (row := opCs o) (by simp only [opRows, List.getElem?_map, ho]; rfl)
    obtain ⟨qa, ql, qc, rfl, h9, h10, h11⟩ := op_inv hs h8
    refine ⟨_, by rw [row_rowM]; exact rowM_sub hs h7, qa, ql, qc, rfl, h9, (hw o (List.mem_of_getElem? ho)).1, (hw o (List.mem_of_getElem? ho)).2, h10, h11⟩
/-! ### Halves -/
instance : CallIs Try.prog 27 := .of Try.func27 rfl rfl
end Go.Ideal

-- Ga
set_option linter.unusedSimpArgs false
set_option linter.unusedVariables false
namespace Go.Ideal
open Go Go.Proofs
/-! ### Products of matrices of bits: the plain law -/
theorem xorB_zero (n : Nat) : xorB (fun _ => false) n = false := by
  induction n with
  | zero => rfl
  | succ n ih => rw [xorB, ih]; rfl
theorem mulRow_zero (X : List Nat) (n : Nat) : mulRow 0 X n = 0 := by
  apply Nat.eq_of_testBit_eq
  intro b
  rw [mulRow_bits, Nat.zero_testBit, xorB_congr (g := fun _ => false) n (fun j _ => by simp)]
  exact xorB_zero n
/-! ### What takes back, takes back from both sides -/
end Go.Ideal

-- Gb
set_option linter.unusedSimpArgs false
set_option linter.unusedVariables false
namespace Go.Ideal
open Go Go.Proofs
/-! ### The rank: the plain law -/
/-- v is a sum of the first n rows -/
def Span (R : List Nat) (n v : Nat) : Prop := ∃ c, v = mulRow c R n
theorem Span.zero (R : List Nat) (n : Nat) : Span R n 0 := ⟨0, (mulRow_zero R n).symm⟩
theorem Span.unit {R : List Nat} {n i : Nat} (hi : i < n) : Span R n (R.getD i 0) := ⟨2 ^ i, (mulRow_unit hi).symm⟩
theorem Span.add {R : List Nat} {n a b : Nat} (h : Span R n a) (k : Span R n b) : Span R n (a ^^^ b) := by
  obtain ⟨c, rfl⟩ := h
  obtain ⟨d, rfl⟩ := k
  exact ⟨c ^^^ d, (mulRow_xor c d R n).symm⟩
theorem Span.trans {A B : List Nat} {m n : Nat} (h : ∀ k, k < m → Span B n (A.getD k 0)) : ∀ {v : Nat}, Span A m v → Span B n v := by
  rintro v ⟨c, rfl⟩
  unfold mulRow
  suffices hk : ∀ k, k ≤ m → Span B n (xorK (fun j => if (c >>> j) &&& 1 = 1 then A.getD j 0 else 0) k) from hk m (Nat.le_refl _)
  intro k
  induction k with
  | zero => intro _; exact Span.zero B n
  | succ k ih =>
    intro hk
    rw [xorK]
    refine (ih (by omega)).add ?_
    split
    · exact h k (by omega)
    · exact Span.zero B n
theorem mulRow_congr {c d : Nat} {R : List Nat} {n : Nat} (h : ∀ j, j < n → c.testBit j = d.testBit j) : mulRow c R n = mulRow d R n := by
  apply Nat.eq_of_testBit_eq
  intro b
  rw [mulRow_bits, mulRow_bits]
  exact xorB_congr n fun j hj => by rw [h j hj]
theorem Span.small {R : List Nat} {n v : Nat} (h : Span R n v) : ∃ c, c < 2 ^ n ∧ v = mulRow c R n := by
  obtain ⟨c, rfl⟩ := h
  refine ⟨c % 2 ^ n, Nat.mod_lt _ (Nat.pow_pos (by decide)), mulRow_congr fun j hj => ?_⟩
  rw [Nat.testBit_mod_two_pow]; simp [hj]
/-- what elimination keeps -/
structure Ech (xs : List Nat) (j : Nat) (st : List Nat × Nat) : Prop where
  len : st.1.length = xs.length
  le : st.2 ≤ j
  le2 : st.2 ≤ xs.length
  a : ∀ i, i < xs.length → Span st.1 xs.length (xs.getD i 0)
  b : ∀ i, i < xs.length → Span xs xs.length (st.1.getD i 0)
  piv : ∃ p : Nat → Nat, ∀ i, i < st.2 → (st.1.getD i 0).testBit (p i) = true ∧ p i < j ∧ ∀ k, i < k → k < xs.length → (st.1.getD k 0).testBit (p i) = false
  low : ∀ i, st.2 ≤ i → i < xs.length → ∀ c, c < j → (st.1.getD i 0).testBit c = false
theorem Ech.start (xs : List Nat) : Ech xs 0 (xs, 0) :=
  ⟨rfl, Nat.le_refl _, Nat.zero_le _, fun i hi => Span.unit hi, fun i hi => Span.unit hi, ⟨fun _ => 0, fun i hi => by simp only at hi; omega⟩, fun i _ _ c hc => by omega⟩
theorem Ech.step {xs : List Nat} {j : Nat} {st : List Nat × Nat} (e : Ech xs j st) : Ech xs (j + 1) (rankStep j st) := by
  obtain ⟨R, d⟩ := st
  obtain ⟨hl, le, le2, ha, hb, ⟨p, hp⟩, low⟩ := e
  simp only at hl le le2 ha hb hp low
  unfold rankStep
  simp only
  cases hf : findRow R j d (R.length - d) with
  | none =>
    have hn := findRow_none _ _ hf
    show Ech xs (j + 1) (R, d)
    refine ⟨hl, by omega, le2, ha, hb, ⟨p, fun i hi => ⟨(hp i hi).1, by have := (hp i hi).2.1; omega, (hp i hi).2.2⟩⟩, fun i h1 h2 c hc => ?_⟩
    by_cases hcj : c = j
    · rw [hcj, ← bitAt_tb]; exact hn i h1 (by omega)
    · exact low i h1 h2 c (by omega)
  | some i =>
    obtain ⟨f1, f2, f3⟩ := findRow_some _ _ _ hf
    simp only
    have hd : d < xs.length := by omega
    have hi : i < xs.length := by omega
    have sg : ∀ x, (swapRows R i d).getD x 0 = if x = d then R.getD i 0 else if x = i then R.getD d 0 else R.getD x 0 := fun x => swap_get (by omega) (by omega) x
    have sl : (swapRows R i d).length = xs.length := by rw [swapRows_len, hl]
    have al : (addRows j d (d + 1) (R.length - (d + 1)) (swapRows R i d)).length = xs.length := by rw [addRows_len, sl]
    have ag : ∀ x, (addRows j d (d + 1) (R.length - (d + 1)) (swapRows R i d)).getD x 0 = if d + 1 ≤ x ∧ x < d + 1 + (R.length - (d + 1)) ∧ bitAt ((swapRows R i d).getD x 0) j = true then (swapRows R i d).getD x 0 ^^^ (swapRows R i d).getD d 0 else (swapRows R i d).getD x 0 :=
      addRows_get j d _ _ _ (by omega) (by rw [sl]; omega)
    generalize addRows j d (d + 1) (R.length - (d + 1)) (swapRows R i d) = T at al ag
    have sd : (swapRows R i d).getD d 0 = R.getD i 0 := by rw [sg, if_pos rfl]
    have td : T.getD d 0 = R.getD i 0 := by rw [ag, if_neg (by omega), sd]
    -- rows of S are rows of R and the other way
    have sR : ∀ k, k < xs.length → Span R xs.length ((swapRows R i d).getD k 0) := fun k hk => by
      rw [sg]
      split
      · exact Span.unit hi
      · split
        · exact Span.unit hd
        · exact Span.unit hk
    have rS : ∀ k, k < xs.length → ∃ x, x < xs.length ∧ R.getD k 0 = (swapRows R i d).getD x 0 := fun k hk => by
      by_cases h1 : k = i
      · exact ⟨d, hd, by rw [sd, h1]⟩
      · by_cases h2 : k = d
        · refine ⟨i, hi, ?_⟩
          rw [sg]
          by_cases h3 : i = d
          · rw [if_pos h3, h2, h3]
          · rw [if_neg h3, if_pos rfl, h2]
        · exact ⟨k, hk, by rw [sg, if_neg h2, if_neg h1]⟩
    have tS : ∀ k, k < xs.length → Span R xs.length (T.getD k 0) := fun k hk => by
      rw [ag]
      split
      · exact (sR k hk).add (sR d hd)
      · exact sR k hk
    have sT : ∀ k, k < xs.length → Span T xs.length ((swapRows R i d).getD k 0) := fun k hk => by
      by_cases hc : d + 1 ≤ k ∧ k < d + 1 + (R.length - (d + 1)) ∧ bitAt ((swapRows R i d).getD k 0) j = true
      · have h1 : (swapRows R i d).getD k 0 = T.getD k 0 ^^^ T.getD d 0 := by
          rw [ag k, if_pos hc, td, ← sd, Nat.xor_assoc, Nat.xor_self, Nat.xor_zero]
        rw [h1]
        exact (Span.unit hk).add (Span.unit hd)
      · have h1 : (swapRows R i d).getD k 0 = T.getD k 0 := by rw [ag k, if_neg hc]
        rw [h1]; exact Span.unit hk
    have rT : ∀ k, k < xs.length → Span T xs.length (R.getD k 0) := fun k hk => by
      obtain ⟨x, hx, e⟩ := rS k hk
      rw [e]; exact sT x hx
    -- rows from d on have nothing left of j
    have sLow : ∀ k, d ≤ k → k < xs.length → ∀ c, c < j → ((swapRows R i d).getD k 0).testBit c = false := fun k h1 h2 c hc => by
      rw [sg]
      split
      · exact low i f1 hi c hc
      · split
        · exact low d (Nat.le_refl _) hd c hc
        · exact low k h1 h2 c hc
    have tLow : ∀ k, d ≤ k → k < xs.length → ∀ c, c < j → (T.getD k 0).testBit c = false := fun k h1 h2 c hc => by
      rw [ag]
      split
      · rw [Nat.testBit_xor, sLow k h1 h2 c hc, sLow d (Nat.le_refl _) hd c hc]; rfl
      · exact sLow k h1 h2 c hc
    have tj : ∀ k, d < k → k < xs.length → (T.getD k 0).testBit j = false := fun k h1 h2 => by
      rw [ag]
      by_cases hc : bitAt ((swapRows R i d).getD k 0) j = true
      · rw [if_pos ⟨by omega, by omega, hc⟩, Nat.testBit_xor, ← bitAt_tb, hc, sd, ← bitAt_tb, f3]; rfl
      · rw [if_neg (fun h => hc h.2.2), ← bitAt_tb]; simpa using hc
    have sPiv : ∀ x, x < d → ∀ k, x < k → k < xs.length → ((swapRows R i d).getD k 0).testBit (p x) = false := fun x hx k h1 h2 => by
      rw [sg]
      split
      · exact (hp x hx).2.2 i (by omega) hi
      · split
        · exact (hp x hx).2.2 d hx hd
        · exact (hp x hx).2.2 k h1 h2
    refine ⟨al, by omega, by omega, fun x hx => Span.trans rT (ha x hx), fun x hx => Span.trans hb (tS x hx), ⟨fun x => if x = d then j else p x, fun x hx => ?_⟩, fun x h1 h2 c hc => ?_⟩
    · by_cases hxd : x = d
      · subst hxd
        simp only [if_true]
        exact ⟨by rw [td, ← bitAt_tb]; exact f3, by omega, fun k h1 h2 => tj k h1 h2⟩
      · simp only [if_neg hxd]
        have hx' : x < d := by omega
        refine ⟨?_, by have := (hp x hx').2.1; omega, fun k h1 h2 => ?_⟩
        · rw [ag, if_neg (by omega), sg, if_neg hxd, if_neg (by omega)]
          exact (hp x hx').1
        · rw [ag]
          split
          · rw [Nat.testBit_xor, sPiv x hx' k h1 h2, sPiv x hx' d hx' hd]; rfl
          · exact sPiv x hx' k h1 h2
    · by_cases hcj : c = j
      · rw [hcj]; exact tj x (by omega) h2
      · exact tLow x (by omega) h2 c (by omega)
/-! ### Matrices put onto numbers -/
end Go.Ideal

-- Gc
set_option linter.unusedSimpArgs false
set_option linter.unusedVariables false
namespace Go.Ideal
open Go Go.Proofs Go.RowKit
/-! ### Matrices as trees -/
@[reducible] def giT (z : Int) : Tr := .v (.int .i64 z)
@[reducible] def guT (n : Nat) : Tr := .v (.int .u64 n)
def linRows (xs : List Nat) : List (List Tr) := xs.map fun x => [guT x]
@[reducible] def linCs (n : Int) (xs : List Nat) : List Tr := [giT n, .sl 1 (linRows xs)]
@[reducible] def linT (n : Int) (xs : List Nat) : Tr := .agg (linCs n xs)
theorem linRows_at {F : Mem} {b : Nat} : ∀ {xs : List Nat} {off : Nat}, RepR F b 1 (linRows xs) off → rowM F b off xs.length = some (u64s xs) := by
  intro xs
  induction xs with
  | nil => intro off _; rfl
  | cons x xs ih =>
    intro off h
    simp only [linRows, List.map_cons, RepR] at h
    obtain ⟨⟨vs, h1, h2⟩, h3⟩ := h
    simp only [RepL, Rep] at h2
    obtain ⟨v, ws, rfl, rfl, rfl⟩ := h2
    simp only [rowM, Option.bind_eq_some_iff] at h1
    obtain ⟨u, hu, us, hus, h4⟩ := h1
    obtain rfl := Option.some.inj hus
    simp only [Option.some.injEq, List.cons.injEq, and_true] at h4
    subst h4
    simp only [List.length_cons, rowM, hu, Option.bind_some, ih h3, u64s, List.map_cons]
theorem at_linRows {F : Mem} {b : Nat} : ∀ {xs : List Nat} {off : Nat}, (∀ i, i < xs.length → F b (off + i) = some (.int .u64 (xs.getD i 0 : Nat))) → RepR F b 1 (linRows xs) off := by
  intro xs
  induction xs with
  | nil => intro off _; simp [linRows, RepR]
  | cons x xs ih =>
    intro off h
    simp only [linRows, List.map_cons, RepR]
    have h0 := h 0 (by simp)
    refine ⟨⟨[.int .u64 x], ?_, RepL.cons (rep_v _) RepL.nil⟩, ih fun i hi => ?_⟩
    · rw [Nat.add_zero] at h0
      simp [rowM, h0]
    · have := h (i + 1) (by simp; omega)
      rw [show off + 1 + i = off + (i + 1) by omega, this]
      simp
theorem lin_in {F : Mem} {h : IHp} (hs : Sub F h.cell?) {n : Int} {xs : List Nat} (h64 : All64 xs) {v : Value} (hv : Rep F (linT n xs) v) : MatV h v n xs := by
  unfold linT linCs at hv
  simp only [Rep, RepL] at hv
  obtain ⟨_, rfl, _, _, rfl, rfl, _, _, rfl, ⟨a, l, c, rfl, h2, h3, h4, h5, h6⟩, rfl⟩ := hv
  have hl : xs.length = l := by rw [← h2]; simp [linRows]
  refine ⟨a, l, c, rfl, ⟨by rw [u64s_len]; exact hl, h3, ?_⟩, h64⟩
  cases a with
  | none => exact h6
  | some a =>
    simp only
    rw [row_rowM, ← hl]
    exact rowM_sub hs (linRows_at h6)
/-- a matrix in new memory -/
theorem new_lin {F0 : Mem} {h h' : IHp} {m : Value} {n : Int} {xs : List Nat} (h1 : Sub F0 h.cell?) (e : Ext h h') (mv : MatV h' m n xs) (nm : NewM h.fresh m) (hl : xs.length < 2 ^ 62) :
    ∃ F, Sub F0 F ∧ Sub F h'.cell? ∧ (∀ b off v, F b off = some v → F0 b off = some v ∨ h.fresh ≤ b) ∧ Rep F (linT n xs) m := by
  obtain ⟨a, l, c, rfl, ⟨g1, g2, g3⟩, h64⟩ := mv
  rw [u64s_len] at g1
  refine ⟨fun b off => if b % 2 = 0 ∧ h.fresh ≤ b then h'.cell? b off else F0 b off, fun b off v hf => ?_, fun b off v hf => ?_, fun b off v hf => ?_, ?_⟩
  · simp only
    split
    · exact cell_ext e (h1 b off v hf)
    · exact hf
  · simp only at hf
    split at hf
    · exact hf
    · exact cell_ext e (h1 b off v hf)
  · simp only at hf
    split at hf
    · rename_i hb; exact .inr hb.2
    · exact .inl hf
  · rw [Rep]
    refine ⟨_, rfl, RepL.cons (rep_v _) (RepL.cons ?_ RepL.nil)⟩
    rw [Rep]
    cases a with
    | none =>
      simp only at g3
      subst g3
      exact ⟨none, l, 0, rfl, by simp [linRows, g1], g2, by decide, (fun d hd => by cases hd), rfl⟩
    | some a =>
      obtain ⟨n1, n2, n3, rfl⟩ := nm _ a l c rfl
      refine ⟨some a, c, c, rfl, by simp [linRows, g1], Nat.le_refl _, by omega, (fun d hd => by cases hd; exact .inl n3), ?_⟩
      simp only at g3 ⊢
      refine at_linRows fun i hi => ?_
      rw [if_pos ⟨n2, n1⟩, row_cell g3 i (by omega)]
      simp [u64s, List.getD_eq_getElem?_getD, List.getElem?_eq_getElem hi]
/-- an answer that is a matrix in new memory, and an error -/
theorem Fn_ans {f : FuncId} {args : List Tr} {r : Int × List Nat × Int} (hl : r.2.1.length < 2 ^ 62) (x : ∀ (F0 : Mem) (h : IHp) (vs : List Value), Sub F0 h.cell? → RepL F0 args vs → EvX Try.prog f vs.toArray h (fun v h' => Ext h h' ∧ AnsM h.fresh h' v r)) :
    Fn Try.prog f args (fun t => t = .tup [linT r.1 r.2.1, giT r.2.2]) := by
  unfold Fn
  intro F0 h vs h1 h2
  refine (x F0 h vs h1 h2).mono ?_
  rintro v h' ⟨e, m, rfl, mv, nm⟩
  obtain ⟨F, a1, a2, a3, a4⟩ := new_lin h1 e mv nm hl
  refine ⟨e, F, _, a1, a2, a3, ?_, rfl⟩
  rw [Rep]
  exact ⟨_, rfl, RepL.cons a4 (RepL.cons (rep_v _) RepL.nil)⟩
theorem Fn_ansV {f : FuncId} {args : List Tr} {ws : List Value} {t : Tr} (hw : ∀ F, Rep F t (.tuple ws.toArray)) (x : ∀ (F0 : Mem) (h : IHp) (vs : List Value), Sub F0 h.cell? → RepL F0 args vs → EvX Try.prog f vs.toArray h (fun v h' => Ext h h' ∧ v = .tuple ws.toArray)) : Fn Try.prog f args (fun r => r = t) :=
  Fn_flat (fun F0 h vs h1 h2 => (x F0 h vs h1 h2).mono fun v h' ⟨e, hv⟩ => ⟨hv, e⟩) hw
theorem one_arg {F : Mem} {t : Tr} {vs : List Value} (h : RepL F [t] vs) : ∃ v, vs = [v] ∧ Rep F t v := by
  simp only [RepL] at h
  obtain ⟨v, _, rfl, h1, rfl⟩ := h
  exact ⟨v, rfl, h1⟩
theorem two_args {F : Mem} {t u : Tr} {vs : List Value} (h : RepL F [t, u] vs) : ∃ v w, vs = [v, w] ∧ Rep F t v ∧ Rep F u w := by
  simp only [RepL] at h
  obtain ⟨v, _, rfl, h1, w, _, rfl, h2, rfl⟩ := h
  exact ⟨v, w, rfl, h1, h2⟩
theorem rep_pairII {F : Mem} (a : Int) (b : Int) : Rep F (.tup [giT a, giT b]) (.tuple [.int .i64 a, .int .i64 b].toArray) := by
  rw [Rep]; exact ⟨_, rfl, RepL.cons (rep_v _) (RepL.cons (rep_v _) RepL.nil)⟩
/-! ### The functions -/
instance : CallIs Try.prog 19 := .of Try.func19 rfl rfl
instance : CallIs Try.prog 46 := .of Try.func46 rfl rfl
instance : CallIs Try.prog 20 := .of Try.func20 rfl rfl
theorem linRankT {N : Int} {xs : List Nat} (hx : All64 xs) : Fn Try.prog 18 [linT N xs] (fun t => t = .tup [giT (rankR N xs).1, giT (rankR N xs).2]) :=
  Fn_ansV (fun F => rep_pairII _ _) fun F0 h vs h1 h2 => by
    obtain ⟨A, rfl, a⟩ := one_arg h2
    exact Rank_w (lin_in h1 hx a)
instance : CallIs Try.prog 18 := .of Try.func18 rfl rfl
instance : CallIs Try.prog 42 := .of Try.func42 rfl rfl
theorem linSameT {N : Int} {xs : List Nat} (hx : All64 xs) (hl : xs.length < 2 ^ 62) : Fn Try.prog 25 [linT N xs, linT N xs] (fun t => t = .v (.bool true)) :=
  Fn_flat (w := .bool true) (fun F0 h vs h1 h2 => by
    obtain ⟨A, B, rfl, a, b⟩ := two_args h2
    exact Same_t (lin_in h1 hx a) (lin_in h1 hx b) hl) (fun F => rep_v _)
instance : CallIs Try.prog 25 := .of Try.func25 rfl rfl
instance : CallIs Try.prog 49 := .of Try.func49 rfl rfl
end Go.Ideal

-- Gf
set_option linter.unusedSimpArgs false
set_option linter.unusedVariables false
namespace Go.Ideal
open Go Go.Proofs Go.RowKit
/-! ### Own answers of the linear functions -/
theorem TR.new {h h' : IHp} {F0 : Mem} {r : Tr} {v : Value} {B : Boxes} (h1 : Sub F0 h.cell?) (e : Ext h h') (hr : Rep F0 r v) (hb : ∀ p ∈ B, BoxRep F0 h' p.1 p.2) (hs : ∀ p ∈ B, p.1 % 2 = 0 ∧ h.fresh ≤ p.1) (hd : (B.map Prod.fst).Nodup) : TR ⟨h, F0, []⟩ F0 (fun _ => r) B (fun _ => v) h' := by
  refine ⟨e, Sub.refl _, fun b o v hf => cell_ext e (h1 b o v hf), fun b o v hf => .inl hf, hb, fun p hp _ => ⟨(hs p hp).2, fun off => ?_⟩, hd, fun g hg => (by cases hg), fun i => hr⟩
  cases hf : F0 p.1 off with
  | none => rfl
  | some w =>
    exfalso
    have h2 := h1 _ _ _ hf
    obtain ⟨he, hle⟩ := hs p hp
    unfold IHp.cell? at h2
    rw [if_neg (by omega)] at h2
    cases hq : h.new[p.1 / 2]? with
    | none => rw [hq] at h2; cases h2
    | some o => have := (List.getElem?_eq_some_iff.1 hq).1; unfold IHp.fresh at hle; omega
theorem linRows_rep {F : Mem} : ∀ (xs : List Nat), RepL F (linRows xs).flatten (u64s xs) := by
  intro xs
  induction xs with
  | nil => exact RepL.nil
  | cons x xs ih => exact RepL.cons (rep_v _) ih
theorem linRows_inv {F : Mem} : ∀ (xs : List Nat) (vs : List Value), RepL F (linRows xs).flatten vs → vs = u64s xs := by
  intro xs
  induction xs with
  | nil => intro vs h2; simpa [RepL, linRows, u64s] using h2
  | cons y ys ih =>
    intro vs h2
    simp only [linRows, List.map_cons, List.flatten_cons, List.singleton_append, RepL, Rep] at h2
    obtain ⟨_, ws, rfl, rfl, h5⟩ := h2
    rw [ih ws h5]; rfl
theorem linRows_one {xs : List Nat} : ∀ row ∈ linRows xs, row.length = 1 := by
  intro row hr
  obtain ⟨x, _, rfl⟩ := List.mem_map.1 hr
  rfl
theorem rep_ans {F : Mem} {m e : Int} {v : Value} : Rep F (.tup [.agg [giT m, .v v], giT e]) (.tuple [.agg [.int .i64 m, v].toArray, .int .i64 e].toArray) := by
  simp only [Rep]
  refine ⟨_, rfl, RepL.cons ?_ (RepL.cons (rep_v _) RepL.nil)⟩
  simp only [Rep]
  exact ⟨_, rfl, RepL.cons (rep_v _) (RepL.cons (rep_v _) RepL.nil)⟩
theorem rep_ans_inv {F : Mem} {m e : Int} {v w : Value} (h : Rep F (.tup [.agg [giT m, .v v], giT e]) w) : w = .tuple [.agg [.int .i64 m, v].toArray, .int .i64 e].toArray := by
  simp only [Rep, RepL] at h
  obtain ⟨_, rfl, _, _, rfl, ⟨_, rfl, _, _, rfl, rfl, _, _, rfl, rfl, rfl⟩, _, _, rfl, rfl, rfl⟩ := h
  rfl
theorem rep_lin_ans {F : Mem} {m e : Int} {xs : List Nat} {v : Value} (h : Rep F (.sl 1 (linRows xs)) v) : Rep F (.tup [linT m xs, giT e]) (.tuple [.agg [.int .i64 m, v].toArray, .int .i64 e].toArray) := by
  rw [Rep]
  refine ⟨_, rfl, RepL.cons ?_ (RepL.cons (rep_v _) RepL.nil)⟩
  rw [Rep]
  exact ⟨_, rfl, RepL.cons (rep_v _) (RepL.cons h RepL.nil)⟩
theorem checkS_two {N : Int} {xs : List Nat} (h : ¬ checkS N xs = 0) : checkS N xs = 2 := by
  unfold checkS at h ⊢
  split
  · rfl
  · rename_i h3
    rw [if_neg h3] at h
    split
    · rename_i h4; rw [if_pos h4] at h; exact absurd rfl h
    · rfl
theorem linMulO {M N : Int} {xs ys : List Nat} (hx : All64 xs) (hy : All64 ys) : FnO Try.prog 19 [linT M xs, linT N ys] (fun r B => ∃ b, r = .tup [.agg [giT (mulR M N xs ys).1, .v (gsv b (mulR M N xs ys).2.1.length)], giT (mulR M N xs ys).2.2] ∧ B = (if (mulR M N xs ys).2.1.length = 0 then [] else [(b, .arr 1 (linRows (mulR M N xs ys).2.1) 27 false)])) := by
  unfold FnO
  intro F0 h vs h1 h2
  obtain ⟨A, B, rfl, a, b⟩ := two_args h2
  obtain ⟨a1, la, ca, rfl, g1, g3⟩ := lin_in h1 hx a
  obtain ⟨b1, lb, cb, rfl, g4, g6⟩ := lin_in h1 hy b
  refine (Mul_spec M N a1 b1 la ca lb cb xs ys h g1 g4 g3 g6).mono ?_
  rintro v h' ⟨e, hv⟩
  unfold mulR
  split at hv
  · rename_i hn
    obtain ⟨sl, rfl, hL⟩ := hv
    rw [if_pos hn]
    simp only
    rw [← u64s_len (mulS xs ys xs.length)]
    rcases hL with ⟨rfl, h0⟩ | ⟨b, hb1, rfl, hb2, hb3⟩
    · rw [h0]
      exact ⟨F0, _, [], TR.new h1 e rep_ans (by simp) (by simp) (by simp), by simp, 0, rfl, rfl⟩
    · have hne : (u64s (mulS xs ys xs.length)).length ≠ 0 := fun h0 => hb3 (List.eq_nil_of_length_eq_zero h0)
      refine ⟨F0, _, _, TR.new (B := [(b, .arr 1 (linRows (mulS xs ys xs.length)) 27 false)]) h1 e (r := .tup [.agg [giT M, .v (gsv b (u64s (mulS xs ys xs.length)).length)], giT 0]) ?_ ?_ ?_ (by simp), ?_, b, rfl, (if_neg hne).symm⟩
      · unfold gsv; rw [if_neg hne]; exact rep_ans
      · intro p hp
        rw [List.mem_singleton.1 hp]
        exact ⟨linRows_one, .inr ⟨_, linRows_rep _, hb2⟩⟩
      · intro p hp
        rw [List.mem_singleton.1 hp]
        exact ⟨hb2.even, hb1⟩
      · intro p hp
        rw [List.mem_singleton.1 hp]
        exact hb2.even
  · rename_i hn
    subst hv
    rw [if_neg hn]
    exact ⟨F0, _, [], TR.new h1 e rep_ans (by simp) (by simp) (by simp), by simp, 0, rfl, rfl⟩
/-- an answer in new memory that may be read alone from now on -/
def FrzO (t : Tr) (r : Tr) (B : Boxes) : Prop := FlatT r ∧ (∀ p ∈ B, FlatB p.2) ∧ ∀ F G h, ThawOk F G B h → ∀ v, Rep F r v → Rep G t v
theorem rep_none {F : Mem} {m : Nat} : Rep F (.sl m []) (.slice none 0 0) := by
  rw [Rep]
  exact ⟨none, 0, 0, rfl, rfl, Nat.le_refl _, by decide, (fun d hd => by cases hd), rfl⟩
theorem linRows_flat : ∀ (xs : List Nat), FlatL (linRows xs).flatten := by
  intro xs
  induction xs with
  | nil => exact FlatL.nil
  | cons x xs ih => exact FlatL.cons (b := ih)
theorem frz_lin {F G : Mem} {h : IHp} {b : Nat} {xs : List Nat} {x : Bool} (o : ThawOk F G [(b, .arr 1 (linRows xs) 27 x)] h) (he : b % 2 = 0) (hl : xs.length < 2 ^ 62) : Rep G (.sl 1 (linRows xs)) (.slice (some (ad b 0)) xs.length xs.length) := by
  rw [Rep]
  refine ⟨_, _, _, rfl, by simp [linRows], Nat.le_refl _, by omega, (fun d hd => by cases hd; exact .inl rfl), ?_⟩
  have hb := o.box _ (List.mem_singleton.2 rfl)
  obtain ⟨_, h1⟩ := hb
  rcases h1 with ⟨_, _, h2⟩ | ⟨vs, h2, h3⟩
  · simp only at h2; omega
  · have h4 : vs = u64s xs := linRows_inv xs vs h2
    subst h4
    refine at_linRows fun i hi => ?_
    rw [o.cell _ (List.mem_singleton.2 rfl) he, h3.cell]
    simp [u64s, List.getD_eq_getElem?_getD, List.getElem?_eq_getElem hi]
theorem linInvO {N : Int} {xs : List Nat} (hx : All64 xs) : FnO Try.prog 20 [linT N xs] (FrzO (.tup [linT (invR N xs).1 (invR N xs).2.1, giT (invR N xs).2.2])) := by
  have hl := invR_len N xs
  unfold FnO
  intro F0 h vs h1 h2
  obtain ⟨A, rfl, a⟩ := one_arg h2
  obtain ⟨a1, la, ca, rfl, g1, g3⟩ := lin_in h1 hx a
  refine (Inverse_spec N a1 la ca xs h g1 g3).mono ?_
  rintro v h' ⟨e, hv⟩
  have none_case : ∀ (m k : Int), v = .tuple [.agg [.int .i64 m, .slice none 0 0].toArray, .int .i64 k].toArray → ∃ F r B, TR ⟨h, F0, []⟩ F (fun _ => r) B (fun _ => v) h' ∧ (∀ p ∈ B, p.1 % 2 = 0) ∧ FrzO (.tup [linT m [], giT k]) r B := by
    rintro m k rfl
    refine ⟨F0, _, [], TR.new h1 e rep_ans (by simp) (by simp) (by simp), by simp, inferInstance, by simp, fun F G h o v hv => ?_⟩
    rw [rep_ans_inv hv]
    exact rep_lin_ans rep_none
  unfold invR at hl ⊢
  split at hv
  · rename_i hc
    rw [if_pos hc] at hl ⊢
    cases hr : redK xs xs.length with
    | none =>
      simp only [hr] at hv hl ⊢
      exact none_case _ _ hv
    | some st =>
      simp only [hr] at hv hl ⊢
      obtain ⟨sl, rfl, hO⟩ := hv
      rcases hO with ⟨rfl, h0⟩ | ⟨b, x, hb1, rfl, hb2⟩
      · have h00 : doSteps (eyeS N) st.2 = [] := by simpa [u64s] using h0
        simp only [h00]
        exact none_case _ _ rfl
      · refine ⟨F0, .tup [.agg [giT N, .v (.slice (some (ad b 0)) (u64s (doSteps (eyeS N) st.2)).length (u64s (doSteps (eyeS N) st.2)).length)], giT 0], [(b, .arr 1 (linRows (doSteps (eyeS N) st.2)) 27 x)], TR.new h1 e rep_ans ?_ ?_ (by simp), ?_, inferInstance, ?_, fun F G h o v hv => ?_⟩
        · intro p hp
          rw [List.mem_singleton.1 hp]
          exact ⟨linRows_one, .inr ⟨_, linRows_rep _, hb2⟩⟩
        · intro p hp
          rw [List.mem_singleton.1 hp]
          exact ⟨hb2.even, hb1⟩
        · intro p hp
          rw [List.mem_singleton.1 hp]
          exact hb2.even
        · intro p hp
          rw [List.mem_singleton.1 hp]
          exact linRows_flat _
        · rw [rep_ans_inv hv, u64s_len]
          exact rep_lin_ans (frz_lin o hb2.even hl)
  · rename_i hc
    rw [if_neg hc] at hl ⊢
    rw [checkS_two hc] at hv
    exact none_case _ _ hv
end Go.Ideal

-- Gg
set_option linter.unusedSimpArgs false
set_option linter.unusedVariables false
namespace Go.Ideal
open Go Go.Proofs Go.RowKit
/-! ### The made circuit as own memory -/
@[reducible] def cxRow (d : (Nat × Nat) × Nat) : List Tr := [intT 1, strT ⟨#[99, 120]⟩, .v (.slice (some (ad d.2 0)) 2 2), intT 0, boolT false, u64T 0, u64T 0]
def cxRows (dq : List ((Nat × Nat) × Nat)) : List (List Tr) := dq.map cxRow
def qB (fam : List (Nat × Int × Int)) : Boxes := fam.map fun x => (x.1, .arr 1 [[intT x.2.1], [intT x.2.2]] 3 true)
def famOf (dq : List ((Nat × Nat) × Nat)) : List (Nat × Int × Int) := dq.map fun d => (d.2, (d.1.1 : Int), (d.1.2 : Int))
def synR (N : Int) (xs : List Nat) : Int × Int × List (Nat × Nat) := if checkS N xs = 0 then (match redK xs xs.length with | none => (0, 200, []) | some st => (N, 0, st.2.reverse)) else (0, 2, [])
def synB (b : Nat) (dq : List ((Nat × Nat) × Nat)) : Boxes := (if dq.length = 0 then [] else [(b, .arr 7 (cxRows dq) 29 false)]) ++ qB (famOf dq)
theorem cxRow_rep {F : Mem} (d : (Nat × Nat) × Nat) : RepL F (cxRow d) (cxCells d) :=
  RepL.cons (rep_v _) (RepL.cons (rep_v _) (RepL.cons (rep_v _) (RepL.cons (rep_v _) (RepL.cons (rep_v _) (RepL.cons (rep_v _) (RepL.cons (rep_v _) RepL.nil))))))
theorem cxRows_rep {F : Mem} : ∀ (dq : List ((Nat × Nat) × Nat)), RepL F (cxRows dq).flatten (dq.map cxCells).flatten := by
  intro dq
  induction dq with
  | nil => exact RepL.nil
  | cons d dq ih => exact (cxRow_rep d).append ih
theorem cxRows_seven {dq : List ((Nat × Nat) × Nat)} : ∀ row ∈ cxRows dq, row.length = 7 := by
  intro row hr
  obtain ⟨x, _, rfl⟩ := List.mem_map.1 hr
  rfl
theorem rep_syn {F : Mem} {m e : Int} {v : Value} : Rep F (.tup [.agg [intT m, intT 0, .v v], intT e]) (.tuple [.agg [.int .i64 m, .int .i64 0, v].toArray, .int .i64 e].toArray) := by
  simp only [Rep]
  refine ⟨_, rfl, RepL.cons ?_ (RepL.cons (rep_v _) RepL.nil)⟩
  simp only [Rep]
  exact ⟨_, rfl, RepL.cons (rep_v _) (RepL.cons (rep_v _) (RepL.cons (rep_v _) RepL.nil))⟩
theorem linSynthO {N : Int} {xs : List Nat} (hx : All64 xs) : FnO Try.prog 21 [linT N xs] (fun r B => ∃ b dq, dq.map Prod.fst = (synR N xs).2.2 ∧ r = .tup [.agg [intT (synR N xs).1, intT 0, .v (gsv b dq.length)], intT (synR N xs).2.1] ∧ B = synB b dq) := by
  unfold FnO
  intro F0 h vs h1 h2
  obtain ⟨A, rfl, a⟩ := one_arg h2
  obtain ⟨a1, la, ca, rfl, g1, g3⟩ := lin_in h1 hx a
  refine (Synth_spec N a1 la ca xs h g1 g3).mono ?_
  rintro v h' ⟨e, hv⟩
  have none_case : ∀ (k : Int), synR N xs = (0, k, []) → v = .tuple [.agg [.int .i64 0, .int .i64 0, .slice none 0 0].toArray, .int .i64 k].toArray → ∃ F r B, TR ⟨h, F0, []⟩ F (fun _ => r) B (fun _ => v) h' ∧ (∀ p ∈ B, p.1 % 2 = 0) ∧ ∃ b dq, dq.map Prod.fst = (synR N xs).2.2 ∧ r = .tup [.agg [intT (synR N xs).1, intT 0, .v (gsv b dq.length)], intT (synR N xs).2.1] ∧ B = synB b dq := by
    rintro k hk rfl
    rw [hk]
    exact ⟨F0, _, [], TR.new h1 e rep_syn (by simp) (by simp) (by simp), by simp, 0, [], rfl, rfl, rfl⟩
  split at hv
  · rename_i hc
    split at hv
    · rename_i hr
      exact none_case 200 (by unfold synR; rw [if_pos hc, hr]) hv
    · rename_i st hr
      obtain ⟨sv, dq, rfl, hdq, hL, hQ, hN⟩ := hv
      have hs : synR N xs = (N, 0, st.2.reverse) := by unfold synR; rw [if_pos hc, hr]
      rw [hs]
      have qrep : ∀ p ∈ qB (famOf dq), BoxRep F0 h' p.1 p.2 ∧ p.1 % 2 = 0 ∧ h.fresh ≤ p.1 := by
        intro p hp
        obtain ⟨x, hx, rfl⟩ := List.mem_map.1 hp
        obtain ⟨d, hd, rfl⟩ := List.mem_map.1 hx
        obtain ⟨h5, h6⟩ := hQ d hd
        refine ⟨⟨?_, .inr ⟨_, ?_, h6⟩⟩, h6.even, h5⟩
        · intro row hr
          simp at hr
          rcases hr with rfl | rfl <;> rfl
        · exact RepL.cons (rep_v _) (RepL.cons (rep_v _) RepL.nil)
      have qkeys : (qB (famOf dq)).map Prod.fst = dq.map Prod.snd := by simp [qB, famOf, Function.comp_def]
      rcases hL with ⟨rfl, h0, h00⟩ | ⟨b, hb1, rfl, hb2, hb3, hb4⟩
      · have : dq = [] := List.eq_nil_of_length_eq_zero h0
        subst this
        exact ⟨F0, _, [], TR.new h1 e rep_syn (by simp) (by simp) (by simp), by simp, 0, [], hdq, rfl, rfl⟩
      · refine ⟨F0, .tup [.agg [intT N, intT 0, .v (gsv b dq.length)], intT 0], synB b dq, TR.new h1 e ?_ ?_ ?_ ?_, ?_, b, dq, hdq, rfl, rfl⟩
        · unfold gsv; rw [if_neg hb3]; exact rep_syn
        · intro p hp
          unfold synB at hp
          rw [if_neg hb3] at hp
          rcases List.mem_append.1 hp with h5 | h5
          · rw [List.mem_singleton.1 h5]
            exact ⟨cxRows_seven, .inr ⟨_, cxRows_rep _, hb2⟩⟩
          · exact (qrep p h5).1
        · intro p hp
          unfold synB at hp
          rw [if_neg hb3] at hp
          rcases List.mem_append.1 hp with h5 | h5
          · rw [List.mem_singleton.1 h5]
            exact ⟨hb2.even, hb1⟩
          · exact (qrep p h5).2
        · unfold synB
          rw [if_neg hb3, List.singleton_append, List.map_cons, qkeys, List.nodup_cons]
          refine ⟨fun hm => ?_, hN⟩
          obtain ⟨d, hd, he⟩ := List.mem_map.1 hm
          have h6 := (hQ d hd).2.eq
          rw [he, hb2.eq] at h6
          simp at h6
        · intro p hp
          unfold synB at hp
          rw [if_neg hb3] at hp
          rcases List.mem_append.1 hp with h5 | h5
          · rw [List.mem_singleton.1 h5]
            exact hb2.even
          · exact (qrep p h5).2.1
  · rename_i hc
    rw [checkS_two hc] at hv
    exact none_case 2 (by unfold synR; rw [if_neg hc]) hv
theorem cxRow_flat (d : (Nat × Nat) × Nat) : FlatL (cxRow d) := inferInstance
theorem synB_flat {b : Nat} {dq : List ((Nat × Nat) × Nat)} : ∀ p ∈ synB b dq, FlatB p.2 := by
  intro p hp
  unfold synB at hp
  rcases List.mem_append.1 hp with h5 | h5
  · split at h5
    · cases h5
    · rw [List.mem_singleton.1 h5]
      refine FlatL.rows fun row hr => ?_
      obtain ⟨d, _, rfl⟩ := List.mem_map.1 hr
      exact cxRow_flat d
  · obtain ⟨x, _, rfl⟩ := List.mem_map.1 h5
    show FlatL _
    exact (inferInstance : FlatL [intT x.2.1, intT x.2.2])
theorem cxRows_frz {B : Boxes} {dq : List ((Nat × Nat) × Nat)} (hb : ∀ d ∈ dq, BoxIs B d.2 (.arr 1 [[intT (d.1.1 : Int)], [intT (d.1.2 : Int)]] 3 true)) : FrzR B (cxRows dq) (opRows ((dq.map Prod.fst).map cxOp)) := ⟨by simp [cxRows, opRows], fun i row hr => by
  simp only [cxRows, List.getElem?_map, Option.map_eq_some_iff] at hr
  obtain ⟨d, hd, rfl⟩ := hr
  have := hb d (List.mem_of_getElem? hd)
  refine ⟨[intT 1, strT ⟨#[99, 120]⟩, .sl 1 [[intT (d.1.1 : Int)], [intT (d.1.2 : Int)]], intT 0, boolT false, u64T 0, u64T 0], by simp [opRows, hd, cxOp, opCs, intRows], ?_⟩
  have : FrzL B (cxRow d) [intT 1, strT ⟨#[99, 120]⟩, .sl 1 [[intT (d.1.1 : Int)], [intT (d.1.2 : Int)]], intT 0, boolT false, u64T 0, u64T 0] := inferInstance
  exact this.eq⟩
theorem linSynthN {N : Int} {xs : List Nat} (hx : All64 xs) (hl : (synR N xs).2.2.length < 2 ^ 62) : FnO Try.prog 21 [linT N xs] (FrzO (.tup [circT ⟨(synR N xs).1, 0, (synR N xs).2.2.map cxOp⟩, intT (synR N xs).2.1])) := by
  refine (linSynthO hx).mono ?_
  rintro r B ⟨b, dq, hdq, rfl, rfl⟩
  rw [← hdq] at hl ⊢
  rw [List.length_map] at hl
  refine ⟨inferInstance, synB_flat, ?_⟩
  by_cases h0 : dq.length = 0
  · have : dq = [] := List.eq_nil_of_length_eq_zero h0
    subst this
    intro F G h o v hv
    simp only [Rep, RepL] at hv
    obtain ⟨_, rfl, _, _, rfl, ⟨_, rfl, _, _, rfl, rfl, _, _, rfl, rfl, _, _, rfl, rfl, rfl⟩, _, _, rfl, rfl, rfl⟩ := hv
    rw [Rep]
    refine ⟨_, rfl, RepL.cons ?_ (RepL.cons (rep_v _) RepL.nil)⟩
    rw [Rep]
    exact ⟨_, rfl, RepL.cons (rep_v _) (RepL.cons (rep_v _) (RepL.cons rep_none RepL.nil))⟩
  · have e1 : BoxIs (synB b dq) b (.arr 7 (cxRows dq) 29 false) := ⟨by unfold synB; rw [if_neg h0]; simp⟩
    have e2 : FrzR (synB b dq) (cxRows dq) (opRows ((dq.map Prod.fst).map cxOp)) := cxRows_frz fun d hd => ⟨by
      unfold synB
      refine List.mem_append_right _ ?_
      exact List.mem_map.2 ⟨(d.2, (d.1.1 : Int), (d.1.2 : Int)), List.mem_map.2 ⟨d, hd, rfl⟩, rfl⟩⟩
    have e3 : LenT (cxRows dq) dq.length := ⟨by simp [cxRows]⟩
    have e4 : Sm63 dq.length := ⟨by omega⟩
    exact (inferInstance : Frz (synB b dq) (.tup [.agg [intT (synR N xs).1, intT 0, .v (gsv b dq.length)], intT (synR N xs).2.1]) _).eq
instance : CallIs Try.prog 21 := .of Try.func21 rfl rfl
section
variable {P : Program} {X : Cx} {E : Env} {σ : Nat → Tr} {B B' : Boxes} {ops : Array Oper} {K : TK} {l : List Oper} {d : Option Tmp} {ty : TypeId} {pos : String} {af : Array Edge} {H : List (Nat × Nat)}
theorem TS_permB (p : B.Perm B') (k : TS X P E ops K l H σ B') : TS X P E ops K l H σ B := by
  unfold TS at *
  intro F s h held r hh
  exact k F s h held (r.perm p) (hh.keys (fun b off v hc => hc) (Sub.refl F) (fun b hb => (p.map Prod.fst).mem_iff.1 hb))
theorem TS_callSyn {f : FuncId} {ps : List Operand} {ts ts' : List Tr} {at_ : Array TypeId} {l0 : List (Nat × Nat)} (g : Value → Tr) [c : CallIs P f] [ev : TEvals σ ps ts] [fz : FrzL B ts ts'] (hc : FnO P f ts' (fun r B => ∃ b dq, dq.map Prod.fst = l0 ∧ r = g (gsv b dq.length) ∧ B = synB b dq)) (fg : ∀ v, FlatT (g v))
    (k : ∀ b dq, dq.map Prod.fst = l0 → TS X P E ops K l H (putT σ d (g (gsv b dq.length))) ((b, .arr 7 (cxRows dq) 29 false) :: (B ++ qB (famOf dq)))) : TS X P E ops K (⟨d, .call ⟨.value (.func f), ps.toArray, at_⟩, ty, pos, af, none⟩ :: l) H σ B := by
  refine TS_callOE hc ?_ ?_
  · rintro _ B1 ⟨b, dq, _, rfl, rfl⟩
    exact ⟨fg _, synB_flat⟩
  · rintro _ B1 ⟨b, dq, hdq, rfl, rfl⟩
    unfold synB
    by_cases hn : dq.length = 0
    · rw [if_pos hn, List.nil_append]
      refine TS_permB (List.perm_append_comm) (TS_ghost 7 29 fun b' => ?_)
      have h1 : gsv b dq.length = gsv b' dq.length := by simp [gsv, hn]
      have h2 : cxRows dq = [] := by rw [List.eq_nil_of_length_eq_zero hn]; rfl
      have := k b' dq hdq
      rw [h2] at this
      rw [h1]
      exact this
    · rw [if_neg hn, List.singleton_append, List.cons_append]
      exact TS_permB (List.Perm.cons _ List.perm_append_comm) (k b dq hdq)
end
theorem synR_ok {N : Int} {xs : List Nat} (hx : All64 xs) : (synR N xs).2.2.length < 2 ^ 62 ∧ ((synR N xs).2.1 = 0 → fromC ⟨(synR N xs).1, 0, (synR N xs).2.2.map cxOp⟩ = (N, xs, 0) ∧ xs.length < 2 ^ 62) := by
  unfold synR
  by_cases hc : checkS N xs = 0
  · rw [if_pos hc]
    cases hr : redK xs xs.length with
    | none => exact ⟨by simp, fun h => by simp at h⟩
    | some st =>
      obtain ⟨N0, N1, lx, _⟩ := checkS_zero hc
      obtain ⟨nx, gx⟩ := glt_of hc hx
      obtain ⟨e, hl⟩ := synth_from N0 N1 nx gx hr
      have h1 : xs.length ≤ 64 := by omega
      have h2 : xs.length * xs.length ≤ 64 * 64 := Nat.mul_le_mul h1 h1
      refine ⟨?_, fun _ => ⟨e, by omega⟩⟩
      simp only [List.length_reverse]
      omega
  · rw [if_neg hc]
    exact ⟨by simp, fun h => by simp at h⟩
theorem cx_w (l : List (Nat × Nat)) (m : Int) : CircW ⟨m, 0, l.map cxOp⟩ := fun o ho => by
  obtain ⟨p, _, rfl⟩ := List.mem_map.1 ho
  exact ⟨by show (0 : Nat) < 2 ^ 64; decide, by show (0 : Nat) < 2 ^ 64; decide⟩
theorem mulR_64 {M N : Int} {xs ys : List Nat} (hy : All64 ys) : All64 (mulR M N xs ys).2.1 := by
  unfold mulR
  split
  · exact mulS_64 hy _
  · intro z hz; cases hz
theorem invR_64 {N : Int} {xs : List Nat} : All64 (invR N xs).2.1 := by
  unfold invR
  split
  · rename_i hc
    split
    · intro z hz; cases hz
    · exact doSteps_64 _ _ (eyeS_lt (checkS_zero hc).2.1)
  · intro z hz; cases hz
/-! ### The matrix of a circuit, and the reference's functions -/
theorem linFromT {c : CircD} {N : Int} {xs : List Nat} (hw : CircW c) (hf : fromC c = (N, xs, 0)) (hl : xs.length < 2 ^ 62) : Fn Try.prog 26 [circT c] (fun t => t = .tup [linT N xs, giT 0]) := by
  have := Fn_ans (f := 26) (args := [circT c]) (r := fromC c) (by rw [hf]; exact hl) fun F0 h vs h1 h2 => by
    obtain ⟨A, rfl, a⟩ := one_arg h2
    exact From_spec (circ_inv h1 hw a)
  rw [hf] at this
  exact this
instance : CallIs Try.prog 26 := .of Try.func26 rfl rfl
theorem refMulT {M N : Int} {xs ys : List Nat} (hx : All64 xs) (hy : All64 ys) : Fn Try.prog 22 [linT M xs, linT N ys] (fun t => t = .tup [linT (mulR M N xs ys).1 (mulR M N xs ys).2.1, giT (mulR M N xs ys).2.2]) :=
  Fn_ans (mulR_len M N xs ys) fun F0 h vs h1 h2 => by
    obtain ⟨A, B, rfl, a, b⟩ := two_args h2
    exact Mul_rw (lin_in h1 hx a) (lin_in h1 hy b)
instance : CallIs Try.prog 22 := .of Try.func22 rfl rfl
theorem refInverseT {N : Int} {xs : List Nat} (hx : All64 xs) : Fn Try.prog 23 [linT N xs] (fun t => t = .tup [linT (invR N xs).1 (invR N xs).2.1, giT (invR N xs).2.2]) :=
  Fn_ans (invR_len N xs) fun F0 h vs h1 h2 => by
    obtain ⟨A, rfl, a⟩ := one_arg h2
    exact Inverse_rw (lin_in h1 hx a)
instance : CallIs Try.prog 23 := .of Try.func23 rfl rfl
theorem refRankT {N : Int} {xs : List Nat} (hx : All64 xs) : Fn Try.prog 24 [linT N xs] (fun t => t = .tup [giT (rankR N xs).1, giT (rankR N xs).2]) :=
  Fn_ansV (fun F => rep_pairII _ _) fun F0 h vs h1 h2 => by
    obtain ⟨A, rfl, a⟩ := one_arg h2
    exact Rank_rw (lin_in h1 hx a)
instance : CallIs Try.prog 24 := .of Try.func24 rfl rfl
/-- two objects of one's own, all slots as they are -/
theorem TR.enter2 {h h0 : IHp} {s : Nat → Value} {b b2 t t2 : Nat} {x x2 : Bool} {cs cs2 : List Tr} {vs vs2 : List Value} (e : Ext h0 h) (hb : h0.fresh ≤ b) (hb2 : h0.fresh ≤ b2) (hne : b ≠ b2) (o : ObjIs h b vs t x) (o2 : ObjIs h b2 vs2 t2 x2) (hr : RepL h0.cell? cs vs) (hr2 : RepL h0.cell? cs2 vs2) :
    TR ⟨h0, h0.cell?, []⟩ h0.cell? (fun i => .v (s i)) [(b, .cells cs t x), (b2, .cells cs2 t2 x2)] s h := by
  have new : ∀ (b : Nat), b % 2 = 0 → h0.fresh ≤ b → ∀ off, h0.cell? b off = none := by
    intro b he hb off
    cases hc : h0.cell? b off with
    | none => rfl
    | some v =>
      simp only [IHp.cell?] at hc
      rw [if_neg (by omega)] at hc
      have : h0.new[b / 2]? = none := List.getElem?_eq_none (by unfold IHp.fresh at hb; omega)
      rw [this] at hc
      cases hc
  refine ⟨e, Sub.refl _, fun b off v hf => cell_ext e hf, fun b off v hf => .inl hf, fun p hp => ?_, fun p hp he => ?_, by simp [hne], by simp, fun i => rep_v _⟩
  · rcases List.mem_cons.1 hp with rfl | hp
    · exact ⟨vs, hr, o⟩
    · rw [List.mem_singleton.1 hp]; exact ⟨vs2, hr2, o2⟩
  · rcases List.mem_cons.1 hp with rfl | hp
    · exact ⟨hb, new _ o.even hb⟩
    · rw [List.mem_singleton.1 hp]; exact ⟨hb2, new _ o2.even hb2⟩
end Go.Ideal

-- Gea
set_option linter.unusedSimpArgs false
set_option linter.unusedVariables false
namespace Go.Ideal
open Go Go.Proofs Go.RowKit
/-! ### A matrix among the arguments -/
set_option maxRecDepth 100000 in
theorem rows_of {h : IHp} {n : Nat} {v : Value} (hd : IRd Try.prog h (n + 2) 48 [v]) : ∃ xs : List Nat, Rep h.cell? (.sl 1 (linRows xs)) v ∧ All64 xs :=
  slice_tree (n := n + 1) (fun x => [guT x]) (fun x => x < 2 ^ 64) (UnderIs.eq : Try.prog.underlying 48 = _) (by kernel_rfl) (fun row hr => by
    rw [IRd, (UnderIs.eq : Try.prog.underlying 27 = _)] at hr
    obtain ⟨z, rfl, g⟩ := hr
    obtain ⟨x, rfl, hx⟩ := wf_u64 g
    exact ⟨x, RepL.cons (rep_v _) RepL.nil, hx⟩) hd
set_option maxRecDepth 100000 in
theorem lin_of {h : IHp} {n : Nat} {cs : List Value} (hd : IRd Try.prog h (n + 3) 50 cs) : ∃ N xs, RepL h.cell? (linCs N xs) cs ∧ All64 xs := by
  have hu : ∃ f0 f1, Try.prog.underlying 50 = some (.struct #[f0, f1]) ∧ f0.type = 3 ∧ f0.offset = 0 ∧ f1.type = 48 ∧ f1.offset = 1 := ⟨_, _, Try.underlying50, rfl, rfl, rfl, rfl⟩
  obtain ⟨f0, f1, hu, t0, o0, t1, o1⟩ := hu
  have c0 : Try.prog.cellsOf 3 = 1 := by kernel_rfl
  have c1 : Try.prog.cellsOf 48 = 1 := by kernel_rfl
  have c2 : Try.prog.cellsOf 50 = 2 := by kernel_rfl
  rw [IRd, hu] at hd
  obtain ⟨hl, hf⟩ := hd
  rw [c2] at hl
  match cs, hl with
  | [v0, v1], _ =>
    have h0 := hf 0 f0 rfl
    have h1 := hf 1 f1 rfl
    rw [t0, o0, c0] at h0
    rw [t1, o1, c1] at h1
    simp only [List.drop_zero, List.take_succ_cons, List.take_zero, List.drop_succ_cons] at h0 h1
    rw [IRd, (UnderIs.eq : Try.prog.underlying 3 = _)] at h0
    obtain ⟨N, h2, _⟩ := h0
    cases h2
    obtain ⟨xs, r, w⟩ := rows_of h1
    exact ⟨N, xs, RepL.cons (rep_v _) (RepL.cons r RepL.nil), w⟩
end Go.Ideal

-- Gh
set_option linter.unusedSimpArgs false
set_option linter.unusedVariables false
namespace Go.Ideal
open Go Go.Proofs Go.RowKit
/-! ### The law LinearKeeps -/
instance {xs : List Nat} : LenT (linRows xs) xs.length := ⟨by simp [linRows]⟩
instance {xs : List Nat} : LenO (linRows xs) xs.length := ⟨by simp [linRows]⟩
theorem linRows_app (xs ys : List Nat) : linRows xs ++ linRows ys = linRows (xs ++ ys) := by simp [linRows]
theorem push2_new {h : IHp} (hn : h.new = []) (o p : IObj) : ((h.push o).push p).new = [o, p] := by simp [IHp.push, hn]
theorem V_slot2 {P : Program} {E : Env} {c : Code} {Q : IExit → SK} {s : Nat → Value} {h : IHp} (i j : Nat) {v w : Value} [g : Get s i v] [g2 : Get s j w] (k : ∀ s', Get s' i v → Get s' j w → V P E c Q s' h) : V P E c Q s h := k s g g2
instance {dq : List ((Nat × Nat) × Nat)} : LenT (cxRows dq) dq.length := ⟨by simp [cxRows]⟩
theorem drop_consG {α : Type} {l : List α} {k : Nat} {a : α} (h : l[k]? = some a) : l.drop k = a :: l.drop (k + 1) := by
  obtain ⟨hk, rfl⟩ := List.getElem?_eq_some_iff.1 h
  exact List.drop_eq_getElem_cons hk
theorem qB_is {fam : List (Nat × Int × Int)} {k b : Nat} {x y : Int} (h : fam[k]? = some (b, x, y)) : BoxIs (qB fam) b (.arr 1 [[intT x], [intT y]] 3 true) := ⟨List.mem_map.2 ⟨(b, x, y), List.mem_of_getElem? h, rfl⟩⟩
theorem qB_in {fam : List (Nat × Int × Int)} {k b : Nat} {x y : Int} (h : fam[k]? = some (b, x, y)) : InKeys (qB fam) b := ⟨List.mem_map.2 ⟨_, (qB_is h).mem, rfl⟩⟩
theorem qB_put {fam : List (Nat × Int × Int)} {k b : Nat} {x y : Int} (h : fam[k]? = some (b, x, y)) (x' y' : Int) : BoxPut (qB fam) b b (.arr 1 [[intT x'], [intT y']] 3 true) (qB (fam.set k (b, x', y'))) := ⟨by
  have hk := (List.getElem?_eq_some_iff.1 h).1
  have hd := drop_consG h
  refine ⟨qB (fam.take k), .arr 1 [[intT x], [intT y]] 3 true, qB (fam.drop (k + 1)), ?_, ?_⟩
  · conv => lhs; rw [← List.take_append_drop k fam, hd]
    simp [qB]
  · rw [List.set_eq_take_append_cons_drop, if_pos hk]
    simp [qB]⟩
theorem lin_set {zs : List Nat} {i w : Nat} : SetR (linRows zs) i [guT w] (linRows (zs.set i w)) := ⟨by simp [linRows, List.map_set]⟩
set_option synthInstance.maxSize 4000 in
set_option synthInstance.maxHeartbeats 400000 in
set_option maxHeartbeats 4000000 in
theorem linearKeeps {M N : Int} {xs ys : List Nat} {cs ds : List Value} {h : IHp} (hnew : h.new = []) (hx : All64 xs) (hy : All64 ys) (sx2 : 8 * xs.length ≤ 2 ^ 47 - 4096) (hr : RepL h.cell? (linCs M xs) cs) (hr2 : RepL h.cell? (linCs N ys) ds) :
    EvX Try.prog 4 [.agg cs.toArray, .agg ds.toArray].toArray h (fun v h' => v = .bool true) := by
  have hcs : ∀ {K : Int} {zs : List Nat} {cs : List Value}, RepL h.cell? (linCs K zs) cs → ∃ (a : Option Addr) (l c : Nat), cs = [.int .i64 K, .slice a l c] := by
    intro K zs cs h2
    simp only [linCs, RepL, Rep] at h2
    obtain ⟨_, _, rfl, rfl, _, _, rfl, ⟨a, l, c, rfl, _⟩, rfl⟩ := h2
    exact ⟨a, l, c, rfl⟩
  obtain ⟨a1, l1, c1, rfl⟩ := hcs hr
  obtain ⟨a2, l2, c2, rfl⟩ := hcs hr2
  clear hcs
  refine EvX_of Try.func4 rfl (by show 2 ≤ 204; decide) ?_
  repeat' (first | refine V_seq ?_ | refine V_region ?_ | refine WS_nil ?_ | refine S_normal ?_ | refine WS_assign ?_ | refine WS_box_agg rfl ?_)
  refine WS_call (alive20 (push2_new hnew _ _)) ?_
  rintro _ H ⟨rfl, eX⟩
  have oA : ObjIs H h.fresh [.int .i64 M, .slice a1 l1 c1] 50 true := inferInstance
  have oB : ObjIs H (h.push (.cells [.int .i64 M, .slice a1 l1 c1] 50 true)).fresh [.int .i64 N, .slice a2 l2 c2] 50 true := inferInstance
  have e0 : Ext h H := ((Ext.push h _).push' _).trans eX
  repeat' (first | refine WS_not ?_ | refine WS_nil ?_ | refine S_normal ?_ | refine V_seq ?_ | refine V_skip ?_ | refine C_normal ?_ | (refine V_cond ?_ ?_ <;> intro hc <;> try (cases hc; done)))
  refine V_slot2 2 3 ?_
  intro s g2 g3
  rw [push_fresh] at g3 oB
  apply V_of_TV (X := ⟨h, h.cell?, []⟩) (F := h.cell?) (σ := fun i => .v (s i)) (B := [(h.fresh, .cells (linCs M xs) 50 true), (h.fresh + 2, .cells (linCs N ys) 50 true)])
  case r => exact TR.enter2 e0 (Nat.le_refl _) (by omega) (by omega) oA oB hr hr2
  case l => repeat' (first | exact LiftQ.ret (Φ := fun r => r = .v (.bool true)) (fun F r v h' hr hp => by subst hp; simpa [Rep] using hr) | apply LiftQ.seq)
  have t2 : TGet (fun i => Tr.v (s i)) 2 (.v (.pointer (some (ad h.fresh 0)))) := tget_v g2.eq
  have t3 : TGet (fun i => Tr.v (s i)) 3 (.v (.pointer (some (ad (h.fresh + 2) 0)))) := tget_v g3.eq
  generalize (fun i => Tr.v (s i)) = σ at t2 t3
  generalize h.fresh + 2 = pb at t3 ⊢
  generalize h.fresh = pa at t2 ⊢
  clear g2 g3 oA oB hr hr2
  have hA1 : AsNat ((xs.length : Nat) : Int) xs.length := ⟨rfl⟩
  refine TV_cutN (fun σ B => ∃ bf, TGet σ 2 (.v (.pointer (some (ad pa 0)))) ∧ TGet σ 3 (.v (.pointer (some (ad pb 0)))) ∧ TGet σ 5 (.v (.slice (some (ad bf 0)) (xs.length + 2) (xs.length + 2))) ∧
      SubP B [(pa, .cells (linCs M xs) 50 true), (pb, .cells (linCs N ys) 50 true), (bf, .arr 1 (linRows (xs ++ [71, 72])) 27 false)]) ?_ ?_
  · repeat (first | refine StepC.go ?_ | intro _ | (refine TS_append_own ?_ (fun _ => ?_); · omega))
    rename_i b1 x1 b2 bf
    have e1 : ([] ++ linRows xs ++ [[.v (.int .u64 71)], [.v (.int .u64 72)]] : List (List Tr)) = linRows (xs ++ [71, 72]) := by simp [linRows]
    simp only [Nat.zero_add, List.isEmpty_cons, Bool.false_and]
    rw [e1]
    exact ⟨bf, inferInstance, inferInstance, inferInstance, inferInstance⟩
  rintro σ B ⟨bf, t2, t3, t5, hB⟩
  refine TV_keep _ (p := hB) ?_
  clear hB hA1 e0 eX hc
  have hA3 : AsNat (((linRows xs).length : Nat) : Int) xs.length := ⟨by simp [linRows]⟩
  have hL2 : LenT (linRows (xs ++ [71, 72])) (xs.length + 2) := ⟨by simp [linRows]⟩
  have hpre : PreR (linRows (xs ++ [71, 72])) xs.length (xs.length + 2) (linRows xs) := ⟨by rw [← linRows_app, List.take_left' (by simp [linRows])], by simp [linRows], by omega⟩
  have hsm : Sm63 (xs.length + 2) := ⟨by omega⟩
  have hrx : RealX (linRows (xs ++ [71, 72])) false := ⟨fun h => by simp [linRows] at h⟩
  have hle : xs.length ≤ xs.length + 2 := by omega
  repeat (first | refine StepC.go ?_ | refine TD_take rfl rfl ?_ | refine TD_load rfl rfl ?_ | refine TV_draw (id := 4) (plan := [.take 0, .take 1, .take 2, .take 3, .take 4, .take 5, .take 6, .take 7, .one 8, .one 9]) (by kernel_rfl) ?_)
  refine TD_takew rfl rfl (Pu.slice_own (j := xs.length) hle) ?_
  repeat (first | refine StepC.go ?_ | intro _ | refine TD_take rfl rfl ?_ | refine TD_one rfl ?_ | refine FiltT_nil ?_ | refine FiltT_drop rfl ?_ | refine FiltT_keep rfl ?_)
  have cRank := linRankT (N := M) hx
  have cRank2 := refRankT (N := M) hx
  have cMul := linMulO (M := M) (N := N) hx hy
  have cMul2 := refMulT (M := M) (N := N) hx hy
  have aR := mulR_64 (M := M) (N := N) (xs := xs) hy
  have lR := mulR_len M N xs ys
  have cInv := linInvO (N := M) hx
  have cInv2 := refInverseT (N := M) hx
  have aQ := invR_64 (N := M) (xs := xs)
  have lQ := invR_len M xs
  obtain ⟨lS, fS⟩ := synR_ok (N := M) hx
  have cSyn := linSynthO (N := M) hx
  have cSyn2 := linSynthN (N := M) hx lS
  generalize rankR M xs = K at cRank cRank2
  generalize mulR M N xs ys = R at cMul cMul2 aR lR
  generalize invR M xs = Q at cInv cInv2 aQ lQ
  generalize synR M xs = S at cSyn cSyn2 lS fS
  refine TS_callE cRank ?_
  repeat (refine StepC.go ?_)
  rename_i po
  refine TS_callGE (n := R.2.1.length) (m := 1) (e := 27) (rows := linRows R.2.1) (fun v => .tup [.agg [giT R.1, .v v], giT R.2.2]) cMul (fun h => by rw [List.eq_nil_of_length_eq_zero h]; rfl) (fun v => inferInstance) (linRows_flat _) ?_
  intro bp
  repeat (first | refine StepC.go ?_ | intro _)
  rename_i pp
  refine TS_callN (Φ := FrzO (.tup [linT Q.1 Q.2.1, giT Q.2.2])) (Ψ := fun t => t = .tup [linT Q.1 Q.2.1, giT Q.2.2]) cInv (fun r B h => ⟨h.1, h.2.1⟩) (fun r B h => ⟨_, h.2.2, rfl⟩) ?_
  rintro _ rfl
  repeat (first | refine StepC.go ?_ | intro _)
  rename_i pq
  refine TS_callSyn (fun v => .tup [.agg [intT S.1, intT 0, .v v], intT S.2.1]) cSyn (fun v => inferInstance) ?_
  intro bs dq hdq
  simp only [List.cons_append, List.nil_append]
  repeat (first | refine StepC.go ?_ | intro _)
  rename_i ps
  refine TS_callN (Φ := FrzO (.tup [circT ⟨S.1, 0, S.2.2.map cxOp⟩, intT S.2.1])) (Ψ := fun t => t = .tup [circT ⟨S.1, 0, S.2.2.map cxOp⟩, intT S.2.1]) cSyn2 (fun r B h => ⟨h.1, h.2.1⟩) (fun r B h => ⟨_, h.2.2, rfl⟩) ?_
  rintro _ rfl
  repeat (first | refine StepC.go ?_ | intro _)
  rename_i pt
  refine TS_call cMul2 ?_
  rintro _ rfl
  repeat (first | refine StepC.go ?_ | intro _)
  rename_i pwp
  refine TS_call cInv2 ?_
  rintro _ rfl
  repeat (first | refine StepC.go ?_ | intro _)
  rename_i pwq
  refine TS_call cRank2 ?_
  rintro _ rfl
  refine TS_cut (fun σ B => TGet σ 2 (.v (.pointer (some (ad pa 0)))) ∧ TGet σ 5 (.v (.slice (some (ad bf 0)) (xs.length + 2) (xs.length + 2))) ∧ TGet σ 6 (.v (.pointer (some (ad po 0)))) ∧ TGet σ 7 (giT K.1) ∧ TGet σ 9 (.v (.pointer (some (ad pp 0)))) ∧ TGet σ 10 (giT R.2.2) ∧ TGet σ 11 (.v (.pointer (some (ad pq 0)))) ∧ TGet σ 12 (giT Q.2.2) ∧
      TGet σ 13 (.v (.pointer (some (ad ps 0)))) ∧ TGet σ 14 (giT S.2.1) ∧ TGet σ 15 (.v (.pointer (some (ad pt 0)))) ∧ TGet σ 17 (.v (.pointer (some (ad pwp 0)))) ∧ TGet σ 18 (giT R.2.2) ∧ TGet σ 19 (.v (.pointer (some (ad pwq 0)))) ∧ TGet σ 20 (giT Q.2.2) ∧ TGet σ 21 (giT K.1) ∧
      SubP B ((pa, .cells (linCs M xs) 50 true) :: (po, .cells [giT M, .v (.slice (some (ad bf 0)) xs.length (xs.length + 2))] 50 true) :: (bf, .arr 1 (linRows (xs ++ [71, 72])) 27 false) :: (pp, .cells [giT R.1, .v (gsv bp R.2.1.length)] 50 true) :: (bp, .arr 1 (linRows R.2.1) 27 false) ::
        (pq, .cells (linCs Q.1 Q.2.1) 50 true) :: (ps, .cells [intT S.1, intT 0, .v (gsv bs dq.length)] 24 true) :: (bs, .arr 7 (cxRows dq) 29 false) :: (pt, .cells (circCs ⟨S.1, 0, S.2.2.map cxOp⟩) 24 true) :: (pwp, .cells (linCs R.1 R.2.1) 50 true) :: (pwq, .cells (linCs Q.1 Q.2.1) 50 true) :: qB (famOf dq))) ?_ ?_
  · repeat (refine StepC.go ?_)
    exact ⟨inferInstance, inferInstance, inferInstance, inferInstance, inferInstance, inferInstance, inferInstance, inferInstance, inferInstance, inferInstance, inferInstance, inferInstance, inferInstance, inferInstance, inferInstance, inferInstance, inferInstance⟩
  rintro σ B ⟨t2, t5, t6, t7, t9, t10, t11, t12, t13, t14, t15, t17, t18, t19, t20, t21, hB⟩
  refine TV_keep _ (p := hB) ?_
  clear hB
  have ng1 : NthG (linRows (xs ++ [71, 72])) xs.length [guT 71] := ⟨by simp [linRows]⟩
  have ng2 : NthG (linRows (xs ++ [71, 72])) (xs.length + 1) [guT 72] := ⟨by simp [linRows, List.getElem?_append_right]⟩
  have hLn : (linRows xs).length = xs.length := by simp [linRows]
  have hA4 : AsNat (((linRows xs).length : Nat) + (1 : Int)) (xs.length + 1) := ⟨by simp [linRows]⟩
  repeat (first | refine StepC.go ?_ | (refine TS_on rfl ?_ ?_; · first | rfl | assumption))
  refine TS_callE (linSameT hx (by omega)) ?_
  repeat (first | refine StepC.go ?_ | (refine TS_on rfl ?_ ?_; · first | rfl | assumption) | (refine TS_puw (Pu.addi ?_) ?_; · omega) | (refine TV_cond_f ?_ ?_; · first | rfl | assumption))
  clear hpre hrx ng1 ng2 hA4 t6 t7 t10 t12 t18 t20 t21
  refine TV_loop (fun d σ B => ∃ (i : Nat) (zs : List Nat), d = xs.length - i ∧ i ≤ xs.length ∧ zs.length = xs.length + 2 ∧ TGet σ 23 (intT i) ∧ TGet σ 2 (.v (.pointer (some (ad pa 0)))) ∧ TGet σ 5 (.v (.slice (some (ad bf 0)) (xs.length + 2) (xs.length + 2))) ∧ TGet σ 9 (.v (.pointer (some (ad pp 0)))) ∧ TGet σ 11 (.v (.pointer (some (ad pq 0)))) ∧
      TGet σ 13 (.v (.pointer (some (ad ps 0)))) ∧ TGet σ 14 (giT S.2.1) ∧ TGet σ 15 (.v (.pointer (some (ad pt 0)))) ∧ TGet σ 17 (.v (.pointer (some (ad pwp 0)))) ∧ TGet σ 19 (.v (.pointer (some (ad pwq 0)))) ∧
      SubP B ((pa, .cells (linCs M xs) 50 true) :: (bf, .arr 1 (linRows zs) 27 false) :: (pp, .cells [giT R.1, .v (gsv bp R.2.1.length)] 50 true) :: (bp, .arr 1 (linRows R.2.1) 27 false) ::
        (pq, .cells (linCs Q.1 Q.2.1) 50 true) :: (ps, .cells [intT S.1, intT 0, .v (gsv bs dq.length)] 24 true) :: (bs, .arr 7 (cxRows dq) 29 false) :: (pt, .cells (circCs ⟨S.1, 0, S.2.2.map cxOp⟩) 24 true) :: (pwp, .cells (linCs R.1 R.2.1) 50 true) :: (pwq, .cells (linCs Q.1 Q.2.1) 50 true) :: qB (famOf dq))) xs.length
    ⟨0, xs ++ [71, 72], by omega, by omega, by simp, tget_as rfl, inferInstance, inferInstance, inferInstance, inferInstance, inferInstance, inferInstance, inferInstance, inferInstance, inferInstance, inferInstance⟩ ?_
  clear t2 t5 t9 t11 t13 t14 t15 t17 t19 hL2
  rintro d σ B ⟨i, zs, rfl, hi, hzs, t23, t2, t5, t9, t11, t13, t14, t15, t17, t19, hB⟩
  refine TV_keep _ (p := hB) ?_
  clear hB
  repeat (refine StepC.go ?_)
  refine TV_cond ?_ ?_ <;> intro hc2
  · have hil : i < xs.length := by have := of_decide_eq_true hc2; omega
    obtain ⟨z, hz⟩ : ∃ z, zs[i]? = some z := ⟨_, List.getElem?_eq_getElem (by omega)⟩
    have ngz : NthG (linRows zs) i [guT z] := .map (fun x => [guT x]) hz
    have stz : SetR (linRows zs) i [.v (.int .u64 73)] (linRows (zs.set i 73)) := lin_set
    have lz : LenT (linRows zs) (xs.length + 2) := ⟨by simp [linRows, hzs]⟩
    have rz : RealX (linRows zs) false := ⟨fun h => by have := congrArg List.length h; simp [linRows, hzs] at this⟩
    repeat (first | refine StepC.go ?_ | (refine TS_puw (Pu.addi ?_) ?_; · omega))
    exact ⟨_, by omega, i + 1, zs.set i 73, rfl, by omega, by simpa using hzs, tget_as rfl, inferInstance, inferInstance, inferInstance, inferInstance, inferInstance, inferInstance, inferInstance, inferInstance, inferInstance, inferInstance⟩
  have hil : i = xs.length := by have := of_decide_eq_false hc2; omega
  subst hil
  repeat (refine StepC.go ?_)
  have sR : Sm63 R.2.1.length := ⟨by omega⟩
  refine TS_callE (linSameT aR (by omega)) ?_
  repeat (first | refine StepC.go ?_ | (refine TS_on rfl ?_ ?_; · first | rfl | assumption))
  refine TS_callE (linSameT aQ (by omega)) ?_
  repeat (first | refine StepC.go ?_ | (refine TS_on rfl ?_ ?_; · first | rfl | assumption) | (refine TV_cond_f ?_ ?_; · first | rfl | assumption))
  clear t5 t17 hzs hLn
  refine TV_loop (fun d σ B => ∃ (i : Nat) (zs : List Nat), d = R.2.1.length - i ∧ i ≤ R.2.1.length ∧ zs.length = R.2.1.length ∧ TGet σ 24 (intT i) ∧ TGet σ 9 (.v (.pointer (some (ad pp 0)))) ∧ TGet σ 2 (.v (.pointer (some (ad pa 0)))) ∧ TGet σ 11 (.v (.pointer (some (ad pq 0)))) ∧ TGet σ 13 (.v (.pointer (some (ad ps 0)))) ∧ TGet σ 14 (giT S.2.1) ∧ TGet σ 15 (.v (.pointer (some (ad pt 0)))) ∧ TGet σ 19 (.v (.pointer (some (ad pwq 0)))) ∧
      SubP B ((pa, .cells (linCs M xs) 50 true) :: (pp, .cells [giT R.1, .v (gsv bp R.2.1.length)] 50 true) :: (bp, .arr 1 (linRows zs) 27 false) :: (pq, .cells (linCs Q.1 Q.2.1) 50 true) :: (ps, .cells [intT S.1, intT 0, .v (gsv bs dq.length)] 24 true) :: (bs, .arr 7 (cxRows dq) 29 false) :: (pt, .cells (circCs ⟨S.1, 0, S.2.2.map cxOp⟩) 24 true) :: (pwq, .cells (linCs Q.1 Q.2.1) 50 true) :: qB (famOf dq))) R.2.1.length
    ⟨0, R.2.1, by omega, by omega, rfl, tget_as rfl, inferInstance, inferInstance, inferInstance, inferInstance, inferInstance, inferInstance, inferInstance, inferInstance⟩ ?_
  clear t2 t9 t11 t13 t14 t15 t19 t23
  rintro d σ B ⟨i, zs, rfl, hi, hzs, t24, t9, t2, t11, t13, t14, t15, t19, hB⟩
  refine TV_keep _ (p := hB) ?_
  clear hB
  repeat (refine StepC.go ?_)
  refine TV_cond ?_ ?_ <;> intro hc2
  · have hil : i < R.2.1.length := by have := of_decide_eq_true hc2; omega
    obtain ⟨z, hz⟩ : ∃ z, zs[i]? = some z := ⟨_, List.getElem?_eq_getElem (by omega)⟩
    have ngz : NthG (linRows zs) i [guT z] := .map (fun x => [guT x]) hz
    have stz : SetR (linRows zs) i [.v (.int .u64 74)] (linRows (zs.set i 74)) := lin_set
    have lz : LenT (linRows zs) R.2.1.length := ⟨by simp [linRows, hzs]⟩
    have rz : RealX (linRows zs) false := ⟨fun h => by
      have h9 : zs = [] := by simpa [linRows] using h
      rw [h9] at hzs; simp at hzs; omega⟩
    repeat (first | refine StepC.go ?_ | (refine TS_puw (Pu.addi ?_) ?_; · omega))
    exact ⟨_, by omega, i + 1, zs.set i 74, rfl, by omega, by simpa using hzs, tget_as rfl, inferInstance, inferInstance, inferInstance, inferInstance, inferInstance, inferInstance, inferInstance, inferInstance⟩
  repeat (refine StepC.go ?_)
  refine TV_loop (fun d σ B => ∃ (i : Nat) (fam : List (Nat × Int × Int)), d = dq.length - i ∧ i ≤ dq.length ∧ fam.map Prod.fst = dq.map Prod.snd ∧ TGet σ 25 (intT i) ∧ TGet σ 2 (.v (.pointer (some (ad pa 0)))) ∧ TGet σ 11 (.v (.pointer (some (ad pq 0)))) ∧ TGet σ 13 (.v (.pointer (some (ad ps 0)))) ∧ TGet σ 14 (giT S.2.1) ∧ TGet σ 15 (.v (.pointer (some (ad pt 0)))) ∧ TGet σ 19 (.v (.pointer (some (ad pwq 0)))) ∧
      SubP B ((pa, .cells (linCs M xs) 50 true) :: (pq, .cells (linCs Q.1 Q.2.1) 50 true) :: (ps, .cells [intT S.1, intT 0, .v (gsv bs dq.length)] 24 true) :: (bs, .arr 7 (cxRows dq) 29 false) :: (pt, .cells (circCs ⟨S.1, 0, S.2.2.map cxOp⟩) 24 true) :: (pwq, .cells (linCs Q.1 Q.2.1) 50 true) :: qB fam)) dq.length
    ⟨0, famOf dq, by omega, by omega, by simp [famOf, Function.comp_def], tget_as rfl, inferInstance, inferInstance, inferInstance, inferInstance, inferInstance, inferInstance, inferInstance⟩ ?_
  clear t2 t9 t11 t13 t14 t15 t19 t24
  rintro d σ B ⟨i, fam, rfl, hi2, hfam, t25, t2, t11, t13, t14, t15, t19, hB⟩
  refine TV_keep _ (p := hB) ?_
  clear hB
  repeat (refine StepC.go ?_)
  refine TV_cond ?_ ?_ <;> intro hc3
  · have hil : i < dq.length := by have := of_decide_eq_true hc3; omega
    have hdl : dq.length < 2 ^ 62 := by have := congrArg List.length hdq; simp only [List.length_map] at this; omega
    obtain ⟨c, hc⟩ : ∃ c, dq[i]? = some c := ⟨_, List.getElem?_eq_getElem hil⟩
    have ngc : NthG (cxRows dq) i (cxRow c) := .map cxRow hc
    repeat (refine StepC.go ?_)
    refine TV_loop (fun d σ B => ∃ (j : Nat) (fam : List (Nat × Int × Int)), d = 2 - j ∧ j ≤ 2 ∧ fam.map Prod.fst = dq.map Prod.snd ∧ TGet σ 26 (intT j) ∧ TGet σ 25 (intT i) ∧ TGet σ 2 (.v (.pointer (some (ad pa 0)))) ∧ TGet σ 11 (.v (.pointer (some (ad pq 0)))) ∧ TGet σ 13 (.v (.pointer (some (ad ps 0)))) ∧ TGet σ 14 (giT S.2.1) ∧ TGet σ 15 (.v (.pointer (some (ad pt 0)))) ∧ TGet σ 19 (.v (.pointer (some (ad pwq 0)))) ∧
        SubP B ((pa, .cells (linCs M xs) 50 true) :: (pq, .cells (linCs Q.1 Q.2.1) 50 true) :: (ps, .cells [intT S.1, intT 0, .v (gsv bs dq.length)] 24 true) :: (bs, .arr 7 (cxRows dq) 29 false) :: (pt, .cells (circCs ⟨S.1, 0, S.2.2.map cxOp⟩) 24 true) :: (pwq, .cells (linCs Q.1 Q.2.1) 50 true) :: qB fam)) 2
      ⟨0, fam, by omega, by omega, hfam, tget_as rfl, inferInstance, inferInstance, inferInstance, inferInstance, inferInstance, inferInstance, inferInstance, inferInstance⟩ ?_
    clear t2 t11 t13 t14 t15 t19 t25 hfam fam
    rintro d σ B ⟨j, fam, rfl, hj, hfam, t26, t25, t2, t11, t13, t14, t15, t19, hB⟩
    refine TV_keep _ (p := hB) ?_
    clear hB
    repeat (refine StepC.go ?_)
    refine TV_cond ?_ ?_ <;> intro hc4
    · have hjl : j < 2 := by have := of_decide_eq_true hc4; omega
      have hfl : fam.length = dq.length := by have := congrArg List.length hfam; simpa using this
      obtain ⟨⟨b, x, y⟩, hfi⟩ : ∃ x, fam[i]? = some x := ⟨_, List.getElem?_eq_getElem (by omega)⟩
      have hbc : b = c.2 := by
        have h1 := congrArg (fun l => l[i]?) hfam
        simp only [List.getElem?_map, hfi, hc, Option.map_some, Option.some.injEq] at h1
        exact h1
      subst hbc
      have hset : ∀ u : Int × Int, (fam.set i (c.2, u)).map Prod.fst = dq.map Prod.snd := fun u => by
        rw [List.map_set, hfam]
        refine List.ext_getElem? fun k => ?_
        by_cases hk : i = k
        · subst hk; rw [List.getElem?_set_self (by simpa using hil)]; simp [hc]
        · rw [List.getElem?_set_ne hk]
      have q1 := qB_is hfi
      have q2 := qB_in hfi
      rcases (by omega : j = 0 ∨ j = 1) with rfl | rfl
      · have q3 := qB_put hfi (-1) y
        have sr : SetR [[intT x], [intT y]] 0 [.v (.int .i64 (-1))] [[intT (-1)], [intT y]] := ⟨rfl⟩
        repeat (first | refine StepC.go ?_ | (refine TS_puw (Pu.addi ?_) ?_; · omega))
        exact ⟨_, by omega, 0 + 1, fam.set i (c.2, -1, y), rfl, by omega, hset _, tget_as rfl, inferInstance, inferInstance, inferInstance, inferInstance, inferInstance, inferInstance, inferInstance, inferInstance⟩
      · have q3 := qB_put hfi x (-1)
        have sr : SetR [[intT x], [intT y]] 1 [.v (.int .i64 (-1))] [[intT x], [intT (-1)]] := ⟨rfl⟩
        repeat (first | refine StepC.go ?_ | (refine TS_puw (Pu.addi ?_) ?_; · omega))
        exact ⟨_, by omega, 1 + 1, fam.set i (c.2, x, -1), rfl, by omega, hset _, tget_as rfl, inferInstance, inferInstance, inferInstance, inferInstance, inferInstance, inferInstance, inferInstance, inferInstance⟩
    repeat (first | refine StepC.go ?_ | (refine TS_puw (Pu.addi ?_) ?_; · omega))
    exact ⟨_, by omega, i + 1, fam, rfl, by omega, hfam, tget_as rfl, inferInstance, inferInstance, inferInstance, inferInstance, inferInstance, inferInstance, inferInstance⟩
  repeat (refine StepC.go ?_)
  refine TV_cond ?_ ?_ <;> intro hc4
  · repeat (refine StepC.go ?_)
    refine TS_callE (linSameT aQ (by omega)) ?_
    repeat (refine StepC.go ?_)
    exact retT_1 (.inr rfl) rfl
  have h0 : S.2.1 = 0 := by simpa using hc4
  obtain ⟨fe, fl⟩ := fS h0
  repeat (refine StepC.go ?_)
  refine TS_call (linFromT (cx_w _ _) fe fl) ?_
  rintro _ rfl
  repeat (first | refine StepC.go ?_ | intro _ | (refine TS_on rfl ?_ ?_; · first | rfl | assumption))
  refine TS_callE (linSameT hx fl) ?_
  repeat (first | refine StepC.go ?_ | (refine TS_on rfl ?_ ?_; · first | rfl | assumption))
  refine TS_callE (linSameT aQ (by omega)) ?_
  repeat (refine StepC.go ?_)
  exact retT_1 (.inr rfl) rfl
end Go.Ideal

-- Gi
set_option linter.unusedSimpArgs false
set_option linter.unusedVariables false
namespace Go.Ideal
open Go Go.Proofs Go.RowKit
/-! ### A matrix among the arguments, and how long it is -/
theorem reach_le {n : Nat} (h : n ≤ reachBytes) : n ≤ 2 ^ 47 - 4096 := by
  have h2 : reachBytes = 2 ^ 47 - 4096 := by decide
  rw [h2] at h
  exact h
set_option maxRecDepth 100000 in
theorem lin_sz {h : IHp} {n : Nat} {N : Int} {xs : List Nat} {cs : List Value} (hr : RepL h.cell? (linCs N xs) cs) (hz : SzD Try.prog h (n + 3) 50 cs) : 8 * xs.length ≤ reachBytes := by
  have hu : ∃ f0 f1, Try.prog.underlying 50 = some (.struct #[f0, f1]) ∧ f1.type = 48 ∧ f1.offset = 1 := ⟨_, _, Try.underlying50, rfl, rfl⟩
  obtain ⟨f0, f1, hu, t1, o1⟩ := hu
  have c1 : Try.prog.cellsOf 48 = 1 := by kernel_rfl
  have b1 : Try.prog.bytesOf 27 = 8 := by kernel_rfl
  simp only [linCs, RepL, Rep] at hr
  obtain ⟨_, _, rfl, rfl, _, _, rfl, ⟨a, l, c, rfl, h2, _⟩, rfl⟩ := hr
  rw [SzD, hu] at hz
  have h1 := hz 1 f1 rfl
  rw [t1, o1, c1] at h1
  simp only [List.drop_succ_cons, List.drop_zero, List.take_succ_cons, List.take_zero] at h1
  rw [SzD, (UnderIs.eq : Try.prog.underlying 48 = _)] at h1
  have h3 := (h1 a l c rfl).1
  rw [b1] at h3
  have : xs.length = l := by rw [← h2]; simp [linRows]
  rw [Nat.mul_comm, this]; exact h3
set_option maxRecDepth 100000 in
theorem lin_tree2 {h : IHp} {n : Nat} {cs : List Value} (hd : IRd Try.prog h (n + 3) 50 cs) (hz : SzD Try.prog h (n + 3) 50 cs) : ∃ x : Int × List Nat, (All64 x.2 ∧ 8 * x.2.length ≤ reachBytes) ∧ RepL h.cell? (linCs x.1 x.2) cs := by
  obtain ⟨N, xs, r, w⟩ := lin_of hd
  exact ⟨(N, xs), ⟨w, lin_sz r hz⟩, r⟩
theorem linearKeepsW {h : IHp} {x y : Int × List Nat} {cs ds : List Value} (hnew : h.new = []) (m : (All64 x.2 ∧ 8 * x.2.length ≤ reachBytes) ∧ RepL h.cell? (linCs x.1 x.2) cs) (m2 : (All64 y.2 ∧ 8 * y.2.length ≤ reachBytes) ∧ RepL h.cell? (linCs y.1 y.2) ds) :
    EvX Try.prog 4 #[.agg cs.toArray, .agg ds.toArray] h (fun v _ => v = .bool true) := linearKeeps hnew m.1.1 m2.1.1 (reach_le m.1.2) m.2 m2.2
end Go.Ideal
