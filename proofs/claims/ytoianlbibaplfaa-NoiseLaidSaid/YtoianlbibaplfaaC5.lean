/- Part 5 of what the proof stands on: an interpreter over an ideal memory that is proved sound, steps over it, and contracts of the functions that are called. No condition: no law is claimed here. -/
import Derived.Test.YtoianlbibaplfaaC4
import Derived.Carry
import Derived.OpenShut
-- Cf
set_option linter.unusedSimpArgs false
set_option linter.unusedVariables false
namespace Go.Ideal
open Go Go.Proofs
/-! ### circuit.fault -/
def bmS (bits : Int) : Nat := if bits = 64 then 2 ^ 64 - 1 else 2 ^ bits.toNat - 1
def knownS (o : OpD) : Bool := decide (o.kind = 1) || decide (o.kind = 2) || decide (o.kind = 3)
def bad5 (o : OpD) (bits : Int) : Bool := !knownS o || (o.iff && decide ((o.mask : Int) = 0)) || (!o.iff && (!decide ((o.mask : Int) = 0) || !decide ((o.value : Int) = 0))) || !decide (anS o.mask (bmS bits) = 0) || !decide (anS o.value o.mask = 0)
theorem bmS_lt {bits : Int} (hb : 0 ≤ bits ∧ bits ≤ 64) : bmS bits < 2 ^ 64 := by
  unfold bmS
  split
  · decide
  · have : 2 ^ bits.toNat ≤ 2 ^ 64 := Nat.pow_le_pow_right (by decide) (by omega)
    have : 0 < 2 ^ bits.toNat := Nat.pow_pos (by decide)
    omega
theorem anS_zero {v m : Nat} (hv : v < 2 ^ 64) (hm : m < 2 ^ 64) : anS v m = 0 ↔ ∀ i, v.testBit i = true → m.testBit i = true := by
  have h1 : anS v m = (((BitVec.ofNat 64 v) &&& ~~~(BitVec.ofNat 64 m)).toNat : Int) := by
    show IntKind.u64.wrap (((BitVec.ofInt 64 v) &&& ~~~(BitVec.ofInt 64 m)).toNat : Int) = _
    rw [BitVec.ofInt_natCast, BitVec.ofInt_natCast]
    have hlt : ((BitVec.ofNat 64 v) &&& ~~~(BitVec.ofNat 64 m)).toNat < 2 ^ 64 := BitVec.isLt _
    exact wrap_u64_id (Int.natCast_nonneg _) (by omega)
  rw [h1]
  have h2 : ((((BitVec.ofNat 64 v) &&& ~~~(BitVec.ofNat 64 m)).toNat : Nat) : Int) = 0 ↔ ((BitVec.ofNat 64 v) &&& ~~~(BitVec.ofNat 64 m)) = 0#64 := by
    constructor
    · intro h; apply BitVec.eq_of_toNat_eq; simpa using (Int.natCast_eq_zero.1 h)
    · intro h; rw [h]; rfl
  rw [h2]
  constructor
  · intro h i hi
    have hi64 : i < 64 := by
      apply Decidable.byContradiction
      intro hc
      rw [Nat.testBit_lt_two_pow (Nat.lt_of_lt_of_le hv (Nat.pow_le_pow_right (by decide) (by omega)))] at hi
      cases hi
    have h3 := congrArg (fun b => b.getLsbD i) h
    simp only [BitVec.getLsbD_and, BitVec.getLsbD_not, BitVec.getLsbD_ofNat, hi64, decide_true, Bool.true_and, hi, BitVec.getLsbD_zero] at h3
    simpa using h3
  · intro h
    apply BitVec.eq_of_getLsbD_eq
    intro i hi
    simp only [BitVec.getLsbD_and, BitVec.getLsbD_not, BitVec.getLsbD_ofNat, hi, decide_true, Bool.true_and, BitVec.getLsbD_zero]
    cases hvi : v.testBit i with
    | false => simp
    | true => rw [h i hvi]; simp
theorem beyond_an {x : Nat} {bits : Int} (hx : x < 2 ^ 64) (hb : 0 ≤ bits ∧ bits ≤ 64) : (!decide (anS x (bmS bits) = 0)) = beyondS x bits := by
  have hbit : ∀ i, (bmS bits).testBit i = decide (i < bits.toNat) := by
    intro i
    unfold bmS
    split
    · rename_i h
      rw [Nat.testBit_two_pow_sub_one, h]; rfl
    · rw [Nat.testBit_two_pow_sub_one]
  have key : anS x (bmS bits) = 0 ↔ beyondS x bits = false := by
    rw [anS_zero hx (bmS_lt hb)]
    unfold beyondS
    rw [Nat.shiftRight_eq_div_pow]
    constructor
    · intro h
      by_cases h64 : bits < 64
      · have hlt : x < 2 ^ bits.toNat := by
          apply Nat.lt_pow_two_of_testBit
          intro i hi
          cases hxi : x.testBit i with
          | false => rfl
          | true => have := h i hxi; rw [hbit] at this; simp at this; omega
        simp [h64, Nat.div_eq_of_lt hlt]
      · simp [h64]
    · intro h i hi
      rw [hbit]
      by_cases h64 : bits < 64
      · simp only [h64, decide_true, Bool.true_and, Bool.not_eq_false', decide_eq_true_eq] at h
        have hlt : x < 2 ^ bits.toNat := by
          have h0 : x / 2 ^ bits.toNat = 0 := Int.natCast_eq_zero.1 h
          exact (Nat.div_eq_zero_iff_lt (Nat.pow_pos (by decide))).1 h0
        apply Decidable.byContradiction
        intro hc
        rw [Nat.testBit_lt_two_pow (Nat.lt_of_lt_of_le hlt (Nat.pow_le_pow_right (by decide) (by simp at hc; omega)))] at hi
        cases hi
      · apply Decidable.byContradiction
        intro hc
        rw [Nat.testBit_lt_two_pow (Nat.lt_of_lt_of_le hx (Nat.pow_le_pow_right (by decide) (by simp at hc; omega)))] at hi
        cases hi
  cases hc : beyondS x bits with
  | false => rw [decide_eq_true (key.2 hc)]; rfl
  | true => rw [decide_eq_false (fun h => by rw [key.1 h] at hc; cases hc)]; rfl
theorem bad_same {o : OpD} {bits : Int} (hm : o.mask < 2 ^ 64) (hv : o.value < 2 ^ 64) (hb : 0 ≤ bits ∧ bits ≤ 64) : (bad5 o bits || bad4 o) = shapeBad o bits := by
  unfold bad5 shapeBad
  rw [beyond_an hm hb]
  have hk : (!knownS o) = bad1 o := by
    unfold knownS bad1
    by_cases h1 : o.kind = 1
    · simp [h1]
    by_cases h2 : o.kind = 2
    · simp [h2]
    by_cases h3 : o.kind = 3
    · simp [h3]
    simp only [h1, h2, h3, decide_false, Bool.or_false, Bool.not_false]
    symm
    rw [Bool.or_eq_true, decide_eq_true_eq, decide_eq_true_eq]
    omega
  rw [hk]
  have hz : beyondS 0 bits = false := by simp [beyondS]
  have ha : anS 0 0 = 0 := (anS_zero (by decide) (by decide)).2 fun i hi => by simp at hi
  cases hi : o.iff with
  | true =>
    simp only [bad2, bad3, hi, Bool.true_and, Bool.not_true, Bool.false_and, Bool.or_false]
    cases bad1 o <;> cases decide ((o.mask : Int) = 0) <;> cases beyondS o.mask bits <;> cases decide (anS o.value o.mask = 0) <;> cases bad4 o <;> rfl
  | false =>
    simp only [bad2, bad3, hi, Bool.true_and, Bool.not_false, Bool.false_and, Bool.or_false]
    by_cases h1 : (o.mask : Int) = 0
    · by_cases h2 : (o.value : Int) = 0
      · have e1 : o.mask = 0 := by omega
        have e2 : o.value = 0 := by omega
        rw [e1, e2, hz, ha]
        cases bad1 o <;> cases bad4 o <;> rfl
      · simp only [h1, h2, decide_true, decide_false, Bool.not_true, Bool.not_false, Bool.false_or, Bool.or_true, Bool.true_or]
    · simp only [h1, decide_false, Bool.not_false, Bool.true_or, Bool.or_true]
theorem bm_64 {bits : Int} (h : bits = 64) : (18446744073709551615 : Int) = (bmS bits : Nat) := by rw [bmS, if_pos h]; decide
theorem bm_lt {bits : Int} (h0 : 0 ≤ bits) (h1 : bits ≤ 64) (h : ¬ bits = 64) : IntKind.u64.wrap (IntKind.u64.wrap (1 * 2 ^ min bits.toNat IntKind.u64.bits) - 1) = (bmS bits : Nat) := by
  rw [shl_one h0 (by omega), bmS, if_neg h]
  have hp : 0 < 2 ^ bits.toNat := Nat.pow_pos (by decide)
  have hq : 2 ^ bits.toNat ≤ 2 ^ 64 := Nat.pow_le_pow_right (by decide) (by omega)
  rw [wrap_u64_id (by omega) (by omega)]
  omega
end Go.Ideal

-- Cg
set_option linter.unusedSimpArgs false
set_option linter.unusedVariables false
namespace Go.Ideal
open Go Go.Proofs
set_option maxHeartbeats 8000000 in
theorem fault_spec (o : OpD) (a : Option Addr) (l c : Nat) (q bits : Int) (cv : Option Addr) (cl cc : Nat) (hb : 0 ≤ bits ∧ bits ≤ 64) (hm : o.mask < 2 ^ 64) (hv : o.value < 2 ^ 64) (h : IHp) (hs : SlIs h a l c (ints o.qs)) (hc63 : c < 2 ^ 63) (hsp : SpotOk a c) :
    EvX Try.prog 50 [.agg [.int .i64 q, .int .i64 bits, .slice cv cl cc].toArray, .agg (o.cells a l c).toArray].toArray h (fun v h' => v = .int .i64 (faultS o q bits) ∧ Ext h h') := by
  have hlen : o.qs.length = l := by have := hs.1; rwa [ints_len] at this
  have hlc : l ≤ c := hs.2.1
  refine EvX_of Try.func50 rfl (by show 2 ≤ 142; decide) ?_
  unfold OpD.cells
  repeat (first | refine V_seq ?_ | refine V_region ?_ | refine WS_nil ?_ | refine S_normal ?_ | refine WS_move ?_ | refine WS_assign ?_ | refine WS_cmp rfl ?_ | refine WS_fieldAddr ?_ | refine WS_load ?_ | refine WS_box_agg rfl ?_)
  refine WS_gen ?_
  intro H hH
  obtain ⟨r, hr⟩ : ∃ r, r = (h.push (.cells [.int .i64 q, .int .i64 bits, .slice cv cl cc] 24 true)).fresh := ⟨_, rfl⟩
  have o2 : ObjIs H h.fresh [.int .i64 q, .int .i64 bits, .slice cv cl cc] 24 true := hH ▸ inferInstance
  have o3 : ObjIs H r [.int .i64 o.kind, .string o.name, .slice a l c, .int .i64 o.bit, .bool o.iff, .int .u64 o.mask, .int .u64 o.value] 49 true := hr ▸ hH ▸ inferInstance
  have eH : Ext h H := hH ▸ (Ext.push _ _).push' _
  rw [← hr]
  clear hH hr
  generalize h.fresh = p at *
  refine WS_cut (fun s' h' => Get s' 5 (.bool (knownS o)) ∧ Get s' 2 (.pointer (some (ad p 0))) ∧ Get s' 3 (.pointer (some (ad r 0))) ∧ h' = H) ?_ ?_
  · repeat' (first | refine WS_nil ?_ | refine WS_off rfl (by first | rfl | assumption) ?_ | refine WS_on rfl (by first | rfl | assumption) ?_ | refine WS_move ?_ | refine WS_assign ?_ | refine WS_pick_t (by first | rfl | assumption) ?_ | refine WS_pick_f (by first | rfl | assumption) ?_ | refine WS_cmp rfl ?_ | refine WS_fieldAddr ?_ | refine WS_load ?_ | (refine WS_guard rfl ?_ ?_ <;> intro hg))
    all_goals exact ⟨get_as (by simp only [knownS, *] <;> rfl), inferInstance, inferInstance, rfl⟩
  rintro s H ⟨g5, g2, g3, rfl⟩
  repeat (first | refine V_seq ?_ | refine V_region ?_ | refine WS_nil ?_ | refine S_normal ?_ | refine WS_assign ?_ | refine WS_cmp rfl ?_ | refine WS_arith rfl ?_ | refine WS_fieldAddr ?_ | refine WS_load ?_ | refine WS_shift (by first | decide | omega) rfl ?_)
  refine V_cut (fun s' h' => Get s' 6 (.int .u64 (bmS bits : Nat)) ∧ Get s' 5 (.bool (knownS o)) ∧ Get s' 2 (.pointer (some (ad p 0))) ∧ Get s' 3 (.pointer (some (ad r 0))) ∧ h' = H) ?_ ?_
  · refine V_cond ?_ ?_ <;> intro hk
    · repeat' (first | refine V_region ?_ | refine WS_nil ?_ | refine C_normal ?_ | refine WS_assign ?_)
      exact ⟨get_as (congrArg (Value.int .u64) (bm_64 (by simpa using hk))), inferInstance, inferInstance, inferInstance, rfl⟩
    · repeat' (first | refine V_skip ?_ | refine C_normal ?_)
      exact ⟨get_as (congrArg (Value.int .u64) (bm_lt hb.1 hb.2 (by simpa using hk))), inferInstance, inferInstance, inferInstance, rfl⟩
  rintro s H ⟨g6, g5, g2, g3, rfl⟩
  repeat (first | refine V_seq ?_ | refine V_region ?_ | refine WS_nil ?_ | refine S_normal ?_ | refine V_block ?_ | refine WS_move ?_ | refine WS_assign ?_ | refine WS_not ?_)
  refine V_cut (fun s' h' => Get s' 32 (.bool (bad5 o bits)) ∧ Get s' 2 (.pointer (some (ad p 0))) ∧ Get s' 3 (.pointer (some (ad r 0))) ∧ h' = H) ?_ ?_
  · repeat' (first | refine V_seq ?_ | refine V_region ?_ | refine WS_nil ?_ | refine S_normal ?_ | refine V_skip ?_ | refine C_normal ?_ | refine WS_off rfl (by first | rfl | assumption) ?_ | refine WS_on rfl (by first | rfl | assumption) ?_ | refine WS_move ?_ | refine WS_assign ?_ | refine WS_pick_t (by first | rfl | assumption) ?_ | refine WS_pick_f (by first | rfl | assumption) ?_ | refine WS_off_undef rfl ?_ | refine WS_cmp rfl ?_ | refine WS_arith rfl ?_ | refine WS_not ?_ | refine WS_fieldAddr ?_ | refine WS_load ?_ | (refine WS_guard rfl ?_ ?_ <;> intro hg) | refine V_cond_t (by first | rfl | assumption) ?_ | refine V_cond_f (by first | rfl | assumption) ?_ | (refine V_cond ?_ ?_ <;> intro hc <;> try (cases hc; done)))
    all_goals exact ⟨get_as (by simp_all [bad5, anS] <;> rfl), inferInstance, inferInstance, rfl⟩
  rintro s H ⟨g32, g2, g3, rfl⟩
  skip
  refine V_cond ?_ ?_ <;> intro h5
  · repeat' (first | refine V_seq ?_ | refine V_region ?_ | refine WS_nil ?_ | refine S_normal ?_ | refine V_ret ?_ | refine S_ret ?_ | refine B_ret ?_ | refine WS_assign ?_)
    refine retK_1 ⟨?_, eH⟩ (.inr rfl)
    rw [faultS, ← bad_same hm hv hb, h5]; rfl
  repeat (first | refine V_seq ?_ | refine V_region ?_ | refine WS_move ?_ | refine WS_cmp rfl ?_ | refine WS_fieldAddr ?_ | refine WS_load ?_)
  refine WS_cut (fun s' h' => Get s' 66 (.bool (!decide (o.kind = 1) && !beqS o.name ⟨#[]⟩)) ∧ Get s' 2 (.pointer (some (ad p 0))) ∧ Get s' 3 (.pointer (some (ad r 0))) ∧ h' = H) ?_ ?_
  · repeat' (first | refine WS_nil ?_ | refine WS_off rfl (by first | rfl | assumption) ?_ | refine WS_on rfl (by first | rfl | assumption) ?_ | refine WS_assign ?_ | refine WS_pick_t (by first | rfl | assumption) ?_ | refine WS_pick_f (by first | rfl | assumption) ?_ | refine WS_strne ?_ | refine WS_fieldAddr ?_ | refine WS_load ?_ | (refine WS_guard rfl ?_ ?_ <;> intro hg))
    all_goals exact ⟨get_as (by simp only [*] <;> rfl), inferInstance, inferInstance, rfl⟩
  rintro s H ⟨g66, g2, g3, rfl⟩
  skip
  refine V_cond ?_ ?_ <;> intro h41
  · repeat' (first | refine V_seq ?_ | refine V_region ?_ | refine WS_nil ?_ | refine S_normal ?_ | refine V_skip ?_ | refine V_ret ?_ | refine S_ret ?_ | refine B_ret ?_ | refine WS_assign ?_ | refine V_cond_t (by first | rfl | assumption) ?_)
    refine retK_1 ⟨?_, eH⟩ (.inr rfl)
    rw [faultS, ← bad_same hm hv hb, h5, bad4, h41]; rfl
  repeat (first | refine V_region ?_ | refine WS_move ?_ | refine WS_cmp rfl ?_ | refine WS_fieldAddr ?_ | refine WS_load ?_)
  refine WS_cut (fun s' h' => Get s' 66 (.bool (!decide (o.kind = 2) && !decide (o.bit = 0))) ∧ Get s' 2 (.pointer (some (ad p 0))) ∧ Get s' 3 (.pointer (some (ad r 0))) ∧ h' = H) ?_ ?_
  · repeat' (first | refine WS_nil ?_ | refine WS_off rfl (by first | rfl | assumption) ?_ | refine WS_on rfl (by first | rfl | assumption) ?_ | refine WS_assign ?_ | refine WS_pick_t (by first | rfl | assumption) ?_ | refine WS_pick_f (by first | rfl | assumption) ?_ | refine WS_cmp rfl ?_ | refine WS_fieldAddr ?_ | refine WS_load ?_ | (refine WS_guard rfl ?_ ?_ <;> intro hg))
    all_goals exact ⟨get_as (by simp only [*] <;> rfl), inferInstance, inferInstance, rfl⟩
  rintro s H ⟨g66, g2, g3, rfl⟩
  skip
  refine V_cond ?_ ?_ <;> intro h42
  · repeat' (first | refine V_seq ?_ | refine V_region ?_ | refine WS_nil ?_ | refine S_normal ?_ | refine V_ret ?_ | refine S_ret ?_ | refine B_ret ?_ | refine WS_assign ?_)
    refine retK_1 ⟨?_, eH⟩ (.inr rfl)
    rw [faultS, ← bad_same hm hv hb, h5, bad4, h41, h42]; rfl
  have hsb : ¬ shapeBad o bits = true := by rw [← bad_same hm hv hb, h5, bad4, h41, h42]; decide
  repeat (first | refine V_seq ?_ | refine V_region ?_ | refine WS_nil ?_ | refine S_normal ?_ | refine B_normal ?_ | refine V_skip ?_ | refine WS_assign ?_ | refine WS_cmp rfl ?_ | refine WS_fieldAddr ?_ | refine WS_load ?_)
  refine V_cut (fun s' h' => ∃ H2, Get s' 7 (.int .i64 (nS o)) ∧ (o.kind = 1 → arityS o.name ≠ 0) ∧ Get s' 2 (.pointer (some (ad p 0))) ∧ Get s' 3 (.pointer (some (ad r 0))) ∧ h' = H2 ∧ Ext H H2) ?_ ?_
  · refine V_cond ?_ ?_ <;> intro hk
    · repeat' (first | refine V_seq ?_ | refine V_region ?_ | refine WS_fieldAddr ?_ | refine WS_load ?_)
      refine WS_call (gateArity_spec o.name _) ?_
      rintro _ H2 ⟨rfl, e2⟩
      have hk1 : o.kind = 1 := by simpa using hk
      repeat' (first | refine V_seq ?_ | refine V_region ?_ | refine WS_nil ?_ | refine S_normal ?_ | refine V_skip ?_ | refine V_ret ?_ | refine S_ret ?_ | refine C_normal ?_ | refine C_ret ?_ | refine WS_move ?_ | refine WS_assign ?_ | refine WS_cmp rfl ?_ | (refine V_cond ?_ ?_ <;> intro hc <;> try (cases hc; done)))
      · refine retK_1 ⟨?_, eH.trans e2⟩ (.inr rfl)
        rw [faultS, if_neg hsb, if_pos ⟨hk1, by simpa using hc⟩]
      · exact ⟨H2, get_as (by simp [nS, hk1]), fun _ => by simpa using hc, inferInstance, inferInstance, rfl, e2⟩
    · repeat' (first | refine V_skip ?_ | refine C_normal ?_)
      have hk1 : ¬ o.kind = 1 := by simpa using hk
      exact ⟨H, get_as (by simp [nS, hk1]), fun h => absurd h hk1, inferInstance, inferInstance, rfl, Ext.refl _⟩
  rintro s H2 ⟨_, g7, hk1, g2, g3, rfl, e2⟩
  have p2 := ObjIs.ext (e := e2) (i := o2)
  have p3 := ObjIs.ext (e := e2) (i := o3)
  have eH2 := eH.trans e2
  clear e2 eH o2 o3
  have hk2 : ¬ (o.kind = 1 ∧ arityS o.name = 0) := fun hh => hk1 hh.1 hh.2
  repeat (first | refine V_seq ?_ | refine V_region ?_ | refine WS_nil ?_ | refine S_normal ?_ | refine WS_move ?_ | refine WS_cmp rfl ?_ | refine WS_len_slice ?_ | refine WS_fieldAddr ?_ | refine WS_load ?_)
  refine V_cond ?_ ?_ <;> intro hn
  · have hn1 : (o.qs.length : Int) ≠ nS o := by rw [hlen]; simpa using hn
    repeat' (first | refine V_seq ?_ | refine V_region ?_ | refine WS_nil ?_ | refine S_normal ?_ | refine V_ret ?_ | refine S_ret ?_ | refine WS_assign ?_)
    refine retK_1 ⟨?_, eH2⟩ (.inr rfl)
    rw [faultS, if_neg hsb, if_neg hk2, if_pos hn1]
  have hn2 : ¬ (o.qs.length : Int) ≠ nS o := by rw [hlen]; simpa using hn
  repeat (first | refine V_seq ?_ | refine V_region ?_ | refine WS_nil ?_ | refine S_normal ?_ | refine V_block ?_ | refine V_skip ?_ | refine WS_move ?_ | refine WS_len_slice ?_ | refine WS_fieldAddr ?_ | refine WS_load ?_)
  refine V_loop (fun d s h' => ∃ i : Int, d = (l - i).toNat ∧ 0 ≤ i ∧ i ≤ l ∧ Get s 99 (.int .i64 i) ∧ Get s 98 (.int .i64 l) ∧ Get s 97 (.slice a l c) ∧ Get s 2 (.pointer (some (ad p 0))) ∧ Get s 3 (.pointer (some (ad r 0))) ∧ h' = H2 ∧ (o.qs.take i.toNat).any (outS q) = false) l
    ⟨0, by omega, by omega, by omega, inferInstance, inferInstance, inferInstance, inferInstance, inferInstance, rfl, by simp⟩ ?_
  rintro d s H2 ⟨i, rfl, hi0, hi1, g99, g98, g97, g2, g3, rfl, hany⟩
  repeat (first | refine V_seq ?_ | refine V_region ?_ | refine WS_nil ?_ | refine S_normal ?_ | refine WS_cmp rfl ?_)
  refine V_cond ?_ ?_ <;> intro hi
  · have hil : i < l := by simpa using hi
    obtain ⟨b, v, rfl, hv1, c1⟩ := (hs.ext eH2).at hi0 hil
    obtain ⟨x, rfl, hx⟩ := ints_get hv1
    have hbnd : 0 ≤ i ∧ i < (l : Int) := ⟨hi0, hil⟩
    repeat (first | refine V_seq ?_ | refine V_region ?_ | refine WS_nil ?_ | refine S_normal ?_ | refine V_block ?_ | refine V_skip ?_ | refine WS_move ?_ | refine WS_assign ?_ | refine WS_cmp rfl ?_ | refine WS_load ?_ | refine WS_indexAddr (by first | decide | omega) ?_)
    refine WS_cut (fun s' h' => Get s' 110 (.bool (outS q x)) ∧ Get s' 99 (.int .i64 i) ∧ Get s' 98 (.int .i64 l) ∧ Get s' 97 (.slice (some b) l c) ∧ Get s' 2 (.pointer (some (ad p 0))) ∧ Get s' 3 (.pointer (some (ad r 0))) ∧ h' = H2) ?_ ?_
    · repeat' (first | refine WS_nil ?_ | refine WS_off rfl (by first | rfl | assumption) ?_ | refine WS_on rfl (by first | rfl | assumption) ?_ | refine WS_move ?_ | refine WS_pick_t (by first | rfl | assumption) ?_ | refine WS_pick_f (by first | rfl | assumption) ?_ | refine WS_cmp rfl ?_ | refine WS_fieldAddr ?_ | refine WS_load ?_ | (refine WS_guard rfl ?_ ?_ <;> intro hg))
      all_goals exact ⟨get_as (by rw [outS, hg]; rfl), inferInstance, inferInstance, inferInstance, inferInstance, inferInstance, rfl⟩
    rintro s H2 ⟨g110, g99, g98, g97, g2, g3, rfl⟩
    repeat' (first | refine V_seq ?_ | refine V_region ?_ | refine WS_nil ?_ | refine S_normal ?_ | refine B_normal ?_ | refine V_skip ?_ | refine V_ret ?_ | refine S_ret ?_ | refine B_ret ?_ | refine WS_move ?_ | refine WS_assign ?_ | refine WS_addi (by omega) ?_ | (refine V_cond ?_ ?_ <;> intro hc <;> try (cases hc; done)))
    · refine retK_1 ⟨?_, eH2⟩ (.inr rfl)
      rw [faultS, if_neg hsb, if_neg hk2, if_neg hn2, if_pos (any_at hx hc)]
    · refine ⟨_, ?_, i + 1, rfl, by omega, by omega, inferInstance, inferInstance, inferInstance, inferInstance, inferInstance, rfl, ?_⟩
      · omega
      · rw [show (i + 1).toNat = i.toNat + 1 by omega]; exact any_take hany hx hc
  have hil : i = l := by simp at hi; omega
  rw [hil, Int.toNat_natCast, List.take_of_length_le (by omega)] at hany
  repeat (first | refine V_seq ?_ | refine V_region ?_ | refine S_normal ?_ | refine V_exit ?_ | refine S_exit ?_ | refine B_exit ?_ | refine WS_move ?_ | refine WS_cmp rfl ?_ | refine WS_fieldAddr ?_ | refine WS_load ?_)
  refine WS_cut (fun s' h' => Get s' 126 (.bool (bitBad o bits)) ∧ Get s' 3 (.pointer (some (ad r 0))) ∧ h' = H2) ?_ ?_
  · repeat' (first | refine WS_nil ?_ | refine WS_off rfl (by first | rfl | assumption) ?_ | refine WS_on rfl (by first | rfl | assumption) ?_ | refine WS_move ?_ | refine WS_pick_t (by first | rfl | assumption) ?_ | refine WS_pick_f (by first | rfl | assumption) ?_ | refine WS_off_undef rfl ?_ | refine WS_cmp rfl ?_ | refine WS_fieldAddr ?_ | refine WS_load ?_ | (refine WS_guard rfl ?_ ?_ <;> intro hg))
    all_goals exact ⟨get_as (by simp only [bitBad, *] <;> rfl), inferInstance, rfl⟩
  rintro s H2 ⟨g126, g3, rfl⟩
  skip
  refine V_cond ?_ ?_ <;> intro hbb
  · repeat' (first | refine V_seq ?_ | refine V_region ?_ | refine WS_nil ?_ | refine S_normal ?_ | refine V_ret ?_ | refine S_ret ?_ | refine WS_assign ?_)
    refine retK_1 ⟨?_, eH2⟩ (.inr rfl)
    rw [faultS, if_neg hsb, if_neg hk2, if_neg hn2, if_neg (by rw [hany]; decide), if_pos hbb]
  repeat (first | refine V_seq ?_ | refine V_region ?_ | refine WS_nil ?_ | refine S_normal ?_ | refine V_block ?_ | refine V_skip ?_ | refine WS_move ?_ | refine WS_len_slice ?_ | refine WS_fieldAddr ?_ | refine WS_load ?_)
  refine V_loop (fun d s h' => ∃ i : Int, d = (l - i).toNat ∧ 0 ≤ i ∧ i ≤ l ∧ Get s 130 (.int .i64 i) ∧ Get s 129 (.int .i64 l) ∧ Get s 128 (.slice a l c) ∧ Get s 3 (.pointer (some (ad r 0))) ∧ h' = H2 ∧ dupK o.qs i.toNat = false) l
    ⟨0, by omega, by omega, by omega, inferInstance, inferInstance, inferInstance, inferInstance, rfl, rfl⟩ ?_
  rintro d s H2 ⟨i, rfl, hi0, hi1, g130, g129, g128, g3, rfl, hdup⟩
  repeat (first | refine V_seq ?_ | refine V_region ?_ | refine WS_nil ?_ | refine S_normal ?_ | refine WS_cmp rfl ?_)
  refine V_cond ?_ ?_ <;> intro hi
  · have hil : i < l := by simpa using hi
    obtain ⟨b, v, rfl, hv1, c1⟩ := (hs.ext eH2).at hi0 hil
    obtain ⟨x, rfl, hx⟩ := ints_get hv1
    have hbnd : 0 ≤ i ∧ i < (l : Int) := ⟨hi0, hil⟩
    have hspot : b.spot = none := by
      rcases hsp b rfl with h1 | h1
      · exact h1
      · omega
    repeat (first | refine V_seq ?_ | refine V_region ?_ | refine WS_nil ?_ | refine S_normal ?_ | refine V_block ?_ | refine V_skip ?_ | refine WS_move ?_ | refine WS_assign ?_ | refine WS_fieldAddr ?_ | refine WS_load ?_ | refine WS_indexAddr (by first | decide | omega) ?_)
    refine WS_slice_hi hspot (by omega) ?_
    repeat (refine WS_move ?_)
    have hsl : SlIs H2 (some (ad b.block b.off)) i.toNat c (ints (o.qs.take i.toNat)) := by
      obtain ⟨s1, s2, s3⟩ := hs.ext eH2
      refine ⟨by simp [ints]; omega, by omega, ?_⟩
      simp only at s3 ⊢
      have := row_take s3 (show i.toNat ≤ l by omega)
      rw [this, ints, ints, List.map_take]
    refine WS_call (Contains_spec _ _ _ _ x _ hsl (by omega)) ?_
    rintro _ _ ⟨rfl, rfl⟩
    repeat' (first | refine V_seq ?_ | refine V_region ?_ | refine WS_nil ?_ | refine S_normal ?_ | refine B_normal ?_ | refine V_skip ?_ | refine V_ret ?_ | refine S_ret ?_ | refine B_ret ?_ | refine WS_move ?_ | refine WS_assign ?_ | refine WS_addi (by omega) ?_ | (refine V_cond ?_ ?_ <;> intro hc <;> try (cases hc; done)))
    · have hd : dupK o.qs (i.toNat + 1) = true := by
        rw [dupK, getD_at hx, Bool.or_eq_true]; exact .inr hc
      refine retK_1 ⟨?_, eH2⟩ (.inr rfl)
      rw [faultS, if_neg hsb, if_neg hk2, if_neg hn2, if_neg (by rw [hany]; decide), if_neg (by rw [hbb]; decide), if_pos (dupK_more hd _ (by omega))]
    · refine ⟨_, ?_, i + 1, rfl, by omega, by omega, inferInstance, inferInstance, inferInstance, inferInstance, rfl, ?_⟩
      · omega
      · rw [show (i + 1).toNat = i.toNat + 1 by omega, dupK, hdup, getD_at hx, hc]; rfl
  have hil : i = l := by simp at hi; omega
  repeat' (first | refine V_seq ?_ | refine V_region ?_ | refine WS_nil ?_ | refine S_normal ?_ | refine V_exit ?_ | refine V_ret ?_ | refine S_exit ?_ | refine B_exit ?_ | refine WS_assign ?_)
  refine retK_1 ⟨?_, eH2⟩ (.inr rfl)
  rw [hil, Int.toNat_natCast, ← hlen] at hdup
  rw [faultS, if_neg hsb, if_neg hk2, if_neg hn2, if_neg (by rw [hany]; decide), if_neg (by rw [hbb]; decide), if_neg (by rw [hdup]; decide)]
instance : CallIs Try.prog 50 := .of Try.func50 rfl rfl
end Go.Ideal

-- Ch
set_option linter.unusedSimpArgs false
set_option linter.unusedVariables false
namespace Go.Ideal
open Go Go.Proofs
/-! ### Check -/
def rangeBad (c : CircD) : Bool := decide (c.qubits < 0) || decide (64 < c.qubits) || decide (c.bits < 0) || decide (64 < c.bits)
theorem rangeBad_no {c : CircD} (h : rangeBad c = false) : 0 ≤ c.qubits ∧ c.qubits ≤ 64 ∧ 0 ≤ c.bits ∧ c.bits ≤ 64 := by
  simp [rangeBad] at h; omega
def chkK (q b : Int) : List OpD → Int → Int → Int × Int
  | [], _, _ => (0, 0)
  | o :: os, i, n => if faultS o q b ≠ 0 then (i, faultS o q b) else if 36 < n + halvesO o then (i, 116) else chkK q b os (i + 1) (n + halvesO o)
def checkC (c : CircD) : Int × Int :=
  if rangeBad c = true then (0, 2) else if 4096 < c.ops.length then (0, 115) else chkK c.qubits c.bits c.ops 0 0
theorem drop_at {α : Type} {l : List α} {i : Nat} {x : α} (h : l[i]? = some x) : l.drop i = x :: l.drop (i + 1) := by
  have hi := (List.getElem?_eq_some_iff.1 h).1
  rw [List.drop_eq_getElem_cons hi]
  rw [List.getElem?_eq_getElem hi] at h
  rw [Option.some.inj h]
set_option maxHeartbeats 4000000 in
theorem circCheck_spec {c : CircD} {v : Value} {h : IHp} (hv : CircV h v c) : EvX Try.prog 28 [v].toArray h (fun v h' => v = .tuple [.int .i64 (checkC c).1, .int .i64 (checkC c).2].toArray ∧ Ext h h') := by
  obtain ⟨a, l, k, rfl, hops⟩ := hv
  have hlen : c.ops.length = l := hops.1
  have hlk : l ≤ k := hops.2.1
  refine EvX_of Try.func28 rfl (by show 1 ≤ 53; decide) ?_
  repeat (first | refine V_seq ?_ | refine V_region ?_ | refine WS_nil ?_ | refine S_normal ?_ | refine WS_move ?_ | refine WS_assign ?_ | refine WS_cmp rfl ?_ | refine WS_fieldAddr ?_ | refine WS_load ?_ | refine WS_box_agg rfl ?_)
  refine WS_gen ?_
  intro H hH
  have o1 : ObjIs H h.fresh [.int .i64 c.qubits, .int .i64 c.bits, .slice a l k] 24 true := hH ▸ inferInstance
  have eH : Ext h H := hH ▸ Ext.push _ _
  clear hH
  generalize h.fresh = p at *
  refine WS_cut (fun s' h' => Get s' 25 (.bool (rangeBad c)) ∧ Get s' 1 (.pointer (some (ad p 0))) ∧ h' = H) ?_ ?_
  · repeat' (first | refine WS_nil ?_ | refine WS_off rfl (by first | rfl | assumption) ?_ | refine WS_on rfl (by first | rfl | assumption) ?_ | refine WS_move ?_ | refine WS_pick_t (by first | rfl | assumption) ?_ | refine WS_pick_f (by first | rfl | assumption) ?_ | refine WS_cmp rfl ?_ | refine WS_fieldAddr ?_ | refine WS_load ?_ | (refine WS_guard rfl ?_ ?_ <;> intro hg))
    all_goals exact ⟨get_as (by simp only [rangeBad, *] <;> rfl), inferInstance, rfl⟩
  rintro s H ⟨g25, g1, rfl⟩
  skip
  refine V_cond ?_ ?_ <;> intro hr
  · repeat' (first | refine V_seq ?_ | refine V_region ?_ | refine WS_nil ?_ | refine S_normal ?_ | refine V_ret ?_ | refine S_ret ?_ | refine WS_assign ?_)
    refine retK_2 ⟨?_, eH⟩ (.inr rfl)
    rw [checkC, if_pos hr]
  have hrn : ¬ rangeBad c = true := by rw [hr]; decide
  obtain ⟨hq0, hq1, hb0, hb1⟩ := rangeBad_no hr
  repeat (first | refine V_seq ?_ | refine V_region ?_ | refine WS_nil ?_ | refine S_normal ?_ | refine V_skip ?_ | refine WS_cmp rfl ?_ | refine WS_len_slice ?_ | refine WS_fieldAddr ?_ | refine WS_load ?_)
  refine V_cond ?_ ?_ <;> intro hm
  · repeat' (first | refine V_seq ?_ | refine V_region ?_ | refine WS_nil ?_ | refine S_normal ?_ | refine V_ret ?_ | refine S_ret ?_ | refine WS_assign ?_)
    refine retK_2 ⟨?_, eH⟩ (.inr rfl)
    rw [checkC, if_neg hrn, if_pos (by simp at hm; omega)]
  have hmn : ¬ 4096 < c.ops.length := by simp at hm; omega
  repeat (first | refine V_seq ?_ | refine V_region ?_ | refine WS_nil ?_ | refine S_normal ?_ | refine V_block ?_ | refine V_skip ?_ | refine WS_move ?_ | refine WS_assign ?_ | refine WS_len_slice ?_ | refine WS_fieldAddr ?_ | refine WS_load ?_)
  refine V_loop (fun d s h' => ∃ i n : Int, d = (l - i).toNat ∧ 0 ≤ i ∧ i ≤ l ∧ 0 ≤ n ∧ n ≤ 36 ∧ Get s 33 (.int .i64 i) ∧ Get s 32 (.int .i64 l) ∧ Get s 31 (.slice a l k) ∧ Get s 4 (.int .i64 n) ∧ Get s 1 (.pointer (some (ad p 0))) ∧ Ext H h' ∧ chkK c.qubits c.bits c.ops 0 0 = chkK c.qubits c.bits (c.ops.drop i.toNat) i n) l
    ⟨0, 0, by omega, by omega, by omega, by omega, by omega, inferInstance, inferInstance, inferInstance, inferInstance, inferInstance, Ext.refl _, rfl⟩ ?_
  rintro d s h' ⟨i, n, rfl, hi0, hi1, hn0, hn1, g33, g32, g31, g4, g1, e', hK⟩
  repeat (first | refine V_seq ?_ | refine V_region ?_ | refine WS_nil ?_ | refine S_normal ?_ | refine WS_cmp rfl ?_)
  refine V_cond ?_ ?_ <;> intro hi
  · have hil : i < l := by simpa using hi
    obtain ⟨b, o, cells, rfl, ho, hrow, hC⟩ := ((hops.ext eH).ext e').at hi0 hil
    obtain ⟨qa, ql, qc, rfl, hs, hmk, hvl, hc63, hsp⟩ := hC
    unfold OpD.cells at hrow
    have hbnd : 0 ≤ i ∧ i < (l : Int) := ⟨hi0, hil⟩
    rw [drop_at ho, chkK] at hK
    repeat (first | refine V_seq ?_ | refine V_region ?_ | refine WS_nil ?_ | refine S_normal ?_ | refine V_block ?_ | refine V_skip ?_ | refine WS_move ?_ | refine WS_assign ?_ | refine WS_load_agg ?_ | refine WS_indexAddr (by first | decide | omega) ?_ | refine WS_alloc ?_ | refine WS_store rfl ?_)
    refine WS_gen ?_
    intro H1 hH1
    have o6 : ObjIs H1 h'.fresh [.int .i64 o.kind, .string o.name, .slice qa ql qc, .int .i64 o.bit, .bool o.iff, .int .u64 o.mask, .int .u64 o.value] 49 true := hH1 ▸ inferInstance
    have e1 : Ext h' H1 := hH1 ▸ (Ext.push _ _).putObj (Nat.le_refl _)
    have x1 : Ext H H1 := e'.trans e1
    clear hH1
    generalize h'.fresh = r at *
    repeat (refine WS_load_agg ?_)
    refine WS_call (fault_spec o qa ql qc c.qubits c.bits (some b) l k ⟨hb0, hb1⟩ hmk hvl _ (hs.ext e1) hc63 hsp) ?_
    rintro _ H2 ⟨rfl, e2⟩
    have x2 := x1.trans e2
    have o6' := ObjIs.ext (e := e2) (i := o6)
    clear e1 e2 x1 o6 e'
    repeat (first | refine V_seq ?_ | refine V_region ?_ | refine WS_nil ?_ | refine S_normal ?_ | refine WS_move ?_ | refine WS_assign ?_ | refine WS_cmp rfl ?_)
    refine V_cond ?_ ?_ <;> intro hf
    · have hf1 : faultS o c.qubits c.bits ≠ 0 := by simpa using hf
      repeat' (first | refine V_seq ?_ | refine V_region ?_ | refine WS_nil ?_ | refine S_normal ?_ | refine V_ret ?_ | refine S_ret ?_ | refine B_ret ?_ | refine WS_move ?_ | refine WS_assign ?_)
      refine retK_2 ⟨?_, eH.trans x2⟩ (.inr rfl)
      rw [checkC, if_neg hrn, if_neg hmn, hK, if_pos hf1]
    · have hf1 : ¬ faultS o c.qubits c.bits ≠ 0 := by simpa using hf
      repeat (first | refine V_seq ?_ | refine V_region ?_ | refine S_normal ?_ | refine V_skip ?_ | refine WS_move ?_ | refine WS_load_agg ?_)
      refine WS_call (halves_spec o qa ql qc _) ?_
      rintro _ H3 ⟨rfl, e3⟩
      have x3 := x2.trans e3
      have h01 := halvesO_01 o
      clear e3 x2 o6'
      repeat' (first | refine V_seq ?_ | refine V_region ?_ | refine WS_nil ?_ | refine S_normal ?_ | refine B_normal ?_ | refine V_skip ?_ | refine V_ret ?_ | refine S_ret ?_ | refine B_ret ?_ | refine WS_move ?_ | refine WS_assign ?_ | refine WS_cmp rfl ?_ | refine WS_addi (by omega) ?_ | (refine V_cond ?_ ?_ <;> intro hc <;> try (cases hc; done)))
      · refine retK_2 ⟨?_, eH.trans x3⟩ (.inr rfl)
        rw [checkC, if_neg hrn, if_neg hmn, hK, if_neg hf1, if_pos (by simpa using hc)]
      · have hc1 : ¬ 36 < n + halvesO o := by simpa using hc
        refine ⟨_, ?_, i + 1, n + halvesO o, rfl, by omega, by omega, by omega, by omega, inferInstance, inferInstance, inferInstance, inferInstance, inferInstance, x3, ?_⟩
        · omega
        · rw [hK, if_neg hf1, if_neg hc1, show (i + 1).toNat = i.toNat + 1 by omega]
  · have hil : i = l := by simp at hi; omega
    repeat' (first | refine V_seq ?_ | refine V_region ?_ | refine WS_nil ?_ | refine S_normal ?_ | refine V_exit ?_ | refine V_ret ?_ | refine S_exit ?_ | refine B_exit ?_ | refine WS_assign ?_)
    refine retK_2 ⟨?_, eH.trans e'⟩ (.inr rfl)
    rw [checkC, if_neg hrn, if_neg hmn, hK, List.drop_of_length_le (by omega)]; rfl
instance : CallIs Try.prog 28 := .of Try.func28 rfl rfl
instance : CallIs Try.prog 29 := .of Try.func29 rfl rfl
end Go.Ideal

-- Cia
set_option linter.unusedSimpArgs false
set_option linter.unusedVariables false
namespace Go.Ideal
open Go Go.Proofs Go.RowKit
theorem chk_ok {q b : Int} : ∀ (ops : List OpD) (i n : Int), (chkK q b ops i n).2 = 0 → ∀ o ∈ ops, faultS o q b = 0 := by
  intro ops
  induction ops with
  | nil => intro i n _ o ho; cases ho
  | cons o ops ih =>
    intro i n h o' ho'
    rw [chkK] at h
    split at h
    · rename_i hf; exact absurd h hf
    · rename_i hf
      split at h
      · cases h
      · rcases List.mem_cons.1 ho' with rfl | h2
        · exact Decidable.not_not.1 hf
        · exact ih _ _ h o' h2
theorem checkC_ok {c : CircD} (h : (checkC c).2 = 0) : rangeBad c = false ∧ c.ops.length ≤ 4096 ∧ ∀ o ∈ c.ops, faultS o c.qubits c.bits = 0 := by
  unfold checkC at h
  split at h
  · cases h
  · rename_i hr
    split at h
    · cases h
    · rename_i hm
      exact ⟨by simpa using hr, by omega, chk_ok _ _ _ h⟩
theorem fault_ok {o : OpD} {q b : Int} (h : faultS o q b = 0) : shapeBad o b = false ∧ ¬ (o.kind = 1 ∧ arityS o.name = 0) ∧ (o.qs.length : Int) = nS o ∧ o.qs.any (outS q) = false ∧ bitBad o b = false ∧ dupK o.qs o.qs.length = false := by
  unfold faultS at h
  split at h
  · cases h
  · rename_i h1
    split at h
    · cases h
    · rename_i h2
      split at h
      · cases h
      · rename_i h3
        split at h
        · cases h
        · rename_i h4
          split at h
          · cases h
          · rename_i h5
            split at h
            · cases h
            · rename_i h6
              exact ⟨by simpa using h1, h2, Decidable.not_not.1 h3, by simpa using h4, by simpa using h5, by simpa using h6⟩
end Go.Ideal

-- Bra
set_option linter.unusedSimpArgs false
set_option linter.unusedVariables false
namespace Go.Ideal
open Go Go.Proofs Go.RowKit
theorem wf_u64 {i : Int} (h : (Lit.int .u64 i).wf = true) : ∃ x : Nat, i = x ∧ x < 2 ^ 64 := by
  have := bounds_u64 h
  exact ⟨i.toNat, by omega, by omega⟩
theorem row_of {h : IHp} {b : Nat} : ∀ (n off : Nat) (f : Nat → Value), (∀ i, i < n → h.cell? b (off + i) = some (f i)) → h.row b off n = some ((List.range n).map f) := by
  intro n
  induction n with
  | zero => intro off f _; rfl
  | succ n ih =>
    intro off f hf
    have h0 := hf 0 (by omega)
    have h1 := ih (off + 1) (fun i => f (i + 1)) (fun i hi => by rw [show off + 1 + i = off + (i + 1) by omega]; exact hf (i + 1) (by omega))
    rw [Nat.add_zero] at h0
    simp only [IHp.row, h0, Option.bind_some, h1, List.range_succ_eq_map, List.map_cons, List.map_map]
    rfl
theorem row_one {h : IHp} {b off : Nat} {v : Value} (hr : h.row b off 1 = some [v]) : h.cell? b off = some v := by
  simp only [IHp.row, Option.bind_eq_some_iff] at hr
  obtain ⟨u, hu, vs, hvs, h3⟩ := hr
  have := Option.some.inj h3
  simp at this
  rw [hu, this.1]
theorem law_of_EvX {P : Program} {f : Nat} {args args' : Array Value} {w : World} (hP : okProg P = true) (h : EvX P f args (heapOf w) (fun v _ => v = .bool true)) (ha : RA RM0 args args') :
    Calls P f args' w fun e w' => e = .returned (.bool true) ∧ Below w.heap.size w w' := by
  unfold EvX at h
  obtain ⟨v, h', ⟨n, h1⟩, rfl⟩ := h
  exact law_of_ideal hP h1 ha
end Go.Ideal

-- Cka
set_option linter.unusedSimpArgs false
set_option linter.unusedVariables false
namespace Go.Ideal
open Go Go.Proofs Go.RowKit
set_option maxRecDepth 10000 in
theorem SlIs_ints {h : IHp} {n : Nat} {v : Value} (hd : IRd Try.prog h (n + 2) 47 [v]) : ∃ a l c xs, v = .slice a l c ∧ SlIs h a l c (ints xs) ∧ c < 2 ^ 63 ∧ SpotOk a c := by
  rw [IRd, (UnderIs.eq : Try.prog.underlying 47 = _)] at hd
  rcases hd with h1 | ⟨a, l, c, h1, h2, h3, h5, h4⟩
  · cases h1
    exact ⟨none, 0, 0, [], rfl, ⟨rfl, Nat.le_refl _, rfl⟩, by decide, fun d hd => by cases hd⟩
  · cases h1
    have hc : Try.prog.cellsOf 3 = 1 := by kernel_rfl
    have key : ∀ i, i < c → ∃ x : Int, h.cell? a.block (a.off + i) = some (.int .i64 x) := by
      intro i hi
      obtain ⟨row, g1, g2⟩ := h4 i hi
      rw [IRd, (UnderIs.eq : Try.prog.underlying 3 = _)] at g2
      obtain ⟨z, rfl, g3⟩ := g2
      rw [hc, Nat.mul_one] at g1
      exact ⟨z, row_one g1⟩
    have hex : ∃ f : Nat → Int, ∀ i, i < l → h.cell? a.block (a.off + i) = some (.int .i64 (f i)) :=
      ⟨fun i => if hi : i < c then Classical.choose (key i hi) else 0, fun i hi => by
        have hic : i < c := by omega
        simp only [hic, dif_pos]
        exact Classical.choose_spec (key i hic)⟩
    obtain ⟨f, hf⟩ := hex
    refine ⟨some a, l, c, (List.range l).map f, rfl, ⟨by simp [ints], h2, ?_⟩, by unfold maxLen at h3; omega, fun d hd => by cases hd; exact h5⟩
    have := row_of (h := h) (b := a.block) l a.off (fun i => .int .i64 (f i)) hf
    simp only
    rw [this]; simp [ints]
set_option maxRecDepth 10000 in
theorem op_of {h : IHp} {n : Nat} {cs : List Value} (hd : IRd Try.prog h (n + 3) 49 cs) : ∃ o, OpC h cs o := by
  have hu : ∃ f0 f1 f2 f3 f4 f5 f6, Try.prog.underlying 49 = some (.struct #[f0, f1, f2, f3, f4, f5, f6]) ∧ (f0.type = 3 ∧ f0.offset = 0) ∧ (f1.type = 9 ∧ f1.offset = 1) ∧ (f2.type = 47 ∧ f2.offset = 2) ∧ (f3.type = 3 ∧ f3.offset = 3) ∧ (f4.type = 4 ∧ f4.offset = 4) ∧ (f5.type = 27 ∧ f5.offset = 5) ∧ (f6.type = 27 ∧ f6.offset = 6) :=
    ⟨_, _, _, _, _, _, _, Try.underlying49, ⟨rfl, rfl⟩, ⟨rfl, rfl⟩, ⟨rfl, rfl⟩, ⟨rfl, rfl⟩, ⟨rfl, rfl⟩, ⟨rfl, rfl⟩, ⟨rfl, rfl⟩⟩
  obtain ⟨f0, f1, f2, f3, f4, f5, f6, hu, ⟨t0, o0⟩, ⟨t1, o1⟩, ⟨t2, o2⟩, ⟨t3, o3⟩, ⟨t4, o4⟩, ⟨t5, o5⟩, ⟨t6, o6⟩⟩ := hu
  have ci : Try.prog.cellsOf 3 = 1 := by kernel_rfl
  have cst : Try.prog.cellsOf 9 = 1 := by kernel_rfl
  have csl : Try.prog.cellsOf 47 = 1 := by kernel_rfl
  have cb : Try.prog.cellsOf 4 = 1 := by kernel_rfl
  have cu : Try.prog.cellsOf 27 = 1 := by kernel_rfl
  have co : Try.prog.cellsOf 49 = 7 := by kernel_rfl
  rw [IRd, hu] at hd
  obtain ⟨hl, hf⟩ := hd
  rw [co] at hl
  match cs, hl with
  | [v0, v1, v2, v3, v4, v5, v6], _ =>
    have h0 := hf 0 f0 rfl
    have h1 := hf 1 f1 rfl
    have h2 := hf 2 f2 rfl
    have h3 := hf 3 f3 rfl
    have h4 := hf 4 f4 rfl
    have h5 := hf 5 f5 rfl
    have h6 := hf 6 f6 rfl
    rw [t0, o0, ci] at h0
    rw [t1, o1, cst] at h1
    rw [t2, o2, csl] at h2
    rw [t3, o3, ci] at h3
    rw [t4, o4, cb] at h4
    rw [t5, o5, cu] at h5
    rw [t6, o6, cu] at h6
    simp only [List.drop_zero, List.take_succ_cons, List.take_zero, List.drop_succ_cons] at h0 h1 h2 h3 h4 h5 h6
    rw [IRd, (UnderIs.eq : Try.prog.underlying 3 = _)] at h0 h3
    rw [IRd, (UnderIs.eq : Try.prog.underlying 9 = _)] at h1
    rw [IRd, (UnderIs.eq : Try.prog.underlying 4 = _)] at h4
    rw [IRd, (UnderIs.eq : Try.prog.underlying 27 = _)] at h5 h6
    obtain ⟨kd, e0, _⟩ := h0
    obtain ⟨nm, e1, _⟩ := h1
    obtain ⟨bt, e3, _⟩ := h3
    obtain ⟨b, e4⟩ := h4
    obtain ⟨m, e5, wm⟩ := h5
    obtain ⟨w, e6, ww⟩ := h6
    cases e0; cases e1; cases e3; cases e4; cases e5; cases e6
    obtain ⟨m', rfl, hm⟩ := wf_u64 wm
    obtain ⟨w', rfl, hw⟩ := wf_u64 ww
    obtain ⟨a, l, c, xs, rfl, hs, hc, hsp⟩ := SlIs_ints h2
    exact ⟨⟨kd, nm, xs, bt, b, m', w'⟩, a, l, c, rfl, hs, hm, hw, hc, hsp⟩
set_option maxRecDepth 10000 in
theorem circ_of {h : IHp} {n : Nat} {cs : List Value} (hd : IRd Try.prog h (n + 5) 24 cs) : ∃ c, CircV h (.agg cs.toArray) c := by
  have hu : ∃ f0 f1 f2, Try.prog.underlying 24 = some (.struct #[f0, f1, f2]) ∧ (f0.type = 3 ∧ f0.offset = 0) ∧ (f1.type = 3 ∧ f1.offset = 1) ∧ (f2.type = 22 ∧ f2.offset = 2) :=
    ⟨_, _, _, Try.underlying24, ⟨rfl, rfl⟩, ⟨rfl, rfl⟩, ⟨rfl, rfl⟩⟩
  obtain ⟨f0, f1, f2, hu, ⟨t0, o0⟩, ⟨t1, o1⟩, ⟨t2, o2⟩⟩ := hu
  have ci : Try.prog.cellsOf 3 = 1 := by kernel_rfl
  have csl : Try.prog.cellsOf 22 = 1 := by kernel_rfl
  have co : Try.prog.cellsOf 49 = 7 := by kernel_rfl
  have cc : Try.prog.cellsOf 24 = 3 := by kernel_rfl
  rw [IRd, hu] at hd
  obtain ⟨hl, hf⟩ := hd
  rw [cc] at hl
  match cs, hl with
  | [v0, v1, v2], _ =>
    have h0 := hf 0 f0 rfl
    have h1 := hf 1 f1 rfl
    have h2 := hf 2 f2 rfl
    rw [t0, o0, ci] at h0
    rw [t1, o1, ci] at h1
    rw [t2, o2, csl] at h2
    simp only [List.drop_zero, List.take_succ_cons, List.take_zero, List.drop_succ_cons] at h0 h1 h2
    rw [IRd, (UnderIs.eq : Try.prog.underlying 3 = _)] at h0 h1
    rw [IRd, (UnderIs.eq : Try.prog.underlying 22 = _)] at h2
    obtain ⟨q, e0, _⟩ := h0
    obtain ⟨b, e1, _⟩ := h1
    cases e0; cases e1
    rcases h2 with e2 | ⟨a, l, c, e2, h3, h4, h6, h5⟩
    · cases e2
      exact ⟨⟨q, b, []⟩, none, 0, 0, rfl, rfl, Nat.le_refl _, by decide, rfl⟩
    · cases e2
      have key : ∀ i, i < c → ∃ o : OpD, ∃ row, h.row a.block (a.off + i * 7) 7 = some row ∧ OpC h row o := by
        intro i hi
        obtain ⟨row, g1, g2⟩ := h5 i hi
        rw [co] at g1
        obtain ⟨o, ho⟩ := op_of g2
        exact ⟨o, row, g1, ho⟩
      refine ⟨⟨q, b, (List.range l).map fun i => if hi : i < c then Classical.choose (key i hi) else ⟨0, ⟨#[]⟩, [], 0, false, 0, 0⟩⟩, some a, l, c, rfl, by simp, h3, by unfold maxLen at h4; omega, ?_⟩
      intro i o hio
      simp only [List.getElem?_map, Option.map_eq_some_iff] at hio
      obtain ⟨j, hj, rfl⟩ := hio
      obtain ⟨hji, hje⟩ := List.getElem?_eq_some_iff.1 hj
      simp only [List.getElem_range] at hje
      subst hje
      simp only [List.length_range] at hji
      have hic : i < c := by omega
      simp only [hic, dif_pos]
      exact Classical.choose_spec (key i hic)
end Go.Ideal

-- Ta
set_option linter.unusedSimpArgs false
set_option linter.unusedVariables false
namespace Go.Ideal
open Go Go.Proofs Go.RowKit
/-! ### Circuits as trees; functions of flat values -/
@[reducible] def intT (z : Int) : Tr := .v (.int .i64 z)
@[reducible] def boolT (b : Bool) : Tr := .v (.bool b)
@[reducible] def strT (b : ByteArray) : Tr := .v (.string b)
@[reducible] def u64T (n : Nat) : Tr := .v (.int .u64 n)
def intRows (xs : List Int) : List (List Tr) := xs.map fun x => [intT x]
@[reducible] def opCs (o : OpD) : List Tr := [intT o.kind, strT o.name, .sl 1 (intRows o.qs), intT o.bit, boolT o.iff, u64T o.mask, u64T o.value]
def opRows (os : List OpD) : List (List Tr) := os.map opCs
@[reducible] def circCs (c : CircD) : List Tr := [intT c.qubits, intT c.bits, .sl 7 (opRows c.ops)]
@[reducible] def circT (c : CircD) : Tr := .agg (circCs c)
def OpW (o : OpD) : Prop := o.mask < 2 ^ 64 ∧ o.value < 2 ^ 64
def CircW (c : CircD) : Prop := ∀ o ∈ c.ops, OpW o
theorem NthG.map {α β : Type} {l : List α} {i : Nat} {a : α} (f : α → β) (h : l[i]? = some a) : NthG (l.map f) i (f a) := ⟨by rw [List.getElem?_map, h]; rfl⟩
instance {xs : List Int} : LenO (intRows xs) xs.length := ⟨by simp [intRows]⟩
instance {os : List OpD} : LenO (opRows os) os.length := ⟨by simp [opRows]⟩
instance {xs : List Int} : LenT (intRows xs) xs.length := ⟨by simp [intRows]⟩
instance {os : List OpD} : LenT (opRows os) os.length := ⟨by simp [opRows]⟩
theorem intRows_at {F : Mem} {b : Nat} : ∀ {xs : List Int} {off : Nat}, RepR F b 1 (intRows xs) off → rowM F b off xs.length = some (ints xs) := by
  intro xs
  induction xs with
  | nil => intro off _; rfl
  | cons x xs ih =>
    intro off h
    simp only [intRows, List.map_cons, RepR] at h
    obtain ⟨⟨vs, h1, h2⟩, h3⟩ := h
    simp only [RepL, Rep] at h2
    obtain ⟨v, ws, rfl, rfl, rfl⟩ := h2
    simp only [rowM, Option.bind_eq_some_iff] at h1
    obtain ⟨u, hu, us, hus, h4⟩ := h1
    obtain rfl := Option.some.inj hus
    simp only [Option.some.injEq, List.cons.injEq, and_true] at h4
    subst h4
    simp only [List.length_cons, rowM, hu, Option.bind_some, ih h3, ints, List.map_cons]
theorem sl_ints {F : Mem} {h : IHp} (hs : Sub F h.cell?) {xs : List Int} {v : Value} (hv : Rep F (.sl 1 (intRows xs)) v) : ∃ a l c, v = .slice a l c ∧ SlIs h a l c (ints xs) ∧ c < 2 ^ 63 ∧ SpotOk a c := by
  simp only [Rep] at hv
  obtain ⟨a, n, c, rfl, h2, h3, h4, h5, h6⟩ := hv
  have hl : xs.length = n := by rw [← h2]; simp [intRows]
  refine ⟨a, n, c, rfl, ⟨by rw [ints_len]; exact hl, h3, ?_⟩, h4, h5⟩
  cases a with
  | none => exact h6
  | some a =>
    simp only
    rw [row_rowM, ← hl]
    exact rowM_sub hs (intRows_at h6)
theorem op_inv {F : Mem} {h : IHp} (hs : Sub F h.cell?) {o : OpD} {vs : List Value} (hv : RepL F (opCs o) vs) : ∃ a l c, vs = o.cells a l c ∧ SlIs h a l c (ints o.qs) ∧ c < 2 ^ 63 ∧ SpotOk a c := by
  unfold opCs at hv
  simp only [RepL, Rep.val] at hv
  obtain ⟨_, _, rfl, rfl, _, _, rfl, rfl, v, _, rfl, h1, _, _, rfl, rfl, _, _, rfl, rfl, _, _, rfl, rfl, _, _, rfl, rfl, rfl⟩ := hv
  obtain ⟨a, l, c, rfl, h2, h3, h4⟩ := sl_ints hs h1
  exact ⟨a, l, c, rfl, h2, h3, h4⟩
theorem circ_inv {F : Mem} {h : IHp} (hs : Sub F h.cell?) {c : CircD} (hw : CircW c) {v : Value} (hv : Rep F (circT c) v) : CircV h v c := by
  unfold circT circCs at hv
  simp only [Rep, RepL] at hv
  obtain ⟨_, rfl, _, _, rfl, rfl, _, _, rfl, rfl, _, _, rfl, ⟨a, n, k, rfl, h2, h3, h4, h5, h6⟩, rfl⟩ := hv
  have hl : c.ops.length = n := by rw [← h2]; simp [opRows]
  refine ⟨a, n, k, rfl, hl, h3, h4, ?_⟩
  cases a with
  | none => exact h6
  | some a =>
    intro i o ho
    obtain ⟨vs, h7, h8⟩ := RepR.get h6 (i := i) (row := opCs o) (by simp only [opRows, List.getElem?_map, ho]; rfl)
    obtain ⟨qa, ql, qc, rfl, h9, h10, h11⟩ := op_inv hs h8
    refine ⟨_, by rw [row_rowM]; exact rowM_sub hs h7, qa, ql, qc, rfl, h9, (hw o (List.mem_of_getElem? ho)).1, (hw o (List.mem_of_getElem? ho)).2, h10, h11⟩
theorem vals_inv {F : Mem} : ∀ {ws vs : List Value}, RepL F (ws.map Tr.v) vs → vs = ws := by
  intro ws
  induction ws with
  | nil => intro vs h; simpa only [List.map_nil, RepL] using h
  | cons w ws ih =>
    intro vs h
    simp only [List.map_cons, RepL, Rep.val] at h
    obtain ⟨_, us, rfl, rfl, h3⟩ := h
    rw [ih h3]
/-- a function of plain values -/
theorem Fn_vals {P : Program} {f : FuncId} {ws : List Value} {w : Value} (x : ∀ h : IHp, EvX P f ws.toArray h (fun v h' => v = w ∧ Ext h h')) {t : Tr} (ht : ∀ F, Rep F t w) : Fn P f (ws.map Tr.v) (fun r => r = t) :=
  Fn_flat (fun F0 h vs h1 h2 => by rw [vals_inv h2]; exact x h) ht
theorem cliffT (b : ByteArray) : Fn Try.prog 23 [strT b] (fun r => r = boolT (cliffS b)) := Fn_vals (ws := [_]) (fun h => gateClifford_spec b h) (fun F => rep_v _)
theorem rep_pair {F : Mem} (a b : Value) : Rep F (.tup [.v a, .v b]) (.tuple [a, b].toArray) := by
  simp only [Rep]; exact ⟨_, rfl, RepL.cons (rep_v _) (RepL.cons (rep_v _) RepL.nil)⟩
theorem checkT {c : CircD} (hw : CircW c) : Fn Try.prog 28 [circT c] (fun r => r = .tup [intT (checkC c).1, intT (checkC c).2]) :=
  Fn_flat (fun F0 h vs h1 h2 => by
    simp only [RepL] at h2
    obtain ⟨v, _, rfl, h3, rfl⟩ := h2
    exact circCheck_spec (circ_inv h1 hw h3)) (fun F => rep_pair _ _)
theorem halvesT (o : OpD) : Fn Try.prog 30 [.agg (opCs o)] (fun r => r = intT (halvesO o)) :=
  Fn_flat (fun F0 h vs h1 h2 => by
    simp only [RepL] at h2
    obtain ⟨v, _, rfl, h3, rfl⟩ := h2
    simp only [Rep] at h3
    obtain ⟨ws, rfl, h4⟩ := h3
    obtain ⟨a, l, k, rfl, _⟩ := op_inv h1 h4
    exact halves_spec o a l k h) (fun F => rep_v _)
/-! ### Halves -/
def sumH : List OpD → Int
  | [] => 0
  | o :: os => halvesO o + sumH os
def halvesC (c : CircD) : Int × Int := if (checkC c).2 = 0 then (sumH c.ops, 0) else (0, (checkC c).2)
theorem sumH_nn : ∀ os : List OpD, 0 ≤ sumH os ∧ sumH os ≤ os.length := by
  intro os
  induction os with
  | nil => simp [sumH]
  | cons o os ih => have := halvesO_01 o; simp only [sumH, List.length_cons]; omega
theorem sumH_take {os : List OpD} {i : Nat} {o : OpD} (h : os[i]? = some o) : sumH (os.take (i + 1)) = sumH (os.take i) + halvesO o := by
  induction os generalizing i with
  | nil => simp at h
  | cons p os ih =>
    cases i with
    | zero => simp at h; subst h; simp [sumH]
    | succ i => simp only [List.take_succ_cons, sumH]; rw [ih (by simpa using h)]; omega
theorem circHalvesT {c : CircD} (hw : CircW c) : Fn Try.prog 14 [circT c] (fun r => r = .tup [intT (halvesC c).1, intT (halvesC c).2]) := by
  refine Fn_of Try.func14 rfl (Nat.le_of_ble_eq_true rfl) (fun X => ?_)
  repeat (first | refine StepC.go ?_ | intro _)
  refine TS_callE (checkT hw) ?_
  repeat' (first | refine StepC.go ?_ | (refine TV_cond ?_ ?_ <;> intro hc <;> try (cases hc; done)))
  · refine retT_2 (.inr rfl) ?_
    simp only [tret, halvesC]
    rw [if_neg (by simpa using hc)]
  · rename_i p
    have hck : (checkC c).2 = 0 := by simpa using hc
    obtain ⟨_, hlen, _⟩ := checkC_ok hck
    refine TV_loop (fun d σ B => ∃ i : Nat, d = c.ops.length - i ∧ i ≤ c.ops.length ∧ TGet σ 20 (intT i) ∧ TGet σ 19 (intT c.ops.length) ∧ TGet σ 18 (.sl 7 (opRows c.ops)) ∧ TGet σ 6 (intT (sumH (c.ops.take i))) ∧ SubB [] B) c.ops.length
      ⟨0, by omega, by omega, inferInstance, tget_as (by simp [opRows]), inferInstance, tget_as rfl, inferInstance⟩ ?_
    rintro d σ B ⟨i, rfl, hi, g20, g19, g18, g6, hB⟩
    refine TV_drop _ hB.eq ?_
    repeat' (first | refine StepC.go ?_ | (refine TV_cond ?_ ?_ <;> intro hc <;> try (cases hc; done)))
    · have hil : i < c.ops.length := by simp at hc; omega
      obtain ⟨o, ho⟩ : ∃ o, c.ops[i]? = some o := ⟨_, List.getElem?_eq_getElem hil⟩
      have ng : NthG (opRows c.ops) i (opCs o) := .map opCs ho
      have h1 := sumH_nn (c.ops.take i)
      have h2 := halvesO_01 o
      simp only [List.length_take] at h1
      repeat (first | refine StepC.go ?_ | intro _)
      refine TS_callE (halvesT o) ?_
      repeat (first | refine StepC.go ?_ | (refine TS_puw (Pu.addi ?_) ?_; · omega))
      refine ⟨_, ?_, i + 1, rfl, by omega, inferInstance, inferInstance, inferInstance, tget_as (by rw [sumH_take ho]), inferInstance⟩
      omega
    · have hil : i = c.ops.length := by simp at hc; omega
      refine retT_2 (.inr rfl) ?_
      simp only [tret, halvesC]
      rw [if_pos hck, hil, List.take_length]
instance : CallIs Try.prog 14 := .of Try.func14 rfl rfl
end Go.Ideal

-- Tb
set_option linter.unusedSimpArgs false
set_option linter.unusedVariables false
namespace Go.Ideal
open Go Go.Proofs Go.RowKit
/-! ### Is it so of all operations? -/
theorem drop_cons {α : Type} {l : List α} {i : Nat} {a : α} (h : l[i]? = some a) : l.drop i = a :: l.drop (i + 1) := by
  have hi := (List.getElem?_eq_some_iff.1 h).1
  rw [List.drop_eq_getElem_cons hi]
  rw [List.getElem?_eq_getElem hi] at h
  rw [Option.some.inj h]
end Go.Ideal

-- Tc
set_option linter.unusedSimpArgs false
set_option linter.unusedVariables false
namespace Go.Ideal
open Go Go.Proofs Go.RowKit
/-! ### Which operations are bound -/
def OpP (o : OpD) : Prop := (∀ q ∈ o.qs, 0 ≤ q) ∧ (o.kind = 2 → 0 ≤ o.bit) ∧ OpW o
def bitN (q : Int) : Nat := (1 <<< q.toNat) % 18446744073709551616
def qbS (qs : List Int) : Nat := qs.foldl (fun a q => a ||| bitN q) 0
def wrS (o : OpD) : Nat := if o.kind = 2 then bitN o.bit else 0
instance bitN_lt {q : Int} : Lt64 (bitN q) := ⟨Nat.mod_lt _ (by decide)⟩
theorem qb_lt (qs : List Int) : ∀ a, a < 2 ^ 64 → qs.foldl (fun a q => a ||| bitN q) a < 2 ^ 64 := by
  induction qs with
  | nil => intro a h; exact h
  | cons q qs ih => intro a h; exact ih _ (Nat.or_lt_two_pow h bitN_lt.lt)
instance qbS_lt {qs : List Int} : Lt64 (qbS qs) := ⟨qb_lt qs 0 (by decide)⟩
instance wrS_lt {o : OpD} : Lt64 (wrS o) := ⟨by unfold wrS; split; exact bitN_lt.lt; decide⟩
theorem asNat_of {z : Int} (h : 0 ≤ z) : AsNat z z.toNat := ⟨(Int.toNat_of_nonneg h).symm⟩
end Go.Ideal

-- Td
set_option linter.unusedSimpArgs false
set_option linter.unusedVariables false
namespace Go.Ideal
open Go Go.Proofs Go.RowKit
/-! ### Layers -/
instance {xs : List Int} {i : Nat} {z : Int} : SetR (intRows xs) i [intT z] (intRows (xs.set i z)) := ⟨by simp [intRows, List.map_set]⟩
def famR (fam : List (Nat × List Int)) : List (List Tr) := fam.map fun x => [.v (gsv x.1 x.2.length)]
instance {fam : List (Nat × List Int)} : LenO (famR fam) fam.length := ⟨by simp [famR]⟩
instance {fam : List (Nat × List Int)} : LenT (famR fam) fam.length := ⟨by simp [famR]⟩
end Go.Ideal

-- Te
set_option linter.unusedSimpArgs false
set_option linter.unusedVariables false
namespace Go.Ideal
open Go Go.Proofs Go.RowKit
/-! ### Copies; the circuit that takes it back -/
theorem qs_len {o : OpD} {q b : Int} (h : faultS o q b = 0) : o.qs.length ≤ 3 := by
  obtain ⟨_, _, h3, _⟩ := fault_ok h
  have : nS o ≤ 3 := by
    unfold nS
    split
    · have := arityS_03 o.name; omega
    · omega
  omega
end Go.Ideal

-- Tf
set_option linter.unusedSimpArgs false
set_option linter.unusedVariables false
namespace Go.Ideal
open Go Go.Proofs Go.RowKit
/-! ### The laws' own example -/
def gateD (nm : ByteArray) (qs : List Int) : OpD := ⟨1, nm, qs, 0, false, 0, 0⟩
def nmH : ByteArray := ⟨#[104]⟩
def nmCx : ByteArray := ⟨#[99, 120]⟩
end Go.Ideal

-- Tg
set_option linter.unusedSimpArgs false
set_option linter.unusedVariables false
namespace Go.Ideal
open Go Go.Proofs Go.RowKit
/-! ### The reference's Halves, Clean, Clifford; the law CircuitChecks -/
end Go.Ideal

-- Th
set_option linter.unusedSimpArgs false
set_option linter.unusedVariables false
namespace Go.Ideal
open Go Go.Proofs Go.RowKit
/-! ### From the arguments to trees -/
theorem repR_of {F : Mem} {b m : Nat} : ∀ {rows : List (List Tr)} {off : Nat}, (∀ (i : Nat) (row : List Tr), rows[i]? = some row → ∃ vs, rowM F b (off + i * m) m = some vs ∧ RepL F row vs) → RepR F b m rows off := by
  intro rows
  induction rows with
  | nil => intro off _; simp [RepR]
  | cons r rows ih =>
    intro off h
    simp only [RepR]
    refine ⟨by simpa using h 0 r rfl, ih fun i row hr => ?_⟩
    have := h (i + 1) row (by simpa using hr)
    rw [show off + (i + 1) * m = off + m + i * m by rw [Nat.add_mul]; omega] at this
    exact this
theorem ints_rep {h : IHp} {a : Option Addr} {l c : Nat} {xs : List Int} (hs : SlIs h a l c (ints xs)) (hc : c < 2 ^ 63) (hsp : SpotOk a c) : Rep h.cell? (.sl 1 (intRows xs)) (.slice a l c) := by
  obtain ⟨h1, h2, h3⟩ := hs
  rw [ints_len] at h1
  rw [Rep]
  refine ⟨a, l, c, rfl, by simp [intRows, h1], h2, hc, hsp, ?_⟩
  cases a with
  | none => exact h3
  | some a =>
    simp only at h3 ⊢
    refine repR_of fun i row hr => ?_
    simp only [intRows, List.getElem?_map, Option.map_eq_some_iff] at hr
    obtain ⟨x, hx, rfl⟩ := hr
    have hi := (List.getElem?_eq_some_iff.1 hx).1
    have hcell := row_cell h3 i (by omega)
    have hv : (ints xs)[i]? = some (.int .i64 x) := by simp [ints, hx]
    rw [hv] at hcell
    refine ⟨[.int .i64 x], ?_, RepL.cons (rep_v _) RepL.nil⟩
    rw [Nat.mul_one]
    simp [rowM, hcell]
theorem op_rep {h : IHp} {cells : List Value} {o : OpD} (x : OpC h cells o) : RepL h.cell? (opCs o) cells ∧ OpW o := by
  obtain ⟨a, l, c, rfl, h1, h2, h3, h4, h5⟩ := x
  exact ⟨RepL.cons (rep_v _) (RepL.cons (rep_v _) (RepL.cons (ints_rep h1 h4 h5) (RepL.cons (rep_v _) (RepL.cons (rep_v _) (RepL.cons (rep_v _) (RepL.cons (rep_v _) RepL.nil)))))), h2, h3⟩
theorem circ_rep {h : IHp} {a : Option Addr} {l k : Nat} {c : CircD} (x : OpsV h a l k c.ops) (hsp : SpotOk a k) : Rep h.cell? (circT c) (.agg [.int .i64 c.qubits, .int .i64 c.bits, .slice a l k].toArray) ∧ CircW c := by
  obtain ⟨h1, h2, h3, h4⟩ := x
  have hw : CircW c := by
    intro o ho
    obtain ⟨i, hi⟩ := List.getElem?_of_mem ho
    cases a with
    | none => simp only at h4; have : c.ops = [] := List.eq_nil_of_length_eq_zero (by omega); rw [this] at ho; cases ho
    | some a =>
      obtain ⟨cells, _, h6⟩ := h4 i o hi
      exact (op_rep h6).2
  refine ⟨?_, hw⟩
  rw [Rep]
  refine ⟨_, rfl, RepL.cons (rep_v _) (RepL.cons (rep_v _) (RepL.cons ?_ RepL.nil))⟩
  rw [Rep]
  refine ⟨a, l, k, rfl, by simp [opRows, h1], h2, h3, hsp, ?_⟩
  cases a with
  | none => exact h4
  | some a =>
    simp only
    refine repR_of fun i row hr => ?_
    simp only [opRows, List.getElem?_map, Option.map_eq_some_iff] at hr
    obtain ⟨o, ho, rfl⟩ := hr
    obtain ⟨cells, h5, h6⟩ := h4 i o ho
    exact ⟨cells, by rw [← row_rowM]; exact h5, (op_rep h6).1⟩
set_option maxRecDepth 100000 in
theorem circ_sp {h : IHp} {n : Nat} {cs : List Value} (hd : IRd Try.prog h (n + 5) 24 cs) : ∃ (c : CircD) (a : Option Addr) (l k : Nat), OpsV h a l k c.ops ∧ cs = [.int .i64 c.qubits, .int .i64 c.bits, .slice a l k] ∧ SpotOk a k := by
  obtain ⟨c, a, l, k, h1, h2⟩ := circ_of hd
  have h3 : cs = [.int .i64 c.qubits, .int .i64 c.bits, .slice a l k] := by simpa using h1
  refine ⟨c, a, l, k, h2, h3, ?_⟩
  have hu : ∃ f0 f1 f2, Try.prog.underlying 24 = some (.struct #[f0, f1, f2]) ∧ (f2.type = 22 ∧ f2.offset = 2) :=
    ⟨_, _, _, Try.underlying24, ⟨rfl, rfl⟩⟩
  obtain ⟨f0, f1, f2, hu, ⟨t2, o2⟩⟩ := hu
  have csl : Try.prog.cellsOf 22 = 1 := by kernel_rfl
  rw [IRd, hu] at hd
  obtain ⟨_, hf⟩ := hd
  have g2 := hf 2 f2 rfl
  rw [t2, o2, csl, h3] at g2
  simp only [List.take_succ_cons, List.take_zero, List.drop_zero, List.drop_succ_cons] at g2
  rw [IRd, (UnderIs.eq : Try.prog.underlying 22 = _)] at g2
  rcases g2 with e2 | ⟨a', l', c', e2, _, _, h6, _⟩
  · cases e2; exact fun d hd => by cases hd
  · cases e2
    intro d hd
    cases hd
    exact h6
set_option maxRecDepth 100000 in
theorem circ_tree {h : IHp} {n : Nat} {cs : List Value} (hd : IRd Try.prog h (n + 5) 24 cs) : ∃ c : CircD, Rep h.cell? (circT c) (.agg cs.toArray) ∧ CircW c := by
  have h0 := circ_sp hd
  clear hd
  obtain ⟨c, a, l, k, h1, h2, h3⟩ := h0
  exact ⟨c, by rw [h2]; exact circ_rep h1 h3⟩
theorem slice_cell {P : Program} {w : World} {base : Nat} {t e : TypeId} {v : Value} (hu : P.underlying t = some (.slice e)) (h : Value.okWide P w .any base t v) : v.cells = #[v] ∧ ∀ cs, v ≠ .agg cs := by
  have hn : ∀ cs, v ≠ .agg cs := by
    rintro cs rfl
    simp only [Value.okWide, hu, Cell.okWide, Cell.ok] at h
  exact ⟨by cases v <;> first | rfl | exact absurd rfl (hn _), hn⟩
theorem EvX_of_Fn {P : Program} {f : FuncId} {ts : List Tr} {vs : List Value} {h : IHp} (x : Fn P f ts (fun r => r = boolT true)) (hr : RepL h.cell? ts vs) : EvX P f vs.toArray h (fun v _ => v = .bool true) := by
  unfold Fn at x
  refine (x h.cell? h vs (Sub.refl _) hr).mono ?_
  rintro v h' ⟨_, F, r, _, _, _, h1, rfl⟩
  simpa only [Rep] using h1
end Go.Ideal

-- Lb
set_option linter.unusedSimpArgs false
set_option linter.unusedVariables false
namespace Go.Ideal
open Go Go.Proofs
end Go.Ideal

-- Lc
set_option linter.unusedSimpArgs false
set_option linter.unusedVariables false
namespace Go.Ideal
open Go Go.Proofs
/-! ### Parity; bits put side by side -/
theorem shr_lt {a : Nat} (n : Nat) (ha : a < 2 ^ 64) : a >>> n < 2 ^ 64 := Nat.lt_of_le_of_lt (Nat.shiftRight_le _ _) ha
end Go.Ideal

-- Ld
set_option linter.unusedSimpArgs false
set_option linter.unusedVariables false
namespace Go.Ideal
open Go Go.Proofs
theorem NeB.fresh {h h' : IHp} (hlt : h.fresh < h'.fresh) : NeB h.fresh h'.fresh := ⟨by unfold IHp.fresh at *; omega⟩
end Go.Ideal

-- Le
set_option linter.unusedSimpArgs false
set_option linter.unusedVariables false
namespace Go.Ideal
open Go Go.Proofs
end Go.Ideal

-- Lf
set_option linter.unusedSimpArgs false
set_option linter.unusedVariables false
namespace Go.Ideal
open Go Go.Proofs
end Go.Ideal

-- Lg
set_option linter.unusedSimpArgs false
set_option linter.unusedVariables false
namespace Go.Ideal
open Go Go.Proofs
/-! ### OnesCount64, as it reckons -/
def pop1 (x : Nat) : Nat := (((x >>> 1) &&& 6148914691236517205) + (x &&& 6148914691236517205)) % 2 ^ 64
def pop2 (x : Nat) : Nat := (((x >>> 2) &&& 3689348814741910323) + (x &&& 3689348814741910323)) % 2 ^ 64
def pop3 (x : Nat) : Nat := (((x >>> 4) + x) % 2 ^ 64) &&& 1085102592571150095
def pop4 (n x : Nat) : Nat := (x + (x >>> n)) % 2 ^ 64
def popS (x : Nat) : Nat := pop4 32 (pop4 16 (pop4 8 (pop3 (pop2 (pop1 x))))) &&& 127
theorem wrap_u64_nat (a : Nat) : IntKind.u64.wrap (a : Int) = (a % 2 ^ 64 : Nat) := by
  simp only [IntKind.wrap, IntKind.bits, IntKind.signed]; simp
theorem shr_c {a n : Nat} (ha : a < 2 ^ 64) (hn : n ≤ 64) : ((a : Int)).fdiv (2 ^ min (Int.toNat (n : Int)) IntKind.u64.bits) = (a >>> n : Nat) := by
  have := shr_u64 (a := a) (n := (n : Int)) (by omega) ha
  simpa using this
theorem and_i64 {a b : Nat} (ha : a < 2 ^ 64) (hb : b < 2 ^ 63) : ibits .and .i64 (IntKind.i64.wrap a) b = (a &&& b : Nat) := by
  show IntKind.i64.wrap (((BitVec.ofInt IntKind.i64.bits (IntKind.i64.wrap a)) &&& (BitVec.ofInt IntKind.i64.bits (b : Int))).toNat : Int) = _
  have h1 : (BitVec.ofInt IntKind.i64.bits (IntKind.i64.wrap a)).toNat = a := by
    have hb : IntKind.i64.bits = 64 := rfl
    simp only [BitVec.toNat_ofInt, hb]
    simp only [IntKind.wrap, IntKind.bits, IntKind.signed]
    simp; omega
  have h2 : (BitVec.ofInt IntKind.i64.bits (b : Int)).toNat = b := by
    have hb : IntKind.i64.bits = 64 := rfl
    simp only [BitVec.toNat_ofInt, hb]
    omega
  rw [BitVec.toNat_and, h1, h2]
  have := Nat.and_lt_two_pow a hb
  exact wrap_i64_id (by omega)
theorem pop1_lt (x : Nat) : pop1 x < 2 ^ 64 := Nat.mod_lt _ (by decide)
theorem pop2_lt (x : Nat) : pop2 x < 2 ^ 64 := Nat.mod_lt _ (by decide)
theorem pop3_lt (x : Nat) : pop3 x < 2 ^ 64 := Nat.and_lt_two_pow _ (by decide)
theorem pop4_lt (n x : Nat) : pop4 n x < 2 ^ 64 := Nat.mod_lt _ (by decide)
theorem OnesCount_spec (x : Nat) (hx : x < 2 ^ 64) (h : IHp) : EvX Try.prog 63 [.int .u64 x].toArray h (fun v h' => v = .int .i64 (popS x : Nat) ∧ h' = h) := by
  refine EvX_of Try.func63 rfl (by show 1 ≤ 35; decide) ?_
  repeat' (first | refine V_seq ?_ | refine V_region ?_ | refine WS_nil ?_ | refine S_normal ?_ | refine V_ret ?_ | refine WS_move ?_ | refine WS_assign ?_ | refine WS_arith rfl ?_ | refine WS_convert ?_ | refine WS_shift (by first | decide | omega) rfl ?_)
  refine retK_1 ⟨?_, rfl⟩ (.inr rfl)
  have st1 : ∀ x : Nat, x < 2 ^ 64 → IntKind.u64.wrap (ibits .and .u64 ((x : Int).fdiv (2 ^ min (1 : Int).toNat IntKind.u64.bits)) 6148914691236517205 + ibits .and .u64 (x : Int) 6148914691236517205) = (pop1 x : Nat) := by
    intro x hx
    have a1 : ibits .and .u64 ((x : Int).fdiv (2 ^ min (1 : Int).toNat IntKind.u64.bits)) 6148914691236517205 = ((x >>> 1 &&& 6148914691236517205 : Nat) : Int) := by
      rw [show (1 : Int) = ((1 : Nat) : Int) from rfl, shr_c hx (by decide)]; exact and_u64 (b := 6148914691236517205) (shr_lt _ hx) (by decide)
    have a2 : ibits .and .u64 (x : Int) 6148914691236517205 = ((x &&& 6148914691236517205 : Nat) : Int) := and_u64 (b := 6148914691236517205) hx (by decide)
    rw [a1, a2, ← Int.natCast_add, wrap_u64_nat]; rfl
  have st2 : ∀ x : Nat, x < 2 ^ 64 → IntKind.u64.wrap (ibits .and .u64 ((x : Int).fdiv (2 ^ min (2 : Int).toNat IntKind.u64.bits)) 3689348814741910323 + ibits .and .u64 (x : Int) 3689348814741910323) = (pop2 x : Nat) := by
    intro x hx
    have a1 : ibits .and .u64 ((x : Int).fdiv (2 ^ min (2 : Int).toNat IntKind.u64.bits)) 3689348814741910323 = ((x >>> 2 &&& 3689348814741910323 : Nat) : Int) := by
      rw [show (2 : Int).toNat = ((2 : Nat) : Int).toNat from rfl, shr_c hx (by decide)]; exact and_u64 (b := 3689348814741910323) (shr_lt _ hx) (by decide)
    have a2 : ibits .and .u64 (x : Int) 3689348814741910323 = ((x &&& 3689348814741910323 : Nat) : Int) := and_u64 (b := 3689348814741910323) hx (by decide)
    rw [a1, a2, ← Int.natCast_add, wrap_u64_nat]; rfl
  have st3 : ∀ x : Nat, x < 2 ^ 64 → ibits .and .u64 (IntKind.u64.wrap ((x : Int).fdiv (2 ^ min (4 : Int).toNat IntKind.u64.bits) + (x : Int))) 1085102592571150095 = (pop3 x : Nat) := by
    intro x hx
    rw [show (4 : Int).toNat = ((4 : Nat) : Int).toNat from rfl, shr_c hx (by decide), ← Int.natCast_add, wrap_u64_nat]
    exact and_u64 (b := 1085102592571150095) (Nat.mod_lt _ (by decide)) (by decide)
  have st8 : ∀ x : Nat, x < 2 ^ 64 → IntKind.u64.wrap ((x : Int) + (x : Int).fdiv (2 ^ min (8 : Int).toNat IntKind.u64.bits)) = (pop4 8 x : Nat) := by
    intro x hx
    rw [show (8 : Int).toNat = ((8 : Nat) : Int).toNat from rfl, shr_c hx (by decide), ← Int.natCast_add, wrap_u64_nat]; rfl
  have st16 : ∀ x : Nat, x < 2 ^ 64 → IntKind.u64.wrap ((x : Int) + (x : Int).fdiv (2 ^ min (16 : Int).toNat IntKind.u64.bits)) = (pop4 16 x : Nat) := by
    intro x hx
    rw [show (16 : Int).toNat = ((16 : Nat) : Int).toNat from rfl, shr_c hx (by decide), ← Int.natCast_add, wrap_u64_nat]; rfl
  have st32 : ∀ x : Nat, x < 2 ^ 64 → IntKind.u64.wrap ((x : Int) + (x : Int).fdiv (2 ^ min (32 : Int).toNat IntKind.u64.bits)) = (pop4 32 x : Nat) := by
    intro x hx
    rw [show (32 : Int).toNat = ((32 : Nat) : Int).toNat from rfl, shr_c hx (by decide), ← Int.natCast_add, wrap_u64_nat]; rfl
  rw [st1 x hx, st2 _ (pop1_lt _), st3 _ (pop2_lt _), st8 _ (pop3_lt _), st16 _ (pop4_lt _ _), st32 _ (pop4_lt _ _)]
  exact congrArg (Value.int .i64) (and_i64 (b := 127) (pop4_lt _ _) (by decide))
instance : CallIs Try.prog 63 := .of Try.func63 rfl rfl

end Go.Ideal

-- Pb
set_option linter.unusedSimpArgs false
set_option linter.unusedVariables false
namespace Go.Ideal
open Go Go.Proofs
/-! ### Parities of bits -/
theorem bit_testBit (x k : Nat) : (x >>> k) &&& 1 = (x.testBit k).toNat := by
  rw [Nat.testBit_eq_decide_div_mod_eq, Nat.shiftRight_eq_div_pow, Nat.and_one_is_mod]
  rcases Nat.mod_two_eq_zero_or_one (x / 2 ^ k) with h | h <;> simp [h]
end Go.Ideal

-- Pj
set_option linter.unusedSimpArgs false
set_option linter.unusedVariables false
namespace Go.Ideal
open Go Go.Proofs
/-! ### OnesCount64 counts: its last bit is the parity -/
theorem and_split (x M : Nat) : x &&& M = (x % 256 &&& M % 256) + 256 * (x / 256 &&& M / 256) := by
  have h1 : (x &&& M) % 2 ^ 8 = (x % 2 ^ 8 &&& M % 2 ^ 8) := Nat.and_mod_two_pow
  have h2 : (x &&& M) / 2 ^ 8 = (x / 2 ^ 8 &&& M / 2 ^ 8) := Nat.and_div_two_pow
  have h3 := Nat.mod_add_div (x &&& M) (2 ^ 8)
  rw [h1, h2] at h3
  exact h3.symm
def maskN (m : Nat) : Nat → Nat
  | 0 => 0
  | n + 1 => m + 256 * maskN m n
def mapB (f : Nat → Nat) : Nat → Nat → Nat
  | 0, _ => 0
  | n + 1, x => f (x % 256) + 256 * mapB f n (x / 256)
def q1 (d : Nat) : Nat := (d / 2 &&& 85) + (d &&& 85)
def q2 (d : Nat) : Nat := (d / 4 &&& 51) + (d &&& 51)
def q3 (d : Nat) : Nat := d / 16 + d % 16
theorem cut1 : ∀ a : Fin 128, ∀ e : Fin 2, (a.val + 128 * e.val) &&& 85 = a.val &&& 85 := by decide +kernel
theorem cut2 : ∀ a : Fin 64, ∀ e : Fin 4, (a.val + 64 * e.val) &&& 51 = a.val &&& 51 := by decide +kernel
theorem step1 : ∀ n x, x < 256 ^ n → (x / 2 &&& maskN 85 n) + (x &&& maskN 85 n) = mapB q1 n x := by
  intro n
  induction n with
  | zero => intro x _; simp [maskN, mapB]
  | succ n ih =>
    intro x hx
    have h0 := ih (x / 256) (by rw [Nat.pow_succ] at hx; omega)
    rw [mapB, ← h0, maskN, and_split (x / 2), and_split x]
    have e1 : (85 + 256 * maskN 85 n) % 256 = 85 := by omega
    have e2 : (85 + 256 * maskN 85 n) / 256 = maskN 85 n := by omega
    have e3 : x / 2 % 256 = x % 256 / 2 + 128 * (x / 256 % 2) := by omega
    have e4 : x / 2 / 256 = x / 256 / 2 := by omega
    have e5 := cut1 ⟨x % 256 / 2, by omega⟩ ⟨x / 256 % 2, by omega⟩
    simp only at e5
    rw [e1, e2, e3, e4, e5, q1]
    omega
theorem step2 : ∀ n x, x < 256 ^ n → (x / 4 &&& maskN 51 n) + (x &&& maskN 51 n) = mapB q2 n x := by
  intro n
  induction n with
  | zero => intro x _; simp [maskN, mapB]
  | succ n ih =>
    intro x hx
    have h0 := ih (x / 256) (by rw [Nat.pow_succ] at hx; omega)
    rw [mapB, ← h0, maskN, and_split (x / 4), and_split x]
    have e1 : (51 + 256 * maskN 51 n) % 256 = 51 := by omega
    have e2 : (51 + 256 * maskN 51 n) / 256 = maskN 51 n := by omega
    have e3 : x / 4 % 256 = x % 256 / 4 + 64 * (x / 256 % 4) := by omega
    have e4 : x / 4 / 256 = x / 256 / 4 := by omega
    have e5 := cut2 ⟨x % 256 / 4, by omega⟩ ⟨x / 256 % 4, by omega⟩
    simp only at e5
    rw [e1, e2, e3, e4, e5, q2]
    omega
/-- each half byte is 4 at most -/
def Small : Nat → Nat → Prop
  | 0, _ => True
  | n + 1, x => x % 16 ≤ 4 ∧ x / 16 % 16 ≤ 4 ∧ Small n (x / 256)
theorem Small.low : ∀ n x, x < 256 ^ n → Small n x → x % 16 ≤ 4 := by
  intro n
  cases n with
  | zero => intro x hx _; simp at hx; subst hx; decide
  | succ n => intro x _ h; exact h.1
theorem and15 (a : Nat) : a &&& 15 = a % 16 := Nat.and_two_pow_sub_one_eq_mod a 4
theorem step3 : ∀ n x, x < 256 ^ n → Small n x → (x / 16 + x) &&& maskN 15 n = mapB q3 n x := by
  intro n
  induction n with
  | zero => intro x _ _; simp [maskN, mapB]
  | succ n ih =>
    intro x hx hs
    obtain ⟨s1, s2, s3⟩ := hs
    have hx' : x / 256 < 256 ^ n := by rw [Nat.pow_succ] at hx; omega
    have h0 := ih (x / 256) hx' s3
    have s4 := Small.low n _ hx' s3
    rw [mapB, ← h0, maskN, and_split]
    have e1 : (15 + 256 * maskN 15 n) % 256 = 15 := by omega
    have e2 : (15 + 256 * maskN 15 n) / 256 = maskN 15 n := by omega
    obtain ⟨lo, hi, yl, yh, e5, l1, l2, l3⟩ : ∃ lo hi yl yh, x = lo + 16 * hi + 256 * yl + 4096 * yh ∧ lo ≤ 4 ∧ hi ≤ 4 ∧ yl ≤ 4 := ⟨x % 16, x / 16 % 16, x / 256 % 16, x / 256 / 16, by omega, s1, s2, s4⟩
    have d1 : x / 256 = yl + 16 * yh := by omega
    have d2 : x / 16 = hi + 16 * yl + 256 * yh := by omega
    have d3 : x % 256 = lo + 16 * hi := by omega
    have d4 : x / 256 / 16 = yh := by omega
    have e3 : (x / 16 + x) / 256 = x / 256 / 16 + x / 256 := by rw [d4, d1, d2]; omega
    have e4 : ((x / 16 + x) % 256) % 16 = q3 (x % 256) := by
      unfold q3
      have d5 : (x / 16 + x) % 256 = hi + lo + 16 * (hi + yl) := by rw [d2]; omega
      rw [d5, d3]; omega
    rw [e1, e2, e3, and15, e4]
theorem mapB_lt {f : Nat → Nat} (hf : ∀ d, d < 256 → f d < 256) : ∀ n x, mapB f n x < 256 ^ n := by
  intro n
  induction n with
  | zero => intro x; simp [mapB]
  | succ n ih =>
    intro x
    have h1 := hf (x % 256) (by omega)
    have h2 := ih (x / 256)
    rw [mapB, Nat.pow_succ]; omega
theorem mapB_mapB {f g : Nat → Nat} (hf : ∀ d, d < 256 → f d < 256) : ∀ n x, mapB g n (mapB f n x) = mapB (fun d => g (f d)) n x := by
  intro n
  induction n with
  | zero => intro x; rfl
  | succ n ih =>
    intro x
    have h1 := hf (x % 256) (by omega)
    rw [mapB, mapB, mapB, ← ih (x / 256)]
    have e1 : (f (x % 256) + 256 * mapB f n (x / 256)) % 256 = f (x % 256) := by omega
    have e2 : (f (x % 256) + 256 * mapB f n (x / 256)) / 256 = mapB f n (x / 256) := by omega
    rw [e1, e2]
theorem fin256 {p : Nat → Bool} (h : (∀ d : Fin 256, p d.val = true)) {d : Nat} (hd : d < 256) : p d = true := h ⟨d, hd⟩
theorem q1_lt {d : Nat} (hd : d < 256) : q1 d < 256 := of_decide_eq_true (fin256 (p := fun d => decide (q1 d < 256)) (by decide +kernel) hd)
theorem q2_lt {d : Nat} (hd : d < 256) : q2 d < 256 := of_decide_eq_true (fin256 (p := fun d => decide (q2 d < 256)) (by decide +kernel) hd)
theorem q21_small {d : Nat} (hd : d < 256) : q2 (q1 d) % 16 ≤ 4 ∧ q2 (q1 d) / 16 ≤ 4 := of_decide_eq_true (fin256 (p := fun d => decide (q2 (q1 d) % 16 ≤ 4 ∧ q2 (q1 d) / 16 ≤ 4)) (by decide +kernel) hd)
def popB (d : Nat) : Nat := q3 (q2 (q1 d))
theorem popB_le {d : Nat} (hd : d < 256) : popB d ≤ 8 := of_decide_eq_true (fin256 (p := fun d => decide (popB d ≤ 8)) (by decide +kernel) hd)
theorem small_map : ∀ n x, Small n (mapB (fun d => q2 (q1 d)) n x) := by
  intro n
  induction n with
  | zero => intro x; trivial
  | succ n ih =>
    intro x
    obtain ⟨h1, h2⟩ := q21_small (d := x % 256) (by omega)
    have h3 := q2_lt (q1_lt (d := x % 256) (by omega))
    rw [mapB]
    refine ⟨by omega, by omega, ?_⟩
    have : (q2 (q1 (x % 256)) + 256 * mapB (fun d => q2 (q1 d)) n (x / 256)) / 256 = mapB (fun d => q2 (q1 d)) n (x / 256) := by omega
    rw [this]; exact ih _
theorem small_le : ∀ n x, x < 256 ^ n → Small n x → x ≤ maskN 68 n := by
  intro n
  induction n with
  | zero => intro x hx _; simp at hx; subst hx; exact Nat.zero_le _
  | succ n ih =>
    intro x hx ⟨h1, h2, h3⟩
    have := ih (x / 256) (by rw [Nat.pow_succ] at hx; omega) h3
    rw [maskN]; omega
theorem pop3_eq {x : Nat} (hx : x < 2 ^ 64) : pop3 (pop2 (pop1 x)) = mapB popB 8 x := by
  have m1 : (6148914691236517205 : Nat) = maskN 85 8 := by decide +kernel
  have m2 : (3689348814741910323 : Nat) = maskN 51 8 := by decide +kernel
  have m3 : (1085102592571150095 : Nat) = maskN 15 8 := by decide +kernel
  have p8 : (256 : Nat) ^ 8 = 2 ^ 64 := by decide
  have h1 : pop1 x = mapB q1 8 x := by
    unfold pop1
    rw [m1, Nat.shiftRight_eq_div_pow, show (2 : Nat) ^ 1 = 2 from rfl, step1 8 x (by rw [p8]; exact hx), Nat.mod_eq_of_lt]
    rw [← p8]; exact mapB_lt (fun d hd => q1_lt hd) 8 x
  have hl1 : mapB q1 8 x < 256 ^ 8 := mapB_lt (fun d hd => q1_lt hd) 8 x
  have h2 : pop2 (pop1 x) = mapB (fun d => q2 (q1 d)) 8 x := by
    rw [h1]
    unfold pop2
    rw [m2, Nat.shiftRight_eq_div_pow, show (2 : Nat) ^ 2 = 4 from rfl, step2 8 _ hl1, Nat.mod_eq_of_lt]
    · exact mapB_mapB (fun d hd => q1_lt hd) 8 x
    · rw [← p8]; exact mapB_lt (fun d hd => q2_lt hd) 8 _
  have hl2 : mapB (fun d => q2 (q1 d)) 8 x < 256 ^ 8 := mapB_lt (fun d hd => q2_lt (q1_lt hd)) 8 x
  rw [h2]
  unfold pop3
  have hs := small_map 8 x
  have hle := small_le 8 _ hl2 hs
  have m4 : maskN 68 8 = 4919131752989213764 := by decide +kernel
  rw [m3, Nat.shiftRight_eq_div_pow, show (2 : Nat) ^ 4 = 16 from rfl, Nat.mod_eq_of_lt (by rw [m4] at hle; omega), step3 8 _ hl2 hs]
  exact mapB_mapB (fun d hd => q2_lt (q1_lt hd)) 8 x
def sumB (f : Nat → Nat) : Nat → Nat → Nat
  | 0, _ => 0
  | n + 1, x => f (x % 256) + sumB f n (x / 256)
theorem dv1 {b z : Nat} (h : b < 256) : (b + 256 * z) / 256 = z := by omega
theorem dv2 {b c z : Nat} (h : b < 256) (h2 : c < 256) : (b + 256 * (c + 256 * z)) / 65536 = z := by omega
theorem dv4 {b c d e z : Nat} (h : b < 256) (h2 : c < 256) (h3 : d < 256) (h4 : e < 256) : (b + 256 * (c + 256 * (d + 256 * (e + 256 * z)))) / 4294967296 = z := by omega
theorem last32 (c0 c1 c2 c3 c4 c5 c6 c7 : Nat) (h0 : c0 ≤ 40) (h1 : c1 ≤ 40) (h2 : c2 ≤ 40) (h3 : c3 ≤ 40) (h4 : c4 ≤ 40) (h5 : c5 ≤ 40) (h6 : c6 ≤ 40) (h7 : c7 ≤ 40) :
    pop4 32 (c0 + 256 * (c1 + 256 * (c2 + 256 * (c3 + 256 * (c4 + 256 * (c5 + 256 * (c6 + 256 * c7))))))) % 128 = c0 + c4 := by
  unfold pop4
  rw [Nat.shiftRight_eq_div_pow, show (2 : Nat) ^ 32 = 4294967296 from rfl, dv4 (by omega) (by omega) (by omega) (by omega), Nat.mod_eq_of_lt (b := 2 ^ 64) (by omega)]
  omega
theorem popS_eq {x : Nat} (hx : x < 2 ^ 64) : popS x = sumB popB 8 x := by
  unfold popS
  rw [pop3_eq hx]
  have key : ∀ b0 b1 b2 b3 b4 b5 b6 b7 : Nat, b0 ≤ 8 → b1 ≤ 8 → b2 ≤ 8 → b3 ≤ 8 → b4 ≤ 8 → b5 ≤ 8 → b6 ≤ 8 → b7 ≤ 8 →
      pop4 32 (pop4 16 (pop4 8 (b0 + 256 * (b1 + 256 * (b2 + 256 * (b3 + 256 * (b4 + 256 * (b5 + 256 * (b6 + 256 * (b7 + 256 * 0)))))))))) &&& 127 = b0 + (b1 + (b2 + (b3 + (b4 + (b5 + (b6 + (b7 + 0))))))) := by
    intro b0 b1 b2 b3 b4 b5 b6 b7 h0 h1 h2 h3 h4 h5 h6 h7
    have e1 : pop4 8 (b0 + 256 * (b1 + 256 * (b2 + 256 * (b3 + 256 * (b4 + 256 * (b5 + 256 * (b6 + 256 * (b7 + 256 * 0)))))))) = (b0 + b1) + 256 * ((b1 + b2) + 256 * ((b2 + b3) + 256 * ((b3 + b4) + 256 * ((b4 + b5) + 256 * ((b5 + b6) + 256 * ((b6 + b7) + 256 * b7)))))) := by
      unfold pop4
      rw [Nat.shiftRight_eq_div_pow, show (2 : Nat) ^ 8 = 256 from rfl, dv1 (by omega), Nat.mod_eq_of_lt (by omega)]; omega
    have e2 : pop4 16 ((b0 + b1) + 256 * ((b1 + b2) + 256 * ((b2 + b3) + 256 * ((b3 + b4) + 256 * ((b4 + b5) + 256 * ((b5 + b6) + 256 * ((b6 + b7) + 256 * b7))))))) = (b0 + b1 + (b2 + b3)) + 256 * ((b1 + b2 + (b3 + b4)) + 256 * ((b2 + b3 + (b4 + b5)) + 256 * ((b3 + b4 + (b5 + b6)) + 256 * ((b4 + b5 + (b6 + b7)) + 256 * ((b5 + b6 + b7) + 256 * ((b6 + b7) + 256 * b7)))))) := by
      unfold pop4
      rw [Nat.shiftRight_eq_div_pow, show (2 : Nat) ^ 16 = 65536 from rfl, dv2 (by omega) (by omega), Nat.mod_eq_of_lt (by omega)]; omega
    have e3 := last32 (b0 + b1 + (b2 + b3)) (b1 + b2 + (b3 + b4)) (b2 + b3 + (b4 + b5)) (b3 + b4 + (b5 + b6)) (b4 + b5 + (b6 + b7)) (b5 + b6 + b7) (b6 + b7) b7 (by omega) (by omega) (by omega) (by omega) (by omega) (by omega) (by omega) (by omega)
    have e4 : b0 + b1 + (b2 + b3) + (b4 + b5 + (b6 + b7)) = b0 + (b1 + (b2 + (b3 + (b4 + (b5 + (b6 + (b7 + 0))))))) := by clear e1 e2 e3; omega
    rw [e4] at e3
    rw [e1, e2, ← e3]
    exact Nat.and_two_pow_sub_one_eq_mod _ 7
  have hb : ∀ y, popB (y % 256) ≤ 8 := fun y => popB_le (by omega)
  simp only [mapB, sumB]
  exact key _ _ _ _ _ _ _ _ (hb _) (hb _) (hb _) (hb _) (hb _) (hb _) (hb _) (hb _)
end Go.Ideal

-- Va
set_option linter.unusedSimpArgs false
set_option linter.unusedVariables false
namespace Go.Ideal
open Go Go.Proofs Go.RowKit
/-! ### Pauli strings -/
structure PauD where
  n : Int
  x : Nat
  z : Nat
  ph : Int
@[reducible] def pauCs (p : PauD) : List Tr := [intT p.n, u64T p.x, u64T p.z, intT p.ph]
@[reducible] def pauT (p : PauD) : Tr := .agg (pauCs p)
def PauW (p : PauD) : Prop := p.x < 2 ^ 64 ∧ p.z < 2 ^ 64
def noPau : PauD := ⟨0, 0, 0, 0⟩
def pbelS (x : Nat) (n : Int) : Bool := decide (n = 64) || decide (((x >>> n.toNat : Nat) : Int) = 0)
def pauOk (p : PauD) : Bool := decide (0 ≤ p.n) && decide (p.n ≤ 64) && decide (0 ≤ p.ph) && decide (p.ph ≤ 3) && pbelS (p.x ||| p.z) p.n
def checkP (p : PauD) : Int := if pauOk p then 0 else 70
theorem checkP_bad {p : PauD} (h : p.n < 0 ∨ 64 < p.n ∨ p.ph < 0 ∨ 3 < p.ph) : checkP p = 70 := by
  unfold checkP pauOk
  rw [if_neg]
  simp only [Bool.and_eq_true, decide_eq_true_eq]
  omega
theorem checkP_ok {p : PauD} (h : 0 ≤ p.n ∧ p.n ≤ 64 ∧ 0 ≤ p.ph ∧ p.ph ≤ 3 ∧ pbelS (p.x ||| p.z) p.n = true) : checkP p = 0 := by
  unfold checkP pauOk
  rw [if_pos]
  simp only [Bool.and_eq_true, decide_eq_true_eq]
  exact ⟨⟨⟨⟨h.1, h.2.1⟩, h.2.2.1⟩, h.2.2.2.1⟩, h.2.2.2.2⟩
theorem checkP_in {p : PauD} (h : checkP p = 0) : 0 ≤ p.n ∧ p.n ≤ 64 ∧ 0 ≤ p.ph ∧ p.ph ≤ 3 ∧ pbelS (p.x ||| p.z) p.n = true := by
  unfold checkP at h
  split at h
  · rename_i h1
    unfold pauOk at h1
    simp only [Bool.and_eq_true, decide_eq_true_eq] at h1
    exact ⟨h1.1.1.1.1, h1.1.1.1.2, h1.1.1.2, h1.1.2, h1.2⟩
  · cases h
theorem checkP_or (p : PauD) : checkP p = 0 ∨ checkP p = 70 := by unfold checkP; split <;> simp
theorem belowT {x : Nat} {n : Int} (hx : x < 2 ^ 64) (hn : 0 ≤ n) : Fn Try.prog 72 [u64T x, intT n] (fun r => r = boolT (pbelS x n)) := by
  have : Lt64 x := ⟨hx⟩
  have := asNat_of hn
  refine Fn_of Try.func72 rfl (Nat.le_of_ble_eq_true rfl) (fun X => ?_)
  repeat' (first | refine StepC.go ?_ | (refine TS_on rfl ?_ ?_; · first | rfl | assumption) | (refine TS_off rfl ?_ ?_; · first | rfl | assumption) | (refine TS_puw (Pu.pick_t ?_) ?_; · first | rfl | assumption) | (refine TS_guard rfl ?_ ?_ <;> intro hg))
  all_goals refine retT_1 (.inr rfl) ?_
  all_goals simp_all [tret, pbelS]
instance : CallIs Try.prog 72 := .of Try.func72 rfl rfl
theorem checkPT {p : PauD} (hw : PauW p) : Fn Try.prog 62 [pauT p] (fun r => r = intT (checkP p)) := by
  have : Lt64 p.x := ⟨hw.1⟩
  have : Lt64 p.z := ⟨hw.2⟩
  refine Fn_of Try.func62 rfl (Nat.le_of_ble_eq_true rfl) (fun X => ?_)
  by_cases h1 : p.n < 0
  · have d1 : decide (p.n < 0) = true := by simpa using h1
    repeat (first | refine StepC.go ?_ | intro _ | (refine TS_off rfl ?_ ?_; · first | rfl | assumption) | (refine TS_puw (Pu.pick_t ?_) ?_; · first | rfl | assumption) | (refine TV_cond_t ?_ ?_; · first | rfl | assumption))
    refine retT_1 (.inr rfl) ?_
    rw [checkP_bad (by omega)]; rfl
  have d1 : decide (p.n < 0) = false := by simpa using h1
  by_cases h2 : 64 < p.n
  · have d2 : (if decide (p.n < 0) = true then true else decide (64 < p.n)) = true := by rw [d1]; simpa using h2
    repeat (first | refine StepC.go ?_ | intro _ | (refine TS_on rfl ?_ ?_; · first | rfl | assumption) | (refine TS_off rfl ?_ ?_; · first | rfl | assumption) | (refine TS_puw (Pu.pick_t ?_) ?_; · first | rfl | assumption) | (refine TV_cond_t ?_ ?_; · first | rfl | assumption))
    refine retT_1 (.inr rfl) ?_
    rw [checkP_bad (by omega)]; rfl
  have d2 : (if decide (p.n < 0) = true then true else decide (64 < p.n)) = false := by rw [d1]; simpa using h2
  by_cases h3 : p.ph < 0
  · have d3 : (if (if decide (p.n < 0) = true then true else decide (64 < p.n)) = true then true else decide (p.ph < 0)) = true := by rw [d2]; simpa using h3
    repeat (first | refine StepC.go ?_ | intro _ | (refine TS_on rfl ?_ ?_; · first | rfl | assumption) | (refine TS_off rfl ?_ ?_; · first | rfl | assumption) | (refine TS_puw (Pu.pick_t ?_) ?_; · first | rfl | assumption) | (refine TV_cond_t ?_ ?_; · first | rfl | assumption))
    refine retT_1 (.inr rfl) ?_
    rw [checkP_bad (by omega)]; rfl
  have d3 : (if (if decide (p.n < 0) = true then true else decide (64 < p.n)) = true then true else decide (p.ph < 0)) = false := by rw [d2]; simpa using h3
  by_cases h4 : 3 < p.ph
  · have d4 : (if (if (if decide (p.n < 0) = true then true else decide (64 < p.n)) = true then true else decide (p.ph < 0)) = true then true else decide (3 < p.ph)) = true := by rw [d3]; simpa using h4
    repeat (first | refine StepC.go ?_ | intro _ | (refine TS_on rfl ?_ ?_; · first | rfl | assumption) | (refine TS_off rfl ?_ ?_; · first | rfl | assumption) | (refine TS_puw (Pu.pick_t ?_) ?_; · first | rfl | assumption) | (refine TV_cond_t ?_ ?_; · first | rfl | assumption))
    refine retT_1 (.inr rfl) ?_
    rw [checkP_bad (by omega)]; rfl
  have d4 : (if (if (if decide (p.n < 0) = true then true else decide (64 < p.n)) = true then true else decide (p.ph < 0)) = true then true else decide (3 < p.ph)) = false := by rw [d3]; simpa using h4
  repeat (first | refine StepC.go ?_ | intro _ | (refine TS_on rfl ?_ ?_; · first | rfl | assumption))
  refine TS_callE (belowT (Nat.or_lt_two_pow hw.1 hw.2) (by omega)) ?_
  repeat (first | refine StepC.go ?_ | (refine TS_on rfl ?_ ?_; · first | rfl | assumption))
  refine TV_cond ?_ ?_ <;> intro hc
  · repeat (refine StepC.go ?_)
    refine retT_1 (.inr rfl) ?_
    rw [d4] at hc
    simp only [Bool.false_eq_true, if_false, Bool.not_eq_true'] at hc
    simp only [tret, checkP, pauOk, hc, Bool.and_false]; rfl
  · repeat (refine StepC.go ?_)
    refine retT_1 (.inr rfl) ?_
    rw [d4] at hc
    simp only [Bool.false_eq_true, if_false, Bool.not_eq_false'] at hc
    rw [checkP_ok ⟨by omega, by omega, by omega, by omega, hc⟩]; rfl
instance : CallIs Try.prog 62 := .of Try.func62 rfl rfl
/-! ### Counting -/
def pcK (f : Nat → Bool) : Nat → Nat
  | 0 => 0
  | k + 1 => pcK f k + (f k).toNat
theorem pcK_congr {f g : Nat → Bool} : ∀ k, (∀ j, j < k → f j = g j) → pcK f k = pcK g k := by
  intro k
  induction k with
  | zero => intro _; rfl
  | succ k ih => intro h; simp only [pcK, ih fun j hj => h j (by omega), h k (by omega)]
theorem pcK_le (f : Nat → Bool) : ∀ k, pcK f k ≤ k := by
  intro k
  induction k with
  | zero => exact Nat.le_refl _
  | succ k ih => have := Bool.toNat_le (f k); simp only [pcK]; omega
theorem pcK_add (f : Nat → Bool) (a : Nat) : ∀ k, pcK f (a + k) = pcK f a + pcK (fun i => f (a + i)) k := by
  intro k
  induction k with
  | zero => rfl
  | succ k ih => rw [show a + (k + 1) = (a + k) + 1 from rfl, pcK, pcK, ih, Nat.add_assoc]
/-- how many bits are set -/
def pcS (x : Nat) : Nat := pcK (fun i => x.testBit i) 64
theorem popB_pc {d : Nat} (hd : d < 256) : popB d = pcK (fun i => d.testBit i) 8 := of_decide_eq_true (fin256 (p := fun d => decide (popB d = pcK (fun i => d.testBit i) 8)) (by decide +kernel) hd)
theorem sumB_pc : ∀ n x, x < 256 ^ n → sumB popB n x = pcK (fun i => x.testBit i) (8 * n) := by
  intro n
  induction n with
  | zero => intro x _; rfl
  | succ n ih =>
    intro x hx
    have h1 := popB_pc (d := x % 256) (by omega)
    have h2 := ih (x / 256) (by rw [Nat.pow_succ] at hx; omega)
    have e1 : pcK (fun i => x.testBit i) 8 = pcK (fun i => (x % 256).testBit i) 8 := pcK_congr 8 fun j hj => by
      rw [show (256 : Nat) = 2 ^ 8 from rfl, Nat.testBit_mod_two_pow]; simp [hj]
    have e2 : pcK (fun i => x.testBit (8 + i)) (8 * n) = pcK (fun i => (x / 256).testBit i) (8 * n) := pcK_congr _ fun j _ => by
      rw [show (256 : Nat) = 2 ^ 8 from rfl, Nat.testBit_div_two_pow, Nat.add_comm]
    rw [show 8 * (n + 1) = 8 + 8 * n by omega, pcK_add, e1, e2, sumB, h1, h2]
theorem pop_pc {x : Nat} (hx : x < 2 ^ 64) : popS x = pcS x := by rw [popS_eq hx, sumB_pc 8 x (by simpa using hx)]; rfl
theorem pcS_le (x : Nat) : pcS x ≤ 64 := pcK_le _ 64
theorem onesT {x : Nat} (hx : x < 2 ^ 64) : Fn Try.prog 63 [u64T x] (fun r => r = intT (pcS x)) := by
  refine Fn_flat (w := .int .i64 (pcS x)) (fun F0 h vs h1 h2 => ?_) (fun F => rep_v _)
  simp only [RepL, Rep] at h2
  obtain ⟨_, _, rfl, rfl, rfl⟩ := h2
  exact (OnesCount_spec x hx h).mono fun v h' ⟨e1, e2⟩ => by
    subst e2
    exact ⟨by rw [e1, pop_pc hx], Ext.refl _⟩
theorem countT {x : Nat} (hx : x < 2 ^ 64) : Fn Try.prog 49 [u64T x] (fun r => r = intT (pcS x)) := by
  refine Fn_of Try.func49 rfl (Nat.le_of_ble_eq_true rfl) (fun X => ?_)
  repeat (refine StepC.go ?_)
  refine TS_callE (onesT hx) ?_
  repeat (refine StepC.go ?_)
  exact retT_1 (.inr rfl) rfl
instance : CallIs Try.prog 49 := .of Try.func49 rfl rfl
end Go.Ideal

-- Vb
set_option linter.unusedSimpArgs false
set_option linter.unusedVariables false
namespace Go.Ideal
open Go Go.Proofs Go.RowKit
/-! ### Strings made, and the product (of the program) -/
@[reducible] def u8T (n : Nat) : Tr := .v (.int .u8 n)
def eyeP (n : Int) : PauD × Int := if n < 0 ∨ 64 < n then (noPau, 2) else (⟨n, 0, 0, 0⟩, 0)
theorem eyeP_ok {n : Int} : (eyeP n).2 = 0 ↔ 0 ≤ n ∧ n ≤ 64 := by
  unfold eyeP
  split <;> simp <;> omega
theorem eyeT (n : Int) : Fn Try.prog 21 [intT n] (fun r => r = .tup [pauT (eyeP n).1, intT (eyeP n).2]) := by
  refine Fn_of Try.func21 rfl (Nat.le_of_ble_eq_true rfl) (fun X => ?_)
  by_cases h1 : n < 0
  · have d1 : decide (n < 0) = true := by simpa using h1
    repeat (first | refine StepC.go ?_ | intro _ | (refine TS_off rfl ?_ ?_; · first | rfl | assumption) | (refine TS_puw (Pu.pick_t ?_) ?_; · first | rfl | assumption) | (refine TV_cond_t ?_ ?_; · first | rfl | assumption))
    refine retT_2 (.inr rfl) ?_
    simp only [tret, eyeP]
    rw [if_pos (.inl h1)]; rfl
  have d1 : decide (n < 0) = false := by simpa using h1
  repeat (first | refine StepC.go ?_ | intro _ | (refine TS_on rfl ?_ ?_; · first | rfl | assumption))
  refine TV_cond ?_ ?_ <;> intro hc
  · repeat (refine StepC.go ?_)
    refine retT_2 (.inr rfl) ?_
    rw [d1] at hc
    simp only [tret, eyeP]
    rw [if_pos (.inr (by simpa using hc))]; rfl
  · repeat (refine StepC.go ?_)
    refine retT_2 (.inr rfl) ?_
    rw [d1] at hc
    simp only [tret, eyeP]
    rw [if_neg (by simp at hc; omega)]; rfl
instance : CallIs Try.prog 21 := .of Try.func21 rfl rfl
theorem eyeRT (n : Int) : Fn Try.prog 35 [intT n] (fun r => r = .tup [pauT (eyeP n).1, intT (eyeP n).2]) := by
  refine Fn_of Try.func35 rfl (Nat.le_of_ble_eq_true rfl) (fun X => ?_)
  by_cases h1 : n < 0
  · have d1 : decide (n < 0) = true := by simpa using h1
    repeat (first | refine StepC.go ?_ | intro _ | (refine TS_off rfl ?_ ?_; · first | rfl | assumption) | (refine TS_puw (Pu.pick_t ?_) ?_; · first | rfl | assumption) | (refine TV_cond_t ?_ ?_; · first | rfl | assumption))
    refine retT_2 (.inr rfl) ?_
    simp only [tret, eyeP]
    rw [if_pos (.inl h1)]; rfl
  have d1 : decide (n < 0) = false := by simpa using h1
  repeat (first | refine StepC.go ?_ | intro _ | (refine TS_on rfl ?_ ?_; · first | rfl | assumption))
  refine TV_cond ?_ ?_ <;> intro hc
  · repeat (refine StepC.go ?_)
    refine retT_2 (.inr rfl) ?_
    rw [d1] at hc
    simp only [tret, eyeP]
    rw [if_pos (.inr (by simpa using hc))]; rfl
  · repeat (refine StepC.go ?_)
    refine retT_2 (.inr rfl) ?_
    rw [d1] at hc
    simp only [tret, eyeP]
    rw [if_neg (by simp at hc; omega)]; rfl
instance : CallIs Try.prog 35 := .of Try.func35 rfl rfl
def bothS (p q : PauD) : Int := if checkP p = 0 then (if checkP q = 0 then (if p.n = q.n then 0 else 2) else 70) else 70
theorem bothT {p q : PauD} (hp : PauW p) (hq : PauW q) : Fn Try.prog 48 [pauT p, pauT q] (fun r => r = intT (bothS p q)) := by
  refine Fn_of Try.func48 rfl (Nat.le_of_ble_eq_true rfl) (fun X => ?_)
  repeat (first | refine StepC.go ?_ | intro _)
  refine TS_callE (checkPT hp) ?_
  repeat (refine StepC.go ?_)
  refine TV_cond ?_ ?_ <;> intro hc
  · repeat (refine StepC.go ?_)
    refine retT_1 (.inr rfl) ?_
    have h1 : ¬ checkP p = 0 := by simpa using hc
    have h2 := (checkP_or p).resolve_left h1
    simp only [tret, bothS]
    rw [if_neg h1, h2]
  have h1 : checkP p = 0 := by simpa using hc
  repeat (refine StepC.go ?_)
  refine TS_callE (checkPT hq) ?_
  repeat (refine StepC.go ?_)
  refine TV_cond ?_ ?_ <;> intro hc2
  · repeat (refine StepC.go ?_)
    refine retT_1 (.inr rfl) ?_
    have h3 : ¬ checkP q = 0 := by simpa using hc2
    have h2 := (checkP_or q).resolve_left h3
    simp only [tret, bothS]
    rw [if_pos h1, if_neg h3, h2]
  have h3 : checkP q = 0 := by simpa using hc2
  repeat (refine StepC.go ?_)
  refine TV_cond ?_ ?_ <;> intro hc3
  · repeat (refine StepC.go ?_)
    refine retT_1 (.inr rfl) ?_
    simp only [tret, bothS]
    rw [if_pos h1, if_pos h3, if_neg (by simpa using hc3)]
  · repeat (refine StepC.go ?_)
    refine retT_1 (.inr rfl) ?_
    simp only [tret, bothS]
    rw [if_pos h1, if_pos h3, if_pos (by simpa using hc3)]
instance : CallIs Try.prog 48 := .of Try.func48 rfl rfl
theorem and3_i64 {z : Int} (h : -9223372036854775808 ≤ z ∧ z ≤ 9223372036854775807) : ibits .and .i64 z 3 = z % 4 := by
  show IntKind.i64.wrap (((BitVec.ofInt IntKind.i64.bits z) &&& (BitVec.ofInt IntKind.i64.bits 3)).toNat : Int) = _
  have hb : IntKind.i64.bits = 64 := rfl
  rw [BitVec.toNat_and]
  have h2 : (BitVec.ofInt IntKind.i64.bits 3).toNat = 2 ^ 2 - 1 := by rw [hb]; rfl
  rw [h2, Nat.and_two_pow_sub_one_eq_mod, BitVec.toNat_ofInt, hb]
  have e : ((((z % ((2 ^ 64 : Nat) : Int)).toNat % 2 ^ 2 : Nat)) : Int) = z % 4 := by omega
  rw [e]
  exact wrap_i64_id (by omega)
def mphS (p q : PauD) : Int := (p.ph + (pcS (p.x &&& p.z) : Int) + q.ph + (pcS (q.x &&& q.z) : Int) + 2 * (pcS (p.z &&& q.x) : Int) - (pcS ((p.x ^^^ q.x) &&& (p.z ^^^ q.z)) : Int)) % 4
def mulP (p q : PauD) : PauD := ⟨p.n, p.x ^^^ q.x, p.z ^^^ q.z, mphS p q⟩
def mulC (p q : PauD) : PauD × Int := if bothS p q = 0 then (mulP p q, 0) else (noPau, bothS p q)
theorem bothS_ok {p q : PauD} (h : bothS p q = 0) : checkP p = 0 ∧ checkP q = 0 ∧ p.n = q.n := by
  unfold bothS at h
  split at h
  · split at h
    · split at h
      · exact ⟨by assumption, by assumption, by assumption⟩
      · simp at h
    · simp at h
  · simp at h
set_option synthInstance.maxSize 4000 in
set_option synthInstance.maxHeartbeats 400000 in
set_option maxHeartbeats 2000000 in
theorem mulT {p q : PauD} (hp : PauW p) (hq : PauW q) : Fn Try.prog 26 [pauT p, pauT q] (fun r => r = .tup [pauT (mulC p q).1, intT (mulC p q).2]) := by
  have : Lt64 p.x := ⟨hp.1⟩
  have : Lt64 p.z := ⟨hp.2⟩
  have : Lt64 q.x := ⟨hq.1⟩
  have : Lt64 q.z := ⟨hq.2⟩
  refine Fn_of Try.func26 rfl (Nat.le_of_ble_eq_true rfl) (fun X => ?_)
  repeat (first | refine StepC.go ?_ | intro _)
  refine TS_callE (bothT hp hq) ?_
  repeat (refine StepC.go ?_)
  refine TV_cond ?_ ?_ <;> intro hc
  · repeat (refine StepC.go ?_)
    refine retT_2 (.inr rfl) ?_
    have h1 : ¬ bothS p q = 0 := by simpa using hc
    simp only [tret, mulC]
    rw [if_neg h1]; rfl
  have h1 : bothS p q = 0 := by simpa using hc
  obtain ⟨hcp, hcq, hn⟩ := bothS_ok h1
  obtain ⟨p0, p1, p2, p3, p4⟩ := checkP_in hcp
  obtain ⟨q0, q1, q2, q3, q4⟩ := checkP_in hcq
  have b1 := pcS_le (p.x &&& p.z)
  have b2 := pcS_le (q.x &&& q.z)
  have b3 := pcS_le (p.z &&& q.x)
  have b4 := pcS_le ((p.x ^^^ q.x) &&& (p.z ^^^ q.z))
  repeat (first | refine StepC.go ?_ | intro _ | refine TD_take rfl rfl ?_ | refine TD_load rfl rfl ?_ | refine TD_one rfl ?_ | refine FiltT_nil ?_ | refine FiltT_keep rfl ?_ | refine TV_draw (id := 5) (plan := [.take 0, .take 1, .take 2, .take 3, .take 4, .take 5, .take 6, .take 9, .take 10, .take 12, .take 13, .take 14, .take 15, .take 16, .take 19, .take 20, .take 21, .take 22, .take 23, .take 27, .take 28, .take 29, .take 30, .take 31, .one 7, .take 8, .take 11, .one 17, .take 18, .one 24, .take 25, .take 26, .one 32, .take 33, .take 34]) (by kernel_rfl) ?_)
  refine TS_callE (countT (Nat.and_lt_two_pow _ hp.2)) ?_
  repeat (first | refine StepC.go ?_ | refine TD_one rfl ?_ | refine FiltT_nil ?_ | refine FiltT_keep rfl ?_ | (refine TD_takew rfl rfl (Pu.addi ?_) ?_; · omega))
  refine TS_callE (countT (Nat.and_lt_two_pow _ hq.2)) ?_
  repeat (first | refine StepC.go ?_ | refine TD_one rfl ?_ | refine FiltT_nil ?_ | refine FiltT_keep rfl ?_ | (refine TD_takew rfl rfl (Pu.addi ?_) ?_; · omega))
  refine TS_callE (countT (Nat.and_lt_two_pow _ hq.1)) ?_
  repeat (first | refine StepC.go ?_ | refine TD_take rfl rfl ?_)
  have hw2 : IntKind.i64.wrap (2 * (pcS (p.z &&& q.x) : Int)) = 2 * (pcS (p.z &&& q.x) : Int) := wrap_i64_id (by omega)
  rw [hw2]
  repeat (first | refine TD_one rfl ?_ | refine FiltT_nil ?_ | refine FiltT_keep rfl ?_ | (refine TD_takew rfl rfl (Pu.addi ?_) ?_; · omega))
  refine TS_callE (countT (Nat.and_lt_two_pow _ (Nat.xor_lt_two_pow hp.2 hq.2))) ?_
  have ha3 := and3_i64 (z := p.ph + (pcS (p.x &&& p.z) : Int) + q.ph + (pcS (q.x &&& q.z) : Int) + 2 * (pcS (p.z &&& q.x) : Int) - (pcS ((p.x ^^^ q.x) &&& (p.z ^^^ q.z)) : Int)) (by omega)
  repeat (first | refine StepC.go ?_ | refine TD_take rfl rfl ?_ | (refine TD_takew rfl rfl (Pu.subi ?_) ?_; · omega))
  refine retT_2 (.inr rfl) ?_
  rw [ha3]
  simp only [tret, mulC]
  rw [if_pos h1]; rfl
instance : CallIs Try.prog 26 := .of Try.func26 rfl rfl
@[reducible] def oneOk (n q : Int) (k : Nat) : Prop := 0 ≤ q ∧ q < n ∧ n ≤ 64 ∧ 88 ≤ k ∧ k ≤ 90

def oneP (n q : Int) (k : Nat) : PauD × Int := if oneOk n q k then (⟨n, if k = 90 then 0 else bitN q, if k = 88 then 0 else bitN q, 0⟩, 0) else (noPau, 2)
set_option synthInstance.maxSize 4000 in
set_option synthInstance.maxHeartbeats 400000 in
set_option maxHeartbeats 2000000 in
theorem oneT (n q : Int) (k : Nat) : Fn Try.prog 25 [intT n, intT q, u8T k] (fun r => r = .tup [pauT (oneP n q k).1, intT (oneP n q k).2]) := by
  refine Fn_of Try.func25 rfl (Nat.le_of_ble_eq_true rfl) (fun X => ?_)
  repeat (first | refine StepC.go ?_ | intro _)
  refine TS_callE (eyeT n) ?_
  repeat (first | refine StepC.go ?_ | intro _)
  rename_i pr pp
  refine TS_cut (fun σ B => TGet σ 33 (boolT (!decide (oneOk n q k))) ∧ TGet σ 0 (intT n) ∧ TGet σ 1 (intT q) ∧ TGet σ 2 (u8T k) ∧ TGet σ 6 (.v (.pointer (some (ad pr 0)))) ∧ TGet σ 8 (.v (.pointer (some (ad pp 0)))) ∧ SubP B [(pp, .cells (pauCs (eyeP n).1) 29 true), (pr, .cells [intT 0, u64T 0, u64T 0, intT 0] 29 true)]) ?_ ?_
  · repeat' (first | refine StepC.go ?_ | (refine TS_on rfl ?_ ?_; · first | rfl | assumption) | (refine TS_off rfl ?_ ?_; · first | rfl | assumption) | (refine TS_puw (Pu.pick_t ?_) ?_; · first | rfl | assumption) | (refine TS_guard rfl ?_ ?_ <;> intro hg))
    all_goals refine ⟨tget_as (congrArg (fun b => boolT b) ?_), inferInstance, inferInstance, inferInstance, inferInstance, inferInstance, inferInstance⟩
    all_goals (rw [Bool.eq_iff_iff]; simp only [Bool.if_true_left, Bool.not_eq_true', Bool.or_eq_true, Bool.or_eq_false_iff, decide_eq_true_eq, decide_eq_false_iff_not, Bool.not_eq_false', Bool.not_false, Bool.not_true, true_iff, false_iff, Bool.decide_eq_true, eyeP_ok] at * <;> omega)
  rintro σ B ⟨g33, g0, g1, g2, g6, g8, hB⟩
  refine TV_keep _ (p := hB) ?_
  skip
  refine TV_cond ?_ ?_ <;> intro hc
  · have hno : ¬ oneOk n q k := by simp only [Bool.not_eq_true', decide_eq_false_iff_not] at hc; exact hc
    repeat (refine StepC.go ?_)
    refine retT_2 (.inr rfl) ?_
    simp only [tret, oneP]
    rw [if_neg hno]; rfl
  have hok : oneOk n q k := by simp only [Bool.not_eq_false', decide_eq_true_eq] at hc; exact hc
  have hey : eyeP n = (⟨n, 0, 0, 0⟩, 0) := by unfold eyeP; obtain ⟨h1, h2, h3, _⟩ := hok; rw [if_neg (by omega)]
  rw [hey]
  have := asNat_of hok.1
  by_cases k1 : k = 90
  · have hk2 : ¬ k = 88 := by omega
    have d1 : (!decide ((k : Int) = 90)) = false := by simp; omega
    have d2 : (!decide ((k : Int) = 88)) = true := by simp; omega
    repeat (first | refine StepC.go ?_ | (refine TV_cond_t ?_ ?_; · first | rfl | assumption) | (refine TV_cond_f ?_ ?_; · first | rfl | assumption))
    refine retT_2 (.inr rfl) ?_
    simp only [tret, oneP]
    rw [if_pos hok, if_pos k1, if_neg hk2]; rfl
  · have d1 : (!decide ((k : Int) = 90)) = true := by simp; omega
    by_cases k2 : k = 88
    · have d2 : (!decide ((k : Int) = 88)) = false := by simp; omega
      repeat (first | refine StepC.go ?_ | (refine TV_cond_t ?_ ?_; · first | rfl | assumption) | (refine TV_cond_f ?_ ?_; · first | rfl | assumption))
      refine retT_2 (.inr rfl) ?_
      simp only [tret, oneP]
      rw [if_pos hok, if_neg k1, if_pos k2]; rfl
    · have d2 : (!decide ((k : Int) = 88)) = true := by simp; omega
      repeat (first | refine StepC.go ?_ | (refine TV_cond_t ?_ ?_; · first | rfl | assumption))
      refine retT_2 (.inr rfl) ?_
      simp only [tret, oneP]
      rw [if_pos hok, if_neg k1, if_neg k2]; rfl
instance : CallIs Try.prog 25 := .of Try.func25 rfl rfl
end Go.Ideal

-- Vc
set_option linter.unusedSimpArgs false
set_option linter.unusedVariables false
namespace Go.Ideal
open Go Go.Proofs Go.RowKit
/-! ### The reference's strings: letters -/
def btS (x : Nat) (j : Int) : Bool := decide (((x >>> j.toNat &&& 1 : Nat) : Int) = 1)
def atL (x z : Bool) : Int := if x then (if z then 2 else 1) else (if z then 3 else 0)
def atS (p : PauD) (j : Int) : Int := atL (btS p.x j) (btS p.z j)
theorem atT {p : PauD} {j : Int} (hw : PauW p) (hj : 0 ≤ j) : Fn Try.prog 39 [pauT p, intT j] (fun r => r = intT (atS p j)) := by
  have : Lt64 p.x := ⟨hw.1⟩
  have : Lt64 p.z := ⟨hw.2⟩
  have := asNat_of hj
  refine Fn_of Try.func39 rfl (Nat.le_of_ble_eq_true rfl) (fun X => ?_)
  unfold atS
  obtain ⟨bx, hbx⟩ : ∃ b, b = btS p.x j := ⟨_, rfl⟩
  obtain ⟨bz, hbz⟩ : ∃ b, b = btS p.z j := ⟨_, rfl⟩
  rw [← hbx, ← hbz]
  have ex : decide (((p.x >>> j.toNat &&& 1 : Nat) : Int) = 1) = bx := hbx.symm
  have ez : decide (((p.z >>> j.toNat &&& 1 : Nat) : Int) = 1) = bz := hbz.symm
  have ec : (if decide (((p.x >>> j.toNat &&& 1 : Nat) : Int) = 1) = true then decide (((p.z >>> j.toNat &&& 1 : Nat) : Int) = 1) else false) = (bx && bz) := by rw [ex, ez]; cases bx <;> cases bz <;> rfl
  cases bx <;> cases bz
  all_goals repeat (first | refine StepC.go ?_ | intro _ | (refine TS_on rfl ?_ ?_; · first | rfl | assumption) | (refine TS_off rfl ?_ ?_; · first | rfl | assumption) | (refine TS_puw (Pu.pick_f ?_) ?_; · first | rfl | assumption) | (refine TV_cond_t ?_ ?_; · first | rfl | assumption) | (refine TV_cond_f ?_ ?_; · first | rfl | assumption))
  all_goals exact retT_1 (.inr rfl) rfl
instance : CallIs Try.prog 39 := .of Try.func39 rfl rfl
def setS (p : PauD) (j : Int) (k : Int) : PauD := ⟨p.n, if k = 1 ∨ k = 2 then p.x ||| bitN j else p.x, if k = 2 ∨ k = 3 then p.z ||| bitN j else p.z, p.ph⟩
theorem setT {p : PauD} {j k : Int} (hw : PauW p) (hj : 0 ≤ j) (hk : k = 0 ∨ k = 1 ∨ k = 2 ∨ k = 3) : Fn Try.prog 36 [pauT p, intT j, intT k] (fun r => r = pauT (setS p j k)) := by
  have : Lt64 p.x := ⟨hw.1⟩
  have : Lt64 p.z := ⟨hw.2⟩
  have := asNat_of hj
  refine Fn_of Try.func36 rfl (Nat.le_of_ble_eq_true rfl) (fun X => ?_)
  rcases hk with rfl | rfl | rfl | rfl
  all_goals repeat (first | refine StepC.go ?_ | intro _ | (refine TS_on rfl ?_ ?_; · first | rfl | assumption) | (refine TS_off rfl ?_ ?_; · first | rfl | assumption) | refine TD_take rfl rfl ?_ | refine TD_load rfl rfl ?_ | refine TD_one rfl ?_ | refine FiltT_nil ?_ | refine FiltT_drop rfl ?_ | refine TV_draw (id := 2) (plan := [.take 0, .take 1, .take 2, .take 3, .take 4, .take 5, .one 6]) (by kernel_rfl) ?_ | refine TV_draw (id := 4) (plan := [.take 0, .take 1, .take 2, .take 3, .take 4, .take 5, .one 6]) (by kernel_rfl) ?_ | (refine TV_cond_t ?_ ?_; · first | rfl | assumption) | (refine TV_cond_f ?_ ?_; · first | rfl | assumption))
  all_goals exact retT_1 (.inr rfl) rfl
instance : CallIs Try.prog 36 := .of Try.func36 rfl rfl
/-- of two letters: which one, and the power of i ahead -/
def prodL (a b : Int) : Int × Int := if a = 0 then (b, 0) else if b = 0 then (a, 0) else if a = b then (0, 0) else if b = a.tmod 3 + 1 then (6 - a - b, 1) else (6 - a - b, 3)
theorem prodT {a b : Int} (ha : 0 ≤ a ∧ a ≤ 3) (hb : 0 ≤ b ∧ b ≤ 3) : Fn Try.prog 38 [intT a, intT b] (fun r => r = .tup [intT (prodL a b).1, intT (prodL a b).2]) := by
  refine Fn_of Try.func38 rfl (Nat.le_of_ble_eq_true rfl) (fun X => ?_)
  obtain ⟨a', rfl⟩ := Int.eq_ofNat_of_zero_le ha.1
  have ht : ((a' : Int)).tmod 3 = ((a' % 3 : Nat) : Int) := rfl
  repeat (refine StepC.go ?_)
  refine TV_cond ?_ ?_ <;> intro h1
  · have h1 := of_decide_eq_true h1
    repeat (refine StepC.go ?_)
    refine retT_2 (.inr rfl) ?_
    simp only [tret, prodL]
    rw [if_pos h1]
  have e1 := of_decide_eq_false h1
  repeat (refine StepC.go ?_)
  refine TV_cond ?_ ?_ <;> intro h2
  · have h2 := of_decide_eq_true h2
    repeat (refine StepC.go ?_)
    refine retT_2 (.inr rfl) ?_
    simp only [tret, prodL]
    rw [if_neg e1, if_pos h2]
  have e2 := of_decide_eq_false h2
  repeat (refine StepC.go ?_)
  refine TV_cond ?_ ?_ <;> intro h3
  · have h3 := of_decide_eq_true h3
    repeat (refine StepC.go ?_)
    refine retT_2 (.inr rfl) ?_
    simp only [tret, prodL]
    rw [if_neg e1, if_neg e2, if_pos h3]
  have e3 := of_decide_eq_false h3
  repeat (refine StepC.go ?_)
  refine TS_puw (Pu.divw (by decide) rfl) ?_
  rw [ht]
  repeat (first | refine StepC.go ?_ | (refine TS_puw (Pu.addi ?_) ?_; · omega))
  refine TV_cond ?_ ?_ <;> intro h4
  · have h4 := of_decide_eq_true h4
    repeat (first | refine StepC.go ?_ | (refine TS_puw (Pu.subi ?_) ?_; · omega))
    refine retT_2 (.inr rfl) ?_
    simp only [tret, prodL]
    rw [if_neg e1, if_neg e2, if_neg e3, if_pos (by rw [ht]; exact h4)]
  · have h4 := of_decide_eq_false h4
    repeat (first | refine StepC.go ?_ | (refine TS_puw (Pu.subi ?_) ?_; · omega))
    refine retT_2 (.inr rfl) ?_
    simp only [tret, prodL]
    rw [if_neg e1, if_neg e2, if_neg e3, if_neg (by rw [ht]; exact h4)]
instance : CallIs Try.prog 38 := .of Try.func38 rfl rfl
theorem atL_in (x z : Bool) : 0 ≤ atL x z ∧ atL x z ≤ 3 := by cases x <;> cases z <;> decide
theorem prodL_in (x z y w : Bool) : (prodL (atL x z) (atL y w)).1 = atL (x ^^ y) (z ^^ w) ∧ 0 ≤ (prodL (atL x z) (atL y w)).2 ∧ (prodL (atL x z) (atL y w)).2 ≤ 3 := by
  cases x <;> cases z <;> cases y <;> cases w <;> decide
end Go.Ideal

-- Vd
set_option linter.unusedSimpArgs false
set_option linter.unusedVariables false
namespace Go.Ideal
open Go Go.Proofs Go.RowKit
/-! ### The reference's product is the program's -/
theorem btS_bit (x : Nat) (j : Int) : btS x j = x.testBit j.toNat := by
  unfold btS
  rw [bit_testBit]
  cases x.testBit j.toNat <;> rfl
theorem shr_zero {x n : Nat} (h : x >>> n = 0) (i : Nat) (hi : n ≤ i) : x.testBit i = false := by
  have h1 : (x >>> n).testBit (i - n) = false := by rw [h]; exact Nat.zero_testBit _
  rw [Nat.testBit_shiftRight] at h1
  rwa [show n + (i - n) = i by omega] at h1
theorem lt64_bit {x : Nat} (h : x < 2 ^ 64) (i : Nat) (hi : 64 ≤ i) : x.testBit i = false := Nat.testBit_lt_two_pow (Nat.lt_of_lt_of_le h (Nat.pow_le_pow_right (by decide) hi))
theorem or_zero {a b : Nat} : a ||| b = 0 ↔ a = 0 ∧ b = 0 := by
  constructor
  · intro h
    refine ⟨Nat.eq_of_testBit_eq fun i => ?_, Nat.eq_of_testBit_eq fun i => ?_⟩
    all_goals
      have := congrArg (fun w => w.testBit i) h
      simp only [Nat.testBit_or, Nat.zero_testBit, Bool.or_eq_false_iff] at this
      simp [this]
  · rintro ⟨rfl, rfl⟩; rfl
theorem pbel_or (x z : Nat) (n : Int) : pbelS (x ||| z) n = (decide (n = 64) || (decide (((x >>> n.toNat : Nat) : Int) = 0) && decide (((z >>> n.toNat : Nat) : Int) = 0))) := by
  unfold pbelS
  congr 1
  rw [Nat.shiftRight_or_distrib, ← Bool.decide_and]
  refine decide_eq_decide.2 ?_
  have := @or_zero (x >>> n.toNat) (z >>> n.toNat)
  omega
/-- no bits at n and above -/
theorem pau_bits {p : PauD} (hw : PauW p) (h : checkP p = 0) (i : Nat) (hi : p.n.toNat ≤ i) : p.x.testBit i = false ∧ p.z.testBit i = false := by
  obtain ⟨h0, h1, _, _, h4⟩ := checkP_in h
  rw [pbel_or] at h4
  by_cases h64 : p.n = 64
  · have : 64 ≤ i := by omega
    exact ⟨lt64_bit hw.1 i this, lt64_bit hw.2 i this⟩
  · rw [decide_eq_false h64, Bool.false_or, Bool.and_eq_true, decide_eq_true_eq, decide_eq_true_eq] at h4
    exact ⟨shr_zero (by omega) i hi, shr_zero (by omega) i hi⟩
theorem checkRT' {p : PauD} (hw : PauW p) : Fn Try.prog 37 [pauT p] (fun r => r = intT (checkP p)) := by
  have : Lt64 p.x := ⟨hw.1⟩
  have : Lt64 p.z := ⟨hw.2⟩
  refine Fn_of Try.func37 rfl (Nat.le_of_ble_eq_true rfl) (fun X => ?_)
  by_cases h1 : p.n < 0
  · have d1 : decide (p.n < 0) = true := by simpa using h1
    repeat (first | refine StepC.go ?_ | intro _ | (refine TS_off rfl ?_ ?_; · first | rfl | assumption) | (refine TS_puw (Pu.pick_t ?_) ?_; · first | rfl | assumption) | (refine TV_cond_t ?_ ?_; · first | rfl | assumption))
    refine retT_1 (.inr rfl) ?_
    rw [checkP_bad (by omega)]; rfl
  have d1 : decide (p.n < 0) = false := by simpa using h1
  by_cases h2 : 64 < p.n
  · have d2 : (if decide (p.n < 0) = true then true else decide (64 < p.n)) = true := by rw [d1]; simpa using h2
    repeat (first | refine StepC.go ?_ | intro _ | (refine TS_on rfl ?_ ?_; · first | rfl | assumption) | (refine TS_off rfl ?_ ?_; · first | rfl | assumption) | (refine TS_puw (Pu.pick_t ?_) ?_; · first | rfl | assumption) | (refine TV_cond_t ?_ ?_; · first | rfl | assumption))
    refine retT_1 (.inr rfl) ?_
    rw [checkP_bad (by omega)]; rfl
  have d2 : (if decide (p.n < 0) = true then true else decide (64 < p.n)) = false := by rw [d1]; simpa using h2
  by_cases h3 : p.ph < 0
  · have d3 : (if (if decide (p.n < 0) = true then true else decide (64 < p.n)) = true then true else decide (p.ph < 0)) = true := by rw [d2]; simpa using h3
    repeat (first | refine StepC.go ?_ | intro _ | (refine TS_on rfl ?_ ?_; · first | rfl | assumption) | (refine TS_off rfl ?_ ?_; · first | rfl | assumption) | (refine TS_puw (Pu.pick_t ?_) ?_; · first | rfl | assumption) | (refine TV_cond_t ?_ ?_; · first | rfl | assumption))
    refine retT_1 (.inr rfl) ?_
    rw [checkP_bad (by omega)]; rfl
  have d3 : (if (if decide (p.n < 0) = true then true else decide (64 < p.n)) = true then true else decide (p.ph < 0)) = false := by rw [d2]; simpa using h3
  repeat (first | refine StepC.go ?_ | intro _ | (refine TS_on rfl ?_ ?_; · first | rfl | assumption))
  refine TV_cond ?_ ?_ <;> intro h4
  · rw [d3] at h4
    repeat (refine StepC.go ?_)
    refine retT_1 (.inr rfl) ?_
    rw [checkP_bad (by simp at h4; omega)]; rfl
  rw [d3] at h4
  have h4 : p.ph ≤ 3 := by simp at h4; omega
  have := asNat_of (z := p.n) (by omega)
  have hb := pbel_or p.x p.z p.n
  by_cases h5 : p.n < 64
  · have d5 : decide (p.n < 64) = true := by simpa using h5
    rw [decide_eq_false (by omega), Bool.false_or] at hb
    by_cases h6 : ((p.x >>> p.n.toNat : Nat) : Int) = 0
    · have d6 : (!decide (((p.x >>> p.n.toNat : Nat) : Int) = 0)) = false := by simpa using h6
      rw [decide_eq_true h6, Bool.true_and] at hb
      repeat (first | refine StepC.go ?_ | (refine TS_on rfl ?_ ?_; · first | rfl | assumption))
      refine TV_cond ?_ ?_ <;> intro h7
      · repeat (refine StepC.go ?_)
        refine retT_1 (.inr rfl) ?_
        rw [d5, d6] at h7
        have h8 : pbelS (p.x ||| p.z) p.n = false := by rw [hb]; simpa using h7
        simp only [tret, checkP, pauOk, h8, Bool.and_false]; rfl
      · repeat (refine StepC.go ?_)
        refine retT_1 (.inr rfl) ?_
        rw [d5, d6] at h7
        have h8 : pbelS (p.x ||| p.z) p.n = true := by rw [hb]; simpa using h7
        rw [checkP_ok ⟨by omega, by omega, by omega, by omega, h8⟩]; rfl
    · have d6 : (!decide (((p.x >>> p.n.toNat : Nat) : Int) = 0)) = true := by simpa using h6
      rw [decide_eq_false h6, Bool.false_and] at hb
      repeat (first | refine StepC.go ?_ | (refine TS_on rfl ?_ ?_; · first | rfl | assumption) | (refine TS_off rfl ?_ ?_; · first | rfl | assumption) | (refine TS_puw (Pu.pick_t ?_) ?_; · first | rfl | assumption))
      refine TV_cond ?_ ?_ <;> intro h7
      · repeat (refine StepC.go ?_)
        refine retT_1 (.inr rfl) ?_
        simp only [tret, checkP, pauOk, hb, Bool.and_false]; rfl
      · rw [d5] at h7
        simp at h7
  · have d5 : decide (p.n < 64) = false := by simpa using h5
    repeat (first | refine StepC.go ?_ | (refine TS_off rfl ?_ ?_; · first | rfl | assumption) | refine TS_off_undef rfl ?_ | (refine TS_puw (Pu.pick_f ?_) ?_; · first | rfl | assumption) | (refine TV_cond_f ?_ ?_; · first | rfl | assumption))
    refine retT_1 (.inr rfl) ?_
    rw [checkP_ok ⟨by omega, by omega, by omega, by omega, by rw [hb, decide_eq_true (by omega)]; rfl⟩]; rfl
instance : CallIs Try.prog 37 := .of Try.func37 rfl rfl
theorem oneRT (n q : Int) (k : Nat) (hk : k < 256) : Fn Try.prog 19 [intT n, intT q, u8T k] (fun r => r = .tup [pauT (oneP n q k).1, intT (oneP n q k).2]) := by
  refine Fn_of Try.func19 rfl (Nat.le_of_ble_eq_true rfl) (fun X => ?_)
  repeat (first | refine StepC.go ?_ | intro _)
  refine TS_callE (eyeRT n) ?_
  repeat (first | refine StepC.go ?_ | intro _)
  rename_i pr pp
  refine TS_cut (fun σ B => TGet σ 37 (boolT (!decide (oneOk n q k))) ∧ TGet σ 0 (intT n) ∧ TGet σ 1 (intT q) ∧ TGet σ 2 (u8T k) ∧ TGet σ 6 (.v (.pointer (some (ad pr 0)))) ∧ TGet σ 8 (.v (.pointer (some (ad pp 0)))) ∧ SubP B [(pp, .cells (pauCs (eyeP n).1) 29 true), (pr, .cells [intT 0, u64T 0, u64T 0, intT 0] 29 true)]) ?_ ?_
  · repeat' (first | refine StepC.go ?_ | (refine TS_on rfl ?_ ?_; · first | rfl | assumption) | (refine TS_off rfl ?_ ?_; · first | rfl | assumption) | refine TS_off_undef rfl ?_ | (refine TS_puw (Pu.pick_t ?_) ?_; · first | rfl | assumption) | (refine TS_puw (Pu.pick_f ?_) ?_; · first | rfl | assumption) | (refine TS_guard rfl ?_ ?_ <;> intro hg))
    all_goals refine ⟨tget_as (congrArg (fun b => boolT b) ?_), inferInstance, inferInstance, inferInstance, inferInstance, inferInstance, inferInstance⟩
    all_goals (rw [Bool.eq_iff_iff]; simp only [Bool.if_true_left, Bool.if_false_right, Bool.and_eq_true, Bool.and_eq_false_iff, Bool.not_eq_true', Bool.or_eq_true, Bool.or_eq_false_iff, decide_eq_true_eq, decide_eq_false_iff_not, Bool.not_eq_false', Bool.not_false, Bool.not_true, true_iff, false_iff, Bool.decide_eq_true, eyeP_ok] at * <;> omega)
  rintro σ B ⟨g33, g0, g1, g2, g6, g8, hB⟩
  refine TV_keep _ (p := hB) ?_
  skip
  refine TV_cond ?_ ?_ <;> intro hc
  · have hno : ¬ oneOk n q k := by simp only [Bool.not_eq_true', decide_eq_false_iff_not] at hc; exact hc
    repeat (refine StepC.go ?_)
    refine retT_2 (.inr rfl) ?_
    simp only [tret, oneP]
    rw [if_neg hno]; rfl
  have hok : oneOk n q k := by simp only [Bool.not_eq_false', decide_eq_true_eq] at hc; exact hc
  have hey : eyeP n = (⟨n, 0, 0, 0⟩, 0) := by unfold eyeP; obtain ⟨h1, h2, h3, _⟩ := hok; rw [if_neg (by omega)]
  rw [hey]
  have hcv : IntKind.i64.wrap (k : Int) = k := wrap_i64_id (by omega)
  repeat (first | refine StepC.go ?_ | (refine TS_puw (Pu.addi ?_) ?_; · omega) | (refine TS_puw (Pu.subi ?_) ?_; · omega))
  rw [hcv]
  skip
  refine TS_callE (setT (p := ⟨n, 0, 0, 0⟩) ⟨by show 0 < 2 ^ 64; decide, by show 0 < 2 ^ 64; decide⟩ hok.1 (by have := hok.2.2.2; omega)) ?_
  repeat (refine StepC.go ?_)
  refine retT_2 (.inr rfl) ?_
  simp only [tret, oneP]
  rw [if_pos hok]
  have hk3 : k = 88 ∨ k = 89 ∨ k = 90 := by have := hok.2.2.2; omega
  rcases hk3 with rfl | rfl | rfl <;> simp [setS]
instance : CallIs Try.prog 19 := .of Try.func19 rfl rfl
/-! ### The reference's product -/
/-- the bits below j -/
def lowK (x : Nat) : Nat → Nat
  | 0 => 0
  | j + 1 => if btS x (j : Int) then lowK x j ||| bitN j else lowK x j
theorem bitN_bit {j : Nat} (hj : j < 64) (i : Nat) : (bitN (j : Int)).testBit i = decide (i = j) := by
  unfold bitN
  rw [Int.toNat_natCast, Nat.shiftLeft_eq, Nat.one_mul, Nat.mod_eq_of_lt (Nat.pow_lt_pow_of_lt (by decide) hj), Nat.testBit_two_pow]
  exact decide_eq_decide.2 ⟨fun h => h.symm, fun h => h.symm⟩
theorem lowK_bit (x : Nat) : ∀ j, j ≤ 64 → ∀ i, (lowK x j).testBit i = (decide (i < j) && x.testBit i) := by
  intro j
  induction j with
  | zero => intro _ i; simp [lowK]
  | succ j ih =>
    intro hj i
    have h1 := ih (by omega) i
    rw [lowK, btS_bit, Int.toNat_natCast]
    by_cases hb : x.testBit j = true
    · rw [if_pos hb, Nat.testBit_or, h1, bitN_bit (by omega)]
      by_cases hi : i = j
      · subst hi; simp [hb]
      · have : (decide (i < j + 1)) = decide (i < j) := decide_eq_decide.2 (by omega)
        rw [this, decide_eq_false hi, Bool.or_false]
    · rw [if_neg hb, h1]
      by_cases hi : i = j
      · subst hi; simp at hb; simp [hb]
      · have : (decide (i < j + 1)) = decide (i < j) := decide_eq_decide.2 (by omega)
        rw [this]
theorem lowK_all {x n : Nat} (hn : n ≤ 64) (h : ∀ i, n ≤ i → x.testBit i = false) : lowK x n = x := by
  refine Nat.eq_of_testBit_eq fun i => ?_
  rw [lowK_bit x n hn i]
  by_cases hi : i < n
  · simp [hi]
  · rw [h i (by omega)]; simp
theorem lowK_lt (x : Nat) {j : Nat} (hj : j ≤ 64) : lowK x j < 2 ^ 64 := by
  refine Nat.lt_pow_two_of_testBit _ fun i hi => ?_
  rw [lowK_bit x j hj i]
  have : ¬ i < j := by omega
  simp [this]
/-- the powers of i ahead, letter by letter -/
def prPh (p q : PauD) (i : Nat) : Int := (prodL (atS p (i : Int)) (atS q (i : Int))).2
def sumPh (p q : PauD) : Nat → Int
  | 0 => 0
  | j + 1 => sumPh p q j + prPh p q j
theorem prPh_in (p q : PauD) (i : Nat) : 0 ≤ prPh p q i ∧ prPh p q i ≤ 3 := (prodL_in _ _ _ _).2
theorem sumPh_in (p q : PauD) : ∀ j : Nat, 0 ≤ sumPh p q j ∧ sumPh p q j ≤ 3 * j := by
  intro j
  induction j with
  | zero => exact ⟨Int.le_refl _, Int.le_refl _⟩
  | succ j ih => have := prPh_in p q j; simp only [sumPh]; omega
theorem sumPh_more {p q : PauD} (hp : PauW p) (hcp : checkP p = 0) (hq : PauW q) (hcq : checkP q = 0) (hn : p.n = q.n) : ∀ j, p.n.toNat ≤ j → sumPh p q j = sumPh p q p.n.toNat := by
  intro j
  induction j with
  | zero => intro h; have : p.n.toNat = 0 := by omega
            rw [this]
  | succ j ih =>
    intro h
    by_cases h1 : p.n.toNat = j + 1
    · rw [h1]
    · rw [sumPh, ih (by omega)]
      obtain ⟨e1, e2⟩ := pau_bits hp hcp j (by omega)
      obtain ⟨e3, e4⟩ := pau_bits hq hcq j (by omega)
      unfold prPh atS
      rw [btS_bit, btS_bit, btS_bit, btS_bit, Int.toNat_natCast, e1, e2, e3, e4]
      simp [atL, prodL]
theorem letter_ph (x z y w : Bool) : ((prodL (atL x z) (atL y w)).2 - (((x && z).toNat : Int) + ((y && w).toNat : Int) + 2 * ((z && y).toNat : Int) - (((x ^^ y) && (z ^^ w)).toNat : Int))) % 4 = 0 := by
  cases x <;> cases z <;> cases y <;> cases w <;> decide
theorem sumPh_pc (p q : PauD) : ∀ j, (sumPh p q j - ((pcK (fun i => (p.x &&& p.z).testBit i) j : Int) + (pcK (fun i => (q.x &&& q.z).testBit i) j : Int) + 2 * (pcK (fun i => (p.z &&& q.x).testBit i) j : Int) - (pcK (fun i => ((p.x ^^^ q.x) &&& (p.z ^^^ q.z)).testBit i) j : Int))) % 4 = 0 := by
  intro j
  induction j with
  | zero => rfl
  | succ j ih =>
    have h1 := letter_ph (p.x.testBit j) (p.z.testBit j) (q.x.testBit j) (q.z.testBit j)
    have e : prPh p q j = (prodL (atL (p.x.testBit j) (p.z.testBit j)) (atL (q.x.testBit j) (q.z.testBit j))).2 := by
      unfold prPh atS
      rw [btS_bit, btS_bit, btS_bit, btS_bit, Int.toNat_natCast]
    simp only [sumPh, pcK, e, Nat.testBit_and, Nat.testBit_xor] at ih ⊢
    omega
theorem ref_phase {p q : PauD} (hp : PauW p) (hcp : checkP p = 0) (hq : PauW q) (hcq : checkP q = 0) (hn : p.n = q.n) : (p.ph + q.ph + sumPh p q p.n.toNat) % 4 = mphS p q := by
  obtain ⟨h0, h1, _⟩ := checkP_in hcp
  have e := sumPh_more hp hcp hq hcq hn 64 (by omega)
  have s := sumPh_pc p q 64
  unfold mphS pcS
  rw [← e]
  omega
end Go.Ideal

-- Ve
set_option linter.unusedSimpArgs false
set_option linter.unusedVariables false
namespace Go.Ideal
open Go Go.Proofs Go.RowKit
/-- the product as far as letter j -/
def mulK (p q : PauD) (j : Nat) : PauD := ⟨p.n, lowK (p.x ^^^ q.x) j, lowK (p.z ^^^ q.z) j, p.ph + q.ph + sumPh p q j⟩
theorem btS_xor (x y : Nat) (j : Int) : btS (x ^^^ y) j = (btS x j ^^ btS y j) := by rw [btS_bit, btS_bit, btS_bit, Nat.testBit_xor]
theorem mulK_step (p q : PauD) (j : Nat) : (⟨(setS (mulK p q j) j (prodL (atS p j) (atS q j)).1).n, (setS (mulK p q j) j (prodL (atS p j) (atS q j)).1).x, (setS (mulK p q j) j (prodL (atS p j) (atS q j)).1).z, (setS (mulK p q j) j (prodL (atS p j) (atS q j)).1).ph + (prodL (atS p j) (atS q j)).2⟩ : PauD) = mulK p q (j + 1) := by
  have e : (prodL (atS p j) (atS q j)).1 = atL (btS (p.x ^^^ q.x) j) (btS (p.z ^^^ q.z) j) := by
    rw [btS_xor, btS_xor]; exact (prodL_in _ _ _ _).1
  rw [e]
  unfold setS mulK
  simp only [lowK, sumPh, prPh, Int.add_assoc]
  cases btS (p.x ^^^ q.x) j <;> cases btS (p.z ^^^ q.z) j <;> simp [atL]
set_option synthInstance.maxSize 4000 in
set_option synthInstance.maxHeartbeats 400000 in
set_option maxHeartbeats 2000000 in
theorem mulRT {p q : PauD} (hp : PauW p) (hq : PauW q) : Fn Try.prog 20 [pauT p, pauT q] (fun r => r = .tup [pauT (mulC p q).1, intT (mulC p q).2]) := by
  refine Fn_of Try.func20 rfl (Nat.le_of_ble_eq_true rfl) (fun X => ?_)
  repeat (first | refine StepC.go ?_ | intro _)
  rename_i pp pq pr
  refine TS_callE (checkRT' hp) ?_
  repeat (refine StepC.go ?_)
  refine TS_cut (fun σ B => TGet σ 17 (boolT (!decide (checkP p = 0) || !decide (checkP q = 0))) ∧ TGet σ 2 (.v (.pointer (some (ad pp 0)))) ∧ TGet σ 3 (.v (.pointer (some (ad pq 0)))) ∧ TGet σ 4 (.v (.pointer (some (ad pr 0)))) ∧ SubP B [(pp, .cells (pauCs p) 29 true), (pq, .cells (pauCs q) 29 true), (pr, .cells [intT 0, u64T 0, u64T 0, intT 0] 29 true)]) ?_ ?_
  · by_cases h1 : checkP p = 0
    · have d1 : (!decide (checkP p = 0)) = false := by simpa using h1
      repeat (first | refine StepC.go ?_ | (refine TS_on rfl ?_ ?_; · first | rfl | assumption))
      refine TS_callE (checkRT' hq) ?_
      repeat (first | refine StepC.go ?_ | (refine TS_on rfl ?_ ?_; · first | rfl | assumption))
      exact ⟨tget_as (by rw [d1]; rfl), inferInstance, inferInstance, inferInstance, inferInstance⟩
    · have d1 : (!decide (checkP p = 0)) = true := by simpa using h1
      repeat (first | refine StepC.go ?_ | (refine TS_off rfl ?_ ?_; · first | rfl | assumption) | (refine TS_puw (Pu.pick_t ?_) ?_; · first | rfl | assumption))
      exact ⟨tget_as (by rw [d1]; rfl), inferInstance, inferInstance, inferInstance, inferInstance⟩
  rintro σ B ⟨g17, g2, g3, g4, hB⟩
  refine TV_keep _ (p := hB) ?_
  skip
  refine TV_cond ?_ ?_ <;> intro hc
  · repeat (refine StepC.go ?_)
    refine retT_2 (.inr rfl) ?_
    have h1 : bothS p q = 70 := by
      unfold bothS
      by_cases h2 : checkP p = 0
      · rw [if_pos h2, if_neg (by simpa [h2] using hc)]
      · rw [if_neg h2]
    simp only [tret, mulC]
    rw [h1]; rfl
  have hc1 : checkP p = 0 ∧ checkP q = 0 := by simpa using hc
  obtain ⟨hcp, hcq⟩ := hc1
  repeat (refine StepC.go ?_)
  refine TV_cond ?_ ?_ <;> intro hc2
  · repeat (refine StepC.go ?_)
    refine retT_2 (.inr rfl) ?_
    have h1 : bothS p q = 2 := by
      unfold bothS
      rw [if_pos hcp, if_pos hcq, if_neg (by simpa using hc2)]
    simp only [tret, mulC]
    rw [h1]; rfl
  have hn : p.n = q.n := by simpa using hc2
  have hb : bothS p q = 0 := by
    unfold bothS
    rw [if_pos hcp, if_pos hcq, if_pos hn]
  obtain ⟨p0, p1, p2, p3, p4⟩ := checkP_in hcp
  obtain ⟨q0, q1, q2, q3, q4⟩ := checkP_in hcq
  repeat (first | refine StepC.go ?_ | intro _ | (refine TS_puw (Pu.addi ?_) ?_; · omega))
  rename_i pm
  have hnn := asNat_of p0
  refine TV_loop (fun d σ B => ∃ (j : Nat), d = p.n.toNat - j ∧ j ≤ p.n.toNat ∧ TGet σ 7 (intT j) ∧ TGet σ 2 (.v (.pointer (some (ad pp 0)))) ∧ TGet σ 3 (.v (.pointer (some (ad pq 0)))) ∧ TGet σ 4 (.v (.pointer (some (ad pr 0)))) ∧ TGet σ 6 (.v (.pointer (some (ad pm 0)))) ∧
      SubP B [(pm, .cells (pauCs (mulK p q j)) 29 true), (pp, .cells (pauCs p) 29 true), (pq, .cells (pauCs q) 29 true), (pr, .cells [intT 0, u64T 0, u64T 0, intT 0] 29 true)]) p.n.toNat
    ⟨0, by omega, by omega, tget_as rfl, inferInstance, inferInstance, inferInstance, inferInstance, ?_⟩ ?_
  · have e : mulK p q 0 = ⟨p.n, 0, 0, p.ph + q.ph⟩ := by simp [mulK, lowK, sumPh]
    rw [e]
    infer_instance
  clear hB g17 g2 g3 g4
  rintro d σ B ⟨j, rfl, hj, g7, g2, g3, g4, g6, hB⟩
  refine TV_keep _ (p := hB) ?_
  repeat (refine StepC.go ?_)
  refine TV_cond ?_ ?_ <;> intro hc3
  · have hjn : j < p.n.toNat := by have := of_decide_eq_true hc3; omega
    have hs := sumPh_in p q j
    have hpr := prPh_in p q j
    unfold prPh at hpr
    have hmw : PauW (mulK p q j) := ⟨lowK_lt _ (by omega), lowK_lt _ (by omega)⟩
    have hpl : (prodL (atS p j) (atS q j)).1 = 0 ∨ (prodL (atS p j) (atS q j)).1 = 1 ∨ (prodL (atS p j) (atS q j)).1 = 2 ∨ (prodL (atS p j) (atS q j)).1 = 3 := by
      have h1 := (prodL_in (btS p.x j) (btS p.z j) (btS q.x j) (btS q.z j)).1
      have h2 := atL_in (btS p.x j ^^ btS q.x j) (btS p.z j ^^ btS q.z j)
      unfold atS
      omega
    have hph : (mulK p q j).ph = p.ph + q.ph + sumPh p q j := rfl
    have hph2 : (setS (mulK p q j) j (prodL (atS p j) (atS q j)).1).ph = p.ph + q.ph + sumPh p q j := rfl
    repeat (first | refine StepC.go ?_ | refine TD_take rfl rfl ?_ | refine TD_load rfl rfl ?_ | refine TD_one rfl ?_ | refine FiltT_nil ?_ | refine FiltT_drop rfl ?_ | refine FiltT_keep rfl ?_ | refine TV_draw (id := 9) (plan := [.take 0, .take 1, .take 3, .take 4, .one 2, .one 5, .one 6, .take 7, .take 8, .take 9, .take 10, .take 11]) (by kernel_rfl) ?_)
    refine TS_callE (atT hp (by omega)) ?_
    repeat (first | refine StepC.go ?_ | refine TD_one rfl ?_ | refine FiltT_nil ?_ | refine FiltT_drop rfl ?_)
    refine TS_callE (atT hq (by omega)) ?_
    repeat (first | refine StepC.go ?_ | refine TD_one rfl ?_ | refine FiltT_nil ?_)
    refine TS_callE (prodT (a := atS p j) (b := atS q j) (atL_in _ _) (atL_in _ _)) ?_
    repeat (first | refine StepC.go ?_ | refine TD_take rfl rfl ?_)
    refine TS_callE (setT hmw (by omega) hpl) ?_
    repeat (first | refine StepC.go ?_ | (refine TS_puw (Pu.addi ?_) ?_; · omega))
    refine ⟨_, ?_, j + 1, rfl, by omega, tget_as rfl, inferInstance, inferInstance, inferInstance, inferInstance, ?_⟩
    · omega
    · rw [← mulK_step]; infer_instance
  · have hjn : j = p.n.toNat := by have := of_decide_eq_false hc3; omega
    subst hjn
    have hs := sumPh_in p q p.n.toNat
    have hph : (mulK p q p.n.toNat).ph = p.ph + q.ph + sumPh p q p.n.toNat := rfl
    have hz : (mulK p q p.n.toNat).ph.tmod 4 = mphS p q := by
      rw [hph, ← ref_phase hp hcp hq hcq hn, Int.tmod_eq_emod_of_nonneg (by omega)]
    repeat (refine StepC.go ?_)
    refine TS_puw (Pu.divw (by decide) rfl) ?_
    rw [hz]
    repeat (refine StepC.go ?_)
    refine retT_2 (.inr rfl) ?_
    simp only [tret, mulC]
    rw [if_pos hb]
    have ex : lowK (p.x ^^^ q.x) p.n.toNat = p.x ^^^ q.x := lowK_all (by omega) fun i hi => by
      rw [Nat.testBit_xor, (pau_bits hp hcp i hi).1, (pau_bits hq hcq i (by omega)).1]; rfl
    have ez : lowK (p.z ^^^ q.z) p.n.toNat = p.z ^^^ q.z := lowK_all (by omega) fun i hi => by
      rw [Nat.testBit_xor, (pau_bits hp hcp i hi).2, (pau_bits hq hcq i (by omega)).2]; rfl
    simp only [mulP, pauT, pauCs, mulK, ex, ez]
instance : CallIs Try.prog 20 := .of Try.func20 rfl rfl
end Go.Ideal

-- Vf
set_option linter.unusedSimpArgs false
set_option linter.unusedVariables false
namespace Go.Ideal
open Go Go.Proofs Go.RowKit
/-! ### Strings that are turned -/
@[reducible] def bdBox (p : PauD) : Box := .cells (pauCs p) 86 true
@[reducible] def ptrT (b : Nat) : Tr := .v (.pointer (some (ad b 0)))
def minusS (p : PauD) (yes : Bool) : PauD := if yes then ⟨p.n, p.x, p.z, (p.ph + 2) % 4⟩ else p
theorem bxT {p : PauD} {q : Int} (hw : PauW p) (hq : 0 ≤ q) : Fn Try.prog 43 [.pf (pauCs p), intT q] (fun r => r = boolT (btS p.x q)) := by
  have : Lt64 p.x := ⟨hw.1⟩
  have := asNat_of hq
  refine Fn_of Try.func43 rfl (Nat.le_of_ble_eq_true rfl) (fun X => ?_)
  repeat (refine StepC.go ?_)
  exact retT_1 (.inr rfl) rfl
instance : CallIs Try.prog 43 := .of Try.func43 rfl rfl
theorem bzT {p : PauD} {q : Int} (hw : PauW p) (hq : 0 ≤ q) : Fn Try.prog 42 [.pf (pauCs p), intT q] (fun r => r = boolT (btS p.z q)) := by
  have : Lt64 p.z := ⟨hw.2⟩
  have := asNat_of hq
  refine Fn_of Try.func42 rfl (Nat.le_of_ble_eq_true rfl) (fun X => ?_)
  repeat (refine StepC.go ?_)
  exact retT_1 (.inr rfl) rfl
instance : CallIs Try.prog 42 := .of Try.func42 rfl rfl
theorem minusT {p : PauD} {b : Nat} {yes : Bool} (hp : 0 ≤ p.ph ∧ p.ph ≤ 3) : FnB Try.prog 41 [ptrT b, boolT yes] [(b, bdBox p)] (fun r B1 => r = .tup [] ∧ B1 = [(b, bdBox (minusS p yes))]) := by
  refine FnM_of Try.func41 rfl (Nat.le_of_ble_eq_true rfl) (fun X C => ?_)
  cases yes with
  | true =>
    repeat (first | refine StepC.go ?_ | (refine TS_puw (Pu.addi ?_) ?_; · omega) | (refine TV_cond_t ?_ ?_; · first | rfl | assumption))
    refine TS_puw (Pu.divw (by decide) rfl) ?_
    rw [Int.tmod_eq_emod_of_nonneg (by omega)]
    repeat (refine StepC.go ?_)
    exact retB_0 b (bdBox ⟨p.n, p.x, p.z, (p.ph + 2) % 4⟩) (.inl rfl) ⟨rfl, rfl⟩
  | false =>
    repeat (first | refine StepC.go ?_ | (refine TV_cond_f ?_ ?_; · first | rfl | assumption))
    exact retB_0 b (bdBox p) (.inl rfl) ⟨rfl, rfl⟩
instance : CallIs Try.prog 41 := .of Try.func41 rfl rfl
theorem minusS_w {p : PauD} (h : PauW p) (yes : Bool) : PauW (minusS p yes) := by unfold minusS; split <;> exact h
theorem minusS_ph {p : PauD} (h : 0 ≤ p.ph ∧ p.ph ≤ 3) (yes : Bool) : 0 ≤ (minusS p yes).ph ∧ (minusS p yes).ph ≤ 3 := by
  unfold minusS; split
  · simp only; omega
  · exact h
theorem minusS_x (p : PauD) (yes : Bool) : (minusS p yes).x = p.x := by unfold minusS; split <;> rfl
theorem minusS_z (p : PauD) (yes : Bool) : (minusS p yes).z = p.z := by unfold minusS; split <;> rfl
theorem minusS_n (p : PauD) (yes : Bool) : (minusS p yes).n = p.n := by unfold minusS; split <;> rfl
theorem bitN_lt2 (q : Int) : bitN q < 2 ^ 64 := Nat.mod_lt _ (by decide)
def flipX (p : PauD) (q : Int) : PauD := ⟨p.n, p.x ^^^ bitN q, p.z, p.ph⟩
def flipZ (p : PauD) (q : Int) : PauD := ⟨p.n, p.x, p.z ^^^ bitN q, p.ph⟩
theorem flipX_w {p : PauD} (h : PauW p) (q : Int) : PauW (flipX p q) := ⟨Nat.xor_lt_two_pow h.1 (bitN_lt2 q), h.2⟩
theorem flipZ_w {p : PauD} (h : PauW p) (q : Int) : PauW (flipZ p q) := ⟨h.1, Nat.xor_lt_two_pow h.2 (bitN_lt2 q)⟩
/-- what one may do with a string -/
def PauG (p : PauD) : Prop := PauW p ∧ 0 ≤ p.ph ∧ p.ph ≤ 3
theorem PauG.minus {p : PauD} (h : PauG p) (yes : Bool) : PauG (minusS p yes) := ⟨minusS_w h.1 yes, minusS_ph h.2 yes⟩
theorem PauG.fx {p : PauD} (h : PauG p) (q : Int) : PauG (flipX p q) := ⟨flipX_w h.1 q, h.2⟩
theorem PauG.fz {p : PauD} (h : PauG p) (q : Int) : PauG (flipZ p q) := ⟨flipZ_w h.1 q, h.2⟩
def hS (p : PauD) (q : Int) : PauD :=
  if btS p.x q = btS p.z q then minusS p (btS p.x q && btS p.z q) else flipZ (flipX (minusS p (btS p.x q && btS p.z q)) q) q
set_option maxHeartbeats 1000000 in
theorem hT {p : PauD} {b : Nat} {q : Int} (hp : PauG p) (hq : 0 ≤ q) : FnB Try.prog 44 [ptrT b, intT q] [(b, bdBox p)] (fun r B1 => r = .tup [] ∧ B1 = [(b, bdBox (hS p q))]) := by
  have := asNat_of hq
  have : ∀ yes, Lt64 (minusS p yes).x := fun yes => ⟨(hp.minus yes).1.1⟩
  have : ∀ yes, Lt64 (minusS p yes).z := fun yes => ⟨(hp.minus yes).1.2⟩
  refine FnM_of Try.func44 rfl (Nat.le_of_ble_eq_true rfl) (fun X C => ?_)
  repeat (refine StepC.go ?_)
  refine TS_callE (bxT hp.1 hq) ?_
  repeat (refine StepC.go ?_)
  refine TS_callE (bzT hp.1 hq) ?_
  repeat (refine StepC.go ?_)
  cases hx : btS p.x q <;> cases hz : btS p.z q
  all_goals repeat (first | refine StepC.go ?_ | (refine TS_on rfl ?_ ?_; · first | rfl | assumption) | (refine TS_off rfl ?_ ?_; · first | rfl | assumption))
  all_goals refine TS_callM (minusT hp.2) ?_
  all_goals repeat (first | refine StepC.go ?_ | refine TD_take rfl rfl ?_ | refine TD_load rfl rfl ?_ | refine TD_one rfl ?_ | refine FiltT_nil ?_ | refine FiltT_drop rfl ?_ | refine TV_draw (id := 3) (plan := [.take 0, .take 1, .take 2, .take 3, .take 4, .take 5, .take 6, .take 7, .take 8, .take 9, .take 10, .one 11]) (by kernel_rfl) ?_ | refine TV_draw (id := 4) (plan := [.take 0, .take 1, .take 2, .take 3, .take 4, .take 5, .take 6, .take 7, .take 8, .take 9, .take 10, .one 11]) (by kernel_rfl) ?_ | (refine TV_cond_t ?_ ?_; · first | rfl | assumption) | (refine TV_cond_f ?_ ?_; · first | rfl | assumption))
  all_goals exact retB_here (.inl rfl) ⟨rfl, by simp [hS, hx, hz, flipX, flipZ, bitN]⟩
instance : CallIs Try.prog 44 := .of Try.func44 rfl rfl
def sS (p : PauD) (q : Int) (back : Bool) : PauD := if btS p.x q then flipZ (minusS p (btS p.z q != back)) q else p
def vS (p : PauD) (q : Int) (back : Bool) : PauD := if btS p.z q then flipX (minusS p (btS p.x q == back)) q else p
def cxS (p : PauD) (c t : Int) : PauD :=
  let p1 := minusS p (btS p.x c && btS p.z t && (btS p.x t == btS p.z c))
  let p2 := if btS p.x c then flipX p1 t else p1
  if btS p.z t then flipZ p2 c else p2
set_option maxHeartbeats 1000000 in
theorem sT {p : PauD} {b : Nat} {q : Int} {back : Bool} (hp : PauG p) (hq : 0 ≤ q) : FnB Try.prog 45 [ptrT b, intT q, boolT back] [(b, bdBox p)] (fun r B1 => r = .tup [] ∧ B1 = [(b, bdBox (sS p q back))]) := by
  have := asNat_of hq
  have : ∀ yes, Lt64 (minusS p yes).z := fun yes => ⟨(hp.minus yes).1.2⟩
  refine FnM_of Try.func45 rfl (Nat.le_of_ble_eq_true rfl) (fun X C => ?_)
  repeat (refine StepC.go ?_)
  refine TS_callE (bxT hp.1 hq) ?_
  cases hx : btS p.x q
  · repeat (first | refine StepC.go ?_ | (refine TV_cond_t ?_ ?_; · first | rfl | assumption))
    exact retB_here (.inr rfl) ⟨rfl, by simp [sS, hx]⟩
  · repeat (first | refine StepC.go ?_ | (refine TV_cond_f ?_ ?_; · first | rfl | assumption))
    refine TS_callE (bzT hp.1 hq) ?_
    repeat (refine StepC.go ?_)
    refine TS_callM (minusT hp.2) ?_
    repeat (first | refine StepC.go ?_ | refine TD_take rfl rfl ?_ | refine TD_load rfl rfl ?_ | refine TD_one rfl ?_ | refine FiltT_nil ?_ | refine FiltT_drop rfl ?_ | refine TV_draw (id := 2) (plan := [.take 0, .take 1, .take 2, .take 3, .take 4, .take 5, .take 6, .take 7, .take 8, .take 9, .take 10, .one 11]) (by kernel_rfl) ?_)
    exact retB_here (.inl rfl) ⟨rfl, by simp [sS, hx, flipZ, bitN, bne]⟩
instance : CallIs Try.prog 45 := .of Try.func45 rfl rfl
set_option maxHeartbeats 1000000 in
theorem vT {p : PauD} {b : Nat} {q : Int} {back : Bool} (hp : PauG p) (hq : 0 ≤ q) : FnB Try.prog 46 [ptrT b, intT q, boolT back] [(b, bdBox p)] (fun r B1 => r = .tup [] ∧ B1 = [(b, bdBox (vS p q back))]) := by
  have := asNat_of hq
  have : ∀ yes, Lt64 (minusS p yes).x := fun yes => ⟨(hp.minus yes).1.1⟩
  refine FnM_of Try.func46 rfl (Nat.le_of_ble_eq_true rfl) (fun X C => ?_)
  repeat (refine StepC.go ?_)
  refine TS_callE (bzT hp.1 hq) ?_
  cases hz : btS p.z q
  · repeat (first | refine StepC.go ?_ | (refine TV_cond_t ?_ ?_; · first | rfl | assumption))
    exact retB_here (.inr rfl) ⟨rfl, by simp [vS, hz]⟩
  · repeat (first | refine StepC.go ?_ | (refine TV_cond_f ?_ ?_; · first | rfl | assumption))
    refine TS_callE (bxT hp.1 hq) ?_
    repeat (refine StepC.go ?_)
    refine TS_callM (minusT hp.2) ?_
    repeat (first | refine StepC.go ?_ | refine TD_take rfl rfl ?_ | refine TD_load rfl rfl ?_ | refine TD_one rfl ?_ | refine FiltT_nil ?_ | refine FiltT_drop rfl ?_ | refine TV_draw (id := 2) (plan := [.take 0, .take 1, .take 2, .take 3, .take 4, .take 5, .take 6, .take 7, .take 8, .take 9, .take 10, .one 11]) (by kernel_rfl) ?_)
    exact retB_here (.inl rfl) ⟨rfl, by simp [vS, hz, flipX, bitN]⟩
instance : CallIs Try.prog 46 := .of Try.func46 rfl rfl
set_option maxHeartbeats 2000000 in
theorem cxT {p : PauD} {b : Nat} {c t : Int} (hp : PauG p) (hc : 0 ≤ c) (ht : 0 ≤ t) : FnB Try.prog 47 [ptrT b, intT c, intT t] [(b, bdBox p)] (fun r B1 => r = .tup [] ∧ B1 = [(b, bdBox (cxS p c t))]) := by
  have := asNat_of hc
  have := asNat_of ht
  have : ∀ yes, Lt64 (minusS p yes).x := fun yes => ⟨(hp.minus yes).1.1⟩
  have : ∀ yes, Lt64 (minusS p yes).z := fun yes => ⟨(hp.minus yes).1.2⟩
  refine FnM_of Try.func47 rfl (Nat.le_of_ble_eq_true rfl) (fun X C => ?_)
  repeat (refine StepC.go ?_)
  refine TS_callE (bxT hp.1 hc) ?_
  cases hx : btS p.x c
  · repeat (first | refine StepC.go ?_ | (refine TS_off rfl ?_ ?_; · first | rfl | assumption))
    refine TS_callM (minusT hp.2) ?_
    repeat (refine StepC.go ?_)
    refine TS_callE (bxT (hp.minus _).1 hc) ?_
    rw [minusS_x, hx]
    repeat (first | refine StepC.go ?_ | (refine TV_cond_f ?_ ?_; · first | rfl | assumption))
    refine TS_callE (bzT (hp.minus _).1 ht) ?_
    rw [minusS_z]
    cases hz : btS p.z t
    · repeat (first | refine StepC.go ?_ | (refine TV_cond_f ?_ ?_; · first | rfl | assumption))
      exact retB_here (.inl rfl) ⟨rfl, by simp [cxS, hx, hz]⟩
    · repeat (first | refine StepC.go ?_ | refine TD_take rfl rfl ?_ | refine TD_load rfl rfl ?_ | refine TD_one rfl ?_ | refine FiltT_nil ?_ | refine FiltT_drop rfl ?_ | refine TV_draw (id := 4) (plan := [.take 0, .take 1, .take 2, .take 3, .take 4, .take 5, .take 6, .take 7, .take 8, .take 9, .take 10, .one 11]) (by kernel_rfl) ?_ | (refine TV_cond_t ?_ ?_; · first | rfl | assumption))
      exact retB_here (.inl rfl) ⟨rfl, by simp [cxS, hx, hz, flipZ, bitN]⟩
  · repeat (first | refine StepC.go ?_ | (refine TS_on rfl ?_ ?_; · first | rfl | assumption))
    refine TS_callE (bzT hp.1 ht) ?_
    have hfz : ∀ y, btS (flipX (minusS p y) t).z t = btS p.z t := fun y => by show btS (minusS p y).z t = _; rw [minusS_z]
    cases hz : btS p.z t
    · repeat (first | refine StepC.go ?_ | (refine TS_off rfl ?_ ?_; · first | rfl | assumption))
      refine TS_callM (minusT hp.2) ?_
      repeat (refine StepC.go ?_)
      refine TS_callE (bxT (hp.minus _).1 hc) ?_
      rw [minusS_x, hx]
      repeat (first | refine StepC.go ?_ | refine TD_take rfl rfl ?_ | refine TD_load rfl rfl ?_ | refine TD_one rfl ?_ | refine FiltT_nil ?_ | refine FiltT_drop rfl ?_ | refine TV_draw (id := 2) (plan := [.take 0, .take 1, .take 2, .take 3, .take 4, .take 5, .take 6, .take 7, .take 8, .take 9, .take 10, .one 11]) (by kernel_rfl) ?_ | (refine TV_cond_t ?_ ?_; · first | rfl | assumption))
      refine TS_callE (bzT (p := flipX (minusS p false) t) ((hp.minus _).fx t).1 ht) ?_
      rw [hfz, hz]
      repeat (first | refine StepC.go ?_ | (refine TV_cond_f ?_ ?_; · first | rfl | assumption))
      exact retB_here (.inl rfl) ⟨rfl, by simp [cxS, hx, hz, flipX, bitN]⟩
    · repeat (first | refine StepC.go ?_ | (refine TS_on rfl ?_ ?_; · first | rfl | assumption))
      refine TS_callE (bxT hp.1 ht) ?_
      repeat (first | refine StepC.go ?_ | (refine TS_on rfl ?_ ?_; · first | rfl | assumption))
      refine TS_callE (bzT hp.1 hc) ?_
      repeat (first | refine StepC.go ?_ | (refine TS_on rfl ?_ ?_; · first | rfl | assumption))
      refine TS_callM (minusT hp.2) ?_
      repeat (refine StepC.go ?_)
      refine TS_callE (bxT (hp.minus _).1 hc) ?_
      rw [minusS_x, hx]
      repeat (first | refine StepC.go ?_ | refine TD_take rfl rfl ?_ | refine TD_load rfl rfl ?_ | refine TD_one rfl ?_ | refine FiltT_nil ?_ | refine FiltT_drop rfl ?_ | refine TV_draw (id := 2) (plan := [.take 0, .take 1, .take 2, .take 3, .take 4, .take 5, .take 6, .take 7, .take 8, .take 9, .take 10, .one 11]) (by kernel_rfl) ?_ | (refine TV_cond_t ?_ ?_; · first | rfl | assumption))
      refine TS_callE (bzT (p := flipX (minusS p (btS p.x t == btS p.z c)) t) ((hp.minus _).fx t).1 ht) ?_
      rw [hfz, hz]
      repeat (first | refine StepC.go ?_ | refine TD_take rfl rfl ?_ | refine TD_load rfl rfl ?_ | refine TD_one rfl ?_ | refine FiltT_nil ?_ | refine FiltT_drop rfl ?_ | refine TV_draw (id := 4) (plan := [.take 0, .take 1, .take 2, .take 3, .take 4, .take 5, .take 6, .take 7, .take 8, .take 9, .take 10, .one 11]) (by kernel_rfl) ?_ | (refine TV_cond_t ?_ ?_; · first | rfl | assumption))
      exact retB_here (.inl rfl) ⟨rfl, by simp [cxS, hx, hz, flipX, flipZ, bitN]⟩
instance : CallIs Try.prog 47 := .of Try.func47 rfl rfl
end Go.Ideal

-- Vg
set_option linter.unusedSimpArgs false
set_option linter.unusedVariables false
namespace Go.Ideal
open Go Go.Proofs Go.RowKit
/-! ### By, gate by gate (printed by genby.py) -/

theorem hS_g {p : PauD} (h : PauG p) (q : Int) : PauG (hS p q) := by unfold hS; split; exact h.minus _; exact ((h.minus _).fx _).fz _
theorem sS_g {p : PauD} (h : PauG p) (q : Int) (y : Bool) : PauG (sS p q y) := by unfold sS; split; exact (h.minus _).fz _; exact h
theorem cxS_g {p : PauD} (h : PauG p) (c t : Int) : PauG (cxS p c t) := by
  unfold cxS
  simp only
  split <;> split
  · exact ((h.minus _).fx _).fz _
  · exact (h.minus _).fz _
  · exact (h.minus _).fx _
  · exact h.minus _
set_option synthInstance.maxSize 4000 in
set_option synthInstance.maxHeartbeats 400000 in
set_option maxHeartbeats 2000000 in
theorem byT_i {p : PauD} {a : Int} (hp : PauG p) (ha : 0 ≤ a) : Fn Try.prog 24 [pauT p, strT ⟨#[105]⟩, .sl 1 [[intT a]]] (fun r => r = pauT p) := by
  refine Fn_of Try.func24 rfl (Nat.le_of_ble_eq_true rfl) (fun X => ?_)
  repeat (first | refine StepC.go ?_ | intro _ | (refine TV_cond_f ?_ ?_; · first | rfl | assumption))
  exact retT_1 (.inr rfl) rfl
set_option synthInstance.maxSize 4000 in
set_option synthInstance.maxHeartbeats 400000 in
set_option maxHeartbeats 2000000 in
theorem byT_x {p : PauD} {a : Int} (hp : PauG p) (ha : 0 ≤ a) : Fn Try.prog 24 [pauT p, strT ⟨#[120]⟩, .sl 1 [[intT a]]] (fun r => r = pauT (minusS p (btS p.z a))) := by
  refine Fn_of Try.func24 rfl (Nat.le_of_ble_eq_true rfl) (fun X => ?_)
  repeat (first | refine StepC.go ?_ | intro _ | (refine TV_cond_t ?_ ?_; · first | rfl | assumption))
  refine TS_callE (bzT hp.1 ha) ?_
  skip
  refine TS_callM (minusT hp.2) ?_
  repeat (refine StepC.go ?_)
  exact retT_1 (.inr rfl) rfl
set_option synthInstance.maxSize 4000 in
set_option synthInstance.maxHeartbeats 400000 in
set_option maxHeartbeats 2000000 in
theorem byT_y {p : PauD} {a : Int} (hp : PauG p) (ha : 0 ≤ a) : Fn Try.prog 24 [pauT p, strT ⟨#[121]⟩, .sl 1 [[intT a]]] (fun r => r = pauT (minusS p (btS p.x a != btS p.z a))) := by
  refine Fn_of Try.func24 rfl (Nat.le_of_ble_eq_true rfl) (fun X => ?_)
  repeat (first | refine StepC.go ?_ | intro _ | refine TD_take rfl rfl ?_ | refine TD_load rfl rfl ?_ | refine TD_one rfl ?_ | refine FiltT_nil ?_ | refine TV_draw (id := 6) (plan := [.take 0, .take 1, .take 2, .take 3, .take 4, .take 6, .take 7, .take 8, .take 9, .one 5, .one 10, .take 11, .one 12]) (by kernel_rfl) ?_ | (refine TV_cond_t ?_ ?_; · first | rfl | assumption) | (refine TV_cond_f ?_ ?_; · first | rfl | assumption))
  refine TS_callE (bxT hp.1 ha) ?_
  repeat (first | refine StepC.go ?_ | refine TD_one rfl ?_ | refine FiltT_nil ?_)
  refine TS_callE (bzT hp.1 ha) ?_
  repeat (first | refine StepC.go ?_ | refine TD_take rfl rfl ?_ | refine TD_one rfl ?_ | refine FiltT_nil ?_)
  refine TS_callM (minusT hp.2) ?_
  repeat (refine StepC.go ?_)
  exact retT_1 (.inr rfl) rfl
set_option synthInstance.maxSize 4000 in
set_option synthInstance.maxHeartbeats 400000 in
set_option maxHeartbeats 2000000 in
theorem byT_z {p : PauD} {a : Int} (hp : PauG p) (ha : 0 ≤ a) : Fn Try.prog 24 [pauT p, strT ⟨#[122]⟩, .sl 1 [[intT a]]] (fun r => r = pauT (minusS p (btS p.x a))) := by
  refine Fn_of Try.func24 rfl (Nat.le_of_ble_eq_true rfl) (fun X => ?_)
  repeat (first | refine StepC.go ?_ | intro _ | (refine TV_cond_t ?_ ?_; · first | rfl | assumption) | (refine TV_cond_f ?_ ?_; · first | rfl | assumption))
  refine TS_callE (bxT hp.1 ha) ?_
  skip
  refine TS_callM (minusT hp.2) ?_
  repeat (refine StepC.go ?_)
  exact retT_1 (.inr rfl) rfl
set_option synthInstance.maxSize 4000 in
set_option synthInstance.maxHeartbeats 400000 in
set_option maxHeartbeats 2000000 in
theorem byT_h {p : PauD} {a : Int} (hp : PauG p) (ha : 0 ≤ a) : Fn Try.prog 24 [pauT p, strT ⟨#[104]⟩, .sl 1 [[intT a]]] (fun r => r = pauT (hS p a)) := by
  refine Fn_of Try.func24 rfl (Nat.le_of_ble_eq_true rfl) (fun X => ?_)
  repeat (first | refine StepC.go ?_ | intro _ | (refine TV_cond_t ?_ ?_; · first | rfl | assumption) | (refine TV_cond_f ?_ ?_; · first | rfl | assumption))
  refine TS_callM (hT hp ha) ?_
  repeat (refine StepC.go ?_)
  exact retT_1 (.inr rfl) rfl
set_option synthInstance.maxSize 4000 in
set_option synthInstance.maxHeartbeats 400000 in
set_option maxHeartbeats 2000000 in
theorem byT_s {p : PauD} {a : Int} (hp : PauG p) (ha : 0 ≤ a) : Fn Try.prog 24 [pauT p, strT ⟨#[115]⟩, .sl 1 [[intT a]]] (fun r => r = pauT (sS p a false)) := by
  refine Fn_of Try.func24 rfl (Nat.le_of_ble_eq_true rfl) (fun X => ?_)
  repeat (first | refine StepC.go ?_ | intro _ | (refine TV_cond_t ?_ ?_; · first | rfl | assumption) | (refine TV_cond_f ?_ ?_; · first | rfl | assumption))
  refine TS_callM (sT (back := false) hp ha) ?_
  repeat (refine StepC.go ?_)
  exact retT_1 (.inr rfl) rfl
set_option synthInstance.maxSize 4000 in
set_option synthInstance.maxHeartbeats 400000 in
set_option maxHeartbeats 2000000 in
theorem byT_sdg {p : PauD} {a : Int} (hp : PauG p) (ha : 0 ≤ a) : Fn Try.prog 24 [pauT p, strT ⟨#[115, 100, 103]⟩, .sl 1 [[intT a]]] (fun r => r = pauT (sS p a true)) := by
  refine Fn_of Try.func24 rfl (Nat.le_of_ble_eq_true rfl) (fun X => ?_)
  repeat (first | refine StepC.go ?_ | intro _ | (refine TV_cond_t ?_ ?_; · first | rfl | assumption) | (refine TV_cond_f ?_ ?_; · first | rfl | assumption))
  refine TS_callM (sT (back := true) hp ha) ?_
  repeat (refine StepC.go ?_)
  exact retT_1 (.inr rfl) rfl
set_option synthInstance.maxSize 4000 in
set_option synthInstance.maxHeartbeats 400000 in
set_option maxHeartbeats 2000000 in
theorem byT_v {p : PauD} {a : Int} (hp : PauG p) (ha : 0 ≤ a) : Fn Try.prog 24 [pauT p, strT ⟨#[118]⟩, .sl 1 [[intT a]]] (fun r => r = pauT (vS p a false)) := by
  refine Fn_of Try.func24 rfl (Nat.le_of_ble_eq_true rfl) (fun X => ?_)
  repeat (first | refine StepC.go ?_ | intro _ | (refine TV_cond_t ?_ ?_; · first | rfl | assumption) | (refine TV_cond_f ?_ ?_; · first | rfl | assumption))
  refine TS_callM (vT (back := false) hp ha) ?_
  repeat (refine StepC.go ?_)
  exact retT_1 (.inr rfl) rfl
set_option synthInstance.maxSize 4000 in
set_option synthInstance.maxHeartbeats 400000 in
set_option maxHeartbeats 2000000 in
theorem byT_vdg {p : PauD} {a : Int} (hp : PauG p) (ha : 0 ≤ a) : Fn Try.prog 24 [pauT p, strT ⟨#[118, 100, 103]⟩, .sl 1 [[intT a]]] (fun r => r = pauT (vS p a true)) := by
  refine Fn_of Try.func24 rfl (Nat.le_of_ble_eq_true rfl) (fun X => ?_)
  repeat (first | refine StepC.go ?_ | intro _ | (refine TV_cond_t ?_ ?_; · first | rfl | assumption) | (refine TV_cond_f ?_ ?_; · first | rfl | assumption))
  refine TS_callM (vT (back := true) hp ha) ?_
  repeat (refine StepC.go ?_)
  exact retT_1 (.inr rfl) rfl
set_option synthInstance.maxSize 4000 in
set_option synthInstance.maxHeartbeats 400000 in
set_option maxHeartbeats 2000000 in
theorem byT_w {p : PauD} {a : Int} (hp : PauG p) (ha : 0 ≤ a) : Fn Try.prog 24 [pauT p, strT ⟨#[119]⟩, .sl 1 [[intT a]]] (fun r => r = pauT p) := by
  refine Fn_of Try.func24 rfl (Nat.le_of_ble_eq_true rfl) (fun X => ?_)
  repeat (first | refine StepC.go ?_ | intro _ | (refine TV_cond_f ?_ ?_; · first | rfl | assumption))
  exact retT_1 (.inr rfl) rfl
set_option synthInstance.maxSize 4000 in
set_option synthInstance.maxHeartbeats 400000 in
set_option maxHeartbeats 2000000 in
theorem byT_wdg {p : PauD} {a : Int} (hp : PauG p) (ha : 0 ≤ a) : Fn Try.prog 24 [pauT p, strT ⟨#[119, 100, 103]⟩, .sl 1 [[intT a]]] (fun r => r = pauT p) := by
  refine Fn_of Try.func24 rfl (Nat.le_of_ble_eq_true rfl) (fun X => ?_)
  repeat (first | refine StepC.go ?_ | intro _ | (refine TV_cond_f ?_ ?_; · first | rfl | assumption))
  exact retT_1 (.inr rfl) rfl
set_option synthInstance.maxSize 4000 in
set_option synthInstance.maxHeartbeats 400000 in
set_option maxHeartbeats 2000000 in
theorem byT_cx {p : PauD} {a b : Int} (hp : PauG p) (ha : 0 ≤ a) (hb : 0 ≤ b) : Fn Try.prog 24 [pauT p, strT ⟨#[99, 120]⟩, .sl 1 [[intT a], [intT b]]] (fun r => r = pauT (cxS p a b)) := by
  refine Fn_of Try.func24 rfl (Nat.le_of_ble_eq_true rfl) (fun X => ?_)
  repeat (first | refine StepC.go ?_ | intro _ | refine TD_take rfl rfl ?_ | refine TD_load rfl rfl ?_ | refine TD_one rfl ?_ | refine FiltT_nil ?_ | refine TV_draw (id := 18) (plan := [.take 0, .take 1, .take 2, .take 3, .take 4, .take 5, .take 6, .one 7]) (by kernel_rfl) ?_ | (refine TV_cond_t ?_ ?_; · first | rfl | assumption) | (refine TV_cond_f ?_ ?_; · first | rfl | assumption))
  refine TS_callM (cxT hp ha hb) ?_
  repeat (refine StepC.go ?_)
  exact retT_1 (.inr rfl) rfl
set_option synthInstance.maxSize 4000 in
set_option synthInstance.maxHeartbeats 400000 in
set_option maxHeartbeats 2000000 in
theorem byT_cz {p : PauD} {a b : Int} (hp : PauG p) (ha : 0 ≤ a) (hb : 0 ≤ b) : Fn Try.prog 24 [pauT p, strT ⟨#[99, 122]⟩, .sl 1 [[intT a], [intT b]]] (fun r => r = pauT (hS (cxS (hS p b) a b) b)) := by
  refine Fn_of Try.func24 rfl (Nat.le_of_ble_eq_true rfl) (fun X => ?_)
  repeat (first | refine StepC.go ?_ | intro _ | (refine TV_cond_t ?_ ?_; · first | rfl | assumption) | (refine TV_cond_f ?_ ?_; · first | rfl | assumption))
  refine TS_callM (hT hp hb) ?_
  repeat (first | refine StepC.go ?_ | refine TD_take rfl rfl ?_ | refine TD_load rfl rfl ?_ | refine TD_one rfl ?_ | refine FiltT_nil ?_ | refine TV_draw (id := 21) (plan := [.take 0, .take 1, .take 2, .take 3, .take 4, .take 5, .take 6, .one 7]) (by kernel_rfl) ?_)
  refine TS_callM (cxT (hS_g hp _) ha hb) ?_
  repeat (refine StepC.go ?_)
  refine TS_callM (hT (cxS_g (hS_g hp _) _ _) hb) ?_
  repeat (refine StepC.go ?_)
  exact retT_1 (.inr rfl) rfl
set_option synthInstance.maxSize 4000 in
set_option synthInstance.maxHeartbeats 400000 in
set_option maxHeartbeats 2000000 in
theorem byT_cy {p : PauD} {a b : Int} (hp : PauG p) (ha : 0 ≤ a) (hb : 0 ≤ b) : Fn Try.prog 24 [pauT p, strT ⟨#[99, 121]⟩, .sl 1 [[intT a], [intT b]]] (fun r => r = pauT (sS (cxS (sS p b true) a b) b false)) := by
  refine Fn_of Try.func24 rfl (Nat.le_of_ble_eq_true rfl) (fun X => ?_)
  repeat (first | refine StepC.go ?_ | intro _ | (refine TV_cond_t ?_ ?_; · first | rfl | assumption) | (refine TV_cond_f ?_ ?_; · first | rfl | assumption))
  refine TS_callM (sT (back := true) hp hb) ?_
  repeat (first | refine StepC.go ?_ | refine TD_take rfl rfl ?_ | refine TD_load rfl rfl ?_ | refine TD_one rfl ?_ | refine FiltT_nil ?_ | refine TV_draw (id := 25) (plan := [.take 0, .take 1, .take 2, .take 3, .take 4, .take 5, .take 6, .one 7]) (by kernel_rfl) ?_)
  refine TS_callM (cxT (sS_g hp _ _) ha hb) ?_
  repeat (refine StepC.go ?_)
  refine TS_callM (sT (back := false) (cxS_g (sS_g hp _ _) _ _) hb) ?_
  repeat (refine StepC.go ?_)
  exact retT_1 (.inr rfl) rfl
set_option synthInstance.maxSize 4000 in
set_option synthInstance.maxHeartbeats 400000 in
set_option maxHeartbeats 2000000 in
theorem byT_swap {p : PauD} {a b : Int} (hp : PauG p) (ha : 0 ≤ a) (hb : 0 ≤ b) : Fn Try.prog 24 [pauT p, strT ⟨#[115, 119, 97, 112]⟩, .sl 1 [[intT a], [intT b]]] (fun r => r = pauT (cxS (cxS (cxS p a b) b a) a b)) := by
  refine Fn_of Try.func24 rfl (Nat.le_of_ble_eq_true rfl) (fun X => ?_)
  repeat (first | refine StepC.go ?_ | intro _ | refine TD_take rfl rfl ?_ | refine TD_load rfl rfl ?_ | refine TD_one rfl ?_ | refine FiltT_nil ?_ | refine TV_draw (id := 28) (plan := [.take 0, .take 1, .take 2, .take 3, .take 4, .take 5, .take 6, .one 7]) (by kernel_rfl) ?_ | (refine TV_cond_t ?_ ?_; · first | rfl | assumption) | (refine TV_cond_f ?_ ?_; · first | rfl | assumption))
  refine TS_callM (cxT hp ha hb) ?_
  repeat (first | refine StepC.go ?_ | refine TD_take rfl rfl ?_ | refine TD_load rfl rfl ?_ | refine TD_one rfl ?_ | refine FiltT_nil ?_ | refine TV_draw (id := 29) (plan := [.take 0, .take 1, .take 2, .take 3, .take 4, .take 5, .take 6, .one 7]) (by kernel_rfl) ?_)
  refine TS_callM (cxT (cxS_g hp _ _) hb ha) ?_
  repeat (first | refine StepC.go ?_ | refine TD_take rfl rfl ?_ | refine TD_load rfl rfl ?_ | refine TD_one rfl ?_ | refine FiltT_nil ?_ | refine TV_draw (id := 30) (plan := [.take 0, .take 1, .take 2, .take 3, .take 4, .take 5, .take 6, .one 7]) (by kernel_rfl) ?_)
  refine TS_callM (cxT (cxS_g (cxS_g hp _ _) _ _) ha hb) ?_
  repeat (refine StepC.go ?_)
  exact retT_1 (.inr rfl) rfl
set_option synthInstance.maxSize 4000 in
set_option synthInstance.maxHeartbeats 400000 in
set_option maxHeartbeats 2000000 in
theorem byT_iswap {p : PauD} {a b : Int} (hp : PauG p) (ha : 0 ≤ a) (hb : 0 ≤ b) : Fn Try.prog 24 [pauT p, strT ⟨#[105, 115, 119, 97, 112]⟩, .sl 1 [[intT a], [intT b]]] (fun r => r = pauT (hS (cxS (cxS (hS (sS (sS p a false) b false) a) a b) b a) b)) := by
  refine Fn_of Try.func24 rfl (Nat.le_of_ble_eq_true rfl) (fun X => ?_)
  repeat (first | refine StepC.go ?_ | intro _ | (refine TV_cond_t ?_ ?_; · first | rfl | assumption) | (refine TV_cond_f ?_ ?_; · first | rfl | assumption))
  refine TS_callM (sT (back := false) hp ha) ?_
  repeat (refine StepC.go ?_)
  refine TS_callM (sT (back := false) (sS_g hp _ _) hb) ?_
  repeat (refine StepC.go ?_)
  refine TS_callM (hT (sS_g (sS_g hp _ _) _ _) ha) ?_
  repeat (first | refine StepC.go ?_ | refine TD_take rfl rfl ?_ | refine TD_load rfl rfl ?_ | refine TD_one rfl ?_ | refine FiltT_nil ?_ | refine TV_draw (id := 35) (plan := [.take 0, .take 1, .take 2, .take 3, .take 4, .take 5, .take 6, .one 7]) (by kernel_rfl) ?_)
  refine TS_callM (cxT (hS_g (sS_g (sS_g hp _ _) _ _) _) ha hb) ?_
  repeat (first | refine StepC.go ?_ | refine TD_take rfl rfl ?_ | refine TD_load rfl rfl ?_ | refine TD_one rfl ?_ | refine FiltT_nil ?_ | refine TV_draw (id := 36) (plan := [.take 0, .take 1, .take 2, .take 3, .take 4, .take 5, .take 6, .one 7]) (by kernel_rfl) ?_)
  refine TS_callM (cxT (cxS_g (hS_g (sS_g (sS_g hp _ _) _ _) _) _ _) hb ha) ?_
  repeat (refine StepC.go ?_)
  refine TS_callM (hT (cxS_g (cxS_g (hS_g (sS_g (sS_g hp _ _) _ _) _) _ _) _ _) hb) ?_
  repeat (refine StepC.go ?_)
  exact retT_1 (.inr rfl) rfl
set_option synthInstance.maxSize 4000 in
set_option synthInstance.maxHeartbeats 400000 in
set_option maxHeartbeats 2000000 in
theorem byT_iswapdg {p : PauD} {a b : Int} (hp : PauG p) (ha : 0 ≤ a) (hb : 0 ≤ b) : Fn Try.prog 24 [pauT p, strT ⟨#[105, 115, 119, 97, 112, 100, 103]⟩, .sl 1 [[intT a], [intT b]]] (fun r => r = pauT (sS (sS (hS (cxS (cxS (hS p b) b a) a b) a) b true) a true)) := by
  refine Fn_of Try.func24 rfl (Nat.le_of_ble_eq_true rfl) (fun X => ?_)
  repeat (first | refine StepC.go ?_ | intro _ | (refine TV_cond_t ?_ ?_; · first | rfl | assumption) | (refine TV_cond_f ?_ ?_; · first | rfl | assumption))
  refine TS_callM (hT hp hb) ?_
  repeat (first | refine StepC.go ?_ | refine TD_take rfl rfl ?_ | refine TD_load rfl rfl ?_ | refine TD_one rfl ?_ | refine FiltT_nil ?_ | refine TV_draw (id := 40) (plan := [.take 0, .take 1, .take 2, .take 3, .take 4, .take 5, .take 6, .one 7]) (by kernel_rfl) ?_)
  refine TS_callM (cxT (hS_g hp _) hb ha) ?_
  repeat (first | refine StepC.go ?_ | refine TD_take rfl rfl ?_ | refine TD_load rfl rfl ?_ | refine TD_one rfl ?_ | refine FiltT_nil ?_ | refine TV_draw (id := 41) (plan := [.take 0, .take 1, .take 2, .take 3, .take 4, .take 5, .take 6, .one 7]) (by kernel_rfl) ?_)
  refine TS_callM (cxT (cxS_g (hS_g hp _) _ _) ha hb) ?_
  repeat (refine StepC.go ?_)
  refine TS_callM (hT (cxS_g (cxS_g (hS_g hp _) _ _) _ _) ha) ?_
  repeat (refine StepC.go ?_)
  refine TS_callM (sT (back := true) (hS_g (cxS_g (cxS_g (hS_g hp _) _ _) _ _) _) hb) ?_
  repeat (refine StepC.go ?_)
  refine TS_callM (sT (back := true) (sS_g (hS_g (cxS_g (cxS_g (hS_g hp _) _ _) _ _) _) _ _) ha) ?_
  repeat (refine StepC.go ?_)
  exact retT_1 (.inr rfl) rfl
instance : CallIs Try.prog 24 := .of Try.func24 rfl rfl
end Go.Ideal
