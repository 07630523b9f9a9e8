/- Part 6 of what the proof stands on: an interpreter over an ideal memory that is proved sound, steps over it, and contracts of the functions that are called. No condition: no law is claimed here. -/
import Derived.Test.YtoianlbibaplfaaC5
-- Vh
set_option linter.unusedSimpArgs false
set_option linter.unusedVariables false
namespace Go.Ideal
open Go Go.Proofs Go.RowKit
/-! ### Strings in their one form -/
def PauV (p : PauD) : Prop := PauW p ∧ checkP p = 0
theorem shr_of_bits {x n : Nat} (h : ∀ i, n ≤ i → x.testBit i = false) : x >>> n = 0 := Nat.eq_of_testBit_eq fun i => by
  rw [Nat.testBit_shiftRight, Nat.zero_testBit]; exact h _ (by omega)
theorem pauV_iff {p : PauD} : PauV p ↔ 0 ≤ p.n ∧ p.n ≤ 64 ∧ 0 ≤ p.ph ∧ p.ph ≤ 3 ∧ ∀ i, p.n.toNat ≤ i → p.x.testBit i = false ∧ p.z.testBit i = false := by
  constructor
  · rintro ⟨hw, hc⟩
    obtain ⟨a, b, c, d, _⟩ := checkP_in hc
    exact ⟨a, b, c, d, fun i hi => pau_bits hw hc i hi⟩
  · rintro ⟨a, b, c, d, e⟩
    refine ⟨⟨Nat.lt_pow_two_of_testBit _ fun i hi => (e i (by omega)).1, Nat.lt_pow_two_of_testBit _ fun i hi => (e i (by omega)).2⟩, checkP_ok ⟨a, b, c, d, ?_⟩⟩
    rw [pbel_or, shr_of_bits fun i hi => (e i hi).1, shr_of_bits fun i hi => (e i hi).2]
    simp
theorem PauV.g {p : PauD} (h : PauV p) : PauG p := ⟨h.1, by have := pauV_iff.1 h; omega⟩
theorem PauV.mul {p q : PauD} (hp : PauV p) (hq : PauV q) (hn : p.n = q.n) : PauV (mulP p q) ∧ mulC p q = (mulP p q, 0) := by
  obtain ⟨a, b, c, d, e⟩ := pauV_iff.1 hp
  obtain ⟨_, _, _, _, e2⟩ := pauV_iff.1 hq
  refine ⟨pauV_iff.2 ⟨a, b, ?_, ?_, fun i hi => ?_⟩, ?_⟩
  · show 0 ≤ mphS p q; unfold mphS; omega
  · show mphS p q ≤ 3; unfold mphS; omega
  · show (p.x ^^^ q.x).testBit i = false ∧ (p.z ^^^ q.z).testBit i = false
    rw [Nat.testBit_xor, Nat.testBit_xor, (e i hi).1, (e i hi).2, (e2 i (by rw [← hn]; exact hi)).1, (e2 i (by rw [← hn]; exact hi)).2]
    exact ⟨rfl, rfl⟩
  · unfold mulC bothS
    rw [if_pos hp.2, if_pos hq.2, if_pos hn, if_pos rfl]
def onS (n q : Int) (k : Nat) (ph : Int) : PauD := ⟨n, if k = 90 then 0 else bitN q, if k = 88 then 0 else bitN q, ph⟩
theorem bitN_far {q : Int} (h0 : 0 ≤ q) (h1 : q < 64) {i : Nat} (hi : q.toNat ≠ i) : (bitN q).testBit i = false := by
  have := bitN_bit (j := q.toNat) (by omega) i
  rw [Int.toNat_of_nonneg h0] at this
  rw [this]; exact decide_eq_false fun h => hi h.symm
theorem onS_v {n q : Int} {k : Nat} {ph : Int} (hn : n ≤ 64) (h0 : 0 ≤ q) (h1 : q < n) (hp : 0 ≤ ph ∧ ph ≤ 3) : PauV (onS n q k ph) := by
  refine pauV_iff.2 ⟨by show 0 ≤ n; omega, hn, hp.1, hp.2, fun i hi => ?_⟩
  have hi : n.toNat ≤ i := hi
  have hb := bitN_far h0 (by omega) (i := i) (by omega)
  unfold onS
  simp only
  constructor
  · split
    · exact Nat.zero_testBit i
    · exact hb
  · split
    · exact Nat.zero_testBit i
    · exact hb
theorem onT {n q : Int} {k : Nat} {ph : Int} (hn : n ≤ 64) (h0 : 0 ≤ q) (h1 : q < n) (hk : k = 88 ∨ k = 89 ∨ k = 90) : Fn Try.prog 54 [intT n, intT q, u8T k, intT ph] (fun r => r = pauT (onS n q k ph)) := by
  refine Fn_of Try.func54 rfl (Nat.le_of_ble_eq_true rfl) (fun X => ?_)
  have hok : oneOk n q k := ⟨h0, h1, hn, by omega, by omega⟩
  have ho : oneP n q k = (⟨n, if k = 90 then 0 else bitN q, if k = 88 then 0 else bitN q, 0⟩, 0) := by unfold oneP; rw [if_pos hok]
  repeat (first | refine StepC.go ?_ | intro _)
  refine TS_callE (oneRT n q k (by omega)) ?_
  rw [ho]
  repeat (first | refine StepC.go ?_ | intro _)
  exact retT_1 (.inr rfl) rfl
instance : CallIs Try.prog 54 := .of Try.func54 rfl rfl
theorem mul18T {p q : PauD} (hp : PauV p) (hq : PauV q) (hn : p.n = q.n) : Fn Try.prog 33 [pauT p, pauT q] (fun r => r = pauT (mulP p q)) := by
  refine Fn_of Try.func33 rfl (Nat.le_of_ble_eq_true rfl) (fun X => ?_)
  repeat (first | refine StepC.go ?_ | intro _)
  refine TS_callE (mulRT hp.1 hq.1) ?_
  rw [(hp.mul hq hn).2]
  repeat (first | refine StepC.go ?_ | intro _)
  exact retT_1 (.inr rfl) rfl
instance : CallIs Try.prog 33 := .of Try.func33 rfl rfl
/-! ### Images, gate by gate (printed by genimg.py) -/
/-- the letter and the phase of what X and Z become -/
structure Im1 where
  kx : Nat
  px : Int
  kz : Nat
  pz : Int
def Im1.ok (t : Im1) : Prop := (t.kx = 88 ∨ t.kx = 89 ∨ t.kx = 90) ∧ (t.kz = 88 ∨ t.kz = 89 ∨ t.kz = 90) ∧ (0 ≤ t.px ∧ t.px ≤ 3) ∧ (0 ≤ t.pz ∧ t.pz ≤ 3)
def img1 (t : Im1) (n a j : Int) (x : Bool) : PauD := if j = a then (if x then onS n a t.kx t.px else onS n a t.kz t.pz) else onS n j (if x then 88 else 90) 0
@[reducible] def im_i : Im1 := ⟨88, 0, 90, 0⟩
theorem plain_i_true : Fn Try.prog 55 [strT ⟨#[105]⟩, boolT true] (fun r => r = .tup [u8T 88, intT 0]) := by
  refine Fn_of Try.func55 rfl (Nat.le_of_ble_eq_true rfl) (fun X => ?_)
  repeat (first | refine StepC.go ?_ | (refine TV_cond_t ?_ ?_; · first | rfl | assumption) | (refine TV_cond_f ?_ ?_; · first | rfl | assumption))
  exact retT_2 (.inr rfl) rfl
theorem plain_i_false : Fn Try.prog 55 [strT ⟨#[105]⟩, boolT false] (fun r => r = .tup [u8T 90, intT 0]) := by
  refine Fn_of Try.func55 rfl (Nat.le_of_ble_eq_true rfl) (fun X => ?_)
  repeat (first | refine StepC.go ?_ | (refine TV_cond_f ?_ ?_; · first | rfl | assumption))
  exact retT_2 (.inr rfl) rfl
@[reducible] def im_x : Im1 := ⟨88, 0, 90, 2⟩
theorem plain_x_true : Fn Try.prog 55 [strT ⟨#[120]⟩, boolT true] (fun r => r = .tup [u8T 88, intT 0]) := by
  refine Fn_of Try.func55 rfl (Nat.le_of_ble_eq_true rfl) (fun X => ?_)
  repeat (first | refine StepC.go ?_ | (refine TV_cond_t ?_ ?_; · first | rfl | assumption))
  exact retT_2 (.inr rfl) rfl
theorem plain_x_false : Fn Try.prog 55 [strT ⟨#[120]⟩, boolT false] (fun r => r = .tup [u8T 90, intT 2]) := by
  refine Fn_of Try.func55 rfl (Nat.le_of_ble_eq_true rfl) (fun X => ?_)
  repeat (first | refine StepC.go ?_ | (refine TV_cond_t ?_ ?_; · first | rfl | assumption) | (refine TV_cond_f ?_ ?_; · first | rfl | assumption))
  exact retT_2 (.inr rfl) rfl
@[reducible] def im_y : Im1 := ⟨88, 2, 90, 2⟩
theorem plain_y_true : Fn Try.prog 55 [strT ⟨#[121]⟩, boolT true] (fun r => r = .tup [u8T 88, intT 2]) := by
  refine Fn_of Try.func55 rfl (Nat.le_of_ble_eq_true rfl) (fun X => ?_)
  repeat (first | refine StepC.go ?_ | (refine TV_cond_t ?_ ?_; · first | rfl | assumption) | (refine TV_cond_f ?_ ?_; · first | rfl | assumption))
  exact retT_2 (.inr rfl) rfl
theorem plain_y_false : Fn Try.prog 55 [strT ⟨#[121]⟩, boolT false] (fun r => r = .tup [u8T 90, intT 2]) := by
  refine Fn_of Try.func55 rfl (Nat.le_of_ble_eq_true rfl) (fun X => ?_)
  repeat (first | refine StepC.go ?_ | (refine TV_cond_t ?_ ?_; · first | rfl | assumption) | (refine TV_cond_f ?_ ?_; · first | rfl | assumption))
  exact retT_2 (.inr rfl) rfl
@[reducible] def im_z : Im1 := ⟨88, 2, 90, 0⟩
theorem plain_z_true : Fn Try.prog 55 [strT ⟨#[122]⟩, boolT true] (fun r => r = .tup [u8T 88, intT 2]) := by
  refine Fn_of Try.func55 rfl (Nat.le_of_ble_eq_true rfl) (fun X => ?_)
  repeat (first | refine StepC.go ?_ | (refine TV_cond_t ?_ ?_; · first | rfl | assumption) | (refine TV_cond_f ?_ ?_; · first | rfl | assumption))
  exact retT_2 (.inr rfl) rfl
theorem plain_z_false : Fn Try.prog 55 [strT ⟨#[122]⟩, boolT false] (fun r => r = .tup [u8T 90, intT 0]) := by
  refine Fn_of Try.func55 rfl (Nat.le_of_ble_eq_true rfl) (fun X => ?_)
  repeat (first | refine StepC.go ?_ | (refine TV_cond_t ?_ ?_; · first | rfl | assumption) | (refine TV_cond_f ?_ ?_; · first | rfl | assumption))
  exact retT_2 (.inr rfl) rfl
@[reducible] def im_h : Im1 := ⟨90, 0, 88, 0⟩
theorem plain_h_true : Fn Try.prog 55 [strT ⟨#[104]⟩, boolT true] (fun r => r = .tup [u8T 90, intT 0]) := by
  refine Fn_of Try.func55 rfl (Nat.le_of_ble_eq_true rfl) (fun X => ?_)
  repeat (first | refine StepC.go ?_ | (refine TV_cond_t ?_ ?_; · first | rfl | assumption) | (refine TV_cond_f ?_ ?_; · first | rfl | assumption))
  exact retT_2 (.inr rfl) rfl
theorem plain_h_false : Fn Try.prog 55 [strT ⟨#[104]⟩, boolT false] (fun r => r = .tup [u8T 88, intT 0]) := by
  refine Fn_of Try.func55 rfl (Nat.le_of_ble_eq_true rfl) (fun X => ?_)
  repeat (first | refine StepC.go ?_ | (refine TV_cond_t ?_ ?_; · first | rfl | assumption) | (refine TV_cond_f ?_ ?_; · first | rfl | assumption))
  exact retT_2 (.inr rfl) rfl
@[reducible] def im_s : Im1 := ⟨89, 0, 90, 0⟩
theorem plain_s_true : Fn Try.prog 55 [strT ⟨#[115]⟩, boolT true] (fun r => r = .tup [u8T 89, intT 0]) := by
  refine Fn_of Try.func55 rfl (Nat.le_of_ble_eq_true rfl) (fun X => ?_)
  repeat (first | refine StepC.go ?_ | (refine TV_cond_t ?_ ?_; · first | rfl | assumption) | (refine TV_cond_f ?_ ?_; · first | rfl | assumption))
  exact retT_2 (.inr rfl) rfl
theorem plain_s_false : Fn Try.prog 55 [strT ⟨#[115]⟩, boolT false] (fun r => r = .tup [u8T 90, intT 0]) := by
  refine Fn_of Try.func55 rfl (Nat.le_of_ble_eq_true rfl) (fun X => ?_)
  repeat (first | refine StepC.go ?_ | (refine TV_cond_t ?_ ?_; · first | rfl | assumption) | (refine TV_cond_f ?_ ?_; · first | rfl | assumption))
  exact retT_2 (.inr rfl) rfl
@[reducible] def im_sdg : Im1 := ⟨89, 2, 90, 0⟩
theorem plain_sdg_true : Fn Try.prog 55 [strT ⟨#[115, 100, 103]⟩, boolT true] (fun r => r = .tup [u8T 89, intT 2]) := by
  refine Fn_of Try.func55 rfl (Nat.le_of_ble_eq_true rfl) (fun X => ?_)
  repeat (first | refine StepC.go ?_ | (refine TV_cond_t ?_ ?_; · first | rfl | assumption) | (refine TV_cond_f ?_ ?_; · first | rfl | assumption))
  exact retT_2 (.inr rfl) rfl
theorem plain_sdg_false : Fn Try.prog 55 [strT ⟨#[115, 100, 103]⟩, boolT false] (fun r => r = .tup [u8T 90, intT 0]) := by
  refine Fn_of Try.func55 rfl (Nat.le_of_ble_eq_true rfl) (fun X => ?_)
  repeat (first | refine StepC.go ?_ | (refine TV_cond_t ?_ ?_; · first | rfl | assumption) | (refine TV_cond_f ?_ ?_; · first | rfl | assumption))
  exact retT_2 (.inr rfl) rfl
@[reducible] def im_v : Im1 := ⟨88, 0, 89, 2⟩
theorem plain_v_true : Fn Try.prog 55 [strT ⟨#[118]⟩, boolT true] (fun r => r = .tup [u8T 88, intT 0]) := by
  refine Fn_of Try.func55 rfl (Nat.le_of_ble_eq_true rfl) (fun X => ?_)
  repeat (first | refine StepC.go ?_ | (refine TV_cond_t ?_ ?_; · first | rfl | assumption) | (refine TV_cond_f ?_ ?_; · first | rfl | assumption))
  exact retT_2 (.inr rfl) rfl
theorem plain_v_false : Fn Try.prog 55 [strT ⟨#[118]⟩, boolT false] (fun r => r = .tup [u8T 89, intT 2]) := by
  refine Fn_of Try.func55 rfl (Nat.le_of_ble_eq_true rfl) (fun X => ?_)
  repeat (first | refine StepC.go ?_ | (refine TV_cond_t ?_ ?_; · first | rfl | assumption) | (refine TV_cond_f ?_ ?_; · first | rfl | assumption))
  exact retT_2 (.inr rfl) rfl
@[reducible] def im_vdg : Im1 := ⟨88, 0, 89, 0⟩
theorem plain_vdg_true : Fn Try.prog 55 [strT ⟨#[118, 100, 103]⟩, boolT true] (fun r => r = .tup [u8T 88, intT 0]) := by
  refine Fn_of Try.func55 rfl (Nat.le_of_ble_eq_true rfl) (fun X => ?_)
  repeat (first | refine StepC.go ?_ | (refine TV_cond_t ?_ ?_; · first | rfl | assumption) | (refine TV_cond_f ?_ ?_; · first | rfl | assumption))
  exact retT_2 (.inr rfl) rfl
theorem plain_vdg_false : Fn Try.prog 55 [strT ⟨#[118, 100, 103]⟩, boolT false] (fun r => r = .tup [u8T 89, intT 0]) := by
  refine Fn_of Try.func55 rfl (Nat.le_of_ble_eq_true rfl) (fun X => ?_)
  repeat (first | refine StepC.go ?_ | (refine TV_cond_t ?_ ?_; · first | rfl | assumption) | (refine TV_cond_f ?_ ?_; · first | rfl | assumption))
  exact retT_2 (.inr rfl) rfl
@[reducible] def im_w : Im1 := ⟨88, 0, 90, 0⟩
theorem plain_w_true : Fn Try.prog 55 [strT ⟨#[119]⟩, boolT true] (fun r => r = .tup [u8T 88, intT 0]) := by
  refine Fn_of Try.func55 rfl (Nat.le_of_ble_eq_true rfl) (fun X => ?_)
  repeat (first | refine StepC.go ?_ | (refine TV_cond_t ?_ ?_; · first | rfl | assumption) | (refine TV_cond_f ?_ ?_; · first | rfl | assumption))
  exact retT_2 (.inr rfl) rfl
theorem plain_w_false : Fn Try.prog 55 [strT ⟨#[119]⟩, boolT false] (fun r => r = .tup [u8T 90, intT 0]) := by
  refine Fn_of Try.func55 rfl (Nat.le_of_ble_eq_true rfl) (fun X => ?_)
  repeat (first | refine StepC.go ?_ | (refine TV_cond_f ?_ ?_; · first | rfl | assumption))
  exact retT_2 (.inr rfl) rfl
@[reducible] def im_wdg : Im1 := ⟨88, 0, 90, 0⟩
theorem plain_wdg_true : Fn Try.prog 55 [strT ⟨#[119, 100, 103]⟩, boolT true] (fun r => r = .tup [u8T 88, intT 0]) := by
  refine Fn_of Try.func55 rfl (Nat.le_of_ble_eq_true rfl) (fun X => ?_)
  repeat (first | refine StepC.go ?_ | (refine TV_cond_t ?_ ?_; · first | rfl | assumption) | (refine TV_cond_f ?_ ?_; · first | rfl | assumption))
  exact retT_2 (.inr rfl) rfl
theorem plain_wdg_false : Fn Try.prog 55 [strT ⟨#[119, 100, 103]⟩, boolT false] (fun r => r = .tup [u8T 90, intT 0]) := by
  refine Fn_of Try.func55 rfl (Nat.le_of_ble_eq_true rfl) (fun X => ?_)
  repeat (first | refine StepC.go ?_ | (refine TV_cond_f ?_ ?_; · first | rfl | assumption))
  exact retT_2 (.inr rfl) rfl
instance : CallIs Try.prog 55 := .of Try.func55 rfl rfl
set_option maxHeartbeats 1000000 in
theorem image_i {n a j : Int} (hn : n ≤ 64) (ha : 0 ≤ a ∧ a < n) (hj : 0 ≤ j ∧ j < n) (x : Bool) : Fn Try.prog 34 [intT n, strT ⟨#[105]⟩, .sl 1 [[intT a]], intT j, boolT x] (fun r => r = pauT (img1 im_i n a j x)) := by
  refine Fn_of Try.func34 rfl (Nat.le_of_ble_eq_true rfl) (fun X => ?_)
  by_cases h : j = a
  · subst h
    cases x
    · repeat (first | refine StepC.go ?_ | intro _ | (refine TV_cond_f ?_ ?_; · first | rfl | assumption))
      refine TS_callE (onT hn hj.1 hj.2 (by decide)) ?_
      repeat (first | refine StepC.go ?_ | intro _ | (refine TV_cond_t ?_ ?_; · first | rfl | assumption) | (refine TV_cond_f ?_ ?_; · first | rfl | assumption))
      refine TS_callE plain_i_false ?_
      repeat (refine StepC.go ?_)
      refine TS_callE (onT (k := 90) (ph := 0) hn hj.1 hj.2 (by decide)) ?_
      repeat (refine StepC.go ?_)
      refine retT_1 (.inr rfl) ?_
      simp [tret, img1]
    · repeat (first | refine StepC.go ?_ | intro _ | (refine TV_cond_t ?_ ?_; · first | rfl | assumption))
      refine TS_callE (onT hn hj.1 hj.2 (by decide)) ?_
      repeat (first | refine StepC.go ?_ | intro _ | (refine TV_cond_t ?_ ?_; · first | rfl | assumption) | (refine TV_cond_f ?_ ?_; · first | rfl | assumption))
      refine TS_callE plain_i_true ?_
      repeat (refine StepC.go ?_)
      refine TS_callE (onT (k := 88) (ph := 0) hn hj.1 hj.2 (by decide)) ?_
      repeat (refine StepC.go ?_)
      refine retT_1 (.inr rfl) ?_
      simp [tret, img1]
  · have d1 : (!decide (a = j)) = true := by simp; omega
    cases x
    · repeat (first | refine StepC.go ?_ | intro _ | (refine TV_cond_f ?_ ?_; · first | rfl | assumption))
      refine TS_callE (onT hn hj.1 hj.2 (by decide)) ?_
      repeat (first | refine StepC.go ?_ | intro _ | (refine TV_cond_t ?_ ?_; · first | rfl | assumption))
      refine retT_1 (.inr rfl) ?_
      simp only [tret, img1]; rw [if_neg h]; rfl
    · repeat (first | refine StepC.go ?_ | intro _ | (refine TV_cond_t ?_ ?_; · first | rfl | assumption))
      refine TS_callE (onT hn hj.1 hj.2 (by decide)) ?_
      repeat (first | refine StepC.go ?_ | intro _ | (refine TV_cond_t ?_ ?_; · first | rfl | assumption))
      refine retT_1 (.inr rfl) ?_
      simp only [tret, img1]; rw [if_neg h]; rfl
set_option maxHeartbeats 1000000 in
theorem image_x {n a j : Int} (hn : n ≤ 64) (ha : 0 ≤ a ∧ a < n) (hj : 0 ≤ j ∧ j < n) (x : Bool) : Fn Try.prog 34 [intT n, strT ⟨#[120]⟩, .sl 1 [[intT a]], intT j, boolT x] (fun r => r = pauT (img1 im_x n a j x)) := by
  refine Fn_of Try.func34 rfl (Nat.le_of_ble_eq_true rfl) (fun X => ?_)
  by_cases h : j = a
  · subst h
    cases x
    · repeat (first | refine StepC.go ?_ | intro _ | (refine TV_cond_f ?_ ?_; · first | rfl | assumption))
      refine TS_callE (onT hn hj.1 hj.2 (by decide)) ?_
      repeat (first | refine StepC.go ?_ | intro _ | (refine TV_cond_t ?_ ?_; · first | rfl | assumption) | (refine TV_cond_f ?_ ?_; · first | rfl | assumption))
      refine TS_callE plain_x_false ?_
      repeat (refine StepC.go ?_)
      refine TS_callE (onT (k := 90) (ph := 2) hn hj.1 hj.2 (by decide)) ?_
      repeat (refine StepC.go ?_)
      refine retT_1 (.inr rfl) ?_
      simp [tret, img1]
    · repeat (first | refine StepC.go ?_ | intro _ | (refine TV_cond_t ?_ ?_; · first | rfl | assumption))
      refine TS_callE (onT hn hj.1 hj.2 (by decide)) ?_
      repeat (first | refine StepC.go ?_ | intro _ | (refine TV_cond_t ?_ ?_; · first | rfl | assumption) | (refine TV_cond_f ?_ ?_; · first | rfl | assumption))
      refine TS_callE plain_x_true ?_
      repeat (refine StepC.go ?_)
      refine TS_callE (onT (k := 88) (ph := 0) hn hj.1 hj.2 (by decide)) ?_
      repeat (refine StepC.go ?_)
      refine retT_1 (.inr rfl) ?_
      simp [tret, img1]
  · have d1 : (!decide (a = j)) = true := by simp; omega
    cases x
    · repeat (first | refine StepC.go ?_ | intro _ | (refine TV_cond_f ?_ ?_; · first | rfl | assumption))
      refine TS_callE (onT hn hj.1 hj.2 (by decide)) ?_
      repeat (first | refine StepC.go ?_ | intro _ | (refine TV_cond_t ?_ ?_; · first | rfl | assumption))
      refine retT_1 (.inr rfl) ?_
      simp only [tret, img1]; rw [if_neg h]; rfl
    · repeat (first | refine StepC.go ?_ | intro _ | (refine TV_cond_t ?_ ?_; · first | rfl | assumption))
      refine TS_callE (onT hn hj.1 hj.2 (by decide)) ?_
      repeat (first | refine StepC.go ?_ | intro _ | (refine TV_cond_t ?_ ?_; · first | rfl | assumption))
      refine retT_1 (.inr rfl) ?_
      simp only [tret, img1]; rw [if_neg h]; rfl
set_option maxHeartbeats 1000000 in
theorem image_y {n a j : Int} (hn : n ≤ 64) (ha : 0 ≤ a ∧ a < n) (hj : 0 ≤ j ∧ j < n) (x : Bool) : Fn Try.prog 34 [intT n, strT ⟨#[121]⟩, .sl 1 [[intT a]], intT j, boolT x] (fun r => r = pauT (img1 im_y n a j x)) := by
  refine Fn_of Try.func34 rfl (Nat.le_of_ble_eq_true rfl) (fun X => ?_)
  by_cases h : j = a
  · subst h
    cases x
    · repeat (first | refine StepC.go ?_ | intro _ | (refine TV_cond_f ?_ ?_; · first | rfl | assumption))
      refine TS_callE (onT hn hj.1 hj.2 (by decide)) ?_
      repeat (first | refine StepC.go ?_ | intro _ | (refine TV_cond_t ?_ ?_; · first | rfl | assumption) | (refine TV_cond_f ?_ ?_; · first | rfl | assumption))
      refine TS_callE plain_y_false ?_
      repeat (refine StepC.go ?_)
      refine TS_callE (onT (k := 90) (ph := 2) hn hj.1 hj.2 (by decide)) ?_
      repeat (refine StepC.go ?_)
      refine retT_1 (.inr rfl) ?_
      simp [tret, img1]
    · repeat (first | refine StepC.go ?_ | intro _ | (refine TV_cond_t ?_ ?_; · first | rfl | assumption))
      refine TS_callE (onT hn hj.1 hj.2 (by decide)) ?_
      repeat (first | refine StepC.go ?_ | intro _ | (refine TV_cond_t ?_ ?_; · first | rfl | assumption) | (refine TV_cond_f ?_ ?_; · first | rfl | assumption))
      refine TS_callE plain_y_true ?_
      repeat (refine StepC.go ?_)
      refine TS_callE (onT (k := 88) (ph := 2) hn hj.1 hj.2 (by decide)) ?_
      repeat (refine StepC.go ?_)
      refine retT_1 (.inr rfl) ?_
      simp [tret, img1]
  · have d1 : (!decide (a = j)) = true := by simp; omega
    cases x
    · repeat (first | refine StepC.go ?_ | intro _ | (refine TV_cond_f ?_ ?_; · first | rfl | assumption))
      refine TS_callE (onT hn hj.1 hj.2 (by decide)) ?_
      repeat (first | refine StepC.go ?_ | intro _ | (refine TV_cond_t ?_ ?_; · first | rfl | assumption))
      refine retT_1 (.inr rfl) ?_
      simp only [tret, img1]; rw [if_neg h]; rfl
    · repeat (first | refine StepC.go ?_ | intro _ | (refine TV_cond_t ?_ ?_; · first | rfl | assumption))
      refine TS_callE (onT hn hj.1 hj.2 (by decide)) ?_
      repeat (first | refine StepC.go ?_ | intro _ | (refine TV_cond_t ?_ ?_; · first | rfl | assumption))
      refine retT_1 (.inr rfl) ?_
      simp only [tret, img1]; rw [if_neg h]; rfl
set_option maxHeartbeats 1000000 in
theorem image_z {n a j : Int} (hn : n ≤ 64) (ha : 0 ≤ a ∧ a < n) (hj : 0 ≤ j ∧ j < n) (x : Bool) : Fn Try.prog 34 [intT n, strT ⟨#[122]⟩, .sl 1 [[intT a]], intT j, boolT x] (fun r => r = pauT (img1 im_z n a j x)) := by
  refine Fn_of Try.func34 rfl (Nat.le_of_ble_eq_true rfl) (fun X => ?_)
  by_cases h : j = a
  · subst h
    cases x
    · repeat (first | refine StepC.go ?_ | intro _ | (refine TV_cond_f ?_ ?_; · first | rfl | assumption))
      refine TS_callE (onT hn hj.1 hj.2 (by decide)) ?_
      repeat (first | refine StepC.go ?_ | intro _ | (refine TV_cond_t ?_ ?_; · first | rfl | assumption) | (refine TV_cond_f ?_ ?_; · first | rfl | assumption))
      refine TS_callE plain_z_false ?_
      repeat (refine StepC.go ?_)
      refine TS_callE (onT (k := 90) (ph := 0) hn hj.1 hj.2 (by decide)) ?_
      repeat (refine StepC.go ?_)
      refine retT_1 (.inr rfl) ?_
      simp [tret, img1]
    · repeat (first | refine StepC.go ?_ | intro _ | (refine TV_cond_t ?_ ?_; · first | rfl | assumption))
      refine TS_callE (onT hn hj.1 hj.2 (by decide)) ?_
      repeat (first | refine StepC.go ?_ | intro _ | (refine TV_cond_t ?_ ?_; · first | rfl | assumption) | (refine TV_cond_f ?_ ?_; · first | rfl | assumption))
      refine TS_callE plain_z_true ?_
      repeat (refine StepC.go ?_)
      refine TS_callE (onT (k := 88) (ph := 2) hn hj.1 hj.2 (by decide)) ?_
      repeat (refine StepC.go ?_)
      refine retT_1 (.inr rfl) ?_
      simp [tret, img1]
  · have d1 : (!decide (a = j)) = true := by simp; omega
    cases x
    · repeat (first | refine StepC.go ?_ | intro _ | (refine TV_cond_f ?_ ?_; · first | rfl | assumption))
      refine TS_callE (onT hn hj.1 hj.2 (by decide)) ?_
      repeat (first | refine StepC.go ?_ | intro _ | (refine TV_cond_t ?_ ?_; · first | rfl | assumption))
      refine retT_1 (.inr rfl) ?_
      simp only [tret, img1]; rw [if_neg h]; rfl
    · repeat (first | refine StepC.go ?_ | intro _ | (refine TV_cond_t ?_ ?_; · first | rfl | assumption))
      refine TS_callE (onT hn hj.1 hj.2 (by decide)) ?_
      repeat (first | refine StepC.go ?_ | intro _ | (refine TV_cond_t ?_ ?_; · first | rfl | assumption))
      refine retT_1 (.inr rfl) ?_
      simp only [tret, img1]; rw [if_neg h]; rfl
set_option maxHeartbeats 1000000 in
theorem image_h {n a j : Int} (hn : n ≤ 64) (ha : 0 ≤ a ∧ a < n) (hj : 0 ≤ j ∧ j < n) (x : Bool) : Fn Try.prog 34 [intT n, strT ⟨#[104]⟩, .sl 1 [[intT a]], intT j, boolT x] (fun r => r = pauT (img1 im_h n a j x)) := by
  refine Fn_of Try.func34 rfl (Nat.le_of_ble_eq_true rfl) (fun X => ?_)
  by_cases h : j = a
  · subst h
    cases x
    · repeat (first | refine StepC.go ?_ | intro _ | (refine TV_cond_f ?_ ?_; · first | rfl | assumption))
      refine TS_callE (onT hn hj.1 hj.2 (by decide)) ?_
      repeat (first | refine StepC.go ?_ | intro _ | (refine TV_cond_t ?_ ?_; · first | rfl | assumption) | (refine TV_cond_f ?_ ?_; · first | rfl | assumption))
      refine TS_callE plain_h_false ?_
      repeat (refine StepC.go ?_)
      refine TS_callE (onT (k := 88) (ph := 0) hn hj.1 hj.2 (by decide)) ?_
      repeat (refine StepC.go ?_)
      refine retT_1 (.inr rfl) ?_
      simp [tret, img1]
    · repeat (first | refine StepC.go ?_ | intro _ | (refine TV_cond_t ?_ ?_; · first | rfl | assumption))
      refine TS_callE (onT hn hj.1 hj.2 (by decide)) ?_
      repeat (first | refine StepC.go ?_ | intro _ | (refine TV_cond_t ?_ ?_; · first | rfl | assumption) | (refine TV_cond_f ?_ ?_; · first | rfl | assumption))
      refine TS_callE plain_h_true ?_
      repeat (refine StepC.go ?_)
      refine TS_callE (onT (k := 90) (ph := 0) hn hj.1 hj.2 (by decide)) ?_
      repeat (refine StepC.go ?_)
      refine retT_1 (.inr rfl) ?_
      simp [tret, img1]
  · have d1 : (!decide (a = j)) = true := by simp; omega
    cases x
    · repeat (first | refine StepC.go ?_ | intro _ | (refine TV_cond_f ?_ ?_; · first | rfl | assumption))
      refine TS_callE (onT hn hj.1 hj.2 (by decide)) ?_
      repeat (first | refine StepC.go ?_ | intro _ | (refine TV_cond_t ?_ ?_; · first | rfl | assumption))
      refine retT_1 (.inr rfl) ?_
      simp only [tret, img1]; rw [if_neg h]; rfl
    · repeat (first | refine StepC.go ?_ | intro _ | (refine TV_cond_t ?_ ?_; · first | rfl | assumption))
      refine TS_callE (onT hn hj.1 hj.2 (by decide)) ?_
      repeat (first | refine StepC.go ?_ | intro _ | (refine TV_cond_t ?_ ?_; · first | rfl | assumption))
      refine retT_1 (.inr rfl) ?_
      simp only [tret, img1]; rw [if_neg h]; rfl
set_option maxHeartbeats 1000000 in
theorem image_s {n a j : Int} (hn : n ≤ 64) (ha : 0 ≤ a ∧ a < n) (hj : 0 ≤ j ∧ j < n) (x : Bool) : Fn Try.prog 34 [intT n, strT ⟨#[115]⟩, .sl 1 [[intT a]], intT j, boolT x] (fun r => r = pauT (img1 im_s n a j x)) := by
  refine Fn_of Try.func34 rfl (Nat.le_of_ble_eq_true rfl) (fun X => ?_)
  by_cases h : j = a
  · subst h
    cases x
    · repeat (first | refine StepC.go ?_ | intro _ | (refine TV_cond_f ?_ ?_; · first | rfl | assumption))
      refine TS_callE (onT hn hj.1 hj.2 (by decide)) ?_
      repeat (first | refine StepC.go ?_ | intro _ | (refine TV_cond_t ?_ ?_; · first | rfl | assumption) | (refine TV_cond_f ?_ ?_; · first | rfl | assumption))
      refine TS_callE plain_s_false ?_
      repeat (refine StepC.go ?_)
      refine TS_callE (onT (k := 90) (ph := 0) hn hj.1 hj.2 (by decide)) ?_
      repeat (refine StepC.go ?_)
      refine retT_1 (.inr rfl) ?_
      simp [tret, img1]
    · repeat (first | refine StepC.go ?_ | intro _ | (refine TV_cond_t ?_ ?_; · first | rfl | assumption))
      refine TS_callE (onT hn hj.1 hj.2 (by decide)) ?_
      repeat (first | refine StepC.go ?_ | intro _ | (refine TV_cond_t ?_ ?_; · first | rfl | assumption) | (refine TV_cond_f ?_ ?_; · first | rfl | assumption))
      refine TS_callE plain_s_true ?_
      repeat (refine StepC.go ?_)
      refine TS_callE (onT (k := 89) (ph := 0) hn hj.1 hj.2 (by decide)) ?_
      repeat (refine StepC.go ?_)
      refine retT_1 (.inr rfl) ?_
      simp [tret, img1]
  · have d1 : (!decide (a = j)) = true := by simp; omega
    cases x
    · repeat (first | refine StepC.go ?_ | intro _ | (refine TV_cond_f ?_ ?_; · first | rfl | assumption))
      refine TS_callE (onT hn hj.1 hj.2 (by decide)) ?_
      repeat (first | refine StepC.go ?_ | intro _ | (refine TV_cond_t ?_ ?_; · first | rfl | assumption))
      refine retT_1 (.inr rfl) ?_
      simp only [tret, img1]; rw [if_neg h]; rfl
    · repeat (first | refine StepC.go ?_ | intro _ | (refine TV_cond_t ?_ ?_; · first | rfl | assumption))
      refine TS_callE (onT hn hj.1 hj.2 (by decide)) ?_
      repeat (first | refine StepC.go ?_ | intro _ | (refine TV_cond_t ?_ ?_; · first | rfl | assumption))
      refine retT_1 (.inr rfl) ?_
      simp only [tret, img1]; rw [if_neg h]; rfl
set_option maxHeartbeats 1000000 in
theorem image_sdg {n a j : Int} (hn : n ≤ 64) (ha : 0 ≤ a ∧ a < n) (hj : 0 ≤ j ∧ j < n) (x : Bool) : Fn Try.prog 34 [intT n, strT ⟨#[115, 100, 103]⟩, .sl 1 [[intT a]], intT j, boolT x] (fun r => r = pauT (img1 im_sdg n a j x)) := by
  refine Fn_of Try.func34 rfl (Nat.le_of_ble_eq_true rfl) (fun X => ?_)
  by_cases h : j = a
  · subst h
    cases x
    · repeat (first | refine StepC.go ?_ | intro _ | (refine TV_cond_f ?_ ?_; · first | rfl | assumption))
      refine TS_callE (onT hn hj.1 hj.2 (by decide)) ?_
      repeat (first | refine StepC.go ?_ | intro _ | (refine TV_cond_t ?_ ?_; · first | rfl | assumption) | (refine TV_cond_f ?_ ?_; · first | rfl | assumption))
      refine TS_callE plain_sdg_false ?_
      repeat (refine StepC.go ?_)
      refine TS_callE (onT (k := 90) (ph := 0) hn hj.1 hj.2 (by decide)) ?_
      repeat (refine StepC.go ?_)
      refine retT_1 (.inr rfl) ?_
      simp [tret, img1]
    · repeat (first | refine StepC.go ?_ | intro _ | (refine TV_cond_t ?_ ?_; · first | rfl | assumption))
      refine TS_callE (onT hn hj.1 hj.2 (by decide)) ?_
      repeat (first | refine StepC.go ?_ | intro _ | (refine TV_cond_t ?_ ?_; · first | rfl | assumption) | (refine TV_cond_f ?_ ?_; · first | rfl | assumption))
      refine TS_callE plain_sdg_true ?_
      repeat (refine StepC.go ?_)
      refine TS_callE (onT (k := 89) (ph := 2) hn hj.1 hj.2 (by decide)) ?_
      repeat (refine StepC.go ?_)
      refine retT_1 (.inr rfl) ?_
      simp [tret, img1]
  · have d1 : (!decide (a = j)) = true := by simp; omega
    cases x
    · repeat (first | refine StepC.go ?_ | intro _ | (refine TV_cond_f ?_ ?_; · first | rfl | assumption))
      refine TS_callE (onT hn hj.1 hj.2 (by decide)) ?_
      repeat (first | refine StepC.go ?_ | intro _ | (refine TV_cond_t ?_ ?_; · first | rfl | assumption))
      refine retT_1 (.inr rfl) ?_
      simp only [tret, img1]; rw [if_neg h]; rfl
    · repeat (first | refine StepC.go ?_ | intro _ | (refine TV_cond_t ?_ ?_; · first | rfl | assumption))
      refine TS_callE (onT hn hj.1 hj.2 (by decide)) ?_
      repeat (first | refine StepC.go ?_ | intro _ | (refine TV_cond_t ?_ ?_; · first | rfl | assumption))
      refine retT_1 (.inr rfl) ?_
      simp only [tret, img1]; rw [if_neg h]; rfl
set_option maxHeartbeats 1000000 in
theorem image_v {n a j : Int} (hn : n ≤ 64) (ha : 0 ≤ a ∧ a < n) (hj : 0 ≤ j ∧ j < n) (x : Bool) : Fn Try.prog 34 [intT n, strT ⟨#[118]⟩, .sl 1 [[intT a]], intT j, boolT x] (fun r => r = pauT (img1 im_v n a j x)) := by
  refine Fn_of Try.func34 rfl (Nat.le_of_ble_eq_true rfl) (fun X => ?_)
  by_cases h : j = a
  · subst h
    cases x
    · repeat (first | refine StepC.go ?_ | intro _ | (refine TV_cond_f ?_ ?_; · first | rfl | assumption))
      refine TS_callE (onT hn hj.1 hj.2 (by decide)) ?_
      repeat (first | refine StepC.go ?_ | intro _ | (refine TV_cond_t ?_ ?_; · first | rfl | assumption) | (refine TV_cond_f ?_ ?_; · first | rfl | assumption))
      refine TS_callE plain_v_false ?_
      repeat (refine StepC.go ?_)
      refine TS_callE (onT (k := 89) (ph := 2) hn hj.1 hj.2 (by decide)) ?_
      repeat (refine StepC.go ?_)
      refine retT_1 (.inr rfl) ?_
      simp [tret, img1]
    · repeat (first | refine StepC.go ?_ | intro _ | (refine TV_cond_t ?_ ?_; · first | rfl | assumption))
      refine TS_callE (onT hn hj.1 hj.2 (by decide)) ?_
      repeat (first | refine StepC.go ?_ | intro _ | (refine TV_cond_t ?_ ?_; · first | rfl | assumption) | (refine TV_cond_f ?_ ?_; · first | rfl | assumption))
      refine TS_callE plain_v_true ?_
      repeat (refine StepC.go ?_)
      refine TS_callE (onT (k := 88) (ph := 0) hn hj.1 hj.2 (by decide)) ?_
      repeat (refine StepC.go ?_)
      refine retT_1 (.inr rfl) ?_
      simp [tret, img1]
  · have d1 : (!decide (a = j)) = true := by simp; omega
    cases x
    · repeat (first | refine StepC.go ?_ | intro _ | (refine TV_cond_f ?_ ?_; · first | rfl | assumption))
      refine TS_callE (onT hn hj.1 hj.2 (by decide)) ?_
      repeat (first | refine StepC.go ?_ | intro _ | (refine TV_cond_t ?_ ?_; · first | rfl | assumption))
      refine retT_1 (.inr rfl) ?_
      simp only [tret, img1]; rw [if_neg h]; rfl
    · repeat (first | refine StepC.go ?_ | intro _ | (refine TV_cond_t ?_ ?_; · first | rfl | assumption))
      refine TS_callE (onT hn hj.1 hj.2 (by decide)) ?_
      repeat (first | refine StepC.go ?_ | intro _ | (refine TV_cond_t ?_ ?_; · first | rfl | assumption))
      refine retT_1 (.inr rfl) ?_
      simp only [tret, img1]; rw [if_neg h]; rfl
set_option maxHeartbeats 1000000 in
theorem image_vdg {n a j : Int} (hn : n ≤ 64) (ha : 0 ≤ a ∧ a < n) (hj : 0 ≤ j ∧ j < n) (x : Bool) : Fn Try.prog 34 [intT n, strT ⟨#[118, 100, 103]⟩, .sl 1 [[intT a]], intT j, boolT x] (fun r => r = pauT (img1 im_vdg n a j x)) := by
  refine Fn_of Try.func34 rfl (Nat.le_of_ble_eq_true rfl) (fun X => ?_)
  by_cases h : j = a
  · subst h
    cases x
    · repeat (first | refine StepC.go ?_ | intro _ | (refine TV_cond_f ?_ ?_; · first | rfl | assumption))
      refine TS_callE (onT hn hj.1 hj.2 (by decide)) ?_
      repeat (first | refine StepC.go ?_ | intro _ | (refine TV_cond_t ?_ ?_; · first | rfl | assumption) | (refine TV_cond_f ?_ ?_; · first | rfl | assumption))
      refine TS_callE plain_vdg_false ?_
      repeat (refine StepC.go ?_)
      refine TS_callE (onT (k := 89) (ph := 0) hn hj.1 hj.2 (by decide)) ?_
      repeat (refine StepC.go ?_)
      refine retT_1 (.inr rfl) ?_
      simp [tret, img1]
    · repeat (first | refine StepC.go ?_ | intro _ | (refine TV_cond_t ?_ ?_; · first | rfl | assumption))
      refine TS_callE (onT hn hj.1 hj.2 (by decide)) ?_
      repeat (first | refine StepC.go ?_ | intro _ | (refine TV_cond_t ?_ ?_; · first | rfl | assumption) | (refine TV_cond_f ?_ ?_; · first | rfl | assumption))
      refine TS_callE plain_vdg_true ?_
      repeat (refine StepC.go ?_)
      refine TS_callE (onT (k := 88) (ph := 0) hn hj.1 hj.2 (by decide)) ?_
      repeat (refine StepC.go ?_)
      refine retT_1 (.inr rfl) ?_
      simp [tret, img1]
  · have d1 : (!decide (a = j)) = true := by simp; omega
    cases x
    · repeat (first | refine StepC.go ?_ | intro _ | (refine TV_cond_f ?_ ?_; · first | rfl | assumption))
      refine TS_callE (onT hn hj.1 hj.2 (by decide)) ?_
      repeat (first | refine StepC.go ?_ | intro _ | (refine TV_cond_t ?_ ?_; · first | rfl | assumption))
      refine retT_1 (.inr rfl) ?_
      simp only [tret, img1]; rw [if_neg h]; rfl
    · repeat (first | refine StepC.go ?_ | intro _ | (refine TV_cond_t ?_ ?_; · first | rfl | assumption))
      refine TS_callE (onT hn hj.1 hj.2 (by decide)) ?_
      repeat (first | refine StepC.go ?_ | intro _ | (refine TV_cond_t ?_ ?_; · first | rfl | assumption))
      refine retT_1 (.inr rfl) ?_
      simp only [tret, img1]; rw [if_neg h]; rfl
set_option maxHeartbeats 1000000 in
theorem image_w {n a j : Int} (hn : n ≤ 64) (ha : 0 ≤ a ∧ a < n) (hj : 0 ≤ j ∧ j < n) (x : Bool) : Fn Try.prog 34 [intT n, strT ⟨#[119]⟩, .sl 1 [[intT a]], intT j, boolT x] (fun r => r = pauT (img1 im_w n a j x)) := by
  refine Fn_of Try.func34 rfl (Nat.le_of_ble_eq_true rfl) (fun X => ?_)
  by_cases h : j = a
  · subst h
    cases x
    · repeat (first | refine StepC.go ?_ | intro _ | (refine TV_cond_f ?_ ?_; · first | rfl | assumption))
      refine TS_callE (onT hn hj.1 hj.2 (by decide)) ?_
      repeat (first | refine StepC.go ?_ | intro _ | (refine TV_cond_t ?_ ?_; · first | rfl | assumption) | (refine TV_cond_f ?_ ?_; · first | rfl | assumption))
      refine TS_callE plain_w_false ?_
      repeat (refine StepC.go ?_)
      refine TS_callE (onT (k := 90) (ph := 0) hn hj.1 hj.2 (by decide)) ?_
      repeat (refine StepC.go ?_)
      refine retT_1 (.inr rfl) ?_
      simp [tret, img1]
    · repeat (first | refine StepC.go ?_ | intro _ | (refine TV_cond_t ?_ ?_; · first | rfl | assumption))
      refine TS_callE (onT hn hj.1 hj.2 (by decide)) ?_
      repeat (first | refine StepC.go ?_ | intro _ | (refine TV_cond_t ?_ ?_; · first | rfl | assumption) | (refine TV_cond_f ?_ ?_; · first | rfl | assumption))
      refine TS_callE plain_w_true ?_
      repeat (refine StepC.go ?_)
      refine TS_callE (onT (k := 88) (ph := 0) hn hj.1 hj.2 (by decide)) ?_
      repeat (refine StepC.go ?_)
      refine retT_1 (.inr rfl) ?_
      simp [tret, img1]
  · have d1 : (!decide (a = j)) = true := by simp; omega
    cases x
    · repeat (first | refine StepC.go ?_ | intro _ | (refine TV_cond_f ?_ ?_; · first | rfl | assumption))
      refine TS_callE (onT hn hj.1 hj.2 (by decide)) ?_
      repeat (first | refine StepC.go ?_ | intro _ | (refine TV_cond_t ?_ ?_; · first | rfl | assumption))
      refine retT_1 (.inr rfl) ?_
      simp only [tret, img1]; rw [if_neg h]; rfl
    · repeat (first | refine StepC.go ?_ | intro _ | (refine TV_cond_t ?_ ?_; · first | rfl | assumption))
      refine TS_callE (onT hn hj.1 hj.2 (by decide)) ?_
      repeat (first | refine StepC.go ?_ | intro _ | (refine TV_cond_t ?_ ?_; · first | rfl | assumption))
      refine retT_1 (.inr rfl) ?_
      simp only [tret, img1]; rw [if_neg h]; rfl
set_option maxHeartbeats 1000000 in
theorem image_wdg {n a j : Int} (hn : n ≤ 64) (ha : 0 ≤ a ∧ a < n) (hj : 0 ≤ j ∧ j < n) (x : Bool) : Fn Try.prog 34 [intT n, strT ⟨#[119, 100, 103]⟩, .sl 1 [[intT a]], intT j, boolT x] (fun r => r = pauT (img1 im_wdg n a j x)) := by
  refine Fn_of Try.func34 rfl (Nat.le_of_ble_eq_true rfl) (fun X => ?_)
  by_cases h : j = a
  · subst h
    cases x
    · repeat (first | refine StepC.go ?_ | intro _ | (refine TV_cond_f ?_ ?_; · first | rfl | assumption))
      refine TS_callE (onT hn hj.1 hj.2 (by decide)) ?_
      repeat (first | refine StepC.go ?_ | intro _ | (refine TV_cond_t ?_ ?_; · first | rfl | assumption) | (refine TV_cond_f ?_ ?_; · first | rfl | assumption))
      refine TS_callE plain_wdg_false ?_
      repeat (refine StepC.go ?_)
      refine TS_callE (onT (k := 90) (ph := 0) hn hj.1 hj.2 (by decide)) ?_
      repeat (refine StepC.go ?_)
      refine retT_1 (.inr rfl) ?_
      simp [tret, img1]
    · repeat (first | refine StepC.go ?_ | intro _ | (refine TV_cond_t ?_ ?_; · first | rfl | assumption))
      refine TS_callE (onT hn hj.1 hj.2 (by decide)) ?_
      repeat (first | refine StepC.go ?_ | intro _ | (refine TV_cond_t ?_ ?_; · first | rfl | assumption) | (refine TV_cond_f ?_ ?_; · first | rfl | assumption))
      refine TS_callE plain_wdg_true ?_
      repeat (refine StepC.go ?_)
      refine TS_callE (onT (k := 88) (ph := 0) hn hj.1 hj.2 (by decide)) ?_
      repeat (refine StepC.go ?_)
      refine retT_1 (.inr rfl) ?_
      simp [tret, img1]
  · have d1 : (!decide (a = j)) = true := by simp; omega
    cases x
    · repeat (first | refine StepC.go ?_ | intro _ | (refine TV_cond_f ?_ ?_; · first | rfl | assumption))
      refine TS_callE (onT hn hj.1 hj.2 (by decide)) ?_
      repeat (first | refine StepC.go ?_ | intro _ | (refine TV_cond_t ?_ ?_; · first | rfl | assumption))
      refine retT_1 (.inr rfl) ?_
      simp only [tret, img1]; rw [if_neg h]; rfl
    · repeat (first | refine StepC.go ?_ | intro _ | (refine TV_cond_t ?_ ?_; · first | rfl | assumption))
      refine TS_callE (onT hn hj.1 hj.2 (by decide)) ?_
      repeat (first | refine StepC.go ?_ | intro _ | (refine TV_cond_t ?_ ?_; · first | rfl | assumption))
      refine retT_1 (.inr rfl) ?_
      simp only [tret, img1]; rw [if_neg h]; rfl
/-- which image: 0 cx, 1 cz, 2 swap -/
def img2 (g : Nat) (n a b j : Int) (x : Bool) : PauD :=
  let l := if x then 88 else 90
  let own := onS n j l 0
  if j ≠ a ∧ j ≠ b then own
  else
    let o := if j = a then b else a
    if g = 2 then onS n o l 0
    else if g = 1 then (if x then mulP own (onS n o 90 0) else own)
    else if (x = true ∧ j = a) ∨ (x = false ∧ j = b) then mulP own (onS n o l 0) else own
set_option synthInstance.maxSize 4000 in
set_option synthInstance.maxHeartbeats 400000 in
set_option maxHeartbeats 2000000 in
theorem image_cx {n a b j : Int} (hn : n ≤ 64) (ha : 0 ≤ a ∧ a < n) (hb : 0 ≤ b ∧ b < n) (hab : a ≠ b) (hj : 0 ≤ j ∧ j < n) (x : Bool) : Fn Try.prog 34 [intT n, strT ⟨#[99, 120]⟩, .sl 1 [[intT a], [intT b]], intT j, boolT x] (fun r => r = pauT (img2 0 n a b j x)) := by
  refine Fn_of Try.func34 rfl (Nat.le_of_ble_eq_true rfl) (fun X => ?_)
  by_cases h1 : j = a
  · subst h1
    have d2 : (!decide (j = b)) = true := by simp; exact hab
    have d6 : (if (!false) = true then decide (j = b) else false) = false := by simp; exact hab
    cases x
    · repeat (first | refine StepC.go ?_ | intro _ | (refine TV_cond_f ?_ ?_; · first | rfl | assumption))
      refine TS_callE (onT (k := 90) (ph := 0) hn hj.1 hj.2 (by decide)) ?_
      repeat (first | refine StepC.go ?_ | intro _ | (refine TS_on rfl ?_ ?_; · first | rfl | assumption) | (refine TS_off rfl ?_ ?_; · first | rfl | assumption) | refine TD_take rfl rfl ?_ | refine TD_load rfl rfl ?_ | refine TV_draw (id := 10) (plan := [.take 0, .take 1, .take 2, .take 3, .take 4, .take 5, .take 6, .take 7]) (by kernel_rfl) ?_ | (refine TV_cond_t ?_ ?_; · first | rfl | assumption) | (refine TV_cond_f ?_ ?_; · first | rfl | assumption))
      refine retT_1 (.inr rfl) ?_
      simp [tret, img2, hab, hab.symm]
    · repeat (first | refine StepC.go ?_ | intro _ | (refine TV_cond_t ?_ ?_; · first | rfl | assumption))
      refine TS_callE (onT (k := 88) (ph := 0) hn hj.1 hj.2 (by decide)) ?_
      repeat (first | refine StepC.go ?_ | intro _ | (refine TS_on rfl ?_ ?_; · first | rfl | assumption) | (refine TS_off rfl ?_ ?_; · first | rfl | assumption) | refine TS_off_undef rfl ?_ | refine TD_take rfl rfl ?_ | refine TD_load rfl rfl ?_ | refine TD_one rfl ?_ | refine FiltT_nil ?_ | refine FiltT_keep rfl ?_ | refine TV_draw (id := 10) (plan := [.take 0, .take 1, .take 2, .take 3, .take 4, .take 5, .take 6, .take 7]) (by kernel_rfl) ?_ | refine TV_draw (id := 24) (plan := [.take 0, .take 1, .take 2, .take 3, .one 4, .one 5, .one 6]) (by kernel_rfl) ?_ | (refine TV_cond_t ?_ ?_; · first | rfl | assumption) | (refine TV_cond_f ?_ ?_; · first | rfl | assumption))
      refine TS_callE (onT (k := 88) (ph := 0) hn hb.1 hb.2 (by decide)) ?_
      repeat (first | refine StepC.go ?_ | refine TD_one rfl ?_ | refine FiltT_nil ?_ | refine FiltT_drop rfl ?_)
      refine TS_callE (mul18T (onS_v (k := 88) (ph := 0) hn hj.1 hj.2 (by decide)) (onS_v (k := 88) (ph := 0) hn hb.1 hb.2 (by decide)) rfl) ?_
      repeat (first | refine StepC.go ?_ | refine TD_one rfl ?_ | refine FiltT_nil ?_)
      refine retT_1 (.inr rfl) ?_
      simp [tret, img2, hab, hab.symm]
  by_cases h2 : j = b
  · subst h2
    have d1 : (!decide (j = a)) = true := by simp; exact fun h => hab h.symm
    have d2 : decide (j = a) = false := by simp; exact fun h => hab h.symm
    have d3 : (if (!decide (j = a)) = true then (!decide (j = j)) else false) = false := by simp
    have d7 : (if decide (j = a) = true then true else false) = false := by simp; exact fun h => hab h.symm
    have d4 : (if (!decide (j = a)) = true then false else false) = false := by simp
    cases x
    · repeat (first | refine StepC.go ?_ | intro _ | (refine TV_cond_f ?_ ?_; · first | rfl | assumption))
      refine TS_callE (onT (k := 90) (ph := 0) hn hj.1 hj.2 (by decide)) ?_
      repeat (first | refine StepC.go ?_ | intro _ | (refine TS_on rfl ?_ ?_; · first | rfl | assumption) | (refine TS_off rfl ?_ ?_; · first | rfl | assumption) | refine TD_take rfl rfl ?_ | refine TD_load rfl rfl ?_ | refine TD_one rfl ?_ | refine FiltT_nil ?_ | refine FiltT_keep rfl ?_ | refine TV_draw (id := 10) (plan := [.take 0, .take 1, .take 2, .take 3, .take 4, .take 5, .take 6, .take 7]) (by kernel_rfl) ?_ | refine TV_draw (id := 24) (plan := [.take 0, .take 1, .take 2, .take 3, .one 4, .one 5, .one 6]) (by kernel_rfl) ?_ | (refine TV_cond_t ?_ ?_; · first | rfl | assumption) | (refine TV_cond_f ?_ ?_; · first | rfl | assumption))
      refine TS_callE (onT (k := 90) (ph := 0) hn ha.1 ha.2 (by decide)) ?_
      repeat (first | refine StepC.go ?_ | refine TD_one rfl ?_ | refine FiltT_nil ?_ | refine FiltT_drop rfl ?_)
      refine TS_callE (mul18T (onS_v (k := 90) (ph := 0) hn hj.1 hj.2 (by decide)) (onS_v (k := 90) (ph := 0) hn ha.1 ha.2 (by decide)) rfl) ?_
      repeat (first | refine StepC.go ?_ | refine TD_one rfl ?_ | refine FiltT_nil ?_)
      refine retT_1 (.inr rfl) ?_
      simp [tret, img2, hab, hab.symm]
    · repeat (first | refine StepC.go ?_ | intro _ | (refine TV_cond_t ?_ ?_; · first | rfl | assumption))
      refine TS_callE (onT (k := 88) (ph := 0) hn hj.1 hj.2 (by decide)) ?_
      repeat (first | refine StepC.go ?_ | intro _ | (refine TS_on rfl ?_ ?_; · first | rfl | assumption) | (refine TS_off rfl ?_ ?_; · first | rfl | assumption) | (refine TS_puw (Pu.pick_f ?_) ?_; · first | rfl | assumption) | refine TD_take rfl rfl ?_ | refine TD_load rfl rfl ?_ | refine TV_draw (id := 10) (plan := [.take 0, .take 1, .take 2, .take 3, .take 4, .take 5, .take 6, .take 7]) (by kernel_rfl) ?_ | (refine TV_cond_t ?_ ?_; · first | rfl | assumption) | (refine TV_cond_f ?_ ?_; · first | rfl | assumption))
      refine retT_1 (.inr rfl) ?_
      simp [tret, img2, hab, hab.symm]
  have d1 : (!decide (j = a)) = true := by simpa using h1
  have d2 : (if (!decide (j = a)) = true then (!decide (j = b)) else false) = true := by rw [d1]; simpa using h2
  cases x
  · repeat (first | refine StepC.go ?_ | intro _ | (refine TV_cond_f ?_ ?_; · first | rfl | assumption))
    refine TS_callE (onT (k := 90) (ph := 0) hn hj.1 hj.2 (by decide)) ?_
    repeat (first | refine StepC.go ?_ | intro _ | (refine TS_on rfl ?_ ?_; · first | rfl | assumption) | refine TD_take rfl rfl ?_ | refine TD_load rfl rfl ?_ | refine TV_draw (id := 10) (plan := [.take 0, .take 1, .take 2, .take 3, .take 4, .take 5, .take 6, .take 7]) (by kernel_rfl) ?_ | (refine TV_cond_t ?_ ?_; · first | rfl | assumption) | (refine TV_cond_f ?_ ?_; · first | rfl | assumption))
    refine retT_1 (.inr rfl) ?_
    simp [tret, img2, h1, h2]
  · repeat (first | refine StepC.go ?_ | intro _ | (refine TV_cond_t ?_ ?_; · first | rfl | assumption))
    refine TS_callE (onT (k := 88) (ph := 0) hn hj.1 hj.2 (by decide)) ?_
    repeat (first | refine StepC.go ?_ | intro _ | (refine TS_on rfl ?_ ?_; · first | rfl | assumption) | refine TD_take rfl rfl ?_ | refine TD_load rfl rfl ?_ | refine TV_draw (id := 10) (plan := [.take 0, .take 1, .take 2, .take 3, .take 4, .take 5, .take 6, .take 7]) (by kernel_rfl) ?_ | (refine TV_cond_t ?_ ?_; · first | rfl | assumption) | (refine TV_cond_f ?_ ?_; · first | rfl | assumption))
    refine retT_1 (.inr rfl) ?_
    simp [tret, img2, h1, h2]
set_option synthInstance.maxSize 4000 in
set_option synthInstance.maxHeartbeats 400000 in
set_option maxHeartbeats 2000000 in
theorem image_cz {n a b j : Int} (hn : n ≤ 64) (ha : 0 ≤ a ∧ a < n) (hb : 0 ≤ b ∧ b < n) (hab : a ≠ b) (hj : 0 ≤ j ∧ j < n) (x : Bool) : Fn Try.prog 34 [intT n, strT ⟨#[99, 122]⟩, .sl 1 [[intT a], [intT b]], intT j, boolT x] (fun r => r = pauT (img2 1 n a b j x)) := by
  refine Fn_of Try.func34 rfl (Nat.le_of_ble_eq_true rfl) (fun X => ?_)
  by_cases h1 : j = a
  · subst h1
    have d2 : (!decide (j = b)) = true := by simp; exact hab
    have d6 : (if (!false) = true then decide (j = b) else false) = false := by simp; exact hab
    cases x
    · repeat (first | refine StepC.go ?_ | intro _ | (refine TV_cond_f ?_ ?_; · first | rfl | assumption))
      refine TS_callE (onT (k := 90) (ph := 0) hn hj.1 hj.2 (by decide)) ?_
      repeat (first | refine StepC.go ?_ | intro _ | (refine TS_off rfl ?_ ?_; · first | rfl | assumption) | refine TD_take rfl rfl ?_ | refine TD_load rfl rfl ?_ | refine TV_draw (id := 10) (plan := [.take 0, .take 1, .take 2, .take 3, .take 4, .take 5, .take 6, .take 7]) (by kernel_rfl) ?_ | (refine TV_cond_t ?_ ?_; · first | rfl | assumption) | (refine TV_cond_f ?_ ?_; · first | rfl | assumption))
      refine retT_1 (.inr rfl) ?_
      simp [tret, img2, hab, hab.symm]
    · repeat (first | refine StepC.go ?_ | intro _ | (refine TV_cond_t ?_ ?_; · first | rfl | assumption))
      refine TS_callE (onT (k := 88) (ph := 0) hn hj.1 hj.2 (by decide)) ?_
      repeat (first | refine StepC.go ?_ | intro _ | (refine TS_off rfl ?_ ?_; · first | rfl | assumption) | refine TD_take rfl rfl ?_ | refine TD_load rfl rfl ?_ | refine TD_one rfl ?_ | refine FiltT_nil ?_ | refine FiltT_keep rfl ?_ | refine TV_draw (id := 10) (plan := [.take 0, .take 1, .take 2, .take 3, .take 4, .take 5, .take 6, .take 7]) (by kernel_rfl) ?_ | refine TV_draw (id := 21) (plan := [.take 0, .take 1, .take 2, .one 3, .one 4, .one 5]) (by kernel_rfl) ?_ | (refine TV_cond_t ?_ ?_; · first | rfl | assumption) | (refine TV_cond_f ?_ ?_; · first | rfl | assumption))
      refine TS_callE (onT (k := 90) (ph := 0) hn hb.1 hb.2 (by decide)) ?_
      repeat (first | refine StepC.go ?_ | refine TD_one rfl ?_ | refine FiltT_nil ?_ | refine FiltT_drop rfl ?_)
      refine TS_callE (mul18T (onS_v (k := 88) (ph := 0) hn hj.1 hj.2 (by decide)) (onS_v (k := 90) (ph := 0) hn hb.1 hb.2 (by decide)) rfl) ?_
      repeat (first | refine StepC.go ?_ | refine TD_one rfl ?_ | refine FiltT_nil ?_)
      refine retT_1 (.inr rfl) ?_
      simp [tret, img2, hab, hab.symm]
  by_cases h2 : j = b
  · subst h2
    have d1 : (!decide (j = a)) = true := by simp; exact fun h => hab h.symm
    have d2 : decide (j = a) = false := by simp; exact fun h => hab h.symm
    have d3 : (if (!decide (j = a)) = true then (!decide (j = j)) else false) = false := by simp
    have d7 : (if decide (j = a) = true then true else false) = false := by simp; exact fun h => hab h.symm
    have d4 : (if (!decide (j = a)) = true then false else false) = false := by simp
    cases x
    · repeat (first | refine StepC.go ?_ | intro _ | (refine TV_cond_f ?_ ?_; · first | rfl | assumption))
      refine TS_callE (onT (k := 90) (ph := 0) hn hj.1 hj.2 (by decide)) ?_
      repeat (first | refine StepC.go ?_ | intro _ | (refine TS_on rfl ?_ ?_; · first | rfl | assumption) | refine TD_take rfl rfl ?_ | refine TD_load rfl rfl ?_ | refine TV_draw (id := 10) (plan := [.take 0, .take 1, .take 2, .take 3, .take 4, .take 5, .take 6, .take 7]) (by kernel_rfl) ?_ | (refine TV_cond_t ?_ ?_; · first | rfl | assumption) | (refine TV_cond_f ?_ ?_; · first | rfl | assumption))
      refine retT_1 (.inr rfl) ?_
      simp [tret, img2, hab, hab.symm]
    · repeat (first | refine StepC.go ?_ | intro _ | (refine TV_cond_t ?_ ?_; · first | rfl | assumption))
      refine TS_callE (onT (k := 88) (ph := 0) hn hj.1 hj.2 (by decide)) ?_
      repeat (first | refine StepC.go ?_ | intro _ | (refine TS_on rfl ?_ ?_; · first | rfl | assumption) | refine TD_take rfl rfl ?_ | refine TD_load rfl rfl ?_ | refine TD_one rfl ?_ | refine FiltT_nil ?_ | refine FiltT_keep rfl ?_ | refine TV_draw (id := 10) (plan := [.take 0, .take 1, .take 2, .take 3, .take 4, .take 5, .take 6, .take 7]) (by kernel_rfl) ?_ | refine TV_draw (id := 21) (plan := [.take 0, .take 1, .take 2, .one 3, .one 4, .one 5]) (by kernel_rfl) ?_ | (refine TV_cond_t ?_ ?_; · first | rfl | assumption) | (refine TV_cond_f ?_ ?_; · first | rfl | assumption))
      refine TS_callE (onT (k := 90) (ph := 0) hn ha.1 ha.2 (by decide)) ?_
      repeat (first | refine StepC.go ?_ | refine TD_one rfl ?_ | refine FiltT_nil ?_ | refine FiltT_drop rfl ?_)
      refine TS_callE (mul18T (onS_v (k := 88) (ph := 0) hn hj.1 hj.2 (by decide)) (onS_v (k := 90) (ph := 0) hn ha.1 ha.2 (by decide)) rfl) ?_
      repeat (first | refine StepC.go ?_ | refine TD_one rfl ?_ | refine FiltT_nil ?_)
      refine retT_1 (.inr rfl) ?_
      simp [tret, img2, hab, hab.symm]
  have d1 : (!decide (j = a)) = true := by simpa using h1
  have d2 : (if (!decide (j = a)) = true then (!decide (j = b)) else false) = true := by rw [d1]; simpa using h2
  cases x
  · repeat (first | refine StepC.go ?_ | intro _ | (refine TV_cond_f ?_ ?_; · first | rfl | assumption))
    refine TS_callE (onT (k := 90) (ph := 0) hn hj.1 hj.2 (by decide)) ?_
    repeat (first | refine StepC.go ?_ | intro _ | (refine TS_on rfl ?_ ?_; · first | rfl | assumption) | refine TD_take rfl rfl ?_ | refine TD_load rfl rfl ?_ | refine TV_draw (id := 10) (plan := [.take 0, .take 1, .take 2, .take 3, .take 4, .take 5, .take 6, .take 7]) (by kernel_rfl) ?_ | (refine TV_cond_t ?_ ?_; · first | rfl | assumption) | (refine TV_cond_f ?_ ?_; · first | rfl | assumption))
    refine retT_1 (.inr rfl) ?_
    simp [tret, img2, h1, h2]
  · repeat (first | refine StepC.go ?_ | intro _ | (refine TV_cond_t ?_ ?_; · first | rfl | assumption))
    refine TS_callE (onT (k := 88) (ph := 0) hn hj.1 hj.2 (by decide)) ?_
    repeat (first | refine StepC.go ?_ | intro _ | (refine TS_on rfl ?_ ?_; · first | rfl | assumption) | refine TD_take rfl rfl ?_ | refine TD_load rfl rfl ?_ | refine TV_draw (id := 10) (plan := [.take 0, .take 1, .take 2, .take 3, .take 4, .take 5, .take 6, .take 7]) (by kernel_rfl) ?_ | (refine TV_cond_t ?_ ?_; · first | rfl | assumption) | (refine TV_cond_f ?_ ?_; · first | rfl | assumption))
    refine retT_1 (.inr rfl) ?_
    simp [tret, img2, h1, h2]
set_option synthInstance.maxSize 4000 in
set_option synthInstance.maxHeartbeats 400000 in
set_option maxHeartbeats 2000000 in
theorem image_swap {n a b j : Int} (hn : n ≤ 64) (ha : 0 ≤ a ∧ a < n) (hb : 0 ≤ b ∧ b < n) (hab : a ≠ b) (hj : 0 ≤ j ∧ j < n) (x : Bool) : Fn Try.prog 34 [intT n, strT ⟨#[115, 119, 97, 112]⟩, .sl 1 [[intT a], [intT b]], intT j, boolT x] (fun r => r = pauT (img2 2 n a b j x)) := by
  refine Fn_of Try.func34 rfl (Nat.le_of_ble_eq_true rfl) (fun X => ?_)
  by_cases h1 : j = a
  · subst h1
    have d2 : (!decide (j = b)) = true := by simp; exact hab
    have d6 : (if (!false) = true then decide (j = b) else false) = false := by simp; exact hab
    cases x
    · repeat (first | refine StepC.go ?_ | intro _ | (refine TV_cond_f ?_ ?_; · first | rfl | assumption))
      refine TS_callE (onT (k := 90) (ph := 0) hn hj.1 hj.2 (by decide)) ?_
      repeat (first | refine StepC.go ?_ | intro _ | (refine TS_off rfl ?_ ?_; · first | rfl | assumption) | refine TD_take rfl rfl ?_ | refine TD_load rfl rfl ?_ | refine TV_draw (id := 10) (plan := [.take 0, .take 1, .take 2, .take 3, .take 4, .take 5, .take 6, .take 7]) (by kernel_rfl) ?_ | (refine TV_cond_t ?_ ?_; · first | rfl | assumption) | (refine TV_cond_f ?_ ?_; · first | rfl | assumption))
      refine TS_callE (onT (k := 90) (ph := 0) hn hb.1 hb.2 (by decide)) ?_
      repeat (refine StepC.go ?_)
      refine retT_1 (.inr rfl) ?_
      simp [tret, img2, hab, hab.symm]
    · repeat (first | refine StepC.go ?_ | intro _ | (refine TV_cond_t ?_ ?_; · first | rfl | assumption))
      refine TS_callE (onT (k := 88) (ph := 0) hn hj.1 hj.2 (by decide)) ?_
      repeat (first | refine StepC.go ?_ | intro _ | (refine TS_off rfl ?_ ?_; · first | rfl | assumption) | refine TD_take rfl rfl ?_ | refine TD_load rfl rfl ?_ | refine TV_draw (id := 10) (plan := [.take 0, .take 1, .take 2, .take 3, .take 4, .take 5, .take 6, .take 7]) (by kernel_rfl) ?_ | (refine TV_cond_t ?_ ?_; · first | rfl | assumption) | (refine TV_cond_f ?_ ?_; · first | rfl | assumption))
      refine TS_callE (onT (k := 88) (ph := 0) hn hb.1 hb.2 (by decide)) ?_
      repeat (refine StepC.go ?_)
      refine retT_1 (.inr rfl) ?_
      simp [tret, img2, hab, hab.symm]
  by_cases h2 : j = b
  · subst h2
    have d1 : (!decide (j = a)) = true := by simp; exact fun h => hab h.symm
    have d2 : decide (j = a) = false := by simp; exact fun h => hab h.symm
    have d3 : (if (!decide (j = a)) = true then (!decide (j = j)) else false) = false := by simp
    have d7 : (if decide (j = a) = true then true else false) = false := by simp; exact fun h => hab h.symm
    have d4 : (if (!decide (j = a)) = true then false else false) = false := by simp
    cases x
    · repeat (first | refine StepC.go ?_ | intro _ | (refine TV_cond_f ?_ ?_; · first | rfl | assumption))
      refine TS_callE (onT (k := 90) (ph := 0) hn hj.1 hj.2 (by decide)) ?_
      repeat (first | refine StepC.go ?_ | intro _ | (refine TS_on rfl ?_ ?_; · first | rfl | assumption) | refine TD_take rfl rfl ?_ | refine TD_load rfl rfl ?_ | refine TV_draw (id := 10) (plan := [.take 0, .take 1, .take 2, .take 3, .take 4, .take 5, .take 6, .take 7]) (by kernel_rfl) ?_ | (refine TV_cond_t ?_ ?_; · first | rfl | assumption) | (refine TV_cond_f ?_ ?_; · first | rfl | assumption))
      refine TS_callE (onT (k := 90) (ph := 0) hn ha.1 ha.2 (by decide)) ?_
      repeat (refine StepC.go ?_)
      refine retT_1 (.inr rfl) ?_
      simp [tret, img2, hab, hab.symm]
    · repeat (first | refine StepC.go ?_ | intro _ | (refine TV_cond_t ?_ ?_; · first | rfl | assumption))
      refine TS_callE (onT (k := 88) (ph := 0) hn hj.1 hj.2 (by decide)) ?_
      repeat (first | refine StepC.go ?_ | intro _ | (refine TS_on rfl ?_ ?_; · first | rfl | assumption) | refine TD_take rfl rfl ?_ | refine TD_load rfl rfl ?_ | refine TV_draw (id := 10) (plan := [.take 0, .take 1, .take 2, .take 3, .take 4, .take 5, .take 6, .take 7]) (by kernel_rfl) ?_ | (refine TV_cond_t ?_ ?_; · first | rfl | assumption) | (refine TV_cond_f ?_ ?_; · first | rfl | assumption))
      refine TS_callE (onT (k := 88) (ph := 0) hn ha.1 ha.2 (by decide)) ?_
      repeat (refine StepC.go ?_)
      refine retT_1 (.inr rfl) ?_
      simp [tret, img2, hab, hab.symm]
  have d1 : (!decide (j = a)) = true := by simpa using h1
  have d2 : (if (!decide (j = a)) = true then (!decide (j = b)) else false) = true := by rw [d1]; simpa using h2
  cases x
  · repeat (first | refine StepC.go ?_ | intro _ | (refine TV_cond_f ?_ ?_; · first | rfl | assumption))
    refine TS_callE (onT (k := 90) (ph := 0) hn hj.1 hj.2 (by decide)) ?_
    repeat (first | refine StepC.go ?_ | intro _ | (refine TS_on rfl ?_ ?_; · first | rfl | assumption) | refine TD_take rfl rfl ?_ | refine TD_load rfl rfl ?_ | refine TV_draw (id := 10) (plan := [.take 0, .take 1, .take 2, .take 3, .take 4, .take 5, .take 6, .take 7]) (by kernel_rfl) ?_ | (refine TV_cond_t ?_ ?_; · first | rfl | assumption) | (refine TV_cond_f ?_ ?_; · first | rfl | assumption))
    refine retT_1 (.inr rfl) ?_
    simp [tret, img2, h1, h2]
  · repeat (first | refine StepC.go ?_ | intro _ | (refine TV_cond_t ?_ ?_; · first | rfl | assumption))
    refine TS_callE (onT (k := 88) (ph := 0) hn hj.1 hj.2 (by decide)) ?_
    repeat (first | refine StepC.go ?_ | intro _ | (refine TS_on rfl ?_ ?_; · first | rfl | assumption) | refine TD_take rfl rfl ?_ | refine TD_load rfl rfl ?_ | refine TV_draw (id := 10) (plan := [.take 0, .take 1, .take 2, .take 3, .take 4, .take 5, .take 6, .take 7]) (by kernel_rfl) ?_ | (refine TV_cond_t ?_ ?_; · first | rfl | assumption) | (refine TV_cond_f ?_ ?_; · first | rfl | assumption))
    refine retT_1 (.inr rfl) ?_
    simp [tret, img2, h1, h2]
instance : CallIs Try.prog 34 := .of Try.func34 rfl rfl
end Go.Ideal

-- Vi
set_option linter.unusedSimpArgs false
set_option linter.unusedVariables false
namespace Go.Ideal
open Go Go.Proofs Go.RowKit
/-! ### The reference's turn -/
instance : CallIs Try.prog 32 := .of Try.func32 rfl rfl
def incP (o : PauD) : PauD := ⟨o.n, o.x, o.z, (o.ph + 1) % 4⟩
def turnStep (img : Int → Bool → PauD) (p o : PauD) (j : Nat) : PauD :=
  let o1 := if btS p.x j && btS p.z j then incP o else o
  let o2 := if btS p.x j then mulP o1 (img j true) else o1
  if btS p.z j then mulP o2 (img j false) else o2
def turnK (img : Int → Bool → PauD) (p : PauD) : Nat → PauD
  | 0 => ⟨p.n, 0, 0, p.ph⟩
  | j + 1 => turnStep img p (turnK img p j) j
def ImgV (img : Int → Bool → PauD) (n : Int) : Prop := ∀ j x, 0 ≤ j → j < n → PauV (img j x) ∧ (img j x).n = n
theorem incP_v {o : PauD} (h : PauV o) : PauV (incP o) := by
  obtain ⟨a, b, c, d, e⟩ := pauV_iff.1 h
  exact pauV_iff.2 ⟨a, b, by unfold incP; simp only; omega, by unfold incP; simp only; omega, e⟩
theorem turnStep_v {img : Int → Bool → PauD} {p o : PauD} {j : Nat} (hi : ImgV img p.n) (h : PauV o) (hn : o.n = p.n) (hj : (j : Int) < p.n) : PauV (turnStep img p o j) ∧ (turnStep img p o j).n = p.n := by
  obtain ⟨i1, i2⟩ := hi j true (by omega) hj
  obtain ⟨i3, i4⟩ := hi j false (by omega) hj
  unfold turnStep
  simp only
  have h1 : PauV (if btS p.x j && btS p.z j then incP o else o) ∧ (if btS p.x j && btS p.z j then incP o else o).n = p.n := by
    split
    · exact ⟨incP_v h, hn⟩
    · exact ⟨h, hn⟩
  generalize (if btS p.x j && btS p.z j then incP o else o) = o1 at h1 ⊢
  have h2 : PauV (if btS p.x j then mulP o1 (img j true) else o1) ∧ (if btS p.x j then mulP o1 (img j true) else o1).n = p.n := by
    split
    · exact ⟨(h1.1.mul i1 (by rw [h1.2, i2])).1, h1.2⟩
    · exact h1
  generalize (if btS p.x j then mulP o1 (img j true) else o1) = o2 at h2 ⊢
  split
  · exact ⟨(h2.1.mul i3 (by rw [h2.2, i4])).1, h2.2⟩
  · exact h2
theorem turnK_v {img : Int → Bool → PauD} {p : PauD} (hp : PauV p) (hi : ImgV img p.n) : ∀ j : Nat, (j : Int) ≤ p.n → PauV (turnK img p j) ∧ (turnK img p j).n = p.n := by
  obtain ⟨a, b, c, d, e⟩ := pauV_iff.1 hp
  intro j
  induction j with
  | zero => intro _; exact ⟨pauV_iff.2 ⟨a, b, c, d, fun i _ => ⟨Nat.zero_testBit i, Nat.zero_testBit i⟩⟩, rfl⟩
  | succ j ih =>
    intro hj
    obtain ⟨h1, h2⟩ := ih (by omega)
    exact turnStep_v hi h1 h2 (by omega)
set_option synthInstance.maxSize 4000 in
set_option synthInstance.maxHeartbeats 400000 in
set_option maxHeartbeats 4000000 in
theorem turnPrimT {nm : ByteArray} {rows : List (List Tr)} {img : Int → Bool → PauD} {p : PauD} (hp : PauV p) (hparts : Fn Try.prog 32 [strT nm] (fun r => r = .tup [.sl 1 [], .sl 1 []]))
    (himg : ∀ j x, 0 ≤ j → j < p.n → Fn Try.prog 34 [intT p.n, strT nm, .sl 1 rows, intT j, boolT x] (fun r => r = pauT (img j x))) (hv : ImgV img p.n) :
    Fn Try.prog 18 [pauT p, strT nm, .sl 1 rows] (fun r => r = pauT (turnK img p p.n.toNat)) := by
  refine Fn_of Try.func18 rfl (Nat.le_of_ble_eq_true rfl) (fun X => ?_)
  obtain ⟨a, b, c, d, e⟩ := pauV_iff.1 hp
  have : Lt64 p.x := ⟨hp.1.1⟩
  have : Lt64 p.z := ⟨hp.1.2⟩
  repeat (first | refine StepC.go ?_ | intro _)
  rename_i pp pr
  refine TS_call hparts ?_
  rintro _ rfl
  repeat (first | refine StepC.go ?_ | intro _ | (refine TV_cond_f ?_ ?_; · first | rfl | assumption))
  rename_i po
  refine TV_loop (fun d σ B => ∃ (j : Nat), d = p.n.toNat - j ∧ j ≤ p.n.toNat ∧ TGet σ 12 (intT j) ∧ TGet σ 1 (strT nm) ∧ TGet σ 2 (.sl 1 rows) ∧ TGet σ 3 (ptrT pp) ∧ TGet σ 6 (ptrT pr) ∧ TGet σ 11 (ptrT po) ∧
      SubP B [(po, .cells (pauCs (turnK img p j)) 29 true), (pp, .cells (pauCs p) 29 true), (pr, .cells [intT 0, u64T 0, u64T 0, intT 0] 29 true)]) p.n.toNat
    ⟨0, by omega, by omega, tget_as rfl, inferInstance, inferInstance, inferInstance, inferInstance, inferInstance, inferInstanceAs (SubP _ [(po, .cells [intT p.n, u64T 0, u64T 0, intT p.ph] 29 true), _, _])⟩ ?_
  rintro d σ B ⟨j, rfl, hj, g12, g1, g2, g3, g6, g11, hB⟩
  refine TV_keep _ (p := hB) ?_
  repeat (refine StepC.go ?_)
  refine TV_cond ?_ ?_ <;> intro hc
  · have hjn : (j : Int) < p.n := of_decide_eq_true hc
    have hj64 : Lt64 j := ⟨by omega⟩
    obtain ⟨hov, hon⟩ := turnK_v hp hv j (by omega)
    obtain ⟨oa, ob, oc, od, oe⟩ := pauV_iff.1 hov
    obtain ⟨i1, i2⟩ := hv j true (by omega) hjn
    obtain ⟨i3, i4⟩ := hv j false (by omega) hjn
    obtain ⟨o, ho⟩ : ∃ o, o = turnK img p j := ⟨_, rfl⟩
    have hst : turnK img p (j + 1) = turnStep img p o j := by rw [ho]; rfl
    rw [← ho] at hov hon oc od ⊢
    obtain ⟨bx, hbx⟩ : ∃ b, b = btS p.x j := ⟨_, rfl⟩
    obtain ⟨bz, hbz⟩ : ∃ b, b = btS p.z j := ⟨_, rfl⟩
    have ex : decide (((p.x >>> j &&& 1 : Nat) : Int) = 1) = bx := by rw [hbx]; rfl
    have ez : decide (((p.z >>> j &&& 1 : Nat) : Int) = 1) = bz := by rw [hbz]; rfl
    have ec : (if decide (((p.x >>> j &&& 1 : Nat) : Int) = 1) = true then decide (((p.z >>> j &&& 1 : Nat) : Int) = 1) else false) = (bx && bz) := by rw [ex, ez]; cases bx <;> cases bz <;> rfl
    cases bx <;> cases bz
    · repeat (first | refine StepC.go ?_ | (refine TS_off rfl ?_ ?_; · first | rfl | assumption) | (refine TS_puw (Pu.pick_f ?_) ?_; · first | rfl | assumption) | (refine TS_puw (Pu.addi ?_) ?_; · omega) | refine TD_take rfl rfl ?_ | refine TD_load rfl rfl ?_ | refine TV_draw (id := 21) (plan := [.take 0, .take 1, .take 2, .take 3, .take 4, .take 5, .take 6, .take 7, .take 8, .take 9, .take 10, .take 11, .take 12, .take 13, .take 14, .take 15]) (by kernel_rfl) ?_ | (refine TV_cond_f ?_ ?_; · first | rfl | assumption))
      refine ⟨_, ?_, j + 1, rfl, by omega, tget_as rfl, inferInstance, inferInstance, inferInstance, inferInstance, inferInstance, ?_⟩
      · omega
      · rw [hst]; simp only [turnStep, ← hbx, ← hbz]; exact inferInstanceAs (SubP _ [(po, .cells (pauCs o) 29 true), _, _])
    · repeat (first | refine StepC.go ?_ | (refine TS_off rfl ?_ ?_; · first | rfl | assumption) | (refine TS_puw (Pu.pick_f ?_) ?_; · first | rfl | assumption) | refine TD_take rfl rfl ?_ | refine TD_load rfl rfl ?_ | refine TD_one rfl ?_ | refine FiltT_nil ?_ | refine FiltT_drop rfl ?_ | refine FiltT_keep rfl ?_ | refine TV_draw (id := 21) (plan := [.take 0, .take 1, .take 2, .take 3, .take 4, .take 5, .take 6, .take 7, .take 8, .take 9, .take 10, .take 11, .take 12, .take 13, .take 14, .take 15]) (by kernel_rfl) ?_ | refine TV_draw (id := 27) (plan := [.take 0, .take 1, .take 2, .take 3, .take 4, .take 5, .one 6, .one 7, .one 8]) (by kernel_rfl) ?_ | (refine TV_cond_t ?_ ?_; · first | rfl | assumption) | (refine TV_cond_f ?_ ?_; · first | rfl | assumption))
      refine TS_callE (himg j false (by omega) hjn) ?_
      repeat (first | refine StepC.go ?_ | refine TD_one rfl ?_ | refine FiltT_nil ?_ | refine FiltT_drop rfl ?_)
      refine TS_callE (mul18T hov i3 (by rw [hon, i4])) ?_
      repeat (first | refine StepC.go ?_ | (refine TS_puw (Pu.addi ?_) ?_; · omega) | refine TD_one rfl ?_ | refine FiltT_nil ?_)
      refine ⟨_, ?_, j + 1, rfl, by omega, tget_as rfl, inferInstance, inferInstance, inferInstance, inferInstance, inferInstance, ?_⟩
      · omega
      · rw [hst]; simp only [turnStep, ← hbx, ← hbz]; exact inferInstanceAs (SubP _ [(po, .cells (pauCs (mulP o (img j false))) 29 true), _, _])
    · repeat (first | refine StepC.go ?_ | (refine TS_on rfl ?_ ?_; · first | rfl | assumption) | refine TD_take rfl rfl ?_ | refine TD_load rfl rfl ?_ | refine TD_one rfl ?_ | refine FiltT_nil ?_ | refine FiltT_drop rfl ?_ | refine FiltT_keep rfl ?_ | refine TV_draw (id := 21) (plan := [.take 0, .take 1, .take 2, .take 3, .take 4, .take 5, .take 6, .take 7, .take 8, .take 9, .take 10, .take 11, .take 12, .take 13, .take 14, .take 15]) (by kernel_rfl) ?_ | refine TV_draw (id := 25) (plan := [.take 0, .take 1, .take 2, .take 3, .take 4, .take 5, .one 6, .one 7, .one 8]) (by kernel_rfl) ?_ | (refine TV_cond_t ?_ ?_; · first | rfl | assumption) | (refine TV_cond_f ?_ ?_; · first | rfl | assumption))
      refine TS_callE (himg j true (by omega) hjn) ?_
      repeat (first | refine StepC.go ?_ | refine TD_one rfl ?_ | refine FiltT_nil ?_ | refine FiltT_drop rfl ?_)
      refine TS_callE (mul18T hov i1 (by rw [hon, i2])) ?_
      repeat (first | refine StepC.go ?_ | (refine TS_puw (Pu.addi ?_) ?_; · omega) | refine TD_one rfl ?_ | refine FiltT_nil ?_ | (refine TV_cond_f ?_ ?_; · first | rfl | assumption))
      refine ⟨_, ?_, j + 1, rfl, by omega, tget_as rfl, inferInstance, inferInstance, inferInstance, inferInstance, inferInstance, ?_⟩
      · omega
      · rw [hst]; simp only [turnStep, ← hbx, ← hbz]; exact inferInstanceAs (SubP _ [(po, .cells (pauCs (mulP o (img j true))) 29 true), _, _])
    · repeat (first | refine StepC.go ?_ | (refine TS_on rfl ?_ ?_; · first | rfl | assumption) | (refine TS_puw (Pu.addi ?_) ?_; · omega) | refine TD_take rfl rfl ?_ | refine TD_load rfl rfl ?_ | refine TV_draw (id := 21) (plan := [.take 0, .take 1, .take 2, .take 3, .take 4, .take 5, .take 6, .take 7, .take 8, .take 9, .take 10, .take 11, .take 12, .take 13, .take 14, .take 15]) (by kernel_rfl) ?_ | (refine TV_cond_t ?_ ?_; · first | rfl | assumption))
      refine TS_puw (Pu.divw (by decide) rfl) ?_
      rw [Int.tmod_eq_emod_of_nonneg (by omega)]
      repeat (first | refine StepC.go ?_ | refine TD_take rfl rfl ?_ | refine TD_load rfl rfl ?_ | refine TD_one rfl ?_ | refine FiltT_nil ?_ | refine FiltT_drop rfl ?_ | refine FiltT_keep rfl ?_ | refine TV_draw (id := 25) (plan := [.take 0, .take 1, .take 2, .take 3, .take 4, .take 5, .one 6, .one 7, .one 8]) (by kernel_rfl) ?_ | (refine TV_cond_t ?_ ?_; · first | rfl | assumption))
      refine TS_callE (himg j true (by omega) hjn) ?_
      repeat (first | refine StepC.go ?_ | refine TD_one rfl ?_ | refine FiltT_nil ?_ | refine FiltT_drop rfl ?_)
      refine TS_callE (mul18T (p := incP o) (incP_v hov) i1 (by rw [i2]; exact hon)) ?_
      repeat (first | refine StepC.go ?_ | refine TD_take rfl rfl ?_ | refine TD_load rfl rfl ?_ | refine TD_one rfl ?_ | refine FiltT_nil ?_ | refine FiltT_drop rfl ?_ | refine FiltT_keep rfl ?_ | refine TV_draw (id := 27) (plan := [.take 0, .take 1, .take 2, .take 3, .take 4, .take 5, .one 6, .one 7, .one 8]) (by kernel_rfl) ?_ | (refine TV_cond_t ?_ ?_; · first | rfl | assumption))
      refine TS_callE (himg j false (by omega) hjn) ?_
      repeat (first | refine StepC.go ?_ | refine TD_one rfl ?_ | refine FiltT_nil ?_ | refine FiltT_drop rfl ?_)
      refine TS_callE (mul18T (p := mulP (incP o) (img j true)) (q := img j false) ((incP_v hov).mul i1 (by rw [i2]; exact hon)).1 i3 (by rw [i4]; exact hon)) ?_
      repeat (first | refine StepC.go ?_ | (refine TS_puw (Pu.addi ?_) ?_; · omega) | refine TD_one rfl ?_ | refine FiltT_nil ?_)
      refine ⟨_, ?_, j + 1, rfl, by omega, tget_as rfl, inferInstance, inferInstance, inferInstance, inferInstance, inferInstance, ?_⟩
      · omega
      · rw [hst]; simp only [turnStep, ← hbx, ← hbz]; exact inferInstanceAs (SubP _ [(po, .cells (pauCs (mulP (mulP (incP o) (img j true)) (img j false))) 29 true), _, _])
  · have hjn : j = p.n.toNat := by have := of_decide_eq_false hc; omega
    subst hjn
    repeat (refine StepC.go ?_)
    exact retT_1 (.inr rfl) rfl
instance : CallIs Try.prog 18 := .of Try.func18 rfl rfl
end Go.Ideal

-- Vj
set_option linter.unusedSimpArgs false
set_option linter.unusedVariables false
namespace Go.Ideal
open Go Go.Proofs Go.RowKit
/-! ### The plain law: the reference's turn is the program's -/
structure Loc where
  ph : Int
  xa : Bool
  za : Bool
  xb : Bool
  zb : Bool
/-- o is p's letters below j, but for a and b, where it is as L tells -/
structure View (p : PauD) (a b : Nat) (o : PauD) (j : Nat) (L : Loc) : Prop where
  n : o.n = p.n
  ph : o.ph = (p.ph + L.ph) % 4
  x : ∀ i, o.x.testBit i = if i = a then L.xa else if i = b then L.xb else (decide (i < j) && p.x.testBit i)
  z : ∀ i, o.z.testBit i = if i = a then L.za else if i = b then L.zb else (decide (i < j) && p.z.testBit i)
theorem View.same {p : PauD} {a b : Nat} {o o' : PauD} {j : Nat} {L L' : Loc} (v : View p a b o j L) (v' : View p a b o' j L') (h : L.ph % 4 = L'.ph % 4 ∧ L.xa = L'.xa ∧ L.za = L'.za ∧ L.xb = L'.xb ∧ L.zb = L'.zb) : o = o' := by
  obtain ⟨h1, h2, h3, h4, h5⟩ := h
  have e1 : o.x = o'.x := Nat.eq_of_testBit_eq fun i => by rw [v.x, v'.x, h2, h4]
  have e2 : o.z = o'.z := Nat.eq_of_testBit_eq fun i => by rw [v.z, v'.z, h3, h5]
  have e3 : o.ph = o'.ph := by rw [v.ph, v'.ph]; omega
  have e4 : o.n = o'.n := by rw [v.n, v'.n]
  cases o; cases o'
  simp only at e1 e2 e3 e4
  simp only [e1, e2, e3, e4]
theorem atS_bits (p : PauD) (i : Nat) : atS p (i : Int) = atL (p.x.testBit i) (p.z.testBit i) := by
  unfold atS; rw [btS_bit, btS_bit, Int.toNat_natCast]
theorem prodL_zero (x z : Bool) : (prodL (atL x z) (atL false false)).2 = 0 := by cases x <;> cases z <;> decide
/-- the letters of q are at c and d alone -/
def Supp (q : PauD) (c d : Nat) : Prop := ∀ i, i ≠ c → i ≠ d → q.x.testBit i = false ∧ q.z.testBit i = false
theorem sumPh_supp {p q : PauD} {c d : Nat} (hcd : c ≠ d) (hs : Supp q c d) : ∀ j, sumPh p q j = (if c < j then prPh p q c else 0) + (if d < j then prPh p q d else 0) := by
  intro j
  induction j with
  | zero => simp [sumPh]
  | succ j ih =>
    rw [sumPh, ih]
    by_cases h1 : j = c
    · subst h1
      have e1 : ¬ j < j := by omega
      have e2 : j < j + 1 := by omega
      by_cases h2 : d < j
      · have h3 : d < j + 1 := by omega
        simp [e1, e2, h2, h3]; omega
      · have h3 : ¬ d < j + 1 := by omega
        simp [e1, e2, h2, h3]
    · by_cases h2 : j = d
      · subst h2
        have e1 : ¬ j < j := by omega
        have e2 : j < j + 1 := by omega
        by_cases h3 : c < j
        · have h4 : c < j + 1 := by omega
          simp [e1, e2, h3, h4]
        · have h4 : ¬ c < j + 1 := by omega
          simp [e1, e2, h3, h4]
      · obtain ⟨b1, b2⟩ := hs j h1 h2
        have e : prPh p q j = 0 := by unfold prPh; rw [atS_bits, atS_bits, b1, b2]; exact prodL_zero _ _
        have e1 : c < j + 1 ↔ c < j := by omega
        have e2 : d < j + 1 ↔ d < j := by omega
        simp only [e, Int.add_zero, e1, e2]
theorem mph_supp {p q : PauD} (hp : PauV p) (hq : PauV q) (hn : p.n = q.n) {c d : Nat} (hcd : c ≠ d) (hs : Supp q c d) : mphS p q = (p.ph + q.ph + (prodL (atL (p.x.testBit c) (p.z.testBit c)) (atL (q.x.testBit c) (q.z.testBit c))).2 + (prodL (atL (p.x.testBit d) (p.z.testBit d)) (atL (q.x.testBit d) (q.z.testBit d))).2) % 4 := by
  rw [← ref_phase hp.1 hp.2 hq.1 hq.2 hn, sumPh_supp hcd hs]
  have out : ∀ i, ¬ i < p.n.toNat → (prodL (atL (p.x.testBit i) (p.z.testBit i)) (atL (q.x.testBit i) (q.z.testBit i))).2 = 0 := fun i hi => by
    obtain ⟨b1, b2⟩ := pau_bits hq.1 hq.2 i (by rw [← hn]; omega)
    rw [b1, b2]; exact prodL_zero _ _
  have e : ∀ i, (if i < p.n.toNat then prPh p q i else 0) = (prodL (atL (p.x.testBit i) (p.z.testBit i)) (atL (q.x.testBit i) (q.z.testBit i))).2 := fun i => by
    split
    · unfold prPh; rw [atS_bits, atS_bits]
    · rename_i h; rw [out i h]
  rw [e, e, Int.add_assoc (p.ph + q.ph)]
def mulLoc (L : Loc) (I : Loc) : Loc := ⟨L.ph + I.ph + (prodL (atL L.xa L.za) (atL I.xa I.za)).2 + (prodL (atL L.xb L.zb) (atL I.xb I.zb)).2, L.xa ^^ I.xa, L.za ^^ I.za, L.xb ^^ I.xb, L.zb ^^ I.zb⟩
/-- q is letters at a and b alone, as I tells -/
structure IsLoc (q : PauD) (a b : Nat) (I : Loc) : Prop where
  ph : q.ph = I.ph
  x : ∀ i, q.x.testBit i = if i = a then I.xa else if i = b then I.xb else false
  z : ∀ i, q.z.testBit i = if i = a then I.za else if i = b then I.zb else false
theorem IsLoc.supp {q : PauD} {a b : Nat} {I : Loc} (h : IsLoc q a b I) : Supp q a b := fun i h1 h2 => by rw [h.x, h.z, if_neg h1, if_neg h1, if_neg h2, if_neg h2]; exact ⟨rfl, rfl⟩
theorem View.mul {p : PauD} {a b : Nat} {o q : PauD} {j : Nat} {L I : Loc} (v : View p a b o j L) (hab : a ≠ b) (h : IsLoc q a b I) (ho : PauV o) (hq : PauV q) (hn : o.n = q.n) : View p a b (mulP o q) j (mulLoc L I) := by
  have hm := mph_supp ho hq hn hab h.supp
  rw [v.x a, v.z a, h.x a, h.z a, v.x b, v.z b, h.x b, h.z b] at hm
  simp only [if_true, if_neg (Ne.symm hab)] at hm
  refine ⟨v.n, ?_, fun i => ?_, fun i => ?_⟩
  · show mphS o q = _
    rw [hm, v.ph, h.ph]
    simp only [mulLoc]
    omega
  · show (o.x ^^^ q.x).testBit i = _
    rw [Nat.testBit_xor, v.x, h.x]
    simp only [mulLoc]
    split
    · rfl
    · split
      · rfl
      · rw [Bool.xor_false]
  · show (o.z ^^^ q.z).testBit i = _
    rw [Nat.testBit_xor, v.z, h.z]
    simp only [mulLoc]
    split
    · rfl
    · split
      · rfl
      · rw [Bool.xor_false]
theorem View.inc {p : PauD} {a b : Nat} {o : PauD} {j : Nat} {L : Loc} (v : View p a b o j L) : View p a b (incP o) j ⟨L.ph + 1, L.xa, L.za, L.xb, L.zb⟩ :=
  ⟨v.n, by show (o.ph + 1) % 4 = (p.ph + (L.ph + 1)) % 4; rw [v.ph]; omega, v.x, v.z⟩
def incLoc (L : Loc) : Loc := ⟨L.ph + 1, L.xa, L.za, L.xb, L.zb⟩
/-- a step at a or b -/
def stepLoc (bx bz : Bool) (IX IZ : Loc) (L : Loc) : Loc :=
  let L1 := if bx && bz then incLoc L else L
  let L2 := if bx then mulLoc L1 IX else L1
  if bz then mulLoc L2 IZ else L2
theorem View.more {p : PauD} {a b : Nat} {o : PauD} {j : Nat} {L : Loc} (v : View p a b o j L) (h : j = a ∨ j = b) : View p a b o (j + 1) L := by
  have e : ∀ i, i ≠ a → i ≠ b → decide (i < j + 1) = decide (i < j) := fun i h1 h2 => decide_eq_decide.2 (by rcases h with rfl | rfl <;> omega)
  refine ⟨v.n, v.ph, fun i => ?_, fun i => ?_⟩
  · rw [v.x]
    by_cases h1 : i = a
    · rw [if_pos h1, if_pos h1]
    · by_cases h2 : i = b
      · rw [if_neg h1, if_neg h1, if_pos h2, if_pos h2]
      · rw [if_neg h1, if_neg h1, if_neg h2, if_neg h2, e i h1 h2]
  · rw [v.z]
    by_cases h1 : i = a
    · rw [if_pos h1, if_pos h1]
    · by_cases h2 : i = b
      · rw [if_neg h1, if_neg h1, if_pos h2, if_pos h2]
      · rw [if_neg h1, if_neg h1, if_neg h2, if_neg h2, e i h1 h2]
theorem View.at {p : PauD} {a b : Nat} {o : PauD} {j : Nat} {L IX IZ : Loc} {img : Int → Bool → PauD} (v : View p a b o j L) (hab : a ≠ b) (hj : j = a ∨ j = b) (hjn : (j : Int) < p.n) (hi : ImgV img p.n) (ho : PauV o)
    (h1 : IsLoc (img j true) a b IX) (h2 : IsLoc (img j false) a b IZ) : View p a b (turnStep img p o j) (j + 1) (stepLoc (p.x.testBit j) (p.z.testBit j) IX IZ L) := by
  obtain ⟨i1, i2⟩ := hi j true (by omega) hjn
  obtain ⟨i3, i4⟩ := hi j false (by omega) hjn
  refine View.more ?_ hj
  unfold turnStep stepLoc
  rw [btS_bit, btS_bit, Int.toNat_natCast]
  simp only
  have g1 : View p a b (if p.x.testBit j && p.z.testBit j then incP o else o) j (if p.x.testBit j && p.z.testBit j then incLoc L else L) ∧ PauV (if p.x.testBit j && p.z.testBit j then incP o else o) := by
    split
    · exact ⟨v.inc, incP_v ho⟩
    · exact ⟨v, ho⟩
  generalize (if p.x.testBit j && p.z.testBit j then incP o else o) = o1 at g1 ⊢
  generalize (if p.x.testBit j && p.z.testBit j then incLoc L else L) = L1 at g1 ⊢
  obtain ⟨v1, w1⟩ := g1
  have g2 : View p a b (if p.x.testBit j then mulP o1 (img j true) else o1) j (if p.x.testBit j then mulLoc L1 IX else L1) ∧ PauV (if p.x.testBit j then mulP o1 (img j true) else o1) := by
    split
    · exact ⟨v1.mul hab h1 w1 i1 (by rw [v1.n, i2]), (w1.mul i1 (by rw [v1.n, i2])).1⟩
    · exact ⟨v1, w1⟩
  generalize (if p.x.testBit j then mulP o1 (img j true) else o1) = o2 at g2 ⊢
  generalize (if p.x.testBit j then mulLoc L1 IX else L1) = L2 at g2 ⊢
  obtain ⟨v2, w2⟩ := g2
  split
  · exact v2.mul hab h2 w2 i3 (by rw [v2.n, i4])
  · exact v2
theorem own_mph {o : PauD} {n : Int} {j k : Nat} (ho : PauV o) (hn : o.n = n) (hj : (j : Int) < n) (h64 : n ≤ 64) (hk : k = 88 ∨ k = 90) : mphS o (onS n j k 0) = (o.ph + (prodL (atL (o.x.testBit j) (o.z.testBit j)) (atL (decide (k = 88)) (decide (k = 90)))).2) % 4 := by
  have hv : PauV (onS n j k 0) := onS_v h64 (by omega) hj (by decide)
  have b1 : ∀ i, (bitN (j : Int)).testBit i = decide (i = j) := bitN_bit (by omega)
  have hx : ∀ i, (onS n j k 0).x.testBit i = (decide (k = 88) && decide (i = j)) := fun i => by
    unfold onS; rcases hk with rfl | rfl
    · simp [b1]
    · simp
  have hz : ∀ i, (onS n j k 0).z.testBit i = (decide (k = 90) && decide (i = j)) := fun i => by
    unfold onS; rcases hk with rfl | rfl
    · simp
    · simp [b1]
  have hs : Supp (onS n j k 0) j 64 := fun i h1 _ => by rw [hx, hz, decide_eq_false h1]; simp
  rw [mph_supp ho hv hn (by omega) hs, hx j, hz j, hx 64, hz 64]
  have e1 : decide (64 = j) = false := decide_eq_false (by omega)
  have e2 : decide (j = j) = true := by simp
  rw [e1, e2, Bool.and_true, Bool.and_true, Bool.and_false, Bool.and_false, prodL_zero]
  show (o.ph + 0 + _ + 0) % 4 = _
  rw [Int.add_zero, Int.add_zero]
/-- a step elsewhere: the letter itself -/
theorem View.own {p : PauD} {a b : Nat} {o : PauD} {j : Nat} {L : Loc} {img : Int → Bool → PauD} (v : View p a b o j L) (hja : j ≠ a) (hjb : j ≠ b) (hjn : (j : Int) < p.n) (hn64 : p.n ≤ 64) (ho : PauV o)
    (h1 : img j true = onS p.n j 88 0) (h2 : img j false = onS p.n j 90 0) : View p a b (turnStep img p o j) (j + 1) L := by
  have hj64 : j < 64 := by omega
  have ox : o.x.testBit j = false := by rw [v.x, if_neg hja, if_neg hjb, decide_eq_false (Nat.lt_irrefl j)]; rfl
  have oz : o.z.testBit j = false := by rw [v.z, if_neg hja, if_neg hjb, decide_eq_false (Nat.lt_irrefl j)]; rfl
  have hbit : ∀ i, (bitN (j : Int)).testBit i = decide (i = j) := bitN_bit hj64
  obtain ⟨_, _, pc, pd, _⟩ := pauV_iff.1 ho
  have key : ∀ o' : PauD, o'.n = o.n → o'.ph = o.ph → (∀ i, o'.x.testBit i = (o.x.testBit i || (decide (i = j) && p.x.testBit j))) → (∀ i, o'.z.testBit i = (o.z.testBit i || (decide (i = j) && p.z.testBit j))) → View p a b o' (j + 1) L := by
    intro o' e1 e2 e3 e4
    have split : ∀ (i : Nat) (w : Bool) (P : Nat → Bool), i ≠ a → i ≠ b → ((decide (i < j) && P i) || (decide (i = j) && P j)) = (decide (i < j + 1) && P i) := fun i w P _ _ => by
      by_cases h : i = j
      · subst h; simp
      · have : decide (i < j + 1) = decide (i < j) := decide_eq_decide.2 (by omega)
        rw [this, decide_eq_false h]; simp
    refine ⟨by rw [e1, v.n], by rw [e2, v.ph], fun i => ?_, fun i => ?_⟩
    · rw [e3, v.x]
      by_cases c1 : i = a
      · rw [if_pos c1, if_pos c1, decide_eq_false (by omega)]; simp
      · by_cases c2 : i = b
        · rw [if_neg c1, if_neg c1, if_pos c2, if_pos c2, decide_eq_false (by omega)]; simp
        · rw [if_neg c1, if_neg c1, if_neg c2, if_neg c2]; exact split i true (fun i => p.x.testBit i) c1 c2
    · rw [e4, v.z]
      by_cases c1 : i = a
      · rw [if_pos c1, if_pos c1, decide_eq_false (by omega)]; simp
      · by_cases c2 : i = b
        · rw [if_neg c1, if_neg c1, if_pos c2, if_pos c2, decide_eq_false (by omega)]; simp
        · rw [if_neg c1, if_neg c1, if_neg c2, if_neg c2]; exact split i true (fun i => p.z.testBit i) c1 c2
  have hxb : ∀ i, ((o.x ^^^ bitN (j : Int)).testBit i) = (o.x.testBit i || decide (i = j)) := fun i => by
    rw [Nat.testBit_xor, hbit]
    by_cases h : i = j
    · subst h; rw [ox]; simp
    · rw [decide_eq_false h]; simp
  have hzb : ∀ i, ((o.z ^^^ bitN (j : Int)).testBit i) = (o.z.testBit i || decide (i = j)) := fun i => by
    rw [Nat.testBit_xor, hbit]
    by_cases h : i = j
    · subst h; rw [oz]; simp
    · rw [decide_eq_false h]; simp
  have hvX : PauV (onS p.n j 88 0) := onS_v hn64 (by omega) hjn (by decide)
  have hvZ : PauV (onS p.n j 90 0) := onS_v hn64 (by omega) hjn (by decide)
  unfold turnStep
  rw [btS_bit, btS_bit, Int.toNat_natCast, h1, h2]
  simp only
  cases hbx : p.x.testBit j <;> cases hbz : p.z.testBit j
  · exact key o rfl rfl (fun i => by rw [hbx]; simp) (fun i => by rw [hbz]; simp)
  · refine key (mulP o (onS p.n j 90 0)) rfl ?_ (fun i => ?_) (fun i => ?_)
    · show mphS o _ = _
      rw [own_mph ho v.n hjn hn64 (.inr rfl), ox, oz]
      show (o.ph + 0) % 4 = o.ph
      omega
    · show (o.x ^^^ 0).testBit i = _
      rw [Nat.xor_zero, hbx]; simp
    · show (o.z ^^^ bitN (j : Int)).testBit i = _
      rw [hzb, hbz]; simp
  · refine key (mulP o (onS p.n j 88 0)) rfl ?_ (fun i => ?_) (fun i => ?_)
    · show mphS o _ = _
      rw [own_mph ho v.n hjn hn64 (.inl rfl), ox, oz]
      show (o.ph + 0) % 4 = o.ph
      omega
    · show (o.x ^^^ bitN (j : Int)).testBit i = _
      rw [hxb, hbx]; simp
    · show (o.z ^^^ 0).testBit i = _
      rw [Nat.xor_zero, hbz]; simp
  · have hv1 : PauV (mulP (incP o) (onS p.n j 88 0)) := ((incP_v ho).mul hvX v.n).1
    have hp1 : (mulP (incP o) (onS p.n j 88 0)).ph = (o.ph + 1) % 4 := by
      show mphS (incP o) _ = _
      rw [own_mph (incP_v ho) v.n hjn hn64 (.inl rfl)]
      show ((o.ph + 1) % 4 + (prodL (atL (o.x.testBit j) (o.z.testBit j)) _).2) % 4 = _
      rw [ox, oz]
      show ((o.ph + 1) % 4 + 0) % 4 = _
      omega
    refine key (mulP (mulP (incP o) (onS p.n j 88 0)) (onS p.n j 90 0)) rfl ?_ (fun i => ?_) (fun i => ?_)
    · show mphS (mulP (incP o) (onS p.n j 88 0)) _ = _
      rw [own_mph hv1 v.n hjn hn64 (.inr rfl), hp1]
      have e1 : (mulP (incP o) (onS p.n j 88 0)).x.testBit j = true := by
        show (o.x ^^^ bitN (j : Int)).testBit j = true
        rw [hxb]; simp
      have e2 : (mulP (incP o) (onS p.n j 88 0)).z.testBit j = false := by
        show (o.z ^^^ 0).testBit j = false
        rw [Nat.xor_zero, oz]
      rw [e1, e2]
      show ((o.ph + 1) % 4 + 3) % 4 = o.ph
      omega
    · show ((o.x ^^^ bitN (j : Int)) ^^^ 0).testBit i = _
      rw [Nat.xor_zero, hxb, hbx]; simp
    · show ((o.z ^^^ 0) ^^^ bitN (j : Int)).testBit i = _
      rw [Nat.xor_zero, hzb, hbz]; simp
end Go.Ideal

-- Vk
set_option linter.unusedSimpArgs false
set_option linter.unusedVariables false
namespace Go.Ideal
open Go Go.Proofs Go.RowKit
/-! ### The program's turns keep a string in its one form -/
theorem minusS_v {p : PauD} (h : PauV p) (y : Bool) : PauV (minusS p y) := by
  obtain ⟨a, b, c, d, e⟩ := pauV_iff.1 h
  cases y
  · exact h
  · exact pauV_iff.2 ⟨a, b, by show 0 ≤ (p.ph + 2) % 4; omega, by show (p.ph + 2) % 4 ≤ 3; omega, e⟩
theorem flipX_v {p : PauD} (h : PauV p) {q : Int} (hq : 0 ≤ q ∧ q < p.n) : PauV (flipX p q) := by
  obtain ⟨a, b, c, d, e⟩ := pauV_iff.1 h
  refine pauV_iff.2 ⟨a, b, c, d, fun i hi => ⟨?_, (e i hi).2⟩⟩
  have hi : p.n.toNat ≤ i := hi
  show (p.x ^^^ bitN q).testBit i = false
  rw [Nat.testBit_xor, (e i hi).1, bitN_far hq.1 (by omega) (by omega)]; rfl
theorem flipZ_v {p : PauD} (h : PauV p) {q : Int} (hq : 0 ≤ q ∧ q < p.n) : PauV (flipZ p q) := by
  obtain ⟨a, b, c, d, e⟩ := pauV_iff.1 h
  refine pauV_iff.2 ⟨a, b, c, d, fun i hi => ⟨(e i hi).1, ?_⟩⟩
  have hi : p.n.toNat ≤ i := hi
  show (p.z ^^^ bitN q).testBit i = false
  rw [Nat.testBit_xor, (e i hi).2, bitN_far hq.1 (by omega) (by omega)]; rfl
theorem hS_n (p : PauD) (q : Int) : (hS p q).n = p.n := by unfold hS; split <;> exact minusS_n _ _
theorem sS_n (p : PauD) (q : Int) (y : Bool) : (sS p q y).n = p.n := by
  unfold sS; split
  · exact minusS_n _ _
  · rfl
theorem vS_n (p : PauD) (q : Int) (y : Bool) : (vS p q y).n = p.n := by
  unfold vS; split
  · exact minusS_n _ _
  · rfl
theorem cxS_n (p : PauD) (c t : Int) : (cxS p c t).n = p.n := by
  unfold cxS; simp only
  split <;> split <;> exact minusS_n _ _
theorem hS_v {p : PauD} (h : PauV p) {q : Int} (hq : 0 ≤ q ∧ q < p.n) : PauV (hS p q) := by
  unfold hS; split
  · exact minusS_v h _
  · refine flipZ_v (flipX_v (minusS_v h _) (by rw [minusS_n]; exact hq)) ?_
    show 0 ≤ q ∧ q < (minusS p _).n
    rw [minusS_n]; exact hq
theorem sS_v {p : PauD} (h : PauV p) {q : Int} (hq : 0 ≤ q ∧ q < p.n) (y : Bool) : PauV (sS p q y) := by
  unfold sS; split
  · exact flipZ_v (minusS_v h _) (by rw [minusS_n]; exact hq)
  · exact h
theorem vS_v {p : PauD} (h : PauV p) {q : Int} (hq : 0 ≤ q ∧ q < p.n) (y : Bool) : PauV (vS p q y) := by
  unfold vS; split
  · exact flipX_v (minusS_v h _) (by rw [minusS_n]; exact hq)
  · exact h
theorem cxS_v {p : PauD} (h : PauV p) {c t : Int} (hc : 0 ≤ c ∧ c < p.n) (ht : 0 ≤ t ∧ t < p.n) : PauV (cxS p c t) := by
  unfold cxS; simp only
  have h1 : PauV (if btS p.x c then flipX (minusS p (btS p.x c && btS p.z t && (btS p.x t == btS p.z c))) t else minusS p (btS p.x c && btS p.z t && (btS p.x t == btS p.z c))) ∧ (if btS p.x c then flipX (minusS p (btS p.x c && btS p.z t && (btS p.x t == btS p.z c))) t else minusS p (btS p.x c && btS p.z t && (btS p.x t == btS p.z c))).n = p.n := by
    split
    · exact ⟨flipX_v (minusS_v h _) (by rw [minusS_n]; exact ht), minusS_n _ _⟩
    · exact ⟨minusS_v h _, minusS_n _ _⟩
  split
  · exact flipZ_v h1.1 (by rw [h1.2]; exact hc)
  · exact h1.1
/-! ### The program's turns, seen at two places -/
def Loc.swap (L : Loc) : Loc := ⟨L.ph, L.xb, L.zb, L.xa, L.za⟩
theorem View.swap {p : PauD} {a b : Nat} {o : PauD} {j : Nat} {L : Loc} (v : View p a b o j L) (hab : a ≠ b) : View p b a o j L.swap := by
  refine ⟨v.n, v.ph, fun i => ?_, fun i => ?_⟩
  · rw [v.x]
    by_cases h1 : i = a
    · subst h1; simp [Loc.swap, hab]
    · simp [Loc.swap, h1]
  · rw [v.z]
    by_cases h1 : i = a
    · subst h1; simp [Loc.swap, hab]
    · simp [Loc.swap, h1]
def minLoc (L : Loc) (y : Bool) : Loc := if y then ⟨L.ph + 2, L.xa, L.za, L.xb, L.zb⟩ else L
theorem View.minus {p : PauD} {a b : Nat} {o : PauD} {j : Nat} {L : Loc} (v : View p a b o j L) (y : Bool) : View p a b (minusS o y) j (minLoc L y) := by
  cases y
  · exact v
  · exact ⟨v.n, by show (o.ph + 2) % 4 = (p.ph + (L.ph + 2)) % 4; rw [v.ph]; omega, v.x, v.z⟩
theorem View.xa {p : PauD} {a b : Nat} {o : PauD} {j : Nat} {L : Loc} (v : View p a b o j L) : btS o.x (a : Int) = L.xa := by rw [btS_bit, Int.toNat_natCast, v.x, if_pos rfl]
theorem View.za {p : PauD} {a b : Nat} {o : PauD} {j : Nat} {L : Loc} (v : View p a b o j L) : btS o.z (a : Int) = L.za := by rw [btS_bit, Int.toNat_natCast, v.z, if_pos rfl]
theorem View.xb {p : PauD} {a b : Nat} {o : PauD} {j : Nat} {L : Loc} (v : View p a b o j L) (hab : a ≠ b) : btS o.x (b : Int) = L.xb := by rw [btS_bit, Int.toNat_natCast, v.x, if_neg (Ne.symm hab), if_pos rfl]
theorem View.zb {p : PauD} {a b : Nat} {o : PauD} {j : Nat} {L : Loc} (v : View p a b o j L) (hab : a ≠ b) : btS o.z (b : Int) = L.zb := by rw [btS_bit, Int.toNat_natCast, v.z, if_neg (Ne.symm hab), if_pos rfl]
theorem View.fx {p : PauD} {a b : Nat} {o : PauD} {j : Nat} {L : Loc} (v : View p a b o j L) (ha : a < 64) : View p a b (flipX o a) j ⟨L.ph, !L.xa, L.za, L.xb, L.zb⟩ := by
  refine ⟨v.n, v.ph, fun i => ?_, v.z⟩
  show (o.x ^^^ bitN (a : Int)).testBit i = _
  rw [Nat.testBit_xor, bitN_bit ha, v.x]
  by_cases h : i = a
  · subst h; simp
  · simp [h]
theorem View.fz {p : PauD} {a b : Nat} {o : PauD} {j : Nat} {L : Loc} (v : View p a b o j L) (ha : a < 64) : View p a b (flipZ o a) j ⟨L.ph, L.xa, !L.za, L.xb, L.zb⟩ := by
  refine ⟨v.n, v.ph, v.x, fun i => ?_⟩
  show (o.z ^^^ bitN (a : Int)).testBit i = _
  rw [Nat.testBit_xor, bitN_bit ha, v.z]
  by_cases h : i = a
  · subst h; simp
  · simp [h]
def hLoc (L : Loc) : Loc :=
  let M := minLoc L (L.xa && L.za)
  if L.xa = L.za then M else ⟨M.ph, !M.xa, !M.za, M.xb, M.zb⟩
def sLoc (L : Loc) (back : Bool) : Loc :=
  let M := minLoc L (L.za != back)
  if L.xa then ⟨M.ph, M.xa, !M.za, M.xb, M.zb⟩ else L
def vLoc (L : Loc) (back : Bool) : Loc :=
  let M := minLoc L (L.xa == back)
  if L.za then ⟨M.ph, !M.xa, M.za, M.xb, M.zb⟩ else L
def cxLoc (L : Loc) : Loc :=
  let M := minLoc L (L.xa && L.zb && (L.xb == L.za))
  let N : Loc := if L.xa then ⟨M.ph, M.xa, M.za, !M.xb, M.zb⟩ else M
  if L.zb then ⟨N.ph, N.xa, !N.za, N.xb, N.zb⟩ else N
theorem View.h {p : PauD} {a b : Nat} {o : PauD} {j : Nat} {L : Loc} (v : View p a b o j L) (ha : a < 64) : View p a b (hS o a) j (hLoc L) := by
  unfold hS hLoc
  rw [v.xa, v.za]
  simp only
  split
  · exact v.minus _
  · exact ((v.minus _).fx ha).fz ha
theorem View.s {p : PauD} {a b : Nat} {o : PauD} {j : Nat} {L : Loc} (v : View p a b o j L) (ha : a < 64) (back : Bool) : View p a b (sS o a back) j (sLoc L back) := by
  unfold sS sLoc
  rw [v.xa, v.za]
  simp only
  split
  · exact (v.minus _).fz ha
  · exact v
theorem View.v {p : PauD} {a b : Nat} {o : PauD} {j : Nat} {L : Loc} (v : View p a b o j L) (ha : a < 64) (back : Bool) : View p a b (vS o a back) j (vLoc L back) := by
  unfold vS vLoc
  rw [v.xa, v.za]
  simp only
  split
  · exact (v.minus _).fx ha
  · exact v
theorem View.cx {p : PauD} {a b : Nat} {o : PauD} {j : Nat} {L : Loc} (v : View p a b o j L) (hab : a ≠ b) (ha : a < 64) (hb : b < 64) : View p a b (cxS o a b) j (cxLoc L) := by
  unfold cxS cxLoc
  rw [v.xa, v.za, v.xb hab, v.zb hab]
  simp only
  have v1 := v.minus (L.xa && L.zb && (L.xb == L.za))
  generalize minusS o (L.xa && L.zb && (L.xb == L.za)) = o1 at v1 ⊢
  generalize minLoc L (L.xa && L.zb && (L.xb == L.za)) = M at v1 ⊢
  have v2 : View p a b (if L.xa then flipX o1 b else o1) j (if L.xa then ⟨M.ph, M.xa, M.za, !M.xb, M.zb⟩ else M) := by
    split
    · exact ((v1.swap hab).fx hb).swap (Ne.symm hab)
    · exact v1
  generalize (if L.xa then flipX o1 b else o1) = o2 at v2 ⊢
  generalize (if L.xa then (⟨M.ph, M.xa, M.za, !M.xb, M.zb⟩ : Loc) else M) = N at v2 ⊢
  split
  · exact v2.fz ha
  · exact v2
/-- the string itself, seen at two places -/
theorem View.start {p : PauD} (hp : PauV p) (a b : Nat) : View p a b p p.n.toNat ⟨0, p.x.testBit a, p.z.testBit a, p.x.testBit b, p.z.testBit b⟩ := by
  obtain ⟨_, _, c, d, e⟩ := pauV_iff.1 hp
  have out : ∀ i (P : Nat → Bool), (∀ k, p.n.toNat ≤ k → P k = false) → P i = (decide (i < p.n.toNat) && P i) := fun i P h => by
    by_cases hi : i < p.n.toNat
    · simp [hi]
    · rw [h i (by omega)]; simp
  refine ⟨rfl, by simp only [Int.add_zero]; omega, fun i => ?_, fun i => ?_⟩
  · by_cases h1 : i = a
    · subst h1; simp
    · by_cases h2 : i = b
      · subst h2; simp [h1]
      · rw [if_neg h1, if_neg h2]; exact out i (fun i => p.x.testBit i) fun k hk => (e k hk).1
  · by_cases h1 : i = a
    · subst h1; simp
    · by_cases h2 : i = b
      · subst h2; simp [h1]
      · rw [if_neg h1, if_neg h2]; exact out i (fun i => p.z.testBit i) fun k hk => (e k hk).2
/-! ### The reference's, seen at two places -/
def noLoc : Loc := ⟨0, false, false, false, false⟩
def locAt (A B : Loc → Loc) (a b : Nat) : Nat → Loc
  | 0 => noLoc
  | j + 1 => if j = a then A (locAt A B a b j) else if j = b then B (locAt A B a b j) else locAt A B a b j
theorem locAt_none (A B : Loc → Loc) (a b : Nat) : ∀ n, n ≤ a → n ≤ b → locAt A B a b n = noLoc := by
  intro n
  induction n with
  | zero => intro _ _; rfl
  | succ n ih => intro h1 h2; rw [locAt, if_neg (by omega), if_neg (by omega)]; exact ih (by omega) (by omega)
theorem locAt_a (A B : Loc → Loc) (a b : Nat) : ∀ n, a < n → n ≤ b → locAt A B a b n = A noLoc := by
  intro n
  induction n with
  | zero => intro h _; omega
  | succ n ih =>
    intro h1 h2
    rw [locAt]
    by_cases h : n = a
    · rw [if_pos h, locAt_none A B a b n (by omega) (by omega)]
    · rw [if_neg h, if_neg (by omega)]; exact ih (by omega) (by omega)
theorem locAt_b (A B : Loc → Loc) (a b : Nat) : ∀ n, b < n → n ≤ a → locAt A B a b n = B noLoc := by
  intro n
  induction n with
  | zero => intro h _; omega
  | succ n ih =>
    intro h1 h2
    rw [locAt, if_neg (by omega)]
    by_cases h : n = b
    · rw [if_pos h, locAt_none A B a b n (by omega) (by omega)]
    · rw [if_neg h]; exact ih (by omega) (by omega)
theorem locAt_ab (A B : Loc → Loc) (a b : Nat) (hab : a ≠ b) : ∀ n, a < n → b < n → locAt A B a b n = if a < b then B (A noLoc) else A (B noLoc) := by
  intro n
  induction n with
  | zero => intro h _; omega
  | succ n ih =>
    intro h1 h2
    rw [locAt]
    by_cases h : n = a
    · subst h
      rw [if_pos rfl, if_neg (by omega), locAt_b A B n b n (by omega) (by omega)]
    · rw [if_neg h]
      by_cases h3 : n = b
      · subst h3
        rw [if_pos rfl, if_pos (by omega), locAt_a A B a n n (by omega) (by omega)]
      · rw [if_neg h3]; exact ih (by omega) (by omega)
/-- images of a gate at a and b -/
structure ImgAt (img : Int → Bool → PauD) (n : Int) (a b : Nat) (XA ZA XB ZB : Loc) : Prop where
  v : ImgV img n
  xa : (a : Int) < n → IsLoc (img a true) a b XA
  za : (a : Int) < n → IsLoc (img a false) a b ZA
  xb : (b : Int) < n → IsLoc (img b true) a b XB
  zb : (b : Int) < n → IsLoc (img b false) a b ZB
  ox : ∀ j : Nat, j ≠ a → j ≠ b → img j true = onS n j 88 0
  oz : ∀ j : Nat, j ≠ a → j ≠ b → img j false = onS n j 90 0
theorem turnK_view {img : Int → Bool → PauD} {p : PauD} {a b : Nat} {XA ZA XB ZB : Loc} (hp : PauV p) (hab : a ≠ b) (g : ImgAt img p.n a b XA ZA XB ZB) : ∀ j : Nat, (j : Int) ≤ p.n →
    View p a b (turnK img p j) j (locAt (stepLoc (p.x.testBit a) (p.z.testBit a) XA ZA) (stepLoc (p.x.testBit b) (p.z.testBit b) XB ZB) a b j) := by
  obtain ⟨pa, pb, pc, pd, pe⟩ := pauV_iff.1 hp
  intro j
  induction j with
  | zero =>
    intro _
    refine ⟨rfl, ?_, fun i => ?_, fun i => ?_⟩
    · show p.ph = (p.ph + 0) % 4; omega
    · simp [turnK, locAt, noLoc]
    · simp [turnK, locAt, noLoc]
  | succ j ih =>
    intro hj
    have v := ih (by omega)
    have ho := (turnK_v hp g.v j (by omega)).1
    rw [turnK, locAt]
    by_cases h1 : j = a
    · subst h1
      rw [if_pos rfl]
      exact v.at hab (.inl rfl) (by omega) g.v ho (g.xa (by omega)) (g.za (by omega))
    · rw [if_neg h1]
      by_cases h2 : j = b
      · subst h2
        rw [if_pos rfl]
        exact v.at hab (.inr rfl) (by omega) g.v ho (g.xb (by omega)) (g.zb (by omega))
      · rw [if_neg h2]
        exact v.own h1 h2 (by omega) pb ho (g.ox j h1 h2) (g.oz j h1 h2)
end Go.Ideal

-- Vl
set_option linter.unusedSimpArgs false
set_option linter.unusedVariables false
namespace Go.Ideal
open Go Go.Proofs Go.RowKit
/-! ### The reference's turn, gate by gate (printed by genturn.py) -/
def letLoc (k : Nat) (ph : Int) : Loc := ⟨ph, !decide (k = 90), !decide (k = 88), false, false⟩
theorem onS_loc {n : Int} {a b k : Nat} {ph : Int} (ha : a < 64) : IsLoc (onS n a k ph) a b (letLoc k ph) := by
  have hb : ∀ i, (bitN (a : Int)).testBit i = decide (i = a) := bitN_bit ha
  refine ⟨rfl, fun i => ?_, fun i => ?_⟩
  · show (if k = 90 then 0 else bitN (a : Int)).testBit i = _
    by_cases h1 : i = a <;> by_cases h2 : k = 90 <;> simp [letLoc, h1, h2, hb]
  · show (if k = 88 then 0 else bitN (a : Int)).testBit i = _
    by_cases h1 : i = a <;> by_cases h2 : k = 88 <;> simp [letLoc, h1, h2, hb]
theorem onS_locb {n : Int} {a b k : Nat} {ph : Int} (hab : a ≠ b) (hb : b < 64) : IsLoc (onS n b k ph) a b (letLoc k ph).swap := by
  have h := onS_loc (n := n) (a := b) (b := a) (k := k) (ph := ph) hb
  refine ⟨h.ph, fun i => ?_, fun i => ?_⟩
  · rw [h.x]
    by_cases h1 : i = a
    · subst h1; simp [Loc.swap, letLoc, hab]
    · simp [Loc.swap, letLoc, h1]
  · rw [h.z]
    by_cases h1 : i = a
    · subst h1; simp [Loc.swap, letLoc, hab]
    · simp [Loc.swap, letLoc, h1]
/-- a letter at each place -/
theorem mul_loc {n : Int} {a b k m : Nat} (hn : n ≤ 64) (hab : a ≠ b) (ha : (a : Int) < n) (hb : (b : Int) < n) : IsLoc (mulP (onS n a k 0) (onS n b m 0)) a b ⟨0, !decide (k = 90), !decide (k = 88), !decide (m = 90), !decide (m = 88)⟩ := by
  have v1 : PauV (onS n a k 0) := onS_v hn (by omega) ha (by decide)
  have v2 : PauV (onS n b m 0) := onS_v hn (by omega) hb (by decide)
  have l1 := onS_loc (n := n) (a := a) (b := b) (k := k) (ph := 0) (by omega)
  have l2 := onS_locb (n := n) (a := a) (b := b) (k := m) (ph := 0) hab (by omega)
  have hm := mph_supp v1 v2 rfl hab l2.supp
  rw [l1.x a, l1.z a, l1.x b, l1.z b, l2.x a, l2.z a, l2.x b, l2.z b] at hm
  simp only [if_true, if_neg (Ne.symm hab)] at hm
  refine ⟨?_, fun i => ?_, fun i => ?_⟩
  · show mphS _ _ = 0
    rw [hm]
    simp only [letLoc, Loc.swap]
    show (0 + 0 + (prodL _ (atL false false)).2 + (prodL (atL false false) _).2) % 4 = 0
    rw [prodL_zero]
    cases decide (m = 90) <;> cases decide (m = 88) <;> decide
  · show (_ ^^^ _ : Nat).testBit i = _
    rw [Nat.testBit_xor, l1.x, l2.x]
    by_cases h1 : i = a
    · simp [h1, letLoc, Loc.swap]
    · by_cases h2 : i = b
      · simp [h1, h2, letLoc, Loc.swap, Ne.symm hab]
      · simp [h1, h2]
  · show (_ ^^^ _ : Nat).testBit i = _
    rw [Nat.testBit_xor, l1.z, l2.z]
    by_cases h1 : i = a
    · simp [h1, letLoc, Loc.swap]
    · by_cases h2 : i = b
      · simp [h1, h2, letLoc, Loc.swap, Ne.symm hab]
      · simp [h1, h2]
theorem IsLoc.flip {q : PauD} {a b : Nat} {I : Loc} (h : IsLoc q b a I) (hab : a ≠ b) : IsLoc q a b I.swap := by
  refine ⟨h.ph, fun i => ?_, fun i => ?_⟩
  · rw [h.x]
    by_cases h1 : i = a
    · subst h1; simp [Loc.swap, hab]
    · simp [Loc.swap, h1]
  · rw [h.z]
    by_cases h1 : i = a
    · subst h1; simp [Loc.swap, hab]
    · simp [Loc.swap, h1]
theorem img1_at {t : Im1} (ht : t.ok) {n : Int} {a : Nat} (hn : n ≤ 64) (ha : (a : Int) < n) : ImgAt (img1 t n a) n a 64 (letLoc t.kx t.px) (letLoc t.kz t.pz) noLoc noLoc := by
  obtain ⟨t1, t2, t3, t4⟩ := ht
  refine ⟨fun j x h0 h1 => ?_, fun _ => ?_, fun _ => ?_, fun h => by omega, fun h => by omega, fun j h _ => ?_, fun j h _ => ?_⟩
  · unfold img1
    split
    · split
      · exact ⟨onS_v hn (by omega) ha t3, rfl⟩
      · exact ⟨onS_v hn (by omega) ha t4, rfl⟩
    · exact ⟨onS_v hn h0 h1 (by decide), rfl⟩
  · simp only [img1, if_true]; exact onS_loc (by omega)
  · simp only [img1, if_true, Bool.false_eq_true, if_false]; exact onS_loc (by omega)
  · unfold img1; rw [if_neg (by omega)]; rfl
  · unfold img1; rw [if_neg (by omega)]; rfl
theorem img2_v {g : Nat} {n : Int} {a b : Nat} (hn : n ≤ 64) (ha : (a : Int) < n) (hb : (b : Int) < n) : ImgV (img2 g n a b) n := by
  intro j x h0 h1
  have on : ∀ (q : Int) (k : Nat), 0 ≤ q → q < n → PauV (onS n q k 0) := fun q k h0 h1 => onS_v hn h0 h1 (by decide)
  have ho : 0 ≤ (if j = (a : Int) then (b : Int) else a) ∧ (if j = (a : Int) then (b : Int) else a) < n := by split <;> omega
  unfold img2
  simp only
  split
  · exact ⟨on _ _ h0 h1, rfl⟩
  · split
    · exact ⟨on _ _ ho.1 ho.2, rfl⟩
    · split
      · split
        · exact ⟨((on _ _ h0 h1).mul (on _ _ ho.1 ho.2) rfl).1, rfl⟩
        · exact ⟨on _ _ h0 h1, rfl⟩
      · split
        · exact ⟨((on _ _ h0 h1).mul (on _ _ ho.1 ho.2) rfl).1, rfl⟩
        · exact ⟨on _ _ h0 h1, rfl⟩
theorem parts_i : Fn Try.prog 32 [strT ⟨#[105]⟩] (fun r => r = .tup [.sl 1 [], .sl 1 []]) := by
  refine Fn_of Try.func32 rfl (Nat.le_of_ble_eq_true rfl) (fun X => ?_)
  repeat (first | refine StepC.go ?_ | (refine TV_cond_f ?_ ?_; · first | rfl | assumption))
  exact retT_2c [.sl 1 [], .sl 1 []] (.inr rfl) rfl
theorem parts_w : Fn Try.prog 32 [strT ⟨#[119]⟩] (fun r => r = .tup [.sl 1 [], .sl 1 []]) := by
  refine Fn_of Try.func32 rfl (Nat.le_of_ble_eq_true rfl) (fun X => ?_)
  repeat (first | refine StepC.go ?_ | (refine TV_cond_f ?_ ?_; · first | rfl | assumption))
  exact retT_2c [.sl 1 [], .sl 1 []] (.inr rfl) rfl
theorem parts_wdg : Fn Try.prog 32 [strT ⟨#[119, 100, 103]⟩] (fun r => r = .tup [.sl 1 [], .sl 1 []]) := by
  refine Fn_of Try.func32 rfl (Nat.le_of_ble_eq_true rfl) (fun X => ?_)
  repeat (first | refine StepC.go ?_ | (refine TV_cond_f ?_ ?_; · first | rfl | assumption))
  exact retT_2c [.sl 1 [], .sl 1 []] (.inr rfl) rfl
theorem parts_x : Fn Try.prog 32 [strT ⟨#[120]⟩] (fun r => r = .tup [.sl 1 [], .sl 1 []]) := by
  refine Fn_of Try.func32 rfl (Nat.le_of_ble_eq_true rfl) (fun X => ?_)
  repeat (first | refine StepC.go ?_ | (refine TV_cond_f ?_ ?_; · first | rfl | assumption))
  exact retT_2c [.sl 1 [], .sl 1 []] (.inr rfl) rfl
theorem parts_y : Fn Try.prog 32 [strT ⟨#[121]⟩] (fun r => r = .tup [.sl 1 [], .sl 1 []]) := by
  refine Fn_of Try.func32 rfl (Nat.le_of_ble_eq_true rfl) (fun X => ?_)
  repeat (first | refine StepC.go ?_ | (refine TV_cond_f ?_ ?_; · first | rfl | assumption))
  exact retT_2c [.sl 1 [], .sl 1 []] (.inr rfl) rfl
theorem parts_z : Fn Try.prog 32 [strT ⟨#[122]⟩] (fun r => r = .tup [.sl 1 [], .sl 1 []]) := by
  refine Fn_of Try.func32 rfl (Nat.le_of_ble_eq_true rfl) (fun X => ?_)
  repeat (first | refine StepC.go ?_ | (refine TV_cond_f ?_ ?_; · first | rfl | assumption))
  exact retT_2c [.sl 1 [], .sl 1 []] (.inr rfl) rfl
theorem parts_h : Fn Try.prog 32 [strT ⟨#[104]⟩] (fun r => r = .tup [.sl 1 [], .sl 1 []]) := by
  refine Fn_of Try.func32 rfl (Nat.le_of_ble_eq_true rfl) (fun X => ?_)
  repeat (first | refine StepC.go ?_ | (refine TV_cond_f ?_ ?_; · first | rfl | assumption))
  exact retT_2c [.sl 1 [], .sl 1 []] (.inr rfl) rfl
theorem parts_s : Fn Try.prog 32 [strT ⟨#[115]⟩] (fun r => r = .tup [.sl 1 [], .sl 1 []]) := by
  refine Fn_of Try.func32 rfl (Nat.le_of_ble_eq_true rfl) (fun X => ?_)
  repeat (first | refine StepC.go ?_ | (refine TV_cond_f ?_ ?_; · first | rfl | assumption))
  exact retT_2c [.sl 1 [], .sl 1 []] (.inr rfl) rfl
theorem parts_sdg : Fn Try.prog 32 [strT ⟨#[115, 100, 103]⟩] (fun r => r = .tup [.sl 1 [], .sl 1 []]) := by
  refine Fn_of Try.func32 rfl (Nat.le_of_ble_eq_true rfl) (fun X => ?_)
  repeat (first | refine StepC.go ?_ | (refine TV_cond_f ?_ ?_; · first | rfl | assumption))
  exact retT_2c [.sl 1 [], .sl 1 []] (.inr rfl) rfl
theorem parts_v : Fn Try.prog 32 [strT ⟨#[118]⟩] (fun r => r = .tup [.sl 1 [], .sl 1 []]) := by
  refine Fn_of Try.func32 rfl (Nat.le_of_ble_eq_true rfl) (fun X => ?_)
  repeat (first | refine StepC.go ?_ | (refine TV_cond_f ?_ ?_; · first | rfl | assumption))
  exact retT_2c [.sl 1 [], .sl 1 []] (.inr rfl) rfl
theorem parts_vdg : Fn Try.prog 32 [strT ⟨#[118, 100, 103]⟩] (fun r => r = .tup [.sl 1 [], .sl 1 []]) := by
  refine Fn_of Try.func32 rfl (Nat.le_of_ble_eq_true rfl) (fun X => ?_)
  repeat (first | refine StepC.go ?_ | (refine TV_cond_f ?_ ?_; · first | rfl | assumption))
  exact retT_2c [.sl 1 [], .sl 1 []] (.inr rfl) rfl
theorem parts_cx : Fn Try.prog 32 [strT ⟨#[99, 120]⟩] (fun r => r = .tup [.sl 1 [], .sl 1 []]) := by
  refine Fn_of Try.func32 rfl (Nat.le_of_ble_eq_true rfl) (fun X => ?_)
  repeat (first | refine StepC.go ?_ | (refine TV_cond_f ?_ ?_; · first | rfl | assumption))
  exact retT_2c [.sl 1 [], .sl 1 []] (.inr rfl) rfl
theorem parts_cz : Fn Try.prog 32 [strT ⟨#[99, 122]⟩] (fun r => r = .tup [.sl 1 [], .sl 1 []]) := by
  refine Fn_of Try.func32 rfl (Nat.le_of_ble_eq_true rfl) (fun X => ?_)
  repeat (first | refine StepC.go ?_ | (refine TV_cond_f ?_ ?_; · first | rfl | assumption))
  exact retT_2c [.sl 1 [], .sl 1 []] (.inr rfl) rfl
theorem parts_swap : Fn Try.prog 32 [strT ⟨#[115, 119, 97, 112]⟩] (fun r => r = .tup [.sl 1 [], .sl 1 []]) := by
  refine Fn_of Try.func32 rfl (Nat.le_of_ble_eq_true rfl) (fun X => ?_)
  repeat (first | refine StepC.go ?_ | (refine TV_cond_f ?_ ?_; · first | rfl | assumption))
  exact retT_2c [.sl 1 [], .sl 1 []] (.inr rfl) rfl
theorem img2_at_cx {n : Int} {a b : Nat} (hn : n ≤ 64) (hab : a ≠ b) (ha : (a : Int) < n) (hb : (b : Int) < n) : ImgAt (img2 0 n a b) n a b ⟨0, true, false, true, false⟩ ⟨0, false, true, false, false⟩ ⟨0, false, false, true, false⟩ ⟨0, false, true, false, true⟩ := by
  have e1 : ¬ (b : Int) = (a : Int) := by omega
  have e2 : ¬ (a : Int) = (b : Int) := by omega
  refine ⟨img2_v hn ha hb, fun _ => ?_, fun _ => ?_, fun _ => ?_, fun _ => ?_, fun j h1 h2 => ?_, fun j h1 h2 => ?_⟩
  · simp [img2, e1, e2]
    exact mul_loc hn hab ha hb
  · simp [img2, e1, e2]
    exact onS_loc (by omega)
  · simp [img2, e1, e2]
    exact onS_locb hab (by omega)
  · simp [img2, e1, e2]
    exact (mul_loc hn (Ne.symm hab) hb ha).flip hab
  · have h3 : ¬ (j : Int) = a := by omega
    have h4 : ¬ (j : Int) = b := by omega
    simp [img2, h3, h4]
  · have h3 : ¬ (j : Int) = a := by omega
    have h4 : ¬ (j : Int) = b := by omega
    simp [img2, h3, h4]
theorem img2_at_cz {n : Int} {a b : Nat} (hn : n ≤ 64) (hab : a ≠ b) (ha : (a : Int) < n) (hb : (b : Int) < n) : ImgAt (img2 1 n a b) n a b ⟨0, true, false, false, true⟩ ⟨0, false, true, false, false⟩ ⟨0, false, true, true, false⟩ ⟨0, false, false, false, true⟩ := by
  have e1 : ¬ (b : Int) = (a : Int) := by omega
  have e2 : ¬ (a : Int) = (b : Int) := by omega
  refine ⟨img2_v hn ha hb, fun _ => ?_, fun _ => ?_, fun _ => ?_, fun _ => ?_, fun j h1 h2 => ?_, fun j h1 h2 => ?_⟩
  · simp [img2, e1, e2]
    exact mul_loc hn hab ha hb
  · simp [img2, e1, e2]
    exact onS_loc (by omega)
  · simp [img2, e1, e2]
    exact (mul_loc hn (Ne.symm hab) hb ha).flip hab
  · simp [img2, e1, e2]
    exact onS_locb hab (by omega)
  · have h3 : ¬ (j : Int) = a := by omega
    have h4 : ¬ (j : Int) = b := by omega
    simp [img2, h3, h4]
  · have h3 : ¬ (j : Int) = a := by omega
    have h4 : ¬ (j : Int) = b := by omega
    simp [img2, h3, h4]
theorem img2_at_swap {n : Int} {a b : Nat} (hn : n ≤ 64) (hab : a ≠ b) (ha : (a : Int) < n) (hb : (b : Int) < n) : ImgAt (img2 2 n a b) n a b ⟨0, false, false, true, false⟩ ⟨0, false, false, false, true⟩ ⟨0, true, false, false, false⟩ ⟨0, false, true, false, false⟩ := by
  have e1 : ¬ (b : Int) = (a : Int) := by omega
  have e2 : ¬ (a : Int) = (b : Int) := by omega
  refine ⟨img2_v hn ha hb, fun _ => ?_, fun _ => ?_, fun _ => ?_, fun _ => ?_, fun j h1 h2 => ?_, fun j h1 h2 => ?_⟩
  · simp [img2, e1, e2]
    exact onS_locb hab (by omega)
  · simp [img2, e1, e2]
    exact onS_locb hab (by omega)
  · simp [img2, e1, e2]
    exact onS_loc (by omega)
  · simp [img2, e1, e2]
    exact onS_loc (by omega)
  · have h3 : ¬ (j : Int) = a := by omega
    have h4 : ¬ (j : Int) = b := by omega
    simp [img2, h3, h4]
  · have h3 : ¬ (j : Int) = a := by omega
    have h4 : ¬ (j : Int) = b := by omega
    simp [img2, h3, h4]
theorem locs_i : ∀ xa za xb zb : Bool, let L : Loc := ⟨0, xa, za, xb, zb⟩
    ; xb = false → zb = false → ((stepLoc xa za (letLoc im_i.kx im_i.px) (letLoc im_i.kz im_i.pz) noLoc).ph % 4 = L.ph % 4 ∧ (stepLoc xa za (letLoc im_i.kx im_i.px) (letLoc im_i.kz im_i.pz) noLoc).xa = L.xa ∧ (stepLoc xa za (letLoc im_i.kx im_i.px) (letLoc im_i.kz im_i.pz) noLoc).za = L.za ∧ (stepLoc xa za (letLoc im_i.kx im_i.px) (letLoc im_i.kz im_i.pz) noLoc).xb = L.xb ∧ (stepLoc xa za (letLoc im_i.kx im_i.px) (letLoc im_i.kz im_i.pz) noLoc).zb = L.zb) := by decide
theorem turn_i {p : PauD} {a : Int} (hp : PauV p) (ha : 0 ≤ a ∧ a < p.n) : turnK (img1 im_i p.n a) p p.n.toNat = p := by
  obtain ⟨p1, p2, _, _, pe⟩ := pauV_iff.1 hp
  obtain ⟨a, rfl⟩ := Int.eq_ofNat_of_zero_le ha.1
  have h1 := turnK_view hp (by omega) (img1_at (t := im_i) ⟨by decide, by decide, by decide, by decide⟩ p2 ha.2) p.n.toNat (by omega)
  rw [locAt_a _ _ a 64 p.n.toNat (by omega) (by omega)] at h1
  have v := View.start hp a 64
  obtain ⟨b1, b2⟩ := pe 64 (by omega)
  have h2 := locs_i (p.x.testBit a) (p.z.testBit a) (p.x.testBit 64) (p.z.testBit 64) b1 b2
  exact h1.same (v) h2
theorem turnT_i {p : PauD} {a : Int} (hp : PauV p) (ha : 0 ≤ a ∧ a < p.n) : Fn Try.prog 18 [pauT p, strT ⟨#[105]⟩, .sl 1 [[intT a]]] (fun r => r = pauT p) := by
  obtain ⟨p1, p2, _⟩ := pauV_iff.1 hp
  have h := turnPrimT hp parts_i (fun j x h0 h1 => image_i p2 ha ⟨h0, h1⟩ x) (by
    obtain ⟨a, rfl⟩ := Int.eq_ofNat_of_zero_le ha.1
    exact (img1_at (t := im_i) ⟨by decide, by decide, by decide, by decide⟩ p2 ha.2).v)
  rw [turn_i hp ha] at h
  exact h
theorem locs_w : ∀ xa za xb zb : Bool, let L : Loc := ⟨0, xa, za, xb, zb⟩
    ; xb = false → zb = false → ((stepLoc xa za (letLoc im_w.kx im_w.px) (letLoc im_w.kz im_w.pz) noLoc).ph % 4 = L.ph % 4 ∧ (stepLoc xa za (letLoc im_w.kx im_w.px) (letLoc im_w.kz im_w.pz) noLoc).xa = L.xa ∧ (stepLoc xa za (letLoc im_w.kx im_w.px) (letLoc im_w.kz im_w.pz) noLoc).za = L.za ∧ (stepLoc xa za (letLoc im_w.kx im_w.px) (letLoc im_w.kz im_w.pz) noLoc).xb = L.xb ∧ (stepLoc xa za (letLoc im_w.kx im_w.px) (letLoc im_w.kz im_w.pz) noLoc).zb = L.zb) := by decide
theorem turn_w {p : PauD} {a : Int} (hp : PauV p) (ha : 0 ≤ a ∧ a < p.n) : turnK (img1 im_w p.n a) p p.n.toNat = p := by
  obtain ⟨p1, p2, _, _, pe⟩ := pauV_iff.1 hp
  obtain ⟨a, rfl⟩ := Int.eq_ofNat_of_zero_le ha.1
  have h1 := turnK_view hp (by omega) (img1_at (t := im_w) ⟨by decide, by decide, by decide, by decide⟩ p2 ha.2) p.n.toNat (by omega)
  rw [locAt_a _ _ a 64 p.n.toNat (by omega) (by omega)] at h1
  have v := View.start hp a 64
  obtain ⟨b1, b2⟩ := pe 64 (by omega)
  have h2 := locs_w (p.x.testBit a) (p.z.testBit a) (p.x.testBit 64) (p.z.testBit 64) b1 b2
  exact h1.same (v) h2
theorem turnT_w {p : PauD} {a : Int} (hp : PauV p) (ha : 0 ≤ a ∧ a < p.n) : Fn Try.prog 18 [pauT p, strT ⟨#[119]⟩, .sl 1 [[intT a]]] (fun r => r = pauT p) := by
  obtain ⟨p1, p2, _⟩ := pauV_iff.1 hp
  have h := turnPrimT hp parts_w (fun j x h0 h1 => image_w p2 ha ⟨h0, h1⟩ x) (by
    obtain ⟨a, rfl⟩ := Int.eq_ofNat_of_zero_le ha.1
    exact (img1_at (t := im_w) ⟨by decide, by decide, by decide, by decide⟩ p2 ha.2).v)
  rw [turn_w hp ha] at h
  exact h
theorem locs_wdg : ∀ xa za xb zb : Bool, let L : Loc := ⟨0, xa, za, xb, zb⟩
    ; xb = false → zb = false → ((stepLoc xa za (letLoc im_wdg.kx im_wdg.px) (letLoc im_wdg.kz im_wdg.pz) noLoc).ph % 4 = L.ph % 4 ∧ (stepLoc xa za (letLoc im_wdg.kx im_wdg.px) (letLoc im_wdg.kz im_wdg.pz) noLoc).xa = L.xa ∧ (stepLoc xa za (letLoc im_wdg.kx im_wdg.px) (letLoc im_wdg.kz im_wdg.pz) noLoc).za = L.za ∧ (stepLoc xa za (letLoc im_wdg.kx im_wdg.px) (letLoc im_wdg.kz im_wdg.pz) noLoc).xb = L.xb ∧ (stepLoc xa za (letLoc im_wdg.kx im_wdg.px) (letLoc im_wdg.kz im_wdg.pz) noLoc).zb = L.zb) := by decide
theorem turn_wdg {p : PauD} {a : Int} (hp : PauV p) (ha : 0 ≤ a ∧ a < p.n) : turnK (img1 im_wdg p.n a) p p.n.toNat = p := by
  obtain ⟨p1, p2, _, _, pe⟩ := pauV_iff.1 hp
  obtain ⟨a, rfl⟩ := Int.eq_ofNat_of_zero_le ha.1
  have h1 := turnK_view hp (by omega) (img1_at (t := im_wdg) ⟨by decide, by decide, by decide, by decide⟩ p2 ha.2) p.n.toNat (by omega)
  rw [locAt_a _ _ a 64 p.n.toNat (by omega) (by omega)] at h1
  have v := View.start hp a 64
  obtain ⟨b1, b2⟩ := pe 64 (by omega)
  have h2 := locs_wdg (p.x.testBit a) (p.z.testBit a) (p.x.testBit 64) (p.z.testBit 64) b1 b2
  exact h1.same (v) h2
theorem turnT_wdg {p : PauD} {a : Int} (hp : PauV p) (ha : 0 ≤ a ∧ a < p.n) : Fn Try.prog 18 [pauT p, strT ⟨#[119, 100, 103]⟩, .sl 1 [[intT a]]] (fun r => r = pauT p) := by
  obtain ⟨p1, p2, _⟩ := pauV_iff.1 hp
  have h := turnPrimT hp parts_wdg (fun j x h0 h1 => image_wdg p2 ha ⟨h0, h1⟩ x) (by
    obtain ⟨a, rfl⟩ := Int.eq_ofNat_of_zero_le ha.1
    exact (img1_at (t := im_wdg) ⟨by decide, by decide, by decide, by decide⟩ p2 ha.2).v)
  rw [turn_wdg hp ha] at h
  exact h
theorem locs_x : ∀ xa za xb zb : Bool, let L : Loc := ⟨0, xa, za, xb, zb⟩
    ; xb = false → zb = false → ((stepLoc xa za (letLoc im_x.kx im_x.px) (letLoc im_x.kz im_x.pz) noLoc).ph % 4 = (minLoc L L.za).ph % 4 ∧ (stepLoc xa za (letLoc im_x.kx im_x.px) (letLoc im_x.kz im_x.pz) noLoc).xa = (minLoc L L.za).xa ∧ (stepLoc xa za (letLoc im_x.kx im_x.px) (letLoc im_x.kz im_x.pz) noLoc).za = (minLoc L L.za).za ∧ (stepLoc xa za (letLoc im_x.kx im_x.px) (letLoc im_x.kz im_x.pz) noLoc).xb = (minLoc L L.za).xb ∧ (stepLoc xa za (letLoc im_x.kx im_x.px) (letLoc im_x.kz im_x.pz) noLoc).zb = (minLoc L L.za).zb) := by decide
theorem turn_x {p : PauD} {a : Int} (hp : PauV p) (ha : 0 ≤ a ∧ a < p.n) : turnK (img1 im_x p.n a) p p.n.toNat = (minusS p (btS p.z a)) := by
  obtain ⟨p1, p2, _, _, pe⟩ := pauV_iff.1 hp
  obtain ⟨a, rfl⟩ := Int.eq_ofNat_of_zero_le ha.1
  have h1 := turnK_view hp (by omega) (img1_at (t := im_x) ⟨by decide, by decide, by decide, by decide⟩ p2 ha.2) p.n.toNat (by omega)
  rw [locAt_a _ _ a 64 p.n.toNat (by omega) (by omega)] at h1
  have v := View.start hp a 64
  obtain ⟨b1, b2⟩ := pe 64 (by omega)
  have h2 := locs_x (p.x.testBit a) (p.z.testBit a) (p.x.testBit 64) (p.z.testBit 64) b1 b2
  have hx := v.xa
  have hz := v.za
  simp only at hx hz
  rw [hz]
  exact h1.same (v.minus _) h2
theorem turnT_x {p : PauD} {a : Int} (hp : PauV p) (ha : 0 ≤ a ∧ a < p.n) : Fn Try.prog 18 [pauT p, strT ⟨#[120]⟩, .sl 1 [[intT a]]] (fun r => r = pauT (minusS p (btS p.z a))) := by
  obtain ⟨p1, p2, _⟩ := pauV_iff.1 hp
  have h := turnPrimT hp parts_x (fun j x h0 h1 => image_x p2 ha ⟨h0, h1⟩ x) (by
    obtain ⟨a, rfl⟩ := Int.eq_ofNat_of_zero_le ha.1
    exact (img1_at (t := im_x) ⟨by decide, by decide, by decide, by decide⟩ p2 ha.2).v)
  rw [turn_x hp ha] at h
  exact h
theorem locs_y : ∀ xa za xb zb : Bool, let L : Loc := ⟨0, xa, za, xb, zb⟩
    ; xb = false → zb = false → ((stepLoc xa za (letLoc im_y.kx im_y.px) (letLoc im_y.kz im_y.pz) noLoc).ph % 4 = (minLoc L (L.xa != L.za)).ph % 4 ∧ (stepLoc xa za (letLoc im_y.kx im_y.px) (letLoc im_y.kz im_y.pz) noLoc).xa = (minLoc L (L.xa != L.za)).xa ∧ (stepLoc xa za (letLoc im_y.kx im_y.px) (letLoc im_y.kz im_y.pz) noLoc).za = (minLoc L (L.xa != L.za)).za ∧ (stepLoc xa za (letLoc im_y.kx im_y.px) (letLoc im_y.kz im_y.pz) noLoc).xb = (minLoc L (L.xa != L.za)).xb ∧ (stepLoc xa za (letLoc im_y.kx im_y.px) (letLoc im_y.kz im_y.pz) noLoc).zb = (minLoc L (L.xa != L.za)).zb) := by decide
theorem turn_y {p : PauD} {a : Int} (hp : PauV p) (ha : 0 ≤ a ∧ a < p.n) : turnK (img1 im_y p.n a) p p.n.toNat = (minusS p (btS p.x a != btS p.z a)) := by
  obtain ⟨p1, p2, _, _, pe⟩ := pauV_iff.1 hp
  obtain ⟨a, rfl⟩ := Int.eq_ofNat_of_zero_le ha.1
  have h1 := turnK_view hp (by omega) (img1_at (t := im_y) ⟨by decide, by decide, by decide, by decide⟩ p2 ha.2) p.n.toNat (by omega)
  rw [locAt_a _ _ a 64 p.n.toNat (by omega) (by omega)] at h1
  have v := View.start hp a 64
  obtain ⟨b1, b2⟩ := pe 64 (by omega)
  have h2 := locs_y (p.x.testBit a) (p.z.testBit a) (p.x.testBit 64) (p.z.testBit 64) b1 b2
  have hx := v.xa
  have hz := v.za
  simp only at hx hz
  rw [hx, hz]
  exact h1.same (v.minus _) h2
theorem turnT_y {p : PauD} {a : Int} (hp : PauV p) (ha : 0 ≤ a ∧ a < p.n) : Fn Try.prog 18 [pauT p, strT ⟨#[121]⟩, .sl 1 [[intT a]]] (fun r => r = pauT (minusS p (btS p.x a != btS p.z a))) := by
  obtain ⟨p1, p2, _⟩ := pauV_iff.1 hp
  have h := turnPrimT hp parts_y (fun j x h0 h1 => image_y p2 ha ⟨h0, h1⟩ x) (by
    obtain ⟨a, rfl⟩ := Int.eq_ofNat_of_zero_le ha.1
    exact (img1_at (t := im_y) ⟨by decide, by decide, by decide, by decide⟩ p2 ha.2).v)
  rw [turn_y hp ha] at h
  exact h
theorem locs_z : ∀ xa za xb zb : Bool, let L : Loc := ⟨0, xa, za, xb, zb⟩
    ; xb = false → zb = false → ((stepLoc xa za (letLoc im_z.kx im_z.px) (letLoc im_z.kz im_z.pz) noLoc).ph % 4 = (minLoc L L.xa).ph % 4 ∧ (stepLoc xa za (letLoc im_z.kx im_z.px) (letLoc im_z.kz im_z.pz) noLoc).xa = (minLoc L L.xa).xa ∧ (stepLoc xa za (letLoc im_z.kx im_z.px) (letLoc im_z.kz im_z.pz) noLoc).za = (minLoc L L.xa).za ∧ (stepLoc xa za (letLoc im_z.kx im_z.px) (letLoc im_z.kz im_z.pz) noLoc).xb = (minLoc L L.xa).xb ∧ (stepLoc xa za (letLoc im_z.kx im_z.px) (letLoc im_z.kz im_z.pz) noLoc).zb = (minLoc L L.xa).zb) := by decide
theorem turn_z {p : PauD} {a : Int} (hp : PauV p) (ha : 0 ≤ a ∧ a < p.n) : turnK (img1 im_z p.n a) p p.n.toNat = (minusS p (btS p.x a)) := by
  obtain ⟨p1, p2, _, _, pe⟩ := pauV_iff.1 hp
  obtain ⟨a, rfl⟩ := Int.eq_ofNat_of_zero_le ha.1
  have h1 := turnK_view hp (by omega) (img1_at (t := im_z) ⟨by decide, by decide, by decide, by decide⟩ p2 ha.2) p.n.toNat (by omega)
  rw [locAt_a _ _ a 64 p.n.toNat (by omega) (by omega)] at h1
  have v := View.start hp a 64
  obtain ⟨b1, b2⟩ := pe 64 (by omega)
  have h2 := locs_z (p.x.testBit a) (p.z.testBit a) (p.x.testBit 64) (p.z.testBit 64) b1 b2
  have hx := v.xa
  have hz := v.za
  simp only at hx hz
  rw [hx]
  exact h1.same (v.minus _) h2
theorem turnT_z {p : PauD} {a : Int} (hp : PauV p) (ha : 0 ≤ a ∧ a < p.n) : Fn Try.prog 18 [pauT p, strT ⟨#[122]⟩, .sl 1 [[intT a]]] (fun r => r = pauT (minusS p (btS p.x a))) := by
  obtain ⟨p1, p2, _⟩ := pauV_iff.1 hp
  have h := turnPrimT hp parts_z (fun j x h0 h1 => image_z p2 ha ⟨h0, h1⟩ x) (by
    obtain ⟨a, rfl⟩ := Int.eq_ofNat_of_zero_le ha.1
    exact (img1_at (t := im_z) ⟨by decide, by decide, by decide, by decide⟩ p2 ha.2).v)
  rw [turn_z hp ha] at h
  exact h
theorem locs_h : ∀ xa za xb zb : Bool, let L : Loc := ⟨0, xa, za, xb, zb⟩
    ; xb = false → zb = false → ((stepLoc xa za (letLoc im_h.kx im_h.px) (letLoc im_h.kz im_h.pz) noLoc).ph % 4 = (hLoc L).ph % 4 ∧ (stepLoc xa za (letLoc im_h.kx im_h.px) (letLoc im_h.kz im_h.pz) noLoc).xa = (hLoc L).xa ∧ (stepLoc xa za (letLoc im_h.kx im_h.px) (letLoc im_h.kz im_h.pz) noLoc).za = (hLoc L).za ∧ (stepLoc xa za (letLoc im_h.kx im_h.px) (letLoc im_h.kz im_h.pz) noLoc).xb = (hLoc L).xb ∧ (stepLoc xa za (letLoc im_h.kx im_h.px) (letLoc im_h.kz im_h.pz) noLoc).zb = (hLoc L).zb) := by decide
theorem turn_h {p : PauD} {a : Int} (hp : PauV p) (ha : 0 ≤ a ∧ a < p.n) : turnK (img1 im_h p.n a) p p.n.toNat = (hS p a) := by
  obtain ⟨p1, p2, _, _, pe⟩ := pauV_iff.1 hp
  obtain ⟨a, rfl⟩ := Int.eq_ofNat_of_zero_le ha.1
  have h1 := turnK_view hp (by omega) (img1_at (t := im_h) ⟨by decide, by decide, by decide, by decide⟩ p2 ha.2) p.n.toNat (by omega)
  rw [locAt_a _ _ a 64 p.n.toNat (by omega) (by omega)] at h1
  have v := View.start hp a 64
  obtain ⟨b1, b2⟩ := pe 64 (by omega)
  have h2 := locs_h (p.x.testBit a) (p.z.testBit a) (p.x.testBit 64) (p.z.testBit 64) b1 b2
  exact h1.same (v.h (by omega)) h2
theorem turnT_h {p : PauD} {a : Int} (hp : PauV p) (ha : 0 ≤ a ∧ a < p.n) : Fn Try.prog 18 [pauT p, strT ⟨#[104]⟩, .sl 1 [[intT a]]] (fun r => r = pauT (hS p a)) := by
  obtain ⟨p1, p2, _⟩ := pauV_iff.1 hp
  have h := turnPrimT hp parts_h (fun j x h0 h1 => image_h p2 ha ⟨h0, h1⟩ x) (by
    obtain ⟨a, rfl⟩ := Int.eq_ofNat_of_zero_le ha.1
    exact (img1_at (t := im_h) ⟨by decide, by decide, by decide, by decide⟩ p2 ha.2).v)
  rw [turn_h hp ha] at h
  exact h
theorem locs_s : ∀ xa za xb zb : Bool, let L : Loc := ⟨0, xa, za, xb, zb⟩
    ; xb = false → zb = false → ((stepLoc xa za (letLoc im_s.kx im_s.px) (letLoc im_s.kz im_s.pz) noLoc).ph % 4 = (sLoc L false).ph % 4 ∧ (stepLoc xa za (letLoc im_s.kx im_s.px) (letLoc im_s.kz im_s.pz) noLoc).xa = (sLoc L false).xa ∧ (stepLoc xa za (letLoc im_s.kx im_s.px) (letLoc im_s.kz im_s.pz) noLoc).za = (sLoc L false).za ∧ (stepLoc xa za (letLoc im_s.kx im_s.px) (letLoc im_s.kz im_s.pz) noLoc).xb = (sLoc L false).xb ∧ (stepLoc xa za (letLoc im_s.kx im_s.px) (letLoc im_s.kz im_s.pz) noLoc).zb = (sLoc L false).zb) := by decide
theorem turn_s {p : PauD} {a : Int} (hp : PauV p) (ha : 0 ≤ a ∧ a < p.n) : turnK (img1 im_s p.n a) p p.n.toNat = (sS p a false) := by
  obtain ⟨p1, p2, _, _, pe⟩ := pauV_iff.1 hp
  obtain ⟨a, rfl⟩ := Int.eq_ofNat_of_zero_le ha.1
  have h1 := turnK_view hp (by omega) (img1_at (t := im_s) ⟨by decide, by decide, by decide, by decide⟩ p2 ha.2) p.n.toNat (by omega)
  rw [locAt_a _ _ a 64 p.n.toNat (by omega) (by omega)] at h1
  have v := View.start hp a 64
  obtain ⟨b1, b2⟩ := pe 64 (by omega)
  have h2 := locs_s (p.x.testBit a) (p.z.testBit a) (p.x.testBit 64) (p.z.testBit 64) b1 b2
  exact h1.same (v.s (by omega) false) h2
theorem turnT_s {p : PauD} {a : Int} (hp : PauV p) (ha : 0 ≤ a ∧ a < p.n) : Fn Try.prog 18 [pauT p, strT ⟨#[115]⟩, .sl 1 [[intT a]]] (fun r => r = pauT (sS p a false)) := by
  obtain ⟨p1, p2, _⟩ := pauV_iff.1 hp
  have h := turnPrimT hp parts_s (fun j x h0 h1 => image_s p2 ha ⟨h0, h1⟩ x) (by
    obtain ⟨a, rfl⟩ := Int.eq_ofNat_of_zero_le ha.1
    exact (img1_at (t := im_s) ⟨by decide, by decide, by decide, by decide⟩ p2 ha.2).v)
  rw [turn_s hp ha] at h
  exact h
theorem locs_sdg : ∀ xa za xb zb : Bool, let L : Loc := ⟨0, xa, za, xb, zb⟩
    ; xb = false → zb = false → ((stepLoc xa za (letLoc im_sdg.kx im_sdg.px) (letLoc im_sdg.kz im_sdg.pz) noLoc).ph % 4 = (sLoc L true).ph % 4 ∧ (stepLoc xa za (letLoc im_sdg.kx im_sdg.px) (letLoc im_sdg.kz im_sdg.pz) noLoc).xa = (sLoc L true).xa ∧ (stepLoc xa za (letLoc im_sdg.kx im_sdg.px) (letLoc im_sdg.kz im_sdg.pz) noLoc).za = (sLoc L true).za ∧ (stepLoc xa za (letLoc im_sdg.kx im_sdg.px) (letLoc im_sdg.kz im_sdg.pz) noLoc).xb = (sLoc L true).xb ∧ (stepLoc xa za (letLoc im_sdg.kx im_sdg.px) (letLoc im_sdg.kz im_sdg.pz) noLoc).zb = (sLoc L true).zb) := by decide
theorem turn_sdg {p : PauD} {a : Int} (hp : PauV p) (ha : 0 ≤ a ∧ a < p.n) : turnK (img1 im_sdg p.n a) p p.n.toNat = (sS p a true) := by
  obtain ⟨p1, p2, _, _, pe⟩ := pauV_iff.1 hp
  obtain ⟨a, rfl⟩ := Int.eq_ofNat_of_zero_le ha.1
  have h1 := turnK_view hp (by omega) (img1_at (t := im_sdg) ⟨by decide, by decide, by decide, by decide⟩ p2 ha.2) p.n.toNat (by omega)
  rw [locAt_a _ _ a 64 p.n.toNat (by omega) (by omega)] at h1
  have v := View.start hp a 64
  obtain ⟨b1, b2⟩ := pe 64 (by omega)
  have h2 := locs_sdg (p.x.testBit a) (p.z.testBit a) (p.x.testBit 64) (p.z.testBit 64) b1 b2
  exact h1.same (v.s (by omega) true) h2
theorem turnT_sdg {p : PauD} {a : Int} (hp : PauV p) (ha : 0 ≤ a ∧ a < p.n) : Fn Try.prog 18 [pauT p, strT ⟨#[115, 100, 103]⟩, .sl 1 [[intT a]]] (fun r => r = pauT (sS p a true)) := by
  obtain ⟨p1, p2, _⟩ := pauV_iff.1 hp
  have h := turnPrimT hp parts_sdg (fun j x h0 h1 => image_sdg p2 ha ⟨h0, h1⟩ x) (by
    obtain ⟨a, rfl⟩ := Int.eq_ofNat_of_zero_le ha.1
    exact (img1_at (t := im_sdg) ⟨by decide, by decide, by decide, by decide⟩ p2 ha.2).v)
  rw [turn_sdg hp ha] at h
  exact h
theorem locs_v : ∀ xa za xb zb : Bool, let L : Loc := ⟨0, xa, za, xb, zb⟩
    ; xb = false → zb = false → ((stepLoc xa za (letLoc im_v.kx im_v.px) (letLoc im_v.kz im_v.pz) noLoc).ph % 4 = (vLoc L false).ph % 4 ∧ (stepLoc xa za (letLoc im_v.kx im_v.px) (letLoc im_v.kz im_v.pz) noLoc).xa = (vLoc L false).xa ∧ (stepLoc xa za (letLoc im_v.kx im_v.px) (letLoc im_v.kz im_v.pz) noLoc).za = (vLoc L false).za ∧ (stepLoc xa za (letLoc im_v.kx im_v.px) (letLoc im_v.kz im_v.pz) noLoc).xb = (vLoc L false).xb ∧ (stepLoc xa za (letLoc im_v.kx im_v.px) (letLoc im_v.kz im_v.pz) noLoc).zb = (vLoc L false).zb) := by decide
theorem turn_v {p : PauD} {a : Int} (hp : PauV p) (ha : 0 ≤ a ∧ a < p.n) : turnK (img1 im_v p.n a) p p.n.toNat = (vS p a false) := by
  obtain ⟨p1, p2, _, _, pe⟩ := pauV_iff.1 hp
  obtain ⟨a, rfl⟩ := Int.eq_ofNat_of_zero_le ha.1
  have h1 := turnK_view hp (by omega) (img1_at (t := im_v) ⟨by decide, by decide, by decide, by decide⟩ p2 ha.2) p.n.toNat (by omega)
  rw [locAt_a _ _ a 64 p.n.toNat (by omega) (by omega)] at h1
  have v := View.start hp a 64
  obtain ⟨b1, b2⟩ := pe 64 (by omega)
  have h2 := locs_v (p.x.testBit a) (p.z.testBit a) (p.x.testBit 64) (p.z.testBit 64) b1 b2
  exact h1.same (v.v (by omega) false) h2
theorem turnT_v {p : PauD} {a : Int} (hp : PauV p) (ha : 0 ≤ a ∧ a < p.n) : Fn Try.prog 18 [pauT p, strT ⟨#[118]⟩, .sl 1 [[intT a]]] (fun r => r = pauT (vS p a false)) := by
  obtain ⟨p1, p2, _⟩ := pauV_iff.1 hp
  have h := turnPrimT hp parts_v (fun j x h0 h1 => image_v p2 ha ⟨h0, h1⟩ x) (by
    obtain ⟨a, rfl⟩ := Int.eq_ofNat_of_zero_le ha.1
    exact (img1_at (t := im_v) ⟨by decide, by decide, by decide, by decide⟩ p2 ha.2).v)
  rw [turn_v hp ha] at h
  exact h
theorem locs_vdg : ∀ xa za xb zb : Bool, let L : Loc := ⟨0, xa, za, xb, zb⟩
    ; xb = false → zb = false → ((stepLoc xa za (letLoc im_vdg.kx im_vdg.px) (letLoc im_vdg.kz im_vdg.pz) noLoc).ph % 4 = (vLoc L true).ph % 4 ∧ (stepLoc xa za (letLoc im_vdg.kx im_vdg.px) (letLoc im_vdg.kz im_vdg.pz) noLoc).xa = (vLoc L true).xa ∧ (stepLoc xa za (letLoc im_vdg.kx im_vdg.px) (letLoc im_vdg.kz im_vdg.pz) noLoc).za = (vLoc L true).za ∧ (stepLoc xa za (letLoc im_vdg.kx im_vdg.px) (letLoc im_vdg.kz im_vdg.pz) noLoc).xb = (vLoc L true).xb ∧ (stepLoc xa za (letLoc im_vdg.kx im_vdg.px) (letLoc im_vdg.kz im_vdg.pz) noLoc).zb = (vLoc L true).zb) := by decide
theorem turn_vdg {p : PauD} {a : Int} (hp : PauV p) (ha : 0 ≤ a ∧ a < p.n) : turnK (img1 im_vdg p.n a) p p.n.toNat = (vS p a true) := by
  obtain ⟨p1, p2, _, _, pe⟩ := pauV_iff.1 hp
  obtain ⟨a, rfl⟩ := Int.eq_ofNat_of_zero_le ha.1
  have h1 := turnK_view hp (by omega) (img1_at (t := im_vdg) ⟨by decide, by decide, by decide, by decide⟩ p2 ha.2) p.n.toNat (by omega)
  rw [locAt_a _ _ a 64 p.n.toNat (by omega) (by omega)] at h1
  have v := View.start hp a 64
  obtain ⟨b1, b2⟩ := pe 64 (by omega)
  have h2 := locs_vdg (p.x.testBit a) (p.z.testBit a) (p.x.testBit 64) (p.z.testBit 64) b1 b2
  exact h1.same (v.v (by omega) true) h2
theorem turnT_vdg {p : PauD} {a : Int} (hp : PauV p) (ha : 0 ≤ a ∧ a < p.n) : Fn Try.prog 18 [pauT p, strT ⟨#[118, 100, 103]⟩, .sl 1 [[intT a]]] (fun r => r = pauT (vS p a true)) := by
  obtain ⟨p1, p2, _⟩ := pauV_iff.1 hp
  have h := turnPrimT hp parts_vdg (fun j x h0 h1 => image_vdg p2 ha ⟨h0, h1⟩ x) (by
    obtain ⟨a, rfl⟩ := Int.eq_ofNat_of_zero_le ha.1
    exact (img1_at (t := im_vdg) ⟨by decide, by decide, by decide, by decide⟩ p2 ha.2).v)
  rw [turn_vdg hp ha] at h
  exact h
theorem locs_cx : ∀ xa za xb zb : Bool, let L : Loc := ⟨0, xa, za, xb, zb⟩
    ; ((stepLoc xb zb ⟨0, false, false, true, false⟩ ⟨0, false, true, false, true⟩ (stepLoc xa za ⟨0, true, false, true, false⟩ ⟨0, false, true, false, false⟩ noLoc)).ph % 4 = (cxLoc L).ph % 4 ∧ (stepLoc xb zb ⟨0, false, false, true, false⟩ ⟨0, false, true, false, true⟩ (stepLoc xa za ⟨0, true, false, true, false⟩ ⟨0, false, true, false, false⟩ noLoc)).xa = (cxLoc L).xa ∧ (stepLoc xb zb ⟨0, false, false, true, false⟩ ⟨0, false, true, false, true⟩ (stepLoc xa za ⟨0, true, false, true, false⟩ ⟨0, false, true, false, false⟩ noLoc)).za = (cxLoc L).za ∧ (stepLoc xb zb ⟨0, false, false, true, false⟩ ⟨0, false, true, false, true⟩ (stepLoc xa za ⟨0, true, false, true, false⟩ ⟨0, false, true, false, false⟩ noLoc)).xb = (cxLoc L).xb ∧ (stepLoc xb zb ⟨0, false, false, true, false⟩ ⟨0, false, true, false, true⟩ (stepLoc xa za ⟨0, true, false, true, false⟩ ⟨0, false, true, false, false⟩ noLoc)).zb = (cxLoc L).zb) ∧
    ((stepLoc xa za ⟨0, true, false, true, false⟩ ⟨0, false, true, false, false⟩ (stepLoc xb zb ⟨0, false, false, true, false⟩ ⟨0, false, true, false, true⟩ noLoc)).ph % 4 = (cxLoc L).ph % 4 ∧ (stepLoc xa za ⟨0, true, false, true, false⟩ ⟨0, false, true, false, false⟩ (stepLoc xb zb ⟨0, false, false, true, false⟩ ⟨0, false, true, false, true⟩ noLoc)).xa = (cxLoc L).xa ∧ (stepLoc xa za ⟨0, true, false, true, false⟩ ⟨0, false, true, false, false⟩ (stepLoc xb zb ⟨0, false, false, true, false⟩ ⟨0, false, true, false, true⟩ noLoc)).za = (cxLoc L).za ∧ (stepLoc xa za ⟨0, true, false, true, false⟩ ⟨0, false, true, false, false⟩ (stepLoc xb zb ⟨0, false, false, true, false⟩ ⟨0, false, true, false, true⟩ noLoc)).xb = (cxLoc L).xb ∧ (stepLoc xa za ⟨0, true, false, true, false⟩ ⟨0, false, true, false, false⟩ (stepLoc xb zb ⟨0, false, false, true, false⟩ ⟨0, false, true, false, true⟩ noLoc)).zb = (cxLoc L).zb) := by decide
theorem turn_cx {p : PauD} {a b : Int} (hp : PauV p) (ha : 0 ≤ a ∧ a < p.n) (hb : 0 ≤ b ∧ b < p.n) (hab : a ≠ b) : turnK (img2 0 p.n a b) p p.n.toNat = (cxS p a b) := by
  obtain ⟨p1, p2, _⟩ := pauV_iff.1 hp
  obtain ⟨a, rfl⟩ := Int.eq_ofNat_of_zero_le ha.1
  obtain ⟨b, rfl⟩ := Int.eq_ofNat_of_zero_le hb.1
  have hab : a ≠ b := fun h => hab (by rw [h])
  have h1 := turnK_view hp hab (img2_at_cx p2 hab ha.2 hb.2) p.n.toNat (by omega)
  rw [locAt_ab _ _ a b hab p.n.toNat (by omega) (by omega)] at h1
  have v := View.start hp a b
  have h2 := locs_cx (p.x.testBit a) (p.z.testBit a) (p.x.testBit b) (p.z.testBit b)
  refine h1.same (v.cx hab (by omega) (by omega)) ?_
  split
  · exact h2.1
  · exact h2.2
theorem turnT_cx {p : PauD} {a b : Int} (hp : PauV p) (ha : 0 ≤ a ∧ a < p.n) (hb : 0 ≤ b ∧ b < p.n) (hab : a ≠ b) : Fn Try.prog 18 [pauT p, strT ⟨#[99, 120]⟩, .sl 1 [[intT a], [intT b]]] (fun r => r = pauT (cxS p a b)) := by
  obtain ⟨p1, p2, _⟩ := pauV_iff.1 hp
  have h := turnPrimT hp parts_cx (fun j x h0 h1 => image_cx p2 ha hb hab ⟨h0, h1⟩ x) (by
    obtain ⟨a, rfl⟩ := Int.eq_ofNat_of_zero_le ha.1
    obtain ⟨b, rfl⟩ := Int.eq_ofNat_of_zero_le hb.1
    exact img2_v p2 ha.2 hb.2)
  rw [turn_cx hp ha hb hab] at h
  exact h
theorem locs_cz : ∀ xa za xb zb : Bool, let L : Loc := ⟨0, xa, za, xb, zb⟩
    ; ((stepLoc xb zb ⟨0, false, true, true, false⟩ ⟨0, false, false, false, true⟩ (stepLoc xa za ⟨0, true, false, false, true⟩ ⟨0, false, true, false, false⟩ noLoc)).ph % 4 = (hLoc (cxLoc (hLoc L.swap).swap).swap).swap.ph % 4 ∧ (stepLoc xb zb ⟨0, false, true, true, false⟩ ⟨0, false, false, false, true⟩ (stepLoc xa za ⟨0, true, false, false, true⟩ ⟨0, false, true, false, false⟩ noLoc)).xa = (hLoc (cxLoc (hLoc L.swap).swap).swap).swap.xa ∧ (stepLoc xb zb ⟨0, false, true, true, false⟩ ⟨0, false, false, false, true⟩ (stepLoc xa za ⟨0, true, false, false, true⟩ ⟨0, false, true, false, false⟩ noLoc)).za = (hLoc (cxLoc (hLoc L.swap).swap).swap).swap.za ∧ (stepLoc xb zb ⟨0, false, true, true, false⟩ ⟨0, false, false, false, true⟩ (stepLoc xa za ⟨0, true, false, false, true⟩ ⟨0, false, true, false, false⟩ noLoc)).xb = (hLoc (cxLoc (hLoc L.swap).swap).swap).swap.xb ∧ (stepLoc xb zb ⟨0, false, true, true, false⟩ ⟨0, false, false, false, true⟩ (stepLoc xa za ⟨0, true, false, false, true⟩ ⟨0, false, true, false, false⟩ noLoc)).zb = (hLoc (cxLoc (hLoc L.swap).swap).swap).swap.zb) ∧
    ((stepLoc xa za ⟨0, true, false, false, true⟩ ⟨0, false, true, false, false⟩ (stepLoc xb zb ⟨0, false, true, true, false⟩ ⟨0, false, false, false, true⟩ noLoc)).ph % 4 = (hLoc (cxLoc (hLoc L.swap).swap).swap).swap.ph % 4 ∧ (stepLoc xa za ⟨0, true, false, false, true⟩ ⟨0, false, true, false, false⟩ (stepLoc xb zb ⟨0, false, true, true, false⟩ ⟨0, false, false, false, true⟩ noLoc)).xa = (hLoc (cxLoc (hLoc L.swap).swap).swap).swap.xa ∧ (stepLoc xa za ⟨0, true, false, false, true⟩ ⟨0, false, true, false, false⟩ (stepLoc xb zb ⟨0, false, true, true, false⟩ ⟨0, false, false, false, true⟩ noLoc)).za = (hLoc (cxLoc (hLoc L.swap).swap).swap).swap.za ∧ (stepLoc xa za ⟨0, true, false, false, true⟩ ⟨0, false, true, false, false⟩ (stepLoc xb zb ⟨0, false, true, true, false⟩ ⟨0, false, false, false, true⟩ noLoc)).xb = (hLoc (cxLoc (hLoc L.swap).swap).swap).swap.xb ∧ (stepLoc xa za ⟨0, true, false, false, true⟩ ⟨0, false, true, false, false⟩ (stepLoc xb zb ⟨0, false, true, true, false⟩ ⟨0, false, false, false, true⟩ noLoc)).zb = (hLoc (cxLoc (hLoc L.swap).swap).swap).swap.zb) := by decide
theorem turn_cz {p : PauD} {a b : Int} (hp : PauV p) (ha : 0 ≤ a ∧ a < p.n) (hb : 0 ≤ b ∧ b < p.n) (hab : a ≠ b) : turnK (img2 1 p.n a b) p p.n.toNat = (hS (cxS (hS p b) a b) b) := by
  obtain ⟨p1, p2, _⟩ := pauV_iff.1 hp
  obtain ⟨a, rfl⟩ := Int.eq_ofNat_of_zero_le ha.1
  obtain ⟨b, rfl⟩ := Int.eq_ofNat_of_zero_le hb.1
  have hab : a ≠ b := fun h => hab (by rw [h])
  have h1 := turnK_view hp hab (img2_at_cz p2 hab ha.2 hb.2) p.n.toNat (by omega)
  rw [locAt_ab _ _ a b hab p.n.toNat (by omega) (by omega)] at h1
  have v := View.start hp a b
  have h2 := locs_cz (p.x.testBit a) (p.z.testBit a) (p.x.testBit b) (p.z.testBit b)
  refine h1.same (((((((v.swap hab).h (by omega)).swap (Ne.symm hab)).cx hab (by omega) (by omega)).swap hab).h (by omega)).swap (Ne.symm hab)) ?_
  split
  · exact h2.1
  · exact h2.2
theorem turnT_cz {p : PauD} {a b : Int} (hp : PauV p) (ha : 0 ≤ a ∧ a < p.n) (hb : 0 ≤ b ∧ b < p.n) (hab : a ≠ b) : Fn Try.prog 18 [pauT p, strT ⟨#[99, 122]⟩, .sl 1 [[intT a], [intT b]]] (fun r => r = pauT (hS (cxS (hS p b) a b) b)) := by
  obtain ⟨p1, p2, _⟩ := pauV_iff.1 hp
  have h := turnPrimT hp parts_cz (fun j x h0 h1 => image_cz p2 ha hb hab ⟨h0, h1⟩ x) (by
    obtain ⟨a, rfl⟩ := Int.eq_ofNat_of_zero_le ha.1
    obtain ⟨b, rfl⟩ := Int.eq_ofNat_of_zero_le hb.1
    exact img2_v p2 ha.2 hb.2)
  rw [turn_cz hp ha hb hab] at h
  exact h
theorem locs_swap : ∀ xa za xb zb : Bool, let L : Loc := ⟨0, xa, za, xb, zb⟩
    ; ((stepLoc xb zb ⟨0, true, false, false, false⟩ ⟨0, false, true, false, false⟩ (stepLoc xa za ⟨0, false, false, true, false⟩ ⟨0, false, false, false, true⟩ noLoc)).ph % 4 = (cxLoc (cxLoc (cxLoc L).swap).swap).ph % 4 ∧ (stepLoc xb zb ⟨0, true, false, false, false⟩ ⟨0, false, true, false, false⟩ (stepLoc xa za ⟨0, false, false, true, false⟩ ⟨0, false, false, false, true⟩ noLoc)).xa = (cxLoc (cxLoc (cxLoc L).swap).swap).xa ∧ (stepLoc xb zb ⟨0, true, false, false, false⟩ ⟨0, false, true, false, false⟩ (stepLoc xa za ⟨0, false, false, true, false⟩ ⟨0, false, false, false, true⟩ noLoc)).za = (cxLoc (cxLoc (cxLoc L).swap).swap).za ∧ (stepLoc xb zb ⟨0, true, false, false, false⟩ ⟨0, false, true, false, false⟩ (stepLoc xa za ⟨0, false, false, true, false⟩ ⟨0, false, false, false, true⟩ noLoc)).xb = (cxLoc (cxLoc (cxLoc L).swap).swap).xb ∧ (stepLoc xb zb ⟨0, true, false, false, false⟩ ⟨0, false, true, false, false⟩ (stepLoc xa za ⟨0, false, false, true, false⟩ ⟨0, false, false, false, true⟩ noLoc)).zb = (cxLoc (cxLoc (cxLoc L).swap).swap).zb) ∧
    ((stepLoc xa za ⟨0, false, false, true, false⟩ ⟨0, false, false, false, true⟩ (stepLoc xb zb ⟨0, true, false, false, false⟩ ⟨0, false, true, false, false⟩ noLoc)).ph % 4 = (cxLoc (cxLoc (cxLoc L).swap).swap).ph % 4 ∧ (stepLoc xa za ⟨0, false, false, true, false⟩ ⟨0, false, false, false, true⟩ (stepLoc xb zb ⟨0, true, false, false, false⟩ ⟨0, false, true, false, false⟩ noLoc)).xa = (cxLoc (cxLoc (cxLoc L).swap).swap).xa ∧ (stepLoc xa za ⟨0, false, false, true, false⟩ ⟨0, false, false, false, true⟩ (stepLoc xb zb ⟨0, true, false, false, false⟩ ⟨0, false, true, false, false⟩ noLoc)).za = (cxLoc (cxLoc (cxLoc L).swap).swap).za ∧ (stepLoc xa za ⟨0, false, false, true, false⟩ ⟨0, false, false, false, true⟩ (stepLoc xb zb ⟨0, true, false, false, false⟩ ⟨0, false, true, false, false⟩ noLoc)).xb = (cxLoc (cxLoc (cxLoc L).swap).swap).xb ∧ (stepLoc xa za ⟨0, false, false, true, false⟩ ⟨0, false, false, false, true⟩ (stepLoc xb zb ⟨0, true, false, false, false⟩ ⟨0, false, true, false, false⟩ noLoc)).zb = (cxLoc (cxLoc (cxLoc L).swap).swap).zb) := by decide
theorem turn_swap {p : PauD} {a b : Int} (hp : PauV p) (ha : 0 ≤ a ∧ a < p.n) (hb : 0 ≤ b ∧ b < p.n) (hab : a ≠ b) : turnK (img2 2 p.n a b) p p.n.toNat = (cxS (cxS (cxS p a b) b a) a b) := by
  obtain ⟨p1, p2, _⟩ := pauV_iff.1 hp
  obtain ⟨a, rfl⟩ := Int.eq_ofNat_of_zero_le ha.1
  obtain ⟨b, rfl⟩ := Int.eq_ofNat_of_zero_le hb.1
  have hab : a ≠ b := fun h => hab (by rw [h])
  have h1 := turnK_view hp hab (img2_at_swap p2 hab ha.2 hb.2) p.n.toNat (by omega)
  rw [locAt_ab _ _ a b hab p.n.toNat (by omega) (by omega)] at h1
  have v := View.start hp a b
  have h2 := locs_swap (p.x.testBit a) (p.z.testBit a) (p.x.testBit b) (p.z.testBit b)
  refine h1.same (((((v.cx hab (by omega) (by omega)).swap hab).cx (Ne.symm hab) (by omega) (by omega)).swap (Ne.symm hab)).cx hab (by omega) (by omega)) ?_
  split
  · exact h2.1
  · exact h2.2
theorem turnT_swap {p : PauD} {a b : Int} (hp : PauV p) (ha : 0 ≤ a ∧ a < p.n) (hb : 0 ≤ b ∧ b < p.n) (hab : a ≠ b) : Fn Try.prog 18 [pauT p, strT ⟨#[115, 119, 97, 112]⟩, .sl 1 [[intT a], [intT b]]] (fun r => r = pauT (cxS (cxS (cxS p a b) b a) a b)) := by
  obtain ⟨p1, p2, _⟩ := pauV_iff.1 hp
  have h := turnPrimT hp parts_swap (fun j x h0 h1 => image_swap p2 ha hb hab ⟨h0, h1⟩ x) (by
    obtain ⟨a, rfl⟩ := Int.eq_ofNat_of_zero_le ha.1
    obtain ⟨b, rfl⟩ := Int.eq_ofNat_of_zero_le hb.1
    exact img2_v p2 ha.2 hb.2)
  rw [turn_swap hp ha hb hab] at h
  exact h
end Go.Ideal

-- Vm
set_option linter.unusedSimpArgs false
set_option linter.unusedVariables false
namespace Go.Ideal
open Go Go.Proofs Go.RowKit
/-! ### Gates that are made of others (printed by gencomp.py) -/
def strRows (xs : List ByteArray) : List (List Tr) := xs.map fun x => [strT x]
def rowsW (w : Int) (a b : Int) : List (List Tr) := if w = 0 then [[intT a]] else if w = 1 then [[intT b]] else if w = 2 then [[intT a], [intT b]] else [[intT b], [intT a]]
set_option synthInstance.maxSize 4000 in
set_option synthInstance.maxHeartbeats 400000 in
set_option maxHeartbeats 4000000 in
theorem turnCompT {nm : ByteArray} {names : List ByteArray} {which : List Int} {p : PauD} {a b : Int} (hparts : Fn Try.prog 32 [strT nm] (fun r => r = .tup [.sl 1 (strRows names), .sl 1 (intRows which)]))
    (hl : which.length = names.length) (h0 : 0 < names.length) (h9 : names.length < 9) (st : Nat → PauD) (hs0 : st 0 = p)
    (hst : ∀ i s w, names[i]? = some s → which[i]? = some w → (w = 0 ∨ w = 1 ∨ w = 2 ∨ w = 3) ∧ Fn Try.prog 18 [pauT (st i), strT s, .sl 1 (rowsW w a b)] (fun r => r = pauT (st (i + 1)))) :
    Fn Try.prog 18 [pauT p, strT nm, .sl 1 [[intT a], [intT b]]] (fun r => r = pauT (st names.length)) := by
  refine Fn_of Try.func18 rfl (Nat.le_of_ble_eq_true rfl) (fun X => ?_)
  have hln : (strRows names).length = names.length := by simp [strRows]
  repeat (first | refine StepC.go ?_ | intro _)
  rename_i pp pr
  refine TS_call hparts ?_
  rintro _ rfl
  have d0 : decide ((0 : Int) < ((strRows names).length : Int)) = true := by rw [hln]; simpa using h0
  repeat (first | refine StepC.go ?_ | (refine TV_cond_t ?_ ?_; · first | rfl | assumption))
  refine TV_loop (fun d σ B => ∃ (i : Nat), d = names.length - i ∧ i ≤ names.length ∧ TGet σ 9 (intT i) ∧ TGet σ 7 (.sl 1 (strRows names)) ∧ TGet σ 8 (.sl 1 (intRows which)) ∧ TGet σ 2 (.sl 1 [[intT a], [intT b]]) ∧ TGet σ 3 (ptrT pp) ∧ TGet σ 6 (ptrT pr) ∧
      SubP B [(pp, .cells (pauCs (st i)) 29 true), (pr, .cells [intT 0, u64T 0, u64T 0, intT 0] 29 true)]) names.length
    ⟨0, by omega, by omega, tget_as rfl, inferInstance, inferInstance, inferInstance, inferInstance, inferInstance, by rw [hs0]; infer_instance⟩ ?_
  rintro d σ B ⟨i, rfl, hi, g9, g7, g8, g2, g3, g6, hB⟩
  refine TV_keep _ (p := hB) ?_
  repeat (refine StepC.go ?_)
  rw [hln]
  refine TV_cond ?_ ?_ <;> intro hc
  · have hil : i < names.length := by have := of_decide_eq_true hc; omega
    obtain ⟨s, hs⟩ : ∃ s, names[i]? = some s := ⟨_, List.getElem?_eq_getElem hil⟩
    obtain ⟨w, hw⟩ : ∃ w, which[i]? = some w := ⟨_, List.getElem?_eq_getElem (by omega)⟩
    have ngs : NthG (strRows names) i [strT s] := .map (fun x => [strT x]) hs
    have ngw : NthG (intRows which) i [intT w] := .map (fun x => [intT x]) hw
    obtain ⟨hw4, hcall⟩ := hst i s w hs hw
    rcases hw4 with rfl | rfl | rfl | rfl
    all_goals repeat (first | refine StepC.go ?_ | intro _ | refine TD_take rfl rfl ?_ | refine TD_load rfl rfl ?_ | refine TD_one rfl ?_ | refine FiltT_nil ?_ | refine FiltT_drop rfl ?_ | refine TV_draw (id := 14) (plan := [.take 0, .take 1, .take 2, .take 3, .take 4, .take 5, .one 6, .take 7]) (by kernel_rfl) ?_ | refine TV_draw (id := 8) (plan := [.take 0, .take 1, .take 2, .take 3, .take 4, .take 5, .one 6, .take 7]) (by kernel_rfl) ?_ | refine TV_draw (id := 15) (plan := [.take 0, .take 1, .take 2, .take 3, .take 4, .take 5, .one 6, .one 7]) (by kernel_rfl) ?_ | (refine TV_cond_t ?_ ?_; · first | rfl | assumption) | (refine TV_cond_f ?_ ?_; · first | rfl | assumption))
    all_goals refine TS_callE hcall ?_
    all_goals repeat (first | refine StepC.go ?_ | (refine TS_puw (Pu.addi ?_) ?_; · omega) | refine TD_one rfl ?_ | refine FiltT_nil ?_)
    all_goals refine ⟨_, ?_, i + 1, rfl, by omega, tget_as rfl, inferInstance, inferInstance, inferInstance, inferInstance, inferInstance, inferInstance⟩
    all_goals omega
  · have hil : i = names.length := by have := of_decide_eq_false hc; omega
    subst hil
    repeat (refine StepC.go ?_)
    exact retT_1 (.inr rfl) rfl
theorem parts_cy : Fn Try.prog 32 [strT (⟨#[99, 121]⟩ : ByteArray)] (fun r => r = .tup [.sl 1 (strRows [(⟨#[115, 100, 103]⟩ : ByteArray), (⟨#[99, 120]⟩ : ByteArray), (⟨#[115]⟩ : ByteArray)]), .sl 1 (intRows [1, 2, 1])]) := by
  refine Fn_of Try.func32 rfl (Nat.le_of_ble_eq_true rfl) (fun X => ?_)
  repeat (first | refine StepC.go ?_ | intro _ | (refine TV_cond_t ?_ ?_; · first | rfl | assumption))
  exact retT_2 (.inr rfl) rfl
theorem turnT_cy {p : PauD} {a b : Int} (hp : PauV p) (ha : 0 ≤ a ∧ a < p.n) (hb : 0 ≤ b ∧ b < p.n) (hab : a ≠ b) : Fn Try.prog 18 [pauT p, strT (⟨#[99, 121]⟩ : ByteArray), .sl 1 [[intT a], [intT b]]] (fun r => r = pauT (sS (cxS (sS p b true) a b) b false)) := by
  have v1 : PauV (sS p b true) := sS_v hp (by simpa only [hS_n, sS_n, cxS_n] using hb) _
  have v2 : PauV (cxS (sS p b true) a b) := cxS_v v1 (by simpa only [hS_n, sS_n, cxS_n] using ha) (by simpa only [hS_n, sS_n, cxS_n] using hb)
  have v3 : PauV (sS (cxS (sS p b true) a b) b false) := sS_v v2 (by simpa only [hS_n, sS_n, cxS_n] using hb) _
  refine turnCompT parts_cy rfl (by decide) (by decide) (fun i => match i with | 0 => p | 1 => (sS p b true) | 2 => (cxS (sS p b true) a b) | _ => (sS (cxS (sS p b true) a b) b false)) rfl (fun i s w h1 h2 => ?_)
  match i with
  | 0 =>
    simp only [List.getElem?_cons_zero, List.getElem?_cons_succ, Option.some.injEq] at h1 h2
    subst h1; subst h2
    exact ⟨by decide, turnT_sdg hp (by simpa only [hS_n, sS_n, cxS_n] using hb)⟩
  | 1 =>
    simp only [List.getElem?_cons_zero, List.getElem?_cons_succ, Option.some.injEq] at h1 h2
    subst h1; subst h2
    exact ⟨by decide, turnT_cx v1 (by simpa only [hS_n, sS_n, cxS_n] using ha) (by simpa only [hS_n, sS_n, cxS_n] using hb) hab⟩
  | 2 =>
    simp only [List.getElem?_cons_zero, List.getElem?_cons_succ, Option.some.injEq] at h1 h2
    subst h1; subst h2
    exact ⟨by decide, turnT_s v2 (by simpa only [hS_n, sS_n, cxS_n] using hb)⟩
  | n + 3 => simp at h1
theorem parts_iswap : Fn Try.prog 32 [strT (⟨#[105, 115, 119, 97, 112]⟩ : ByteArray)] (fun r => r = .tup [.sl 1 (strRows [(⟨#[115]⟩ : ByteArray), (⟨#[115]⟩ : ByteArray), (⟨#[104]⟩ : ByteArray), (⟨#[99, 120]⟩ : ByteArray), (⟨#[99, 120]⟩ : ByteArray), (⟨#[104]⟩ : ByteArray)]), .sl 1 (intRows [0, 1, 0, 2, 3, 1])]) := by
  refine Fn_of Try.func32 rfl (Nat.le_of_ble_eq_true rfl) (fun X => ?_)
  repeat (first | refine StepC.go ?_ | intro _ | (refine TV_cond_t ?_ ?_; · first | rfl | assumption) | (refine TV_cond_f ?_ ?_; · first | rfl | assumption))
  exact retT_2 (.inr rfl) rfl
theorem turnT_iswap {p : PauD} {a b : Int} (hp : PauV p) (ha : 0 ≤ a ∧ a < p.n) (hb : 0 ≤ b ∧ b < p.n) (hab : a ≠ b) : Fn Try.prog 18 [pauT p, strT (⟨#[105, 115, 119, 97, 112]⟩ : ByteArray), .sl 1 [[intT a], [intT b]]] (fun r => r = pauT (hS (cxS (cxS (hS (sS (sS p a false) b false) a) a b) b a) b)) := by
  have v1 : PauV (sS p a false) := sS_v hp (by simpa only [hS_n, sS_n, cxS_n] using ha) _
  have v2 : PauV (sS (sS p a false) b false) := sS_v v1 (by simpa only [hS_n, sS_n, cxS_n] using hb) _
  have v3 : PauV (hS (sS (sS p a false) b false) a) := hS_v v2 (by simpa only [hS_n, sS_n, cxS_n] using ha)
  have v4 : PauV (cxS (hS (sS (sS p a false) b false) a) a b) := cxS_v v3 (by simpa only [hS_n, sS_n, cxS_n] using ha) (by simpa only [hS_n, sS_n, cxS_n] using hb)
  have v5 : PauV (cxS (cxS (hS (sS (sS p a false) b false) a) a b) b a) := cxS_v v4 (by simpa only [hS_n, sS_n, cxS_n] using hb) (by simpa only [hS_n, sS_n, cxS_n] using ha)
  have v6 : PauV (hS (cxS (cxS (hS (sS (sS p a false) b false) a) a b) b a) b) := hS_v v5 (by simpa only [hS_n, sS_n, cxS_n] using hb)
  refine turnCompT parts_iswap rfl (by decide) (by decide) (fun i => match i with | 0 => p | 1 => (sS p a false) | 2 => (sS (sS p a false) b false) | 3 => (hS (sS (sS p a false) b false) a) | 4 => (cxS (hS (sS (sS p a false) b false) a) a b) | 5 => (cxS (cxS (hS (sS (sS p a false) b false) a) a b) b a) | _ => (hS (cxS (cxS (hS (sS (sS p a false) b false) a) a b) b a) b)) rfl (fun i s w h1 h2 => ?_)
  match i with
  | 0 =>
    simp only [List.getElem?_cons_zero, List.getElem?_cons_succ, Option.some.injEq] at h1 h2
    subst h1; subst h2
    exact ⟨by decide, turnT_s hp (by simpa only [hS_n, sS_n, cxS_n] using ha)⟩
  | 1 =>
    simp only [List.getElem?_cons_zero, List.getElem?_cons_succ, Option.some.injEq] at h1 h2
    subst h1; subst h2
    exact ⟨by decide, turnT_s v1 (by simpa only [hS_n, sS_n, cxS_n] using hb)⟩
  | 2 =>
    simp only [List.getElem?_cons_zero, List.getElem?_cons_succ, Option.some.injEq] at h1 h2
    subst h1; subst h2
    exact ⟨by decide, turnT_h v2 (by simpa only [hS_n, sS_n, cxS_n] using ha)⟩
  | 3 =>
    simp only [List.getElem?_cons_zero, List.getElem?_cons_succ, Option.some.injEq] at h1 h2
    subst h1; subst h2
    exact ⟨by decide, turnT_cx v3 (by simpa only [hS_n, sS_n, cxS_n] using ha) (by simpa only [hS_n, sS_n, cxS_n] using hb) hab⟩
  | 4 =>
    simp only [List.getElem?_cons_zero, List.getElem?_cons_succ, Option.some.injEq] at h1 h2
    subst h1; subst h2
    exact ⟨by decide, turnT_cx v4 (by simpa only [hS_n, sS_n, cxS_n] using hb) (by simpa only [hS_n, sS_n, cxS_n] using ha) (Ne.symm hab)⟩
  | 5 =>
    simp only [List.getElem?_cons_zero, List.getElem?_cons_succ, Option.some.injEq] at h1 h2
    subst h1; subst h2
    exact ⟨by decide, turnT_h v5 (by simpa only [hS_n, sS_n, cxS_n] using hb)⟩
  | n + 6 => simp at h1
theorem parts_iswapdg : Fn Try.prog 32 [strT (⟨#[105, 115, 119, 97, 112, 100, 103]⟩ : ByteArray)] (fun r => r = .tup [.sl 1 (strRows [(⟨#[104]⟩ : ByteArray), (⟨#[99, 120]⟩ : ByteArray), (⟨#[99, 120]⟩ : ByteArray), (⟨#[104]⟩ : ByteArray), (⟨#[115, 100, 103]⟩ : ByteArray), (⟨#[115, 100, 103]⟩ : ByteArray)]), .sl 1 (intRows [1, 3, 2, 0, 1, 0])]) := by
  refine Fn_of Try.func32 rfl (Nat.le_of_ble_eq_true rfl) (fun X => ?_)
  repeat (first | refine StepC.go ?_ | intro _ | (refine TV_cond_t ?_ ?_; · first | rfl | assumption) | (refine TV_cond_f ?_ ?_; · first | rfl | assumption))
  exact retT_2 (.inr rfl) rfl
theorem turnT_iswapdg {p : PauD} {a b : Int} (hp : PauV p) (ha : 0 ≤ a ∧ a < p.n) (hb : 0 ≤ b ∧ b < p.n) (hab : a ≠ b) : Fn Try.prog 18 [pauT p, strT (⟨#[105, 115, 119, 97, 112, 100, 103]⟩ : ByteArray), .sl 1 [[intT a], [intT b]]] (fun r => r = pauT (sS (sS (hS (cxS (cxS (hS p b) b a) a b) a) b true) a true)) := by
  have v1 : PauV (hS p b) := hS_v hp (by simpa only [hS_n, sS_n, cxS_n] using hb)
  have v2 : PauV (cxS (hS p b) b a) := cxS_v v1 (by simpa only [hS_n, sS_n, cxS_n] using hb) (by simpa only [hS_n, sS_n, cxS_n] using ha)
  have v3 : PauV (cxS (cxS (hS p b) b a) a b) := cxS_v v2 (by simpa only [hS_n, sS_n, cxS_n] using ha) (by simpa only [hS_n, sS_n, cxS_n] using hb)
  have v4 : PauV (hS (cxS (cxS (hS p b) b a) a b) a) := hS_v v3 (by simpa only [hS_n, sS_n, cxS_n] using ha)
  have v5 : PauV (sS (hS (cxS (cxS (hS p b) b a) a b) a) b true) := sS_v v4 (by simpa only [hS_n, sS_n, cxS_n] using hb) _
  have v6 : PauV (sS (sS (hS (cxS (cxS (hS p b) b a) a b) a) b true) a true) := sS_v v5 (by simpa only [hS_n, sS_n, cxS_n] using ha) _
  refine turnCompT parts_iswapdg rfl (by decide) (by decide) (fun i => match i with | 0 => p | 1 => (hS p b) | 2 => (cxS (hS p b) b a) | 3 => (cxS (cxS (hS p b) b a) a b) | 4 => (hS (cxS (cxS (hS p b) b a) a b) a) | 5 => (sS (hS (cxS (cxS (hS p b) b a) a b) a) b true) | _ => (sS (sS (hS (cxS (cxS (hS p b) b a) a b) a) b true) a true)) rfl (fun i s w h1 h2 => ?_)
  match i with
  | 0 =>
    simp only [List.getElem?_cons_zero, List.getElem?_cons_succ, Option.some.injEq] at h1 h2
    subst h1; subst h2
    exact ⟨by decide, turnT_h hp (by simpa only [hS_n, sS_n, cxS_n] using hb)⟩
  | 1 =>
    simp only [List.getElem?_cons_zero, List.getElem?_cons_succ, Option.some.injEq] at h1 h2
    subst h1; subst h2
    exact ⟨by decide, turnT_cx v1 (by simpa only [hS_n, sS_n, cxS_n] using hb) (by simpa only [hS_n, sS_n, cxS_n] using ha) (Ne.symm hab)⟩
  | 2 =>
    simp only [List.getElem?_cons_zero, List.getElem?_cons_succ, Option.some.injEq] at h1 h2
    subst h1; subst h2
    exact ⟨by decide, turnT_cx v2 (by simpa only [hS_n, sS_n, cxS_n] using ha) (by simpa only [hS_n, sS_n, cxS_n] using hb) hab⟩
  | 3 =>
    simp only [List.getElem?_cons_zero, List.getElem?_cons_succ, Option.some.injEq] at h1 h2
    subst h1; subst h2
    exact ⟨by decide, turnT_h v3 (by simpa only [hS_n, sS_n, cxS_n] using ha)⟩
  | 4 =>
    simp only [List.getElem?_cons_zero, List.getElem?_cons_succ, Option.some.injEq] at h1 h2
    subst h1; subst h2
    exact ⟨by decide, turnT_sdg v4 (by simpa only [hS_n, sS_n, cxS_n] using hb)⟩
  | 5 =>
    simp only [List.getElem?_cons_zero, List.getElem?_cons_succ, Option.some.injEq] at h1 h2
    subst h1; subst h2
    exact ⟨by decide, turnT_sdg v5 (by simpa only [hS_n, sS_n, cxS_n] using ha)⟩
  | n + 6 => simp at h1
end Go.Ideal

-- Vn
set_option linter.unusedSimpArgs false
set_option linter.unusedVariables false
namespace Go.Ideal
open Go Go.Proofs Go.RowKit
/-! ### A string behind a gate (printed by genbyall.py) -/
def byS (nm : ByteArray) (qs : List Int) (p : PauD) : PauD := match qs with
  | [a] => if beqS nm (⟨#[105]⟩ : ByteArray) then p else if beqS nm (⟨#[119]⟩ : ByteArray) then p else if beqS nm (⟨#[119, 100, 103]⟩ : ByteArray) then p else if beqS nm (⟨#[120]⟩ : ByteArray) then (minusS p (btS p.z a)) else if beqS nm (⟨#[121]⟩ : ByteArray) then (minusS p (btS p.x a != btS p.z a)) else if beqS nm (⟨#[122]⟩ : ByteArray) then (minusS p (btS p.x a)) else if beqS nm (⟨#[104]⟩ : ByteArray) then (hS p a) else if beqS nm (⟨#[115]⟩ : ByteArray) then (sS p a false) else if beqS nm (⟨#[115, 100, 103]⟩ : ByteArray) then (sS p a true) else if beqS nm (⟨#[118]⟩ : ByteArray) then (vS p a false) else if beqS nm (⟨#[118, 100, 103]⟩ : ByteArray) then (vS p a true) else p
  | [a, b] => if beqS nm (⟨#[99, 120]⟩ : ByteArray) then (cxS p a b) else if beqS nm (⟨#[99, 122]⟩ : ByteArray) then (hS (cxS (hS p b) a b) b) else if beqS nm (⟨#[115, 119, 97, 112]⟩ : ByteArray) then (cxS (cxS (cxS p a b) b a) a b) else if beqS nm (⟨#[99, 121]⟩ : ByteArray) then (sS (cxS (sS p b true) a b) b false) else if beqS nm (⟨#[105, 115, 119, 97, 112]⟩ : ByteArray) then (hS (cxS (cxS (hS (sS (sS p a false) b false) a) a b) b a) b) else if beqS nm (⟨#[105, 115, 119, 97, 112, 100, 103]⟩ : ByteArray) then (sS (sS (hS (cxS (cxS (hS p b) b a) a b) a) b true) a true) else p
  | _ => p
theorem kOf_mem2 {nm : ByteArray} {e : KE} (h : kOf nm = some e) : e ∈ KT ∧ nm = e.name := by
  unfold kOf at h
  exact ⟨List.mem_of_find?_eq_some h, beqS_iff.1 (by have := List.find?_some h; simpa using this)⟩
theorem cliff_kOf {nm : ByteArray} (h : cliffS nm = true) : ∃ e, kOf nm = some e ∧ e.cliff = true := by
  unfold cliffS at h
  split at h
  · exact ⟨_, by assumption, h⟩
  · cases h
/-- what is asked of a gate on qubits -/
structure GateOk (nm : ByteArray) (qs : List Int) (n : Int) : Prop where
  cliff : cliffS nm = true
  len : (qs.length : Int) = arityS nm
  rng : ∀ q ∈ qs, 0 ≤ q ∧ q < n
  nd : qs.Nodup
theorem byAll {p : PauD} {nm : ByteArray} {qs : List Int} (hp : PauV p) (h : GateOk nm qs p.n) :
    Fn Try.prog 24 [pauT p, strT nm, .sl 1 (intRows qs)] (fun r => r = pauT (byS nm qs p)) ∧ Fn Try.prog 18 [pauT p, strT nm, .sl 1 (intRows qs)] (fun r => r = pauT (byS nm qs p)) ∧ PauV (byS nm qs p) ∧ (byS nm qs p).n = p.n := by
  obtain ⟨e, h1, h2⟩ := cliff_kOf h.cliff
  obtain ⟨h3, rfl⟩ := kOf_mem2 h1
  have hl := h.len
  unfold arityS at hl
  rw [h1] at hl
  simp only at hl
  have hr := h.rng
  have hd := h.nd
  clear h h1
  have key1 : e.arity = 1 → ∃ a, qs = [a] ∧ 0 ≤ a ∧ a < p.n := fun h => by
    match qs, hl with
    | [a], _ => exact ⟨a, rfl, hr a (by simp)⟩
    | [], hl => simp only [List.length_nil] at hl; omega
    | a :: b :: c, hl => simp only [List.length_cons] at hl; omega
  have key2 : e.arity = 2 → ∃ a b, qs = [a, b] ∧ (0 ≤ a ∧ a < p.n) ∧ (0 ≤ b ∧ b < p.n) ∧ a ≠ b := fun h => by
    match qs, hl with
    | [a, b], _ => exact ⟨a, b, rfl, hr a (by simp), hr b (by simp), fun hab => by simp [hab] at hd⟩
    | [], hl => simp only [List.length_nil] at hl; omega
    | [a], hl => simp only [List.length_cons, List.length_nil] at hl; omega
    | a :: b :: c :: d, hl => simp only [List.length_cons] at hl; omega
  simp only [KT, List.mem_cons, List.not_mem_nil, or_false] at h3
  rcases h3 with rfl | rfl | rfl | rfl | rfl | rfl | rfl | rfl | rfl | rfl | rfl | rfl | rfl | rfl | rfl | rfl | rfl | rfl | rfl | rfl | rfl | rfl | rfl | rfl | rfl
  · obtain ⟨a, rfl, ha⟩ := key1 rfl
    exact ⟨byT_i hp.g ha.1, turnT_i hp ha, hp, by show p.n = p.n; simp only [minusS_n, hS_n, sS_n, vS_n]⟩
  · obtain ⟨a, rfl, ha⟩ := key1 rfl
    exact ⟨byT_x hp.g ha.1, turnT_x hp ha, minusS_v hp _, by show (minusS p (btS p.z a)).n = p.n; simp only [minusS_n, hS_n, sS_n, vS_n]⟩
  · obtain ⟨a, rfl, ha⟩ := key1 rfl
    exact ⟨byT_y hp.g ha.1, turnT_y hp ha, minusS_v hp _, by show (minusS p (btS p.x a != btS p.z a)).n = p.n; simp only [minusS_n, hS_n, sS_n, vS_n]⟩
  · obtain ⟨a, rfl, ha⟩ := key1 rfl
    exact ⟨byT_z hp.g ha.1, turnT_z hp ha, minusS_v hp _, by show (minusS p (btS p.x a)).n = p.n; simp only [minusS_n, hS_n, sS_n, vS_n]⟩
  · obtain ⟨a, rfl, ha⟩ := key1 rfl
    exact ⟨byT_h hp.g ha.1, turnT_h hp ha, hS_v hp ha, by show (hS p a).n = p.n; simp only [minusS_n, hS_n, sS_n, vS_n]⟩
  · obtain ⟨a, rfl, ha⟩ := key1 rfl
    exact ⟨byT_s hp.g ha.1, turnT_s hp ha, sS_v hp ha _, by show (sS p a false).n = p.n; simp only [minusS_n, hS_n, sS_n, vS_n]⟩
  · obtain ⟨a, rfl, ha⟩ := key1 rfl
    exact ⟨byT_sdg hp.g ha.1, turnT_sdg hp ha, sS_v hp ha _, by show (sS p a true).n = p.n; simp only [minusS_n, hS_n, sS_n, vS_n]⟩
  · cases h2
  · cases h2
  · obtain ⟨a, rfl, ha⟩ := key1 rfl
    exact ⟨byT_v hp.g ha.1, turnT_v hp ha, vS_v hp ha _, by show (vS p a false).n = p.n; simp only [minusS_n, hS_n, sS_n, vS_n]⟩
  · obtain ⟨a, rfl, ha⟩ := key1 rfl
    exact ⟨byT_vdg hp.g ha.1, turnT_vdg hp ha, vS_v hp ha _, by show (vS p a true).n = p.n; simp only [minusS_n, hS_n, sS_n, vS_n]⟩
  · obtain ⟨a, rfl, ha⟩ := key1 rfl
    exact ⟨byT_w hp.g ha.1, turnT_w hp ha, hp, by show p.n = p.n; simp only [minusS_n, hS_n, sS_n, vS_n]⟩
  · obtain ⟨a, rfl, ha⟩ := key1 rfl
    exact ⟨byT_wdg hp.g ha.1, turnT_wdg hp ha, hp, by show p.n = p.n; simp only [minusS_n, hS_n, sS_n, vS_n]⟩
  · obtain ⟨a, b, rfl, ha, hb, hab⟩ := key2 rfl
    exact ⟨byT_cx hp.g ha.1 hb.1, turnT_cx hp ha hb hab, (cxS_v hp (by simpa only [hS_n, sS_n, cxS_n] using ha) (by simpa only [hS_n, sS_n, cxS_n] using hb)), by show (cxS p a b).n = p.n; simp only [hS_n, sS_n, cxS_n]⟩
  · obtain ⟨a, b, rfl, ha, hb, hab⟩ := key2 rfl
    exact ⟨byT_cy hp.g ha.1 hb.1, turnT_cy hp ha hb hab, (sS_v (cxS_v (sS_v hp (by simpa only [hS_n, sS_n, cxS_n] using hb) _) (by simpa only [hS_n, sS_n, cxS_n] using ha) (by simpa only [hS_n, sS_n, cxS_n] using hb)) (by simpa only [hS_n, sS_n, cxS_n] using hb) _), by show (sS (cxS (sS p b true) a b) b false).n = p.n; simp only [hS_n, sS_n, cxS_n]⟩
  · obtain ⟨a, b, rfl, ha, hb, hab⟩ := key2 rfl
    exact ⟨byT_cz hp.g ha.1 hb.1, turnT_cz hp ha hb hab, (hS_v (cxS_v (hS_v hp (by simpa only [hS_n, sS_n, cxS_n] using hb)) (by simpa only [hS_n, sS_n, cxS_n] using ha) (by simpa only [hS_n, sS_n, cxS_n] using hb)) (by simpa only [hS_n, sS_n, cxS_n] using hb)), by show (hS (cxS (hS p b) a b) b).n = p.n; simp only [hS_n, sS_n, cxS_n]⟩
  · cases h2
  · cases h2
  · cases h2
  · obtain ⟨a, b, rfl, ha, hb, hab⟩ := key2 rfl
    exact ⟨byT_swap hp.g ha.1 hb.1, turnT_swap hp ha hb hab, (cxS_v (cxS_v (cxS_v hp (by simpa only [hS_n, sS_n, cxS_n] using ha) (by simpa only [hS_n, sS_n, cxS_n] using hb)) (by simpa only [hS_n, sS_n, cxS_n] using hb) (by simpa only [hS_n, sS_n, cxS_n] using ha)) (by simpa only [hS_n, sS_n, cxS_n] using ha) (by simpa only [hS_n, sS_n, cxS_n] using hb)), by show (cxS (cxS (cxS p a b) b a) a b).n = p.n; simp only [hS_n, sS_n, cxS_n]⟩
  · obtain ⟨a, b, rfl, ha, hb, hab⟩ := key2 rfl
    exact ⟨byT_iswap hp.g ha.1 hb.1, turnT_iswap hp ha hb hab, (hS_v (cxS_v (cxS_v (hS_v (sS_v (sS_v hp (by simpa only [hS_n, sS_n, cxS_n] using ha) _) (by simpa only [hS_n, sS_n, cxS_n] using hb) _) (by simpa only [hS_n, sS_n, cxS_n] using ha)) (by simpa only [hS_n, sS_n, cxS_n] using ha) (by simpa only [hS_n, sS_n, cxS_n] using hb)) (by simpa only [hS_n, sS_n, cxS_n] using hb) (by simpa only [hS_n, sS_n, cxS_n] using ha)) (by simpa only [hS_n, sS_n, cxS_n] using hb)), by show (hS (cxS (cxS (hS (sS (sS p a false) b false) a) a b) b a) b).n = p.n; simp only [hS_n, sS_n, cxS_n]⟩
  · obtain ⟨a, b, rfl, ha, hb, hab⟩ := key2 rfl
    exact ⟨byT_iswapdg hp.g ha.1 hb.1, turnT_iswapdg hp ha hb hab, (sS_v (sS_v (hS_v (cxS_v (cxS_v (hS_v hp (by simpa only [hS_n, sS_n, cxS_n] using hb)) (by simpa only [hS_n, sS_n, cxS_n] using hb) (by simpa only [hS_n, sS_n, cxS_n] using ha)) (by simpa only [hS_n, sS_n, cxS_n] using ha) (by simpa only [hS_n, sS_n, cxS_n] using hb)) (by simpa only [hS_n, sS_n, cxS_n] using ha)) (by simpa only [hS_n, sS_n, cxS_n] using hb) _) (by simpa only [hS_n, sS_n, cxS_n] using ha) _), by show (sS (sS (hS (cxS (cxS (hS p b) b a) a b) a) b true) a true).n = p.n; simp only [hS_n, sS_n, cxS_n]⟩
  · cases h2
  · cases h2
  · cases h2
end Go.Ideal

-- Tj
set_option linter.unusedSimpArgs false
set_option linter.unusedVariables false
namespace Go.Ideal
open Go Go.Proofs Go.RowKit
/-! ### The reference's order of operations -/
end Go.Ideal

-- Tk
set_option linter.unusedSimpArgs false
set_option linter.unusedVariables false
namespace Go.Ideal
open Go Go.Proofs Go.RowKit
/-! ### The reference's steps and layers -/
/-- what an operation that is none at fault is like -/
structure OpG (o : OpD) : Prop where
  qs : ∀ q ∈ o.qs, 0 ≤ q ∧ q < 64
  bit : o.kind = 2 → 0 ≤ o.bit ∧ o.bit < 64
  mask : o.iff = false → o.mask = 0
  w : OpW o
  len : o.qs.length ≤ 3
theorem OpG.p {o : OpD} (h : OpG o) : OpP o := ⟨fun q hq => (h.qs q hq).1, fun hk => (h.bit hk).1, h.w⟩
theorem opG_of {o : OpD} {q b : Int} (h : faultS o q b = 0) (hq : q ≤ 64) (hb : b ≤ 64) (hw : OpW o) : OpG o := by
  have hl := qs_len h
  obtain ⟨h1, _, _, h4, h5, _⟩ := fault_ok h
  refine ⟨fun x hx => ?_, fun hk => ?_, fun hi => ?_, hw, hl⟩
  · have := List.any_eq_false.1 h4 x hx
    simp [outS] at this
    omega
  · simp only [bitBad, hk] at h5
    simp at h5
    omega
  · simp only [shapeBad, Bool.or_eq_false_iff] at h1
    have h2 := h1.1.1.2
    simp only [bad2, hi] at h2
    simp at h2
    exact h2.1
end Go.Ideal

-- Tl
set_option linter.unusedSimpArgs false
set_option linter.unusedVariables false
namespace Go.Ideal
open Go Go.Proofs Go.RowKit
end Go.Ideal

-- Tm
set_option linter.unusedSimpArgs false
set_option linter.unusedVariables false
namespace Go.Ideal
open Go Go.Proofs Go.RowKit
/-! ### The reference's layers; lists that are the same -/
theorem circ_good {c : CircD} (hw : CircW c) (h : (checkC c).2 = 0) : c.ops.length ≤ 4096 ∧ ∀ o ∈ c.ops, OpG o := by
  obtain ⟨hr, hlen, hfl⟩ := checkC_ok h
  obtain ⟨_, hq64, _, hb64⟩ := rangeBad_no hr
  exact ⟨hlen, fun o ho => opG_of (hfl o ho) hq64 hb64 (hw o ho)⟩
end Go.Ideal

-- Tn
set_option linter.unusedSimpArgs false
set_option linter.unusedVariables false
namespace Go.Ideal
open Go Go.Proofs Go.RowKit
/-! ### The same lists, the same circuits -/
set_option synthInstance.maxSize 4000 in
set_option synthInstance.maxHeartbeats 400000 in
set_option maxHeartbeats 4000000 in
theorem sameT {c : CircD} (hs : ∀ o ∈ c.ops, o.qs.length < 2 ^ 40) : Fn Try.prog 11 [circT c, circT c] (fun r => r = boolT true) := by
  refine Fn_of Try.func11 rfl (Nat.le_of_ble_eq_true rfl) (fun X => ?_)
  refine TV_fact 0 (fun F v h => by obtain ⟨w, h1⟩ := rep_agg_at h (i := 2) rfl; exact rep_small h1) fun hsm => ?_
  have hL : (opRows c.ops).length = c.ops.length := by simp [opRows]
  rw [hL] at hsm
  repeat (first | refine StepC.go ?_ | intro _ | (refine TS_on rfl ?_ ?_; · first | rfl | assumption) | (refine TV_cond_f ?_ ?_; · first | rfl | assumption))
  rename_i pa pb
  refine TV_loop (fun d σ B => ∃ i : Nat, d = c.ops.length - i ∧ i ≤ c.ops.length ∧ TGet σ 5 (intT i) ∧ TGet σ 2 (.v (.pointer (some (ad pa 0)))) ∧ TGet σ 3 (.v (.pointer (some (ad pb 0)))) ∧ SubP B [(pa, .cells (circCs c) 24 true), (pb, .cells (circCs c) 24 true)]) c.ops.length
    ⟨0, by omega, by omega, inferInstance, inferInstance, inferInstance, inferInstance⟩ ?_
  rintro d σ B ⟨i, rfl, hi, g5, g2, g3, hB⟩
  refine TV_keep _ (p := hB) ?_
  repeat (refine StepC.go ?_)
  rw [hL]
  refine TV_cond ?_ ?_ <;> intro hc
  · have hil : i < c.ops.length := by simp at hc; omega
    obtain ⟨o, ho⟩ : ∃ o, c.ops[i]? = some o := ⟨_, List.getElem?_eq_getElem hil⟩
    have ng : NthG (opRows c.ops) i (opCs o) := .map opCs ho
    have hL2 : (intRows o.qs).length = o.qs.length := by simp [intRows]
    repeat (first | refine StepC.go ?_ | intro _ | (refine TS_on rfl ?_ ?_; · first | rfl | assumption) | refine TD_take rfl rfl ?_ | refine TD_load rfl rfl ?_ | refine TD_one rfl ?_ | refine FiltT_nil ?_ | refine FiltT_drop rfl ?_ | refine FiltT_keep rfl ?_ | refine TD_virt rfl rfl rfl (fun _ => ?_) | refine TV_draw (id := 6) (plan := [.take 0, .take 1, .take 2, .take 3, .take 4, .take 5, .take 6, .take 7, .take 8, .take 9, .virt 10, .one 11, .one 12, .one 13]) (by kernel_rfl) ?_)
    rename_i px py
    have hbb : (!o.iff == o.iff) = false := by simp
    rw [hbb]
    repeat (first | refine StepC.go ?_ | (refine TS_on rfl ?_ ?_; · first | rfl | assumption) | (refine TV_cond_f ?_ ?_; · first | rfl | assumption))
    refine TV_loop (fun d σ B => ∃ j : Nat, d = o.qs.length - j ∧ j ≤ o.qs.length ∧ TGet σ 8 (intT j) ∧ TGet σ 5 (intT i) ∧ TGet σ 6 (.v (.pointer (some (ad px 0)))) ∧ TGet σ 7 (.v (.pointer (some (ad py 0)))) ∧ TGet σ 2 (.v (.pointer (some (ad pa 0)))) ∧ TGet σ 3 (.v (.pointer (some (ad pb 0)))) ∧ SubP B [(px, .cells (opCs o) 49 true), (py, .cells (opCs o) 49 true), (pa, .cells (circCs c) 24 true), (pb, .cells (circCs c) 24 true)]) o.qs.length
      ⟨0, by omega, by omega, inferInstance, inferInstance, inferInstance, inferInstance, inferInstance, inferInstance, inferInstance⟩ ?_
    rintro d σ B ⟨j, rfl, hj, g8, g5, g6, g7, g2, g3, hB⟩
    refine TV_keep _ (p := hB) ?_
    have hqs := hs o (List.mem_of_getElem? ho)
    repeat (refine StepC.go ?_)
    rw [hL2]
    refine TV_cond ?_ ?_ <;> intro hc2
    · have hjl : j < o.qs.length := by simp at hc2; omega
      obtain ⟨x, hx⟩ : ∃ x, o.qs[j]? = some x := ⟨_, List.getElem?_eq_getElem hjl⟩
      have ngx : NthG (intRows o.qs) j [intT x] := .map (fun x => [intT x]) hx
      repeat (first | refine StepC.go ?_ | (refine TS_puw (Pu.addi ?_) ?_; · omega) | refine TD_take rfl rfl ?_ | refine TD_load rfl rfl ?_ | refine TV_draw (id := 12) (plan := [.take 0, .take 1, .take 2, .take 3, .take 4, .take 5, .take 6, .take 7, .take 8, .take 9, .take 10]) (by kernel_rfl) ?_ | (refine TV_cond_f ?_ ?_; · first | rfl | assumption))
      refine ⟨_, ?_, j + 1, rfl, by omega, inferInstance, inferInstance, inferInstance, inferInstance, inferInstance, inferInstance, inferInstance⟩
      omega
    · repeat (first | refine StepC.go ?_ | (refine TS_puw (Pu.addi ?_) ?_; · omega))
      refine ⟨_, ?_, i + 1, rfl, by omega, inferInstance, inferInstance, inferInstance, inferInstance⟩
      omega
  · repeat (refine StepC.go ?_)
    refine retT_1 (.inr rfl) ?_
    rfl
instance : CallIs Try.prog 11 := .of Try.func11 rfl rfl
end Go.Ideal

-- To
set_option linter.unusedSimpArgs false
set_option linter.unusedVariables false
namespace Go.Ideal
open Go Go.Proofs Go.RowKit
/-! ### A circuit in memory of its own -/
instance : CallIs Try.prog 27 := .of Try.func27 rfl rfl
end Go.Ideal

-- Tp
set_option linter.unusedSimpArgs false
set_option linter.unusedVariables false
namespace Go.Ideal
open Go Go.Proofs Go.RowKit
/-! ### Operations in another order -/
def boolRows (xs : List Bool) : List (List Tr) := xs.map fun x => [boolT x]
instance {xs : List Bool} {i : Nat} {z : Bool} : SetR (boolRows xs) i [boolT z] (boolRows (xs.set i z)) := ⟨by simp [boolRows, List.map_set]⟩
def noOp : OpD := ⟨0, .empty, [], 0, false, 0, 0⟩
def opAt (ops : List OpD) (k : Int) : OpD := ops.getD k.toNat noOp
theorem opAt_get {ops : List OpD} {k : Int} (h : 0 ≤ k ∧ k < ops.length) : ops[k.toNat]? = some (opAt ops k) := by
  unfold opAt
  rw [List.getD, List.getElem?_eq_getElem (by omega)]; rfl
theorem take_succ {α : Type} {l : List α} {i : Nat} {a : α} (h : l[i]? = some a) : l.take (i + 1) = l.take i ++ [a] := by rw [List.take_add_one, h]; rfl
end Go.Ideal

-- Vo
set_option linter.unusedSimpArgs false
set_option linter.unusedVariables false
namespace Go.Ideal
open Go Go.Proofs Go.RowKit
/-! ### Faults -/
structure FltD where
  beh : Int
  q : Int
  kind : Nat
@[reducible] def fltCs (f : FltD) : List Tr := [intT f.beh, intT f.q, u8T f.kind]
def fltRows (fs : List FltD) : List (List Tr) := fs.map fltCs
instance {fs : List FltD} : LenO (fltRows fs) fs.length := ⟨by simp [fltRows]⟩
instance {fs : List FltD} : LenT (fltRows fs) fs.length := ⟨by simp [fltRows]⟩
def kindOk (f : FltD) : Bool := decide ((f.kind : Int) = 88) || decide ((f.kind : Int) = 89) || decide ((f.kind : Int) = 90)
def fltOk (c : CircD) (f : FltD) : Bool := kindOk f && decide (-1 ≤ f.beh) && decide (f.beh < (c.ops.length : Int)) && decide (0 ≤ f.q) && decide (f.q < c.qubits)
def checkF (c : CircD) (fs : List FltD) : Int := if (checkC c).2 = 0 then (if fs.all (fltOk c) then 0 else 2) else (checkC c).2
theorem fltOk_iff {c : CircD} {f : FltD} : fltOk c f = true ↔ (f.kind = 88 ∨ f.kind = 89 ∨ f.kind = 90) ∧ -1 ≤ f.beh ∧ f.beh < c.ops.length ∧ 0 ≤ f.q ∧ f.q < c.qubits := by
  unfold fltOk kindOk
  simp only [Bool.and_eq_true, Bool.or_eq_true, decide_eq_true_eq]
  omega
theorem checkF_ok {c : CircD} {fs : List FltD} (h : checkF c fs = 0) : (checkC c).2 = 0 ∧ ∀ f ∈ fs, fltOk c f = true := by
  unfold checkF at h
  split at h
  · rename_i h1
    split at h
    · rename_i h2; exact ⟨h1, List.all_eq_true.1 h2⟩
    · cases h
  · rename_i h1; exact absurd h h1
theorem all_take {α : Type} {p : α → Bool} {l : List α} {i : Nat} {a : α} (h : l[i]? = some a) (hp : (l.take i).all p = true) : (l.take (i + 1)).all p = p a := by
  rw [List.take_add_one, h, List.all_append, hp]; simp
theorem all_false {α : Type} {p : α → Bool} {l : List α} {i : Nat} {a : α} (h : l[i]? = some a) (hp : p a = false) : l.all p = false := List.all_eq_false.2 ⟨a, List.mem_of_getElem? h, by simp [hp]⟩
set_option maxHeartbeats 2000000 in
theorem checkFT {c : CircD} {fs : List FltD} (hw : CircW c) : Fn Try.prog 12 [circT c, .sl 3 (fltRows fs)] (fun r => r = intT (checkF c fs)) := by
  refine Fn_of Try.func12 rfl (Nat.le_of_ble_eq_true rfl) (fun X => ?_)
  refine TV_fact 1 (fun F v h => rep_small h) fun hsm => ?_
  have hL : (fltRows fs).length = fs.length := by simp [fltRows]
  have hLc : (opRows c.ops).length = c.ops.length := by simp [opRows]
  rw [hL] at hsm
  repeat (first | refine StepC.go ?_ | intro _)
  rename_i p
  refine TS_callE (checkT hw) ?_
  repeat (refine StepC.go ?_)
  refine TV_cond ?_ ?_ <;> intro hc
  · repeat (refine StepC.go ?_)
    refine retT_1 (.inr rfl) ?_
    simp only [tret, checkF]
    rw [if_neg (by simpa using hc)]
  have hck : (checkC c).2 = 0 := by simpa using hc
  repeat (refine StepC.go ?_)
  rw [hL]
  refine TV_loop (fun d σ B => ∃ (i : Nat), d = fs.length - i ∧ i ≤ fs.length ∧ TGet σ 20 (intT i) ∧ TGet σ 19 (intT fs.length) ∧ TGet σ 18 (.sl 3 (fltRows fs)) ∧ TGet σ 2 (ptrT p) ∧ SubP B [(p, .cells (circCs c) 24 true)] ∧ (fs.take i).all (fltOk c) = true) fs.length
    ⟨0, by omega, by omega, tget_as rfl, inferInstance, inferInstance, inferInstance, inferInstance, rfl⟩ ?_
  rintro d σ B ⟨i, rfl, hi, g20, g19, g18, g2, hB, hal⟩
  refine TV_keep _ (p := hB) ?_
  repeat (refine StepC.go ?_)
  refine TV_cond ?_ ?_ <;> intro hc2
  · have hil : i < fs.length := by have := of_decide_eq_true hc2; omega
    obtain ⟨f, hf⟩ : ∃ f, fs[i]? = some f := ⟨_, List.getElem?_eq_getElem hil⟩
    have ngf : NthG (fltRows fs) i (fltCs f) := .map fltCs hf
    have hnx := all_take hf hal
    repeat (first | refine StepC.go ?_ | intro _)
    rename_i pf
    refine TS_cut (fun σ B => TGet σ 9 (boolT (kindOk f)) ∧ TGet σ 20 (intT i) ∧ TGet σ 19 (intT fs.length) ∧ TGet σ 18 (.sl 3 (fltRows fs)) ∧ TGet σ 2 (ptrT p) ∧ TGet σ 8 (ptrT pf) ∧ SubP B [(pf, .cells (fltCs f) 46 true), (p, .cells (circCs c) 24 true)]) ?_ ?_
    · repeat' (first | refine StepC.go ?_ | (refine TS_on rfl ?_ ?_; · first | rfl | assumption) | (refine TS_off rfl ?_ ?_; · first | rfl | assumption) | (refine TS_puw (Pu.pick_t ?_) ?_; · first | rfl | assumption) | (refine TS_guard rfl ?_ ?_ <;> intro hg))
      all_goals exact ⟨tget_as (by simp_all [kindOk]), inferInstance, inferInstance, inferInstance, inferInstance, inferInstance, inferInstance⟩
    clear hB g20 g19 g18 g2
    rintro σ B ⟨g9, g20, g19, g18, g2, g8, hB⟩
    refine TV_keep _ (p := hB) ?_
    repeat (refine StepC.go ?_)
    refine TS_cut (fun σ B => TGet σ 63 (boolT (!fltOk c f)) ∧ TGet σ 20 (intT i) ∧ TGet σ 19 (intT fs.length) ∧ TGet σ 18 (.sl 3 (fltRows fs)) ∧ TGet σ 2 (ptrT p) ∧ SubP B [(p, .cells (circCs c) 24 true)]) ?_ ?_
    · repeat' (first | refine StepC.go ?_ | (refine TS_on rfl ?_ ?_; · first | rfl | assumption) | (refine TS_off rfl ?_ ?_; · first | rfl | assumption) | (refine TS_puw (Pu.pick_t ?_) ?_; · first | rfl | assumption) | (refine TS_guard rfl ?_ ?_ <;> intro hg))
      all_goals refine ⟨tget_as (congrArg (fun b => boolT b) ?_), inferInstance, inferInstance, inferInstance, inferInstance, inferInstance⟩
      all_goals (rw [Bool.eq_iff_iff]; simp only [hLc, fltOk, Bool.if_true_left, Bool.if_false_right, Bool.and_eq_true, Bool.and_eq_false_iff, Bool.not_eq_true', Bool.or_eq_true, Bool.or_eq_false_iff, decide_eq_true_eq, decide_eq_false_iff_not, Bool.not_eq_false', Bool.not_false, Bool.not_true, true_iff, false_iff, Bool.decide_eq_true] at * <;> grind)
    clear hB g20 g19 g18 g2 g8 g9
    rintro σ B ⟨g63, g20, g19, g18, g2, hB⟩
    refine TV_keep _ (p := hB) ?_
    cases hfo : fltOk c f with
    | false =>
      rw [hfo] at g63
      repeat (first | refine StepC.go ?_ | (refine TV_cond_t ?_ ?_; · first | rfl | assumption))
      refine retT_1 (.inr rfl) ?_
      simp only [tret, checkF]
      rw [if_pos hck, all_false hf hfo]; rfl
    | true =>
      rw [hfo] at g63 hnx
      repeat (first | refine StepC.go ?_ | (refine TS_puw (Pu.addi ?_) ?_; · omega) | (refine TV_cond_f ?_ ?_; · first | rfl | assumption))
      refine ⟨_, ?_, i + 1, rfl, by omega, tget_as rfl, inferInstance, inferInstance, inferInstance, inferInstance, hnx⟩
      omega
  · have hil : i = fs.length := by have := of_decide_eq_false hc2; omega
    rw [hil, List.take_length] at hal
    repeat (refine StepC.go ?_)
    refine retT_1 (.inr rfl) ?_
    simp only [tret, checkF]
    rw [if_pos hck, if_pos hal]
instance : CallIs Try.prog 12 := .of Try.func12 rfl rfl
end Go.Ideal

-- Vp
set_option linter.unusedSimpArgs false
set_option linter.unusedVariables false
namespace Go.Ideal
open Go Go.Proofs Go.RowKit
/-! ### Faults by the operation behind which they strike -/
def fltAt (fs : List FltD) (k : Nat) : List FltD := fs.filter fun f => decide (f.beh + 1 = (k : Int))
def behS (fs : List FltD) (n : Nat) : List (List FltD) := (List.range n).map (fltAt fs)
def fltLs (ls : List (List FltD)) : List (List Tr) := ls.map fun l => [.sl 3 (fltRows l)]
theorem fltRows_app (a b : List FltD) : fltRows (a ++ b) = fltRows a ++ fltRows b := by simp [fltRows]
def fltB (e : Nat) (fam : List (Nat × List FltD)) : Boxes := fam.map fun x => (x.1, .arr 3 (fltRows x.2) e false)
def fltR (fam : List (Nat × List FltD)) : List (List Tr) := fam.map fun x => [.v (gsv x.1 x.2.length)]
theorem fltB_is {e : Nat} {fam : List (Nat × List FltD)} {k b : Nat} {l : List FltD} (h : fam[k]? = some (b, l)) : BoxIs (fltB e fam) b (.arr 3 (fltRows l) e false) := ⟨List.mem_map.2 ⟨(b, l), List.mem_of_getElem? h, rfl⟩⟩
theorem fltB_in {e : Nat} {fam : List (Nat × List FltD)} {k b : Nat} {l : List FltD} (h : fam[k]? = some (b, l)) : InKeys (fltB e fam) b := ⟨List.mem_map.2 ⟨(b, .arr 3 (fltRows l) e false), (fltB_is h).mem, rfl⟩⟩
theorem fltB_put {e : Nat} {fam : List (Nat × List FltD)} {k b : Nat} {l l2 : List FltD} (h : fam[k]? = some (b, l)) (b' : Nat) : BoxPut (fltB e fam) b b' (.arr 3 (fltRows l ++ fltRows l2) e false) (fltB e (fam.set k (b', l ++ l2))) := ⟨by
  have hk := (List.getElem?_eq_some_iff.1 h).1
  have hd := drop_cons h
  refine ⟨fltB e (fam.take k), .arr 3 (fltRows l) e false, fltB e (fam.drop (k + 1)), ?_, ?_⟩
  · conv => lhs; rw [← List.take_append_drop k fam, hd]
    simp [fltB]
  · rw [List.set_eq_take_append_cons_drop, if_pos hk]
    simp [fltB, fltRows_app]⟩
theorem fltR_at {fam : List (Nat × List FltD)} {k b : Nat} {l : List FltD} (h : fam[k]? = some (b, l)) : NthG (fltR fam) k [.v (gsv b l.length)] := ⟨by simp [fltR, h]⟩
instance {fam : List (Nat × List FltD)} : LenO (fltR fam) fam.length := ⟨by simp [fltR]⟩
instance {fam : List (Nat × List FltD)} : LenT (fltR fam) fam.length := ⟨by simp [fltR]⟩
theorem fltR_frz {B : Boxes} {e : Nat} {fam : List (Nat × List FltD)} (hb : ∀ x ∈ fam, BoxIs B x.1 (.arr 3 (fltRows x.2) e false)) (hs : ∀ x ∈ fam, x.2.length < 2 ^ 63) : FrzR B (fltR fam) (fltLs (fam.map Prod.snd)) := ⟨by simp [fltR, fltLs], fun i row hr => by
  simp only [fltR, List.getElem?_map, Option.map_eq_some_iff] at hr
  obtain ⟨x, hx, rfl⟩ := hr
  have hm := List.mem_of_getElem? hx
  have := hb x hm
  have : Sm63 x.2.length := ⟨hs x hm⟩
  refine ⟨[.sl 3 (fltRows x.2)], by simp [fltLs, hx], ?_⟩
  have : FrzL B [.v (gsv x.1 x.2.length)] [.sl 3 (fltRows x.2)] := inferInstance
  exact this.eq⟩
theorem behS_snoc (fs : List FltD) (f : FltD) {n k : Nat} (hf : f.beh + 1 = (k : Int)) (hk : k < n) : behS (fs ++ [f]) n = (behS fs n).set k (fltAt fs k ++ [f]) := by
  refine List.ext_getElem? fun i => ?_
  unfold behS
  by_cases hi : i < n
  · rw [List.getElem?_map, List.getElem?_range hi, Option.map_some]
    by_cases h : k = i
    · subst h
      rw [List.getElem?_set_self (by simpa using hk)]
      simp [fltAt, List.filter_append, hf]
    · rw [List.getElem?_set_ne h, List.getElem?_map, List.getElem?_range hi, Option.map_some]
      have : ¬ f.beh + 1 = (i : Int) := by omega
      simp [fltAt, List.filter_append, this]
  · rw [List.getElem?_eq_none (by simp; omega), List.getElem?_eq_none (by simp; omega)]
theorem behS_at (fs : List FltD) {n k : Nat} (hk : k < n) : (behS fs n)[k]? = some (fltAt fs k) := by unfold behS; rw [List.getElem?_map, List.getElem?_range hk]; rfl
theorem fltAt_len (fs : List FltD) (k : Nat) : (fltAt fs k).length ≤ fs.length := List.length_filter_le _ _
set_option synthInstance.maxSize 4000 in
set_option synthInstance.maxHeartbeats 400000 in
set_option maxHeartbeats 4000000 in
theorem behindT {c : CircD} {fs : List FltD} (hlen : c.ops.length ≤ 4096) (hfl : 24 * fs.length ≤ 2 ^ 47 + 2 ^ 20) (hok : ∀ f ∈ fs, fltOk c f = true) : Fn Try.prog 22 [circT c, .sl 3 (fltRows fs)] (fun r => r = .sl 1 (fltLs (behS fs (c.ops.length + 1)))) := by
  refine Fn_of Try.func22 rfl (Nat.le_of_ble_eq_true rfl) (fun X => ?_)
  have hL : (fltRows fs).length = fs.length := by simp [fltRows]
  have hLc : (opRows c.ops).length = c.ops.length := by simp [opRows]
  have hA : AsNat (((opRows c.ops).length : Int) + 1) (c.ops.length + 1) := ⟨by rw [hLc]; omega⟩
  repeat (first | refine StepC.go ?_ | intro _ | (refine TS_puw (Pu.addi ?_) ?_; · omega) | (refine TS_makeSlice ?_ (fun _ => ?_); · omega))
  rename_i p bs
  rw [hL]
  refine TV_ghosts 3 46 (c.ops.length + 1) ?_
  intro gs hgs
  obtain ⟨n, hn⟩ : ∃ n, n = c.ops.length + 1 := ⟨_, rfl⟩
  have h00 : ∀ gs : List Nat, List.replicate gs.length [Tr.v (.slice none 0 0)] = fltR (gs.map fun g => (g, [])) := by
    intro gs
    induction gs with
    | nil => rfl
    | cons g gs ih => simp only [List.length_cons, List.replicate_succ, ih]; rfl
  have h01 : gs.map (fun g => (g, Box.arr 3 [] 46 false)) = fltB 46 (gs.map fun g => (g, [])) := by simp [fltB, fltRows]
  rw [← hgs, h00, h01, hgs]
  rw [← hn] at hgs hA ⊢
  refine TV_loop (fun d σ B => ∃ (i : Nat) (fam : List (Nat × List FltD)), d = fs.length - i ∧ i ≤ fs.length ∧ TGet σ 15 (intT i) ∧ TGet σ 14 (intT fs.length) ∧ TGet σ 13 (.sl 3 (fltRows fs)) ∧ TGet σ 5 (.v (.slice (some (ad bs 0)) n n)) ∧
      SubP B ((bs, .arr 1 (fltR fam) 25 true) :: fltB 46 fam) ∧ fam.map Prod.snd = behS (fs.take i) n) fs.length
    ⟨0, gs.map fun g => (g, []), by omega, by omega, tget_as rfl, inferInstance, inferInstance, inferInstance, ?_, ?_⟩ ?_
  · exact ⟨_, List.perm_middle⟩
  · rw [List.map_map]
    refine List.ext_getElem? fun i => ?_
    by_cases hi : i < n
    · rw [behS_at _ hi, List.getElem?_map, List.getElem?_eq_getElem (by omega)]; simp [fltAt]
    · rw [List.getElem?_eq_none (by simp; omega), List.getElem?_eq_none (by simp [behS]; omega)]
  rintro d σ B ⟨i, fam, rfl, hi, g15, g14, g13, g5, hB, hfam⟩
  refine TV_keep _ (p := hB) ?_
  have hfl2 : fam.length = n := by have := congrArg List.length hfam; simpa [behS] using this
  repeat (refine StepC.go ?_)
  refine TV_cond ?_ ?_ <;> intro hc2
  · have hil : i < fs.length := by have := of_decide_eq_true hc2; omega
    obtain ⟨f, hf⟩ : ∃ f, fs[i]? = some f := ⟨_, List.getElem?_eq_getElem hil⟩
    have ngf : NthG (fltRows fs) i (fltCs f) := .map fltCs hf
    have hfo := fltOk_iff.1 (hok f (List.mem_of_getElem? hf))
    obtain ⟨k, hk⟩ : ∃ k : Nat, f.beh + 1 = (k : Int) := ⟨(f.beh + 1).toNat, by omega⟩
    have hkn : k < n := by omega
    have hA2 : AsNat (f.beh + 1) k := ⟨hk⟩
    obtain ⟨x, hx⟩ : ∃ x, fam[k]? = some x := ⟨_, List.getElem?_eq_getElem (by omega)⟩
    obtain ⟨bk, lk⟩ := x
    have hlk : lk = fltAt (fs.take i) k := by
      have h1 := behS_at (fs.take i) hkn
      rw [← hfam, List.getElem?_map, hx] at h1
      exact Option.some.inj h1
    have hll : 24 * (lk.length + 1) ≤ 2 ^ 47 + 2 ^ 20 := by rw [hlk]; have := fltAt_len (fs.take i) k; simp at this; omega
    have q1 := fltB_is (e := 46) hx
    have q2 := fltB_in (e := 46) hx
    have q3 : ∀ b', BoxPut (fltB 46 fam) bk b' (.arr 3 (fltRows lk ++ [fltCs f]) 46 false) (fltB 46 (fam.set k (b', lk ++ [f]))) := fun b' => fltB_put (l2 := [f]) hx b'
    have q4 := fltR_at hx
    have q5 : ∀ b', SetR (fltR fam) k [.v (gsv b' (lk.length + 1))] (fltR (fam.set k (b', lk ++ [f]))) := fun b' => ⟨by simp [fltR, List.map_set]⟩
    have q6 : LenT (fltR fam) n := ⟨by simp [fltR, hfl2]⟩
    repeat (first | refine StepC.go ?_ | intro _ | (refine TS_puw (Pu.addi ?_) ?_; · omega) | (refine TS_append ?_ (fun _ => ?_); · omega) | refine TD_take rfl rfl ?_ | refine TD_load rfl rfl ?_ | refine TD_one rfl ?_ | refine FiltT_nil ?_ | refine FiltT_drop rfl ?_ | refine FiltT_keep rfl ?_ | (refine TD_takew rfl rfl (Pu.addi ?_) ?_; · omega) | refine TV_draw (id := 5) (plan := [.take 0, .take 1, .take 2, .take 3, .take 4, .take 5, .take 6, .take 7, .take 8, .take 9, .take 10, .one 11, .one 12, .take 13, .one 14]) (by kernel_rfl) ?_)
    rename_i bk2
    refine ⟨_, ?_, i + 1, fam.set k (bk2, lk ++ [f]), rfl, by omega, tget_as rfl, inferInstance, inferInstance, inferInstance, inferInstance, ?_⟩
    · omega
    · rw [List.map_set, hfam, take_succ hf, behS_snoc _ f hk hkn, hlk]
  · have hil : i = fs.length := by have := of_decide_eq_false hc2; omega
    subst hil
    rw [List.take_length] at hfam
    have hs63 : Sm63 n := ⟨by omega⟩
    have q6 : LenT (fltR fam) n := ⟨by simp [fltR, hfl2]⟩
    have hfz := fltR_frz (B := (bs, .arr 1 (fltR fam) 25 true) :: fltB 46 fam) (e := 46) (fam := fam) (fun x hx => by
      have : BoxIs (fltB 46 fam) x.1 (.arr 3 (fltRows x.2) 46 false) := ⟨List.mem_map.2 ⟨x, hx, rfl⟩⟩
      infer_instance) (fun x hx => by
        have h1 : x.2 ∈ fam.map Prod.snd := List.mem_map.2 ⟨x, hx, rfl⟩
        rw [hfam] at h1
        unfold behS at h1
        obtain ⟨k, _, hk⟩ := List.mem_map.1 h1
        rw [← hk]; have := fltAt_len fs k; omega)
    repeat (refine StepC.go ?_)
    refine retT_1 (.inr rfl) ?_
    simp only [tret]
    rw [hfam]
instance : CallIs Try.prog 22 := .of Try.func22 rfl rfl
end Go.Ideal

-- Vq
set_option linter.unusedSimpArgs false
set_option linter.unusedVariables false
namespace Go.Ideal
open Go Go.Proofs Go.RowKit
/-! ### Faults that are pushed to the end -/
theorem dupK_nodup {qs : List Int} : ∀ n, n ≤ qs.length → dupK qs n = false → (qs.take n).Nodup := by
  intro n
  induction n with
  | zero => intro _ _; simp
  | succ n ih =>
    intro hn h
    simp only [dupK, Bool.or_eq_false_iff, decide_eq_false_iff_not] at h
    obtain ⟨x, hx⟩ : ∃ x, qs[n]? = some x := ⟨_, List.getElem?_eq_getElem (by omega)⟩
    rw [getD_at hx] at h
    rw [take_succ hx, List.nodup_append]
    refine ⟨ih (by omega) h.1, by simp, fun a ha b hb => ?_⟩
    rw [List.mem_singleton.1 hb]
    exact fun hab => h.2 (hab ▸ ha)
theorem gateOk_of {o : OpD} {q b : Int} (h : faultS o q b = 0) (hk : o.kind = 1) (hc : cliffS o.name = true) : GateOk o.name o.qs q := by
  obtain ⟨_, _, h3, h4, _, h6⟩ := fault_ok h
  refine ⟨hc, ?_, fun x hx => ?_, ?_⟩
  · rw [h3, nS, if_pos hk]
  · have := List.any_eq_false.1 h4 x hx
    simp [outS] at this
    exact this
  · have := dupK_nodup o.qs.length (Nat.le_refl _) h6
    rwa [List.take_length] at this
def oneF (c : CircD) (f : FltD) : PauD := (oneP c.qubits f.q f.kind).1
def strikeS (c : CircD) (l : List FltD) (p : PauD) : PauD := l.foldl (fun p f => mulP (oneF c f) p) p
def pushSt (c : CircD) (fs : List FltD) : Nat → PauD × Bool × Int
  | 0 => (⟨c.qubits, 0, 0, 0⟩, false, 0)
  | k + 1 =>
    let s := pushSt c fs k
    let o := opAt c.ops ((k : Int) - 1)
    if s.2.2 ≠ 0 then s
    else if 0 < k ∧ s.2.1 = true then
      (if o.kind ≠ 1 ∨ o.iff = true then (noPau, true, 121) else if cliffS o.name = false then (noPau, true, 181)
        else (strikeS c (fltAt fs k) (byS o.name o.qs s.1), true, 0))
    else (strikeS c (fltAt fs k) s.1, s.2.1 || !(fltAt fs k).isEmpty, 0)
def pushC (c : CircD) (fs : List FltD) : PauD × Int :=
  if checkF c fs = 0 then ((pushSt c fs (c.ops.length + 1)).1, (pushSt c fs (c.ops.length + 1)).2.2) else (noPau, checkF c fs)
theorem pushSt_more {c : CircD} {fs : List FltD} {k : Nat} (h : (pushSt c fs k).2.2 ≠ 0) : ∀ n, k ≤ n → pushSt c fs n = pushSt c fs k := by
  intro n hn
  induction n with
  | zero => have : k = 0 := by omega
            rw [this]
  | succ n ih =>
    by_cases h1 : k = n + 1
    · rw [h1]
    · have := ih (by omega)
      rw [pushSt, this]
      rw [if_pos h]
theorem oneF_v {c : CircD} {f : FltD} (hq : c.qubits ≤ 64) (hf : fltOk c f = true) : oneP c.qubits f.q f.kind = (oneF c f, 0) ∧ PauV (oneF c f) ∧ (oneF c f).n = c.qubits := by
  have h := fltOk_iff.1 hf
  have hok : oneOk c.qubits f.q f.kind := ⟨by omega, by omega, hq, by omega, by omega⟩
  have e : oneP c.qubits f.q f.kind = (onS c.qubits f.q f.kind 0, 0) := by unfold oneP; rw [if_pos hok]; rfl
  have e2 : oneF c f = onS c.qubits f.q f.kind 0 := by unfold oneF; rw [e]
  rw [e, e2]
  exact ⟨rfl, onS_v hq (by omega) (by omega) (by decide), rfl⟩
theorem strikeS_v {c : CircD} (hq : c.qubits ≤ 64) : ∀ (l : List FltD) (p : PauD), (∀ f ∈ l, fltOk c f = true) → PauV p → p.n = c.qubits → PauV (strikeS c l p) ∧ (strikeS c l p).n = c.qubits := by
  intro l
  induction l with
  | nil => intro p _ h1 h2; exact ⟨h1, h2⟩
  | cons f l ih =>
    intro p hf h1 h2
    obtain ⟨_, o1, o2⟩ := oneF_v hq (hf f List.mem_cons_self)
    exact ih _ (fun g hg => hf g (List.mem_cons_of_mem _ hg)) ((o1.mul h1 (by rw [o2, h2])).1) o2
theorem strikeS_snoc (c : CircD) (l : List FltD) (f : FltD) (p : PauD) : strikeS c (l ++ [f]) p = mulP (oneF c f) (strikeS c l p) := by unfold strikeS; rw [List.foldl_append]; rfl
theorem eye_v {n : Int} (h0 : 0 ≤ n) (h1 : n ≤ 64) : PauV ⟨n, 0, 0, 0⟩ := pauV_iff.2 ⟨h0, h1, Int.le_refl 0, by show (0 : Int) ≤ 3; decide, fun i _ => ⟨Nat.zero_testBit i, Nat.zero_testBit i⟩⟩
theorem fltAt_mem {fs : List FltD} {k : Nat} {f : FltD} (h : f ∈ fltAt fs k) : f ∈ fs := (List.mem_filter.1 h).1
/-- a circuit and faults of it -/
structure FltG (c : CircD) (fs : List FltD) : Prop where
  q0 : 0 ≤ c.qubits
  q1 : c.qubits ≤ 64
  len : c.ops.length ≤ 4096
  op : ∀ o ∈ c.ops, faultS o c.qubits c.bits = 0
  flt : ∀ f ∈ fs, fltOk c f = true
theorem FltG.of {c : CircD} {fs : List FltD} (h : checkF c fs = 0) : FltG c fs := by
  obtain ⟨h1, h2⟩ := checkF_ok h
  obtain ⟨hr, hlen, hf⟩ := checkC_ok h1
  obtain ⟨a, b, _, _⟩ := rangeBad_no hr
  exact ⟨a, b, hlen, hf, h2⟩
theorem pushSt_v {c : CircD} {fs : List FltD} (g : FltG c fs) : ∀ k, k ≤ c.ops.length + 1 → (pushSt c fs k).2.2 = 0 → PauV (pushSt c fs k).1 ∧ (pushSt c fs k).1.n = c.qubits := by
  intro k
  induction k with
  | zero => intro _ _; exact ⟨eye_v g.q0 g.q1, rfl⟩
  | succ k ih =>
    intro hk h
    rw [pushSt] at h ⊢
    by_cases h1 : (pushSt c fs k).2.2 ≠ 0
    · rw [if_pos h1] at h; exact absurd h h1
    rw [if_neg h1] at h ⊢
    obtain ⟨i1, i2⟩ := ih (by omega) (by simpa using h1)
    have hfl : ∀ f ∈ fltAt fs k, fltOk c f = true := fun f hf => g.flt f (fltAt_mem hf)
    by_cases h2 : 0 < k ∧ (pushSt c fs k).2.1 = true
    · rw [if_pos h2] at h ⊢
      by_cases h3 : (opAt c.ops ((k : Int) - 1)).kind ≠ 1 ∨ (opAt c.ops ((k : Int) - 1)).iff = true
      · rw [if_pos h3] at h; simp at h
      rw [if_neg h3] at h ⊢
      by_cases h4 : cliffS (opAt c.ops ((k : Int) - 1)).name = false
      · rw [if_pos h4] at h; simp at h
      rw [if_neg h4]
      have ho := List.mem_of_getElem? (opAt_get (ops := c.ops) (k := (k : Int) - 1) (by omega))
      have hg := gateOk_of (g.op _ ho) (by simpa using (not_or.1 h3).1) (by simpa using h4)
      obtain ⟨_, _, b1, b2⟩ := byAll i1 (by rw [i2]; exact hg)
      exact strikeS_v g.q1 _ _ hfl b1 (by rw [b2, i2])
    · rw [if_neg h2]
      exact strikeS_v g.q1 _ _ hfl i1 i2
end Go.Ideal
