/- Part 6 of what the proof stands on: an interpreter over an ideal memory that is proved sound, steps over it, and contracts of the functions that are called. No condition: no law is claimed here. -/
import Derived.Test.YtpdmbmekdkfaaaaC5
-- Kl
set_option linter.unusedSimpArgs false
set_option linter.unusedVariables false
namespace Go.Ideal
open Go Go.Proofs Go.RowKit
/-! ### The law GateBack: the walk -/
set_option synthInstance.maxSize 4000 in
set_option synthInstance.maxHeartbeats 400000 in
set_option maxHeartbeats 4000000 in
theorem gateBackT {k : Int} (hk : -9223372036854775808 ≤ k ∧ k ≤ 9223372036854775807) : Fn Try.prog 6 [intT k] (fun t => t = boolT true) := by
  refine Fn_of Try.func6 rfl (Nat.le_of_ble_eq_true rfl) (fun X => ?_)
  obtain ⟨i, hi, a1, a2, a3⟩ := rem_add hk
  have ng : NthG nameRows i [strT (pAt i).1.name] := ⟨pAt_row hi⟩
  have hI := List.all_eq_true.1 backI_all i (List.mem_range.2 hi)
  simp only [backI, Bool.and_eq_true, decide_eq_true_eq, beq_iff_eq] at hI
  obtain ⟨⟨⟨⟨⟨⟨i1, i2⟩, i3⟩, i4⟩, i5⟩, i6⟩, i7⟩ := hI
  have hB := back_all hi
  simp only [backB, Bool.and_eq_true, decide_eq_true_eq] at hB
  obtain ⟨⟨⟨⟨b1, b2⟩, b3⟩, b4⟩, b5⟩ := hB
  have np := pAt_ok hi
  have nq := pAt_ok i1
  generalize pAt (bkI.getD i 0) = q at *
  generalize pAt i = p at *
  have g := fine_of np.k np.c
  have hsh := wS_shi g
  have hw8 := wS_le g
  have hm1 := np.mat
  have hm2 := nq.mat
  have hb1 : backS p.1.name = (q.1.name, 0) := by simp only [backS, np.k, i2]
  have hb2 : backS q.1.name = (p.1.name, 0) := by simp only [backS, nq.k, i3]
  have ar1 : arityS p.1.name = p.1.arity := by simp only [arityS, np.k]
  have ar2 : arityS q.1.name = p.1.arity := by simp only [arityS, nq.k, i4]
  have hv1 : halvesS p.1.name = p.1.halves := by simp only [halvesS, np.k]
  have hv2 : halvesS q.1.name = p.1.halves := by simp only [halvesS, nq.k, i5]
  have cl1 : cliffS p.1.name = p.1.cliff := by simp only [cliffS, np.k]
  have cl2 : cliffS q.1.name = p.1.cliff := by simp only [cliffS, nq.k, i6]
  have di1 : diagS p.1.name = p.1.diag := by simp only [diagS, np.k]
  have di2 : diagS q.1.name = p.1.diag := by simp only [diagS, nq.k, i7]
  obtain ⟨c1, c2, c3⟩ := chain_at [q] _ 0 q b1 rfl
  obtain ⟨_, _, c4⟩ := chain_at [p] _ 0 p b2 rfl
  simp only [List.take_zero, prodF] at c1 c2 c3 c4 b3 b4
  obtain ⟨f1, f2, f3⟩ := matrix_fine q.1.name
  rw [hm2] at f1 f2 f3
  have hsame := mSameT f1 f2 f3
  unfold matT at hsame
  have hu := unitaryT c1 (by rw [b5]; exact c2) (by rw [b5]; exact c3) (by rw [b5]; exact b3)
  have hadj := adjointT c1
  rw [b5] at hadj
  have hmul1 := gateMulT c1 c2 c3
  rw [b3] at hmul1
  have hmul2 := gateMulT c2 c1 c4
  rw [b4] at hmul2
  have hLM : (mRows (matrixS p.1 p.2)).length = wS p.1 := by rw [mRows_len, c1.len]
  have heye := eyeT (n := wS p.1) (by omega)
  have hpn := beqS_self p.1.name
  generalize matrixS p.1 p.2 = M1 at *
  generalize matrixS q.1 q.2 = M2 at *
  clear b1 b2 b3 b4 b5 c1 c2 c3 c4 f1 f2 f3
  repeat (refine StepC.go ?_)
  refine TS_callE alive08T ?_
  repeat (first | refine StepC.go ?_ | (refine TV_cond_f ?_ ?_; · first | rfl | assumption))
  refine TS_call namesT ?_
  rintro _ rfl
  repeat (refine StepC.go ?_)
  refine TS_puw (Pu.divw (by decide) a1) ?_
  repeat (refine StepC.go ?_)
  refine TS_puw (Pu.divw (by decide) a3) ?_
  repeat (refine StepC.go ?_)
  refine TS_callE (backT p.1.name) ?_
  rw [hb1]
  repeat (refine StepC.go ?_)
  refine TS_callE (backT q.1.name) ?_
  rw [hb2]
  repeat (refine StepC.go ?_)
  refine TS_call matrixT ?_
  rw [hm1]
  unfold matT
  dsimp only
  rintro _ rfl
  repeat (refine StepC.go ?_)
  refine TS_call matrixT ?_
  rw [hm2]
  unfold matT
  dsimp only
  rintro _ rfl
  repeat (first | refine StepC.go ?_ | (refine TS_on rfl ?_ ?_; · first | rfl | assumption))
  try rw [hpn]
  skip
  refine TS_callE (arityT q.1.name) ?_
  rw [ar2]
  repeat (first | refine StepC.go ?_ | (refine TS_on rfl ?_ ?_; · first | rfl | assumption))
  refine TS_callE (arityT p.1.name) ?_
  rw [ar1]
  repeat (first | refine StepC.go ?_ | (refine TS_on rfl ?_ ?_; · first | rfl | assumption))
  refine TS_callE (halvesGT q.1.name) ?_
  rw [hv2]
  repeat (first | refine StepC.go ?_ | (refine TS_on rfl ?_ ?_; · first | rfl | assumption))
  refine TS_callE (halvesGT p.1.name) ?_
  rw [hv1]
  repeat (first | refine StepC.go ?_ | (refine TS_on rfl ?_ ?_; · first | rfl | assumption))
  refine TS_callE (cliffT q.1.name) ?_
  rw [cl2]
  repeat (first | refine StepC.go ?_ | (refine TS_on rfl ?_ ?_; · first | rfl | assumption))
  refine TS_callE (cliffT p.1.name) ?_
  rw [cl1]
  repeat (first | refine StepC.go ?_ | (refine TS_on rfl ?_ ?_; · first | rfl | assumption))
  simp only [beq_self_eq_true, Bool.not_true]
  repeat (first | refine StepC.go ?_ | (refine TS_on rfl ?_ ?_; · first | rfl | assumption))
  refine TS_callE (diagT q.1.name) ?_
  rw [di2]
  repeat (first | refine StepC.go ?_ | (refine TS_on rfl ?_ ?_; · first | rfl | assumption))
  refine TS_callE (diagT p.1.name) ?_
  rw [di1]
  repeat (first | refine StepC.go ?_ | (refine TS_on rfl ?_ ?_; · first | rfl | assumption))
  simp only [beq_self_eq_true, Bool.not_true]
  repeat (first | refine StepC.go ?_ | (refine TV_cond_f ?_ ?_; · first | rfl | assumption))
  refine TS_call hmul1 ?_
  rintro _ rfl
  repeat (refine StepC.go ?_)
  refine TS_call hmul2 ?_
  rintro _ rfl
  repeat (refine StepC.go ?_)
  refine TS_call hadj ?_
  rintro _ rfl
  repeat (refine StepC.go ?_)
  refine TS_callE hu ?_
  repeat (first | refine StepC.go ?_ | (refine TS_on rfl ?_ ?_; · first | rfl | assumption))
  rw [hLM]
  refine TS_callE (arityT p.1.name) ?_
  rw [ar1]
  repeat (first | refine StepC.go ?_ | (refine TS_on rfl ?_ ?_; · first | rfl | assumption))
  refine TS_callE heye ?_
  repeat (first | refine StepC.go ?_ | (refine TS_on rfl ?_ ?_; · first | rfl | assumption))
  refine TS_callE heye ?_
  repeat (first | refine StepC.go ?_ | (refine TS_on rfl ?_ ?_; · first | rfl | assumption))
  refine TS_callE hsame ?_
  repeat (refine StepC.go ?_)
  refine retT_1 (.inr rfl) ?_
  rfl
theorem gateBackW {h : IHp} (hnew : h.new = []) {k : Int} (hk : -9223372036854775808 ≤ k ∧ k ≤ 9223372036854775807) : EvX Try.prog 6 #[.int .i64 k] h (fun v _ => v = .bool true) :=
  EvX_of_FnG (gateBackT hk) (RepL.cons (rep_v _) RepL.nil)
end Go.Ideal
