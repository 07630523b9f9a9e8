/- Part 7 of what the proof stands on: an interpreter over an ideal memory that is proved sound, steps over it, and contracts of the functions that are called. No condition: no law is claimed here. -/
import Derived.Test.YtbkldjahedmeiaaC6
-- Vt
set_option linter.unusedSimpArgs false
set_option linter.unusedVariables false
namespace Go.Ideal
open Go Go.Proofs Go.RowKit
/-! ### All single faults -/
def fltE (k q t : Nat) : FltD := ⟨(k : Int) - 1, (q : Int), 88 + t⟩
def sgT (k q : Nat) : Nat → List FltD
  | 0 => []
  | t + 1 => sgT k q t ++ [fltE k q t]
def sgQ (k : Nat) : Nat → List FltD
  | 0 => []
  | q + 1 => sgQ k q ++ sgT k q 3
def sgK (n : Nat) : Nat → List FltD
  | 0 => []
  | k + 1 => sgK n k ++ sgQ k n
def singlesC (c : CircD) : List FltD × Int := if (checkC c).2 = 0 then (sgK c.qubits.toNat (c.ops.length + 1), 0) else ([], (checkC c).2)
theorem sgT_len (k q : Nat) : ∀ t, (sgT k q t).length = t := by
  intro t
  induction t with
  | zero => rfl
  | succ t ih => rw [sgT, List.length_append, ih]; rfl
theorem sgQ_len (k : Nat) : ∀ q, (sgQ k q).length = 3 * q := by
  intro q
  induction q with
  | zero => rfl
  | succ q ih => rw [sgQ, List.length_append, ih, sgT_len]; omega
theorem sgK_len (n : Nat) : ∀ k, (sgK n k).length = 3 * n * k := by
  intro k
  induction k with
  | zero => rfl
  | succ k ih => rw [sgK, List.length_append, ih, sgQ_len, Nat.mul_add, Nat.mul_one]
theorem sgK_small {n k : Nat} (hn : n ≤ 64) (hk : k ≤ 4097) : (sgK n k).length ≤ 786624 := by
  rw [sgK_len]
  have : 3 * n * k ≤ 192 * 4097 := Nat.mul_le_mul (by omega) hk
  omega
theorem xyzR {j : Nat} (h : j < 3) : NthG [[u8T 88], [u8T 89], [u8T 90]] j [u8T (88 + j)] := ⟨by
  match j, h with
  | 0, _ => rfl
  | 1, _ => rfl
  | 2, _ => rfl⟩
set_option synthInstance.maxSize 4000 in
set_option synthInstance.maxHeartbeats 400000 in
set_option maxHeartbeats 4000000 in
theorem singlesT {c : CircD} (hw : CircW c) : Fn Try.prog 49 [circT c] (fun r => r = .tup [.sl 3 (fltRows (singlesC c).1), intT (singlesC c).2]) := by
  refine Fn_of Try.func49 rfl (Nat.le_of_ble_eq_true rfl) (fun X => ?_)
  have hLc : (opRows c.ops).length = c.ops.length := by simp [opRows]
  repeat (first | refine StepC.go ?_ | intro _)
  rename_i pc
  refine TS_callE (checkT hw) ?_
  repeat (refine StepC.go ?_)
  refine TV_cond ?_ ?_ <;> intro hc
  · repeat (refine StepC.go ?_)
    refine retT_2c [.sl 3 [], intT (checkC c).2] (.inr rfl) ?_
    simp only [tret, singlesC]
    rw [if_neg (by simpa using hc)]; rfl
  have hck : (checkC c).2 = 0 := by simpa using hc
  obtain ⟨hr, hlen, _⟩ := checkC_ok hck
  obtain ⟨q0, q1, _, _⟩ := rangeBad_no hr
  obtain ⟨N, hN⟩ : ∃ N : Nat, c.qubits = (N : Int) := ⟨c.qubits.toNat, by omega⟩
  have hNt : c.qubits.toNat = N := by omega
  repeat (refine StepC.go ?_)
  refine TV_ghost 3 93 ?_
  intro bl
  refine TV_loop (fun d σ B => ∃ (k bl : Nat), d = c.ops.length + 1 - k ∧ k ≤ c.ops.length + 1 ∧ TGet σ 7 (intT ((k : Int) - 1)) ∧ TGet σ 1 (ptrT pc) ∧ TGet σ 6 (.v (gsv bl (sgK N k).length)) ∧
      SubP B [(bl, .arr 3 (fltRows (sgK N k)) 93 false), (pc, .cells (circCs c) 24 true)]) (c.ops.length + 1)
    ⟨0, bl, by omega, by omega, tget_as rfl, inferInstance, tget_as rfl, inferInstanceAs (SubP _ [(bl, .arr 3 [] 93 false), _])⟩ ?_
  rintro d σ B ⟨k, bl, rfl, hk, g7, g1, g6, hB⟩
  refine TV_keep _ (p := hB) ?_
  repeat (refine StepC.go ?_)
  rw [hLc]
  refine TV_cond ?_ ?_ <;> intro hc2
  · have hkl : k < c.ops.length + 1 := by have := of_decide_eq_true hc2; omega
    have hsz := sgK_small (n := N) (k := k + 1) (by omega) (by omega)
    rw [sgK, List.length_append, sgQ_len] at hsz
    repeat (refine StepC.go ?_)
    rw [hN]
    refine TV_loop (fun d σ B => ∃ (q bl : Nat), d = N - q ∧ q ≤ N ∧ TGet σ 28 (intT q) ∧ TGet σ 27 (intT N) ∧ TGet σ 7 (intT ((k : Int) - 1)) ∧ TGet σ 1 (ptrT pc) ∧ TGet σ 6 (.v (gsv bl (sgK N k ++ sgQ k q).length)) ∧
      SubP B [(bl, .arr 3 (fltRows (sgK N k ++ sgQ k q)) 93 false), (pc, .cells (circCs c) 24 true)]) N
      ⟨0, bl, by omega, by omega, tget_as rfl, inferInstance, inferInstance, inferInstance, tget_as (by rw [sgQ, List.append_nil]), by rw [sgQ, List.append_nil]; infer_instance⟩ ?_
    clear hB g7 g1 g6
    clear bl
    rintro d σ B ⟨q, bl, rfl, hq, g28, g27, g7, g1, g6, hB⟩
    refine TV_keep _ (p := hB) ?_
    repeat (refine StepC.go ?_)
    refine TV_cond ?_ ?_ <;> intro hc3
    · have hql : q < N := by have := of_decide_eq_true hc3; omega
      have hs2 : (sgK N k ++ sgQ k q).length ≤ 786624 := by rw [List.length_append, sgQ_len]; omega
      repeat (first | refine StepC.go ?_ | intro _)
      refine TS_conv ?_
      repeat (refine StepC.go ?_)
      rename_i bx
      refine TV_loop (fun d σ B => ∃ (t bl : Nat), d = 3 - t ∧ t ≤ 3 ∧ TGet σ 34 (intT t) ∧ TGet σ 33 (intT 3) ∧ TGet σ 32 (.v (.slice (some (ad bx 0)) 3 3)) ∧ TGet σ 28 (intT q) ∧ TGet σ 27 (intT N) ∧ TGet σ 8 (intT q) ∧ TGet σ 7 (intT ((k : Int) - 1)) ∧ TGet σ 1 (ptrT pc) ∧ TGet σ 6 (.v (gsv bl ((sgK N k ++ sgQ k q) ++ sgT k q t).length)) ∧
        SubP B [(bl, .arr 3 (fltRows ((sgK N k ++ sgQ k q) ++ sgT k q t)) 93 false), (bx, .arr 1 [[u8T 88], [u8T 89], [u8T 90]] 5 true), (pc, .cells (circCs c) 24 true)]) 3
        ⟨0, bl, by omega, by omega, tget_as rfl, tget_as rfl, inferInstance, inferInstance, inferInstance, inferInstance, inferInstance, inferInstance, tget_as (by rw [sgT, List.append_nil]), by rw [sgT, List.append_nil]; infer_instance⟩ ?_
      clear hB g28 g27 g7 g1 g6
      clear bl
      rintro d σ B ⟨t, bl, rfl, ht, g34, g33, g32, g28, g27, g8, g7, g1, g6, hB⟩
      refine TV_keep _ (p := hB) ?_
      have hs3 : ((sgK N k ++ sgQ k q) ++ sgT k q t).length ≤ 786627 := by rw [List.length_append, sgT_len]; omega
      repeat (refine StepC.go ?_)
      refine TV_cond ?_ ?_ <;> intro hc4
      · have htl : t < 3 := by have := of_decide_eq_true hc4; omega
        have ngt := xyzR htl
        repeat (first | refine StepC.go ?_ | intro _ | refine TS_puw (Pu.addi (by omega)) ?_ | refine TS_append (by omega) (fun _ => ?_))
        rename_i b1 bl2
        refine ⟨_, ?_, t + 1, bl2, rfl, by omega, tget_as rfl, inferInstance, inferInstance, inferInstance, inferInstance, inferInstance, inferInstance, inferInstance, tget_as (by simp [sgT, Nat.add_assoc]), ?_⟩
        · omega
        · have e : fltRows ((sgK N k ++ sgQ k q) ++ sgT k q t ++ [fltE k q t]) = fltRows ((sgK N k ++ sgQ k q) ++ sgT k q t) ++ [[intT ((k : Int) - 1), intT (q : Int), u8T (88 + t)]] := by rw [fltRows_app]; rfl
          rw [sgT, ← List.append_assoc, e]
          show SubP _ [(bl2, .arr 3 (fltRows ((sgK N k ++ sgQ k q) ++ sgT k q t) ++ [[intT ((k : Int) - 1), intT (q : Int), u8T (88 + t)]]) 93 false), (bx, .arr 1 [[u8T 88], [u8T 89], [u8T 90]] 5 true), (pc, .cells (circCs c) 24 true)]
          infer_instance
      · have htl : t = 3 := by have := of_decide_eq_false hc4; omega
        subst htl
        repeat (first | refine StepC.go ?_ | refine TS_puw (Pu.addi (by omega)) ?_)
        refine ⟨_, ?_, q + 1, bl, rfl, by omega, tget_as rfl, inferInstance, inferInstance, inferInstance, tget_as (by rw [sgQ, List.append_assoc]), ?_⟩
        · omega
        · rw [sgQ, ← List.append_assoc]; infer_instance
    · have hql : q = N := by have := of_decide_eq_false hc3; omega
      subst hql
      repeat (first | refine StepC.go ?_ | refine TS_puw (Pu.addi (by omega)) ?_)
      refine ⟨_, ?_, k + 1, bl, rfl, by omega, tget_as (by rw [show (k : Int) - 1 + 1 = ((k + 1 : Nat) : Int) - 1 by omega]), inferInstance, inferInstance, ?_⟩
      · omega
      · rw [sgK]; infer_instance
  · have hkl : k = c.ops.length + 1 := by have := of_decide_eq_false hc2; omega
    subst hkl
    have hsz := sgK_small (n := N) (k := c.ops.length + 1) (by omega) (by omega)
    have : Sm63 (sgK N (c.ops.length + 1)).length := ⟨by omega⟩
    repeat (refine StepC.go ?_)
    refine retT_2 (.inr rfl) ?_
    simp only [tret, singlesC]
    rw [if_pos hck, hNt]
instance : CallIs Try.prog 49 := .of Try.func49 rfl rfl
end Go.Ideal

-- Vu
set_option linter.unusedSimpArgs false
set_option linter.unusedVariables false
namespace Go.Ideal
open Go Go.Proofs Go.RowKit
/-! ### Strings and faults compared -/
theorem pau_held : Try.prog.stoodInHeld 82 = false := by kernel_rfl
theorem pau_guard : Try.prog.eqGuardType Try.prog.depth 82 = false := by kernel_rfl
theorem flt_held : Try.prog.stoodInHeld 93 = false := by kernel_rfl
theorem flt_guard : Try.prog.eqGuardType Try.prog.depth 93 = false := by kernel_rfl
@[reducible] def pauFs : List Field := [⟨"N", 3, 0, false, "", "", 0⟩, ⟨"X", 42, 1, false, "", "", 8⟩, ⟨"Z", 42, 2, false, "", "", 16⟩, ⟨"Phase", 3, 3, false, "", "", 24⟩]
@[reducible] def fltFs : List Field := [⟨"Behind", 3, 0, false, "", "", 0⟩, ⟨"Qubit", 3, 1, false, "", "", 8⟩, ⟨"Kind", 5, 2, false, "", "", 16⟩]
section
variable {σ : Nat → Tr} {B : Boxes} {x y : Operand} {yt : TypeId} {a b c d a' b' c' d' : Int}
theorem pau_eqF : EqF Try.prog pauFs #[.int .i64 a, .int .u64 b, .int .u64 c, .int .i64 d] #[.int .i64 a', .int .u64 b', .int .u64 c', .int .i64 d'] (a == a' && (b == b' && (c == c' && (d == d' && true)))) :=
  .cons (f := ⟨"N", 3, 0, false, "", "", 0⟩) (by decide) (UnderIs.eq : Try.prog.underlying 3 = _) rfl rfl (.cons (f := ⟨"X", 42, 1, false, "", "", 8⟩) (by decide) (UnderIs.eq : Try.prog.underlying 42 = _) rfl rfl
    (.cons (f := ⟨"Z", 42, 2, false, "", "", 16⟩) (by decide) (UnderIs.eq : Try.prog.underlying 42 = _) rfl rfl (.cons (f := ⟨"Phase", 3, 3, false, "", "", 24⟩) (by decide) (UnderIs.eq : Try.prog.underlying 3 = _) rfl rfl .nil)))
instance Pu.pau_eq [e1 : TEval σ x (.agg [.v (.int .i64 a), .v (.int .u64 b), .v (.int .u64 c), .v (.int .i64 d)])] [e2 : TEval σ y (.agg [.v (.int .i64 a'), .v (.int .u64 b'), .v (.int .u64 c'), .v (.int .i64 d')])] : Pu Try.prog σ B (.binOp .eql 82 x y yt) (.v (.bool (a == a' && (b == b' && (c == c' && (d == d' && true)))))) :=
  Pu.eqStruct [.int .i64 a, .int .u64 b, .int .u64 c, .int .i64 d] [.int .i64 a', .int .u64 b', .int .u64 c', .int .i64 d'] rfl rfl Try.underlying82 pau_held pau_guard rfl rfl pau_eqF
instance (priority := 2000) Pu.pau_eq_same [e1 : TEval σ x (.agg [.v (.int .i64 a), .v (.int .u64 b), .v (.int .u64 c), .v (.int .i64 d)])] [e2 : TEval σ y (.agg [.v (.int .i64 a), .v (.int .u64 b), .v (.int .u64 c), .v (.int .i64 d)])] : Pu Try.prog σ B (.binOp .eql 82 x y yt) (.v (.bool true)) := by
  have h := Pu.pau_eq (σ := σ) (B := B) (x := x) (y := y) (yt := yt) (a := a) (b := b) (c := c) (d := d) (a' := a) (b' := b) (c' := c) (d' := d)
  simpa using h
theorem flt_eqF : EqF Try.prog fltFs #[.int .i64 a, .int .i64 b, .int .u8 c] #[.int .i64 a', .int .i64 b', .int .u8 c'] (a == a' && (b == b' && (c == c' && true))) :=
  .cons (f := ⟨"Behind", 3, 0, false, "", "", 0⟩) (by decide) (UnderIs.eq : Try.prog.underlying 3 = _) rfl rfl (.cons (f := ⟨"Qubit", 3, 1, false, "", "", 8⟩) (by decide) (UnderIs.eq : Try.prog.underlying 3 = _) rfl rfl
    (.cons (f := ⟨"Kind", 5, 2, false, "", "", 16⟩) (by decide) (UnderIs.eq : Try.prog.underlying 5 = _) rfl rfl .nil))
instance Pu.flt_ne [e1 : TEval σ x (.agg [.v (.int .i64 a), .v (.int .i64 b), .v (.int .u8 c)])] [e2 : TEval σ y (.agg [.v (.int .i64 a'), .v (.int .i64 b'), .v (.int .u8 c')])] : Pu Try.prog σ B (.binOp .neq 93 x y yt) (.v (.bool (!(a == a' && (b == b' && (c == c' && true)))))) :=
  Pu.neStruct [.int .i64 a, .int .i64 b, .int .u8 c] [.int .i64 a', .int .i64 b', .int .u8 c'] rfl rfl Try.underlying93 flt_held flt_guard rfl rfl flt_eqF
instance (priority := 2000) Pu.flt_ne_same [e1 : TEval σ x (.agg [.v (.int .i64 a), .v (.int .i64 b), .v (.int .u8 c)])] [e2 : TEval σ y (.agg [.v (.int .i64 a), .v (.int .i64 b), .v (.int .u8 c)])] : Pu Try.prog σ B (.binOp .neq 93 x y yt) (.v (.bool false)) := by
  have h := Pu.flt_ne (σ := σ) (B := B) (x := x) (y := y) (yt := yt) (a := a) (b := b) (c := c) (a' := a) (b' := b) (c' := c)
  simpa using h
end
/-! ### All single faults, of the reference -/
theorem wrap_u8 {z : Int} (h : 0 ≤ z ∧ z < 256) : IntKind.u8.wrap z = z := by
  simp [IntKind.wrap, IntKind.bits, IntKind.signed]; omega
set_option synthInstance.maxSize 4000 in
set_option synthInstance.maxHeartbeats 400000 in
set_option maxHeartbeats 4000000 in
theorem singlesRT {c : CircD} (hw : CircW c) : Fn Try.prog 48 [circT c] (fun r => r = .tup [.sl 3 (fltRows (singlesC c).1), intT (singlesC c).2]) := by
  refine Fn_of Try.func48 rfl (Nat.le_of_ble_eq_true rfl) (fun X => ?_)
  have hLc : (opRows c.ops).length = c.ops.length := by simp [opRows]
  repeat (first | refine StepC.go ?_ | intro _)
  rename_i pc
  refine TS_callE (checkRT hw) ?_
  repeat (refine StepC.go ?_)
  refine TV_cond ?_ ?_ <;> intro hc
  · repeat (refine StepC.go ?_)
    refine retT_2c [.sl 3 [], intT (checkC c).2] (.inr rfl) ?_
    simp only [tret, singlesC]
    rw [if_neg (by simpa using hc)]; rfl
  have hck : (checkC c).2 = 0 := by simpa using hc
  obtain ⟨hr, hlen, _⟩ := checkC_ok hck
  obtain ⟨q0, q1, _, _⟩ := rangeBad_no hr
  obtain ⟨N, hN⟩ : ∃ N : Nat, c.qubits = (N : Int) := ⟨c.qubits.toNat, by omega⟩
  have hNt : c.qubits.toNat = N := by omega
  repeat (refine StepC.go ?_)
  refine TV_ghost 3 93 ?_
  intro bl
  refine TV_loop (fun d σ B => ∃ (k bl : Nat), d = c.ops.length + 1 - k ∧ k ≤ c.ops.length + 1 ∧ TGet σ 7 (intT ((k : Int) - 1)) ∧ TGet σ 1 (ptrT pc) ∧ TGet σ 6 (.v (gsv bl (sgK N k).length)) ∧
      SubP B [(bl, .arr 3 (fltRows (sgK N k)) 93 false), (pc, .cells (circCs c) 24 true)]) (c.ops.length + 1)
    ⟨0, bl, by omega, by omega, tget_as rfl, inferInstance, tget_as rfl, inferInstanceAs (SubP _ [(bl, .arr 3 [] 93 false), _])⟩ ?_
  rintro d σ B ⟨k, bl, rfl, hk, g7, g1, g6, hB⟩
  refine TV_keep _ (p := hB) ?_
  repeat (refine StepC.go ?_)
  rw [hLc]
  refine TV_cond ?_ ?_ <;> intro hc2
  · have hkl : k < c.ops.length + 1 := by have := of_decide_eq_true hc2; omega
    have hsz := sgK_small (n := N) (k := k + 1) (by omega) (by omega)
    rw [sgK, List.length_append, sgQ_len] at hsz
    repeat (refine StepC.go ?_)
    refine TV_loop (fun d σ B => ∃ (q bl : Nat), d = N - q ∧ q ≤ N ∧ TGet σ 8 (intT q) ∧ TGet σ 7 (intT ((k : Int) - 1)) ∧ TGet σ 1 (ptrT pc) ∧ TGet σ 6 (.v (gsv bl (sgK N k ++ sgQ k q).length)) ∧
      SubP B [(bl, .arr 3 (fltRows (sgK N k ++ sgQ k q)) 93 false), (pc, .cells (circCs c) 24 true)]) N
      ⟨0, bl, by omega, by omega, tget_as rfl, inferInstance, inferInstance, tget_as (by rw [sgQ, List.append_nil]), by rw [sgQ, List.append_nil]; infer_instance⟩ ?_
    clear hB g7 g1 g6
    clear bl
    rintro d σ B ⟨q, bl, rfl, hq, g8, g7, g1, g6, hB⟩
    refine TV_keep _ (p := hB) ?_
    repeat (refine StepC.go ?_)
    rw [hN]
    refine TV_cond ?_ ?_ <;> intro hc3
    · have hql : q < N := by have := of_decide_eq_true hc3; omega
      have hs2 : (sgK N k ++ sgQ k q).length ≤ 786624 := by rw [List.length_append, sgQ_len]; omega
      repeat (refine StepC.go ?_)
      refine TV_loop (fun d σ B => ∃ (t bl : Nat), d = 3 - t ∧ t ≤ 3 ∧ TGet σ 9 (u8T (88 + t)) ∧ TGet σ 8 (intT q) ∧ TGet σ 7 (intT ((k : Int) - 1)) ∧ TGet σ 1 (ptrT pc) ∧ TGet σ 6 (.v (gsv bl ((sgK N k ++ sgQ k q) ++ sgT k q t).length)) ∧
        SubP B [(bl, .arr 3 (fltRows ((sgK N k ++ sgQ k q) ++ sgT k q t)) 93 false), (pc, .cells (circCs c) 24 true)]) 3
        ⟨0, bl, by omega, by omega, tget_as rfl, inferInstance, inferInstance, inferInstance, tget_as (by rw [sgT, List.append_nil]), by rw [sgT, List.append_nil]; infer_instance⟩ ?_
      clear hB g8 g7 g1 g6
      clear bl
      rintro d σ B ⟨t, bl, rfl, ht, g9, g8, g7, g1, g6, hB⟩
      refine TV_keep _ (p := hB) ?_
      have hs3 : ((sgK N k ++ sgQ k q) ++ sgT k q t).length ≤ 786627 := by rw [List.length_append, sgT_len]; omega
      repeat (refine StepC.go ?_)
      refine TV_cond ?_ ?_ <;> intro hc4
      · have htl : t < 3 := by have := of_decide_eq_true hc4; omega
        repeat (first | refine StepC.go ?_ | intro _ | refine TS_append (by omega) (fun _ => ?_))
        rename_i b1 bl2
        refine TS_puw (Pu.arithw ((88 + (t + 1) : Nat) : Int) (by simp only [iarith]; rw [wrap_u8 (by omega)]; rfl)) ?_
        repeat (refine StepC.go ?_)
        refine ⟨_, ?_, t + 1, bl2, rfl, by omega, inferInstance, inferInstance, inferInstance, inferInstance, tget_as (by simp [sgT, Nat.add_assoc]), ?_⟩
        · omega
        · have e : fltRows ((sgK N k ++ sgQ k q) ++ sgT k q t ++ [fltE k q t]) = fltRows ((sgK N k ++ sgQ k q) ++ sgT k q t) ++ [[intT ((k : Int) - 1), intT (q : Int), u8T (88 + t)]] := by rw [fltRows_app]; rfl
          rw [sgT, ← List.append_assoc, e]
          show SubP _ [(bl2, .arr 3 (fltRows ((sgK N k ++ sgQ k q) ++ sgT k q t) ++ [[intT ((k : Int) - 1), intT (q : Int), u8T (88 + t)]]) 93 false), (pc, .cells (circCs c) 24 true)]
          infer_instance
      · have htl : t = 3 := by have := of_decide_eq_false hc4; omega
        subst htl
        repeat (first | refine StepC.go ?_ | refine TS_puw (Pu.addi (by omega)) ?_)
        refine ⟨_, ?_, q + 1, bl, rfl, by omega, tget_as rfl, inferInstance, inferInstance, tget_as (by rw [sgQ, List.append_assoc]), ?_⟩
        · omega
        · rw [sgQ, ← List.append_assoc]; infer_instance
    · have hql : q = N := by have := of_decide_eq_false hc3; omega
      subst hql
      repeat (first | refine StepC.go ?_ | refine TS_puw (Pu.addi (by omega)) ?_)
      refine ⟨_, ?_, k + 1, bl, rfl, by omega, tget_as (by rw [show (k : Int) - 1 + 1 = ((k + 1 : Nat) : Int) - 1 by omega]), inferInstance, inferInstance, ?_⟩
      · omega
      · rw [sgK]; infer_instance
  · have hkl : k = c.ops.length + 1 := by have := of_decide_eq_false hc2; omega
    subst hkl
    have hsz := sgK_small (n := N) (k := c.ops.length + 1) (by omega) (by omega)
    have : Sm63 (sgK N (c.ops.length + 1)).length := ⟨by omega⟩
    repeat (refine StepC.go ?_)
    refine retT_2 (.inr rfl) ?_
    simp only [tret, singlesC]
    rw [if_pos hck, hNt]
instance : CallIs Try.prog 48 := .of Try.func48 rfl rfl
end Go.Ideal

-- Vv
set_option linter.unusedSimpArgs false
set_option linter.unusedVariables false
namespace Go.Ideal
open Go Go.Proofs Go.RowKit
/-! ### The noise laws' own example -/
theorem gate24T (nm : ByteArray) (qs : List Int) : Fn Try.prog 88 [strT nm, .sl 1 (intRows qs)] (fun r => r = .agg (opCs (gateD nm qs))) := by
  refine Fn_of Try.func88 rfl (Nat.le_of_ble_eq_true rfl) (fun X => ?_)
  repeat (first | refine StepC.go ?_ | intro _)
  exact retT_1 (.inr rfl) rfl
instance : CallIs Try.prog 88 := .of Try.func88 rfl rfl
def hcxD : CircD := ⟨2, 0, [gateD nmH [0], gateD nmCx [0, 1]]⟩
theorem hcxW : CircW hcxD := by
  intro o ho
  simp only [hcxD, List.mem_cons, List.not_mem_nil, or_false] at ho
  rcases ho with rfl | rfl <;> exact ⟨by decide, by decide⟩
theorem hcx_push : pushC hcxD [⟨-1, 0, 90⟩] = (⟨2, 3, 0, 0⟩, 0) := by kernel_rfl
theorem hcx_singles : (singlesC hcxD).1.length = 18 ∧ (singlesC hcxD).2 = 0 := by decide +kernel
theorem hcx_check : checkF hcxD [⟨2, 0, 90⟩] = 2 := by decide +kernel
theorem awake24T : Fn Try.prog 45 [] (fun r => r = boolT true) := by
  refine Fn_of Try.func45 rfl (Nat.le_of_ble_eq_true rfl) (fun X => ?_)
  repeat (first | refine StepC.go ?_ | intro _)
  rename_i b
  refine TS_freeze 6 b ?_
  refine TS_call (gate24T nmH [0]) ?_
  rintro _ rfl
  repeat (first | refine StepC.go ?_ | intro _)
  rename_i b2
  refine TS_freeze 8 b2 ?_
  refine TS_call (gate24T nmCx [0, 1]) ?_
  rintro _ rfl
  refine StepC.go ?_
  intro bc
  refine TS_freeze 10 bc ?_
  repeat (first | refine StepC.go ?_ | intro _)
  rename_i b3
  refine TS_freeze 15 b3 ?_
  refine TS_call (pushT (c := hcxD) (fs := [⟨-1, 0, 90⟩]) hcxW (by decide)) ?_
  rintro _ rfl
  rw [hcx_push]
  repeat (first | refine StepC.go ?_ | intro _)
  refine TS_call (singlesT (c := hcxD) hcxW) ?_
  rintro _ rfl
  rw [hcx_singles.2]
  have hl : LenT (fltRows (singlesC hcxD).1) 18 := ⟨by rw [← hcx_singles.1]; simp [fltRows]⟩
  repeat (first | refine StepC.go ?_ | intro _ | refine TS_on rfl (by first | rfl | assumption) ?_)
  rename_i b4
  refine TS_freeze 43 b4 ?_
  refine TS_callE (checkFT (c := hcxD) (fs := [⟨2, 0, 90⟩]) hcxW) ?_
  rw [hcx_check]
  repeat (first | refine StepC.go ?_ | refine TS_on rfl (by first | rfl | assumption) ?_)
  exact retT_1 (.inr rfl) rfl
instance : CallIs Try.prog 45 := .of Try.func45 rfl rfl
end Go.Ideal

-- Vw
set_option linter.unusedSimpArgs false
set_option linter.unusedVariables false
namespace Go.Ideal
open Go Go.Proofs Go.RowKit
/-! ### Faults among the arguments -/
end Go.Ideal

-- Vy
set_option linter.unusedSimpArgs false
set_option linter.unusedVariables false
namespace Go.Ideal
open Go Go.Proofs Go.RowKit
/-! ### The law NoiseSingles -/
theorem sgT_ok {c : CircD} (k q : Nat) (hk : k < c.ops.length + 1) (hq : (q : Int) < c.qubits) : ∀ t, t ≤ 3 → ∀ f ∈ sgT k q t, fltOk c f = true := by
  intro t
  induction t with
  | zero => intro _ f hf; cases hf
  | succ t ih =>
    intro ht f hf
    simp only [sgT, List.mem_append, List.mem_singleton] at hf
    rcases hf with hf | rfl
    · exact ih (by omega) f hf
    · rw [fltOk_iff]; simp only [fltE]; omega
theorem sgQ_ok {c : CircD} (k : Nat) (hk : k < c.ops.length + 1) : ∀ q : Nat, (q : Int) ≤ c.qubits → ∀ f ∈ sgQ k q, fltOk c f = true := by
  intro q
  induction q with
  | zero => intro _ f hf; cases hf
  | succ q ih =>
    intro hq f hf
    simp only [sgQ, List.mem_append] at hf
    rcases hf with hf | hf
    · exact ih (by omega) f hf
    · exact sgT_ok k q hk (by omega) 3 (Nat.le_refl _) f hf
theorem sgK_ok {c : CircD} (n : Nat) (hn : (n : Int) ≤ c.qubits) : ∀ k : Nat, k ≤ c.ops.length + 1 → ∀ f ∈ sgK n k, fltOk c f = true := by
  intro k
  induction k with
  | zero => intro _ f hf; cases hf
  | succ k ih =>
    intro hk f hf
    simp only [sgK, List.mem_append] at hf
    rcases hf with hf | hf
    · exact ih (by omega) f hf
    · exact sgQ_ok k (by omega) n hn f hf
theorem singles_ok {c : CircD} (h : (checkC c).2 = 0) : checkF c (singlesC c).1 = 0 ∧ ((singlesC c).1.length : Int) = 3 * c.qubits * (c.ops.length + 1) ∧ (singlesC c).1.length ≤ 786624 := by
  obtain ⟨hr, hlen, _⟩ := checkC_ok h
  obtain ⟨q0, q1, _, _⟩ := rangeBad_no hr
  obtain ⟨N, hN⟩ : ∃ N : Nat, c.qubits = (N : Int) := ⟨c.qubits.toNat, by omega⟩
  have hNt : c.qubits.toNat = N := by omega
  have e : (singlesC c).1 = sgK N (c.ops.length + 1) := by unfold singlesC; rw [if_pos h, hNt]
  rw [e]
  refine ⟨?_, ?_, sgK_small (by omega) (by omega)⟩
  · unfold checkF
    rw [if_pos h, if_pos (List.all_eq_true.2 (sgK_ok N (by omega) _ (Nat.le_refl _)))]
  · rw [sgK_len, hN]; push_cast; rfl
theorem singles_err {c : CircD} : (singlesC c).2 = (checkC c).2 := by
  unfold singlesC; split
  · rename_i h; exact h.symm
  · rfl
theorem singles_none {c : CircD} (h : (checkC c).2 ≠ 0) : (singlesC c).1 = [] := by unfold singlesC; rw [if_neg h]
set_option synthInstance.maxSize 4000 in
set_option synthInstance.maxHeartbeats 400000 in
set_option maxHeartbeats 4000000 in
theorem noiseSinglesT {c : CircD} (hw : CircW c) : Fn Try.prog 13 [circT c] (fun r => r = boolT true) := by
  refine Fn_of Try.func13 rfl (Nat.le_of_ble_eq_true rfl) (fun X => ?_)
  have hsm : (singlesC c).1.length ≤ 786624 := by
    by_cases h : (checkC c).2 = 0
    · exact (singles_ok h).2.2
    · rw [singles_none h]; decide
  repeat (first | refine StepC.go ?_ | intro _)
  rename_i pc
  refine TS_callE awake24T ?_
  repeat (first | refine StepC.go ?_ | refine TV_cond_f (by first | rfl | assumption) ?_)
  refine TS_call (singlesRT hw) ?_
  rintro _ rfl
  repeat (refine StepC.go ?_)
  refine TS_call (singlesT hw) ?_
  rintro _ rfl
  generalize hL : (singlesC c).1 = L at hsm
  generalize hE : (singlesC c).2 = e
  have hLf : (fltRows L).length = L.length := by simp [fltRows]
  repeat (first | refine StepC.go ?_ | refine TS_on rfl (by first | rfl | assumption) ?_ | refine TV_cond_f (by first | rfl | assumption) ?_)
  refine TV_loop (fun d σ B => ∃ (i : Nat), d = L.length - i ∧ i ≤ L.length ∧ TGet σ 7 (intT (i : Int)) ∧ TGet σ 1 (ptrT pc) ∧ TGet σ 5 (.sl 3 (fltRows L)) ∧ TGet σ 3 (.sl 3 (fltRows L)) ∧ TGet σ 6 (intT e) ∧
      SubP B [(pc, .cells (circCs c) 24 true)]) L.length
    ⟨0, by omega, by omega, tget_as rfl, inferInstance, inferInstance, inferInstance, inferInstance, inferInstance⟩ ?_
  rintro d σ B ⟨i, rfl, hi, g7, g1, g5, g3, g6, hB⟩
  refine TV_keep _ (p := hB) ?_
  repeat (refine StepC.go ?_)
  rw [hLf]
  refine TV_cond ?_ ?_ <;> intro hc
  · have hil : i < L.length := by have := of_decide_eq_true hc; omega
    obtain ⟨f, hf⟩ : ∃ f, L[i]? = some f := ⟨_, List.getElem?_eq_getElem hil⟩
    have ngf : NthG (fltRows L) i (fltCs f) := .map fltCs hf
    repeat (first | refine StepC.go ?_ | refine TS_puw (Pu.addi (by omega)) ?_ | refine TD_take rfl rfl ?_ | refine TD_load rfl rfl ?_ | refine TV_draw (id := 10) (plan := [.take 0, .take 1, .take 2, .take 3, .take 4, .take 5, .take 6, .take 7, .take 8]) (by kernel_rfl) ?_ | refine TV_cond_f (by first | rfl | assumption) ?_)
    refine ⟨_, ?_, i + 1, rfl, by omega, tget_as rfl, inferInstance, inferInstance, inferInstance, inferInstance, inferInstance⟩
    omega
  · by_cases he : e = 0
    · have h0 : (checkC c).2 = 0 := by rw [← singles_err, hE, he]
      obtain ⟨s1, s2, s3⟩ := singles_ok h0
      rw [hL] at s1 s2
      subst he
      have hlen := (checkC_ok h0).2.1
      have hLc : (opRows c.ops).length = c.ops.length := by simp [opRows]
      obtain ⟨hr, _, _⟩ := checkC_ok h0
      obtain ⟨q0, q1, _, _⟩ := rangeBad_no hr
      have hd : decide (((fltRows L).length : Int) = IntKind.i64.wrap (IntKind.i64.wrap (3 * c.qubits) * (((opRows c.ops).length : Int) + 1))) = true := by
        rw [hLf, hLc, wrap_small (n := 3 * c.qubits) (by omega) (by omega), ← s2, wrap_small (by omega) (by omega)]
        exact decide_eq_true rfl
      repeat (first | refine StepC.go ?_ | refine TS_on rfl (by first | rfl | assumption) ?_ | refine TS_puw (Pu.addi (by omega)) ?_)
      refine TS_callE (checkFT hw) ?_
      rw [s1]
      repeat (first | refine StepC.go ?_ | refine TS_on rfl (by first | rfl | assumption) ?_)
      refine retT_1 (.inr rfl) ?_
      simp only [tret, hd]
      rfl
    · have he2 : decide (e = 0) = false := decide_eq_false he
      have he3 : decide (e ≠ 0) = true := decide_eq_true he
      have he4 : (!decide (e = 0)) = true := by rw [he2]; rfl
      repeat (first | refine StepC.go ?_ | refine TS_off rfl (by first | rfl | assumption) ?_ | refine TS_off_undef rfl ?_ | refine TS_puw (Pu.pick_t (by first | rfl | assumption)) ?_)
      refine retT_1 (.inr rfl) ?_
      simp [tret, he]
theorem noiseSinglesW {h : IHp} {v1 : Value} {c : CircD} (m1 : Rep h.cell? (circT c) v1) (hw : CircW c) : EvX Try.prog 13 #[v1] h (fun v _ => v = .bool true) :=
  EvX_of_Fn (noiseSinglesT hw) (RepL.cons m1 RepL.nil)
end Go.Ideal
