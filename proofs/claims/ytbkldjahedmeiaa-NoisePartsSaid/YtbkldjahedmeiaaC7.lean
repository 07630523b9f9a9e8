/- Part 7 of what the proof stands on: an interpreter over an ideal memory that is proved sound, steps over it, and contracts of the functions that are called. No condition: no law is claimed here. -/
import Derived.Test.YtbkldjahedmeiaaC6
import Derived.SizedLaws
import Derived.ChangeArms
-- Vt
set_option linter.unusedSimpArgs false
set_option linter.unusedVariables false
namespace Go.Ideal
open Go Go.Proofs Go.RowKit
/-! ### All single faults -/
def fltE (k q t : Nat) : FltD := ⟨(k : Int) - 1, (q : Int), 88 + t⟩
def sgT (k q : Nat) : Nat → List FltD
  | 0 => []
  | t + 1 => sgT k q t ++ [fltE k q t]
def sgQ (k : Nat) : Nat → List FltD
  | 0 => []
  | q + 1 => sgQ k q ++ sgT k q 3
def sgK (n : Nat) : Nat → List FltD
  | 0 => []
  | k + 1 => sgK n k ++ sgQ k n
def singlesC (c : CircD) : List FltD × Int := if (checkC c).2 = 0 then (sgK c.qubits.toNat (c.ops.length + 1), 0) else ([], (checkC c).2)
theorem sgT_len (k q : Nat) : ∀ t, (sgT k q t).length = t := by
  intro t
  induction t with
  | zero => rfl
  | succ t ih => rw [sgT, List.length_append, ih]; rfl
theorem sgQ_len (k : Nat) : ∀ q, (sgQ k q).length = 3 * q := by
  intro q
  induction q with
  | zero => rfl
  | succ q ih => rw [sgQ, List.length_append, ih, sgT_len]; omega
theorem sgK_len (n : Nat) : ∀ k, (sgK n k).length = 3 * n * k := by
  intro k
  induction k with
  | zero => rfl
  | succ k ih => rw [sgK, List.length_append, ih, sgQ_len, Nat.mul_add, Nat.mul_one]
theorem sgK_small {n k : Nat} (hn : n ≤ 64) (hk : k ≤ 4097) : (sgK n k).length ≤ 786624 := by
  rw [sgK_len]
  have : 3 * n * k ≤ 192 * 4097 := Nat.mul_le_mul (by omega) hk
  omega
theorem xyzR {j : Nat} (h : j < 3) : NthG [[u8T 88], [u8T 89], [u8T 90]] j [u8T (88 + j)] := ⟨by
  match j, h with
  | 0, _ => rfl
  | 1, _ => rfl
  | 2, _ => rfl⟩
set_option synthInstance.maxSize 4000 in
set_option synthInstance.maxHeartbeats 400000 in
set_option maxHeartbeats 4000000 in
theorem singlesT {c : CircD} (hw : CircW c) : Fn Try.prog 49 [circT c] (fun r => r = .tup [.sl 3 (fltRows (singlesC c).1), intT (singlesC c).2]) := by
  refine Fn_of Try.func49 rfl (Nat.le_of_ble_eq_true rfl) (fun X => ?_)
  have hLc : (opRows c.ops).length = c.ops.length := by simp [opRows]
  repeat (first | refine StepC.go ?_ | intro _)
  rename_i pc
  refine TS_callE (checkT hw) ?_
  repeat (refine StepC.go ?_)
  refine TV_cond ?_ ?_ <;> intro hc
  · repeat (refine StepC.go ?_)
    refine retT_2c [.sl 3 [], intT (checkC c).2] (.inr rfl) ?_
    simp only [tret, singlesC]
    rw [if_neg (by simpa using hc)]; rfl
  have hck : (checkC c).2 = 0 := by simpa using hc
  obtain ⟨hr, hlen, _⟩ := checkC_ok hck
  obtain ⟨q0, q1, _, _⟩ := rangeBad_no hr
  obtain ⟨N, hN⟩ : ∃ N : Nat, c.qubits = (N : Int) := ⟨c.qubits.toNat, by omega⟩
  have hNt : c.qubits.toNat = N := by omega
  repeat (refine StepC.go ?_)
  refine TV_ghost 3 93 ?_
  intro bl
  refine TV_loop (fun d σ B => ∃ (k bl : Nat), d = c.ops.length + 1 - k ∧ k ≤ c.ops.length + 1 ∧ TGet σ 7 (intT ((k : Int) - 1)) ∧ TGet σ 1 (ptrT pc) ∧ TGet σ 6 (.v (gsv bl (sgK N k).length)) ∧
      SubP B [(bl, .arr 3 (fltRows (sgK N k)) 93 false), (pc, .cells (circCs c) 24 true)]) (c.ops.length + 1)
    ⟨0, bl, by omega, by omega, tget_as rfl, inferInstance, tget_as rfl, inferInstanceAs (SubP _ [(bl, .arr 3 [] 93 false), _])⟩ ?_
  rintro d σ B ⟨k, bl, rfl, hk, g7, g1, g6, hB⟩
  refine TV_keep _ (p := hB) ?_
  repeat (refine StepC.go ?_)
  rw [hLc]
  refine TV_cond ?_ ?_ <;> intro hc2
  · have hkl : k < c.ops.length + 1 := by have := of_decide_eq_true hc2; omega
    have hsz := sgK_small (n := N) (k := k + 1) (by omega) (by omega)
    rw [sgK, List.length_append, sgQ_len] at hsz
    repeat (refine StepC.go ?_)
    rw [hN]
    refine TV_loop (fun d σ B => ∃ (q bl : Nat), d = N - q ∧ q ≤ N ∧ TGet σ 28 (intT q) ∧ TGet σ 27 (intT N) ∧ TGet σ 7 (intT ((k : Int) - 1)) ∧ TGet σ 1 (ptrT pc) ∧ TGet σ 6 (.v (gsv bl (sgK N k ++ sgQ k q).length)) ∧
      SubP B [(bl, .arr 3 (fltRows (sgK N k ++ sgQ k q)) 93 false), (pc, .cells (circCs c) 24 true)]) N
      ⟨0, bl, by omega, by omega, tget_as rfl, inferInstance, inferInstance, inferInstance, tget_as (by rw [sgQ, List.append_nil]), by rw [sgQ, List.append_nil]; infer_instance⟩ ?_
    clear hB g7 g1 g6
    clear bl
    rintro d σ B ⟨q, bl, rfl, hq, g28, g27, g7, g1, g6, hB⟩
    refine TV_keep _ (p := hB) ?_
    repeat (refine StepC.go ?_)
    refine TV_cond ?_ ?_ <;> intro hc3
    · have hql : q < N := by have := of_decide_eq_true hc3; omega
      have hs2 : (sgK N k ++ sgQ k q).length ≤ 786624 := by rw [List.length_append, sgQ_len]; omega
      repeat (first | refine StepC.go ?_ | intro _)
      refine TS_conv ?_
      repeat (refine StepC.go ?_)
      rename_i bx
      refine TV_loop (fun d σ B => ∃ (t bl : Nat), d = 3 - t ∧ t ≤ 3 ∧ TGet σ 34 (intT t) ∧ TGet σ 33 (intT 3) ∧ TGet σ 32 (.v (.slice (some (ad bx 0)) 3 3)) ∧ TGet σ 28 (intT q) ∧ TGet σ 27 (intT N) ∧ TGet σ 8 (intT q) ∧ TGet σ 7 (intT ((k : Int) - 1)) ∧ TGet σ 1 (ptrT pc) ∧ TGet σ 6 (.v (gsv bl ((sgK N k ++ sgQ k q) ++ sgT k q t).length)) ∧
        SubP B [(bl, .arr 3 (fltRows ((sgK N k ++ sgQ k q) ++ sgT k q t)) 93 false), (bx, .arr 1 [[u8T 88], [u8T 89], [u8T 90]] 5 true), (pc, .cells (circCs c) 24 true)]) 3
        ⟨0, bl, by omega, by omega, tget_as rfl, tget_as rfl, inferInstance, inferInstance, inferInstance, inferInstance, inferInstance, inferInstance, tget_as (by rw [sgT, List.append_nil]), by rw [sgT, List.append_nil]; infer_instance⟩ ?_
      clear hB g28 g27 g7 g1 g6
      clear bl
      rintro d σ B ⟨t, bl, rfl, ht, g34, g33, g32, g28, g27, g8, g7, g1, g6, hB⟩
      refine TV_keep _ (p := hB) ?_
      have hs3 : ((sgK N k ++ sgQ k q) ++ sgT k q t).length ≤ 786627 := by rw [List.length_append, sgT_len]; omega
      repeat (refine StepC.go ?_)
      refine TV_cond ?_ ?_ <;> intro hc4
      · have htl : t < 3 := by have := of_decide_eq_true hc4; omega
        have ngt := xyzR htl
        repeat (first | refine StepC.go ?_ | intro _ | refine TS_puw (Pu.addi (by omega)) ?_ | refine TS_append (by omega) (fun _ => ?_))
        rename_i b1 bl2
        refine ⟨_, ?_, t + 1, bl2, rfl, by omega, tget_as rfl, inferInstance, inferInstance, inferInstance, inferInstance, inferInstance, inferInstance, inferInstance, tget_as (by simp [sgT, Nat.add_assoc]), ?_⟩
        · omega
        · have e : fltRows ((sgK N k ++ sgQ k q) ++ sgT k q t ++ [fltE k q t]) = fltRows ((sgK N k ++ sgQ k q) ++ sgT k q t) ++ [[intT ((k : Int) - 1), intT (q : Int), u8T (88 + t)]] := by rw [fltRows_app]; rfl
          rw [sgT, ← List.append_assoc, e]
          show SubP _ [(bl2, .arr 3 (fltRows ((sgK N k ++ sgQ k q) ++ sgT k q t) ++ [[intT ((k : Int) - 1), intT (q : Int), u8T (88 + t)]]) 93 false), (bx, .arr 1 [[u8T 88], [u8T 89], [u8T 90]] 5 true), (pc, .cells (circCs c) 24 true)]
          infer_instance
      · have htl : t = 3 := by have := of_decide_eq_false hc4; omega
        subst htl
        repeat (first | refine StepC.go ?_ | refine TS_puw (Pu.addi (by omega)) ?_)
        refine ⟨_, ?_, q + 1, bl, rfl, by omega, tget_as rfl, inferInstance, inferInstance, inferInstance, tget_as (by rw [sgQ, List.append_assoc]), ?_⟩
        · omega
        · rw [sgQ, ← List.append_assoc]; infer_instance
    · have hql : q = N := by have := of_decide_eq_false hc3; omega
      subst hql
      repeat (first | refine StepC.go ?_ | refine TS_puw (Pu.addi (by omega)) ?_)
      refine ⟨_, ?_, k + 1, bl, rfl, by omega, tget_as (by rw [show (k : Int) - 1 + 1 = ((k + 1 : Nat) : Int) - 1 by omega]), inferInstance, inferInstance, ?_⟩
      · omega
      · rw [sgK]; infer_instance
  · have hkl : k = c.ops.length + 1 := by have := of_decide_eq_false hc2; omega
    subst hkl
    have hsz := sgK_small (n := N) (k := c.ops.length + 1) (by omega) (by omega)
    have : Sm63 (sgK N (c.ops.length + 1)).length := ⟨by omega⟩
    repeat (refine StepC.go ?_)
    refine retT_2 (.inr rfl) ?_
    simp only [tret, singlesC]
    rw [if_pos hck, hNt]
instance : CallIs Try.prog 49 := .of Try.func49 rfl rfl
end Go.Ideal

-- Vu
set_option linter.unusedSimpArgs false
set_option linter.unusedVariables false
namespace Go.Ideal
open Go Go.Proofs Go.RowKit
/-! ### Strings and faults compared -/
theorem pau_held : Try.prog.stoodInHeld 82 = false := by kernel_rfl
theorem pau_guard : Try.prog.eqGuardType Try.prog.depth 82 = false := by kernel_rfl
theorem flt_held : Try.prog.stoodInHeld 93 = false := by kernel_rfl
theorem flt_guard : Try.prog.eqGuardType Try.prog.depth 93 = false := by kernel_rfl
@[reducible] def pauFs : List Field := [⟨"N", 3, 0, false, "", "", 0⟩, ⟨"X", 42, 1, false, "", "", 8⟩, ⟨"Z", 42, 2, false, "", "", 16⟩, ⟨"Phase", 3, 3, false, "", "", 24⟩]
@[reducible] def fltFs : List Field := [⟨"Behind", 3, 0, false, "", "", 0⟩, ⟨"Qubit", 3, 1, false, "", "", 8⟩, ⟨"Kind", 5, 2, false, "", "", 16⟩]
section
variable {σ : Nat → Tr} {B : Boxes} {x y : Operand} {yt : TypeId} {a b c d a' b' c' d' : Int}
theorem pau_eqF : EqF Try.prog pauFs #[.int .i64 a, .int .u64 b, .int .u64 c, .int .i64 d] #[.int .i64 a', .int .u64 b', .int .u64 c', .int .i64 d'] (a == a' && (b == b' && (c == c' && (d == d' && true)))) :=
  .cons (f := ⟨"N", 3, 0, false, "", "", 0⟩) (by decide) (UnderIs.eq : Try.prog.underlying 3 = _) rfl rfl (.cons (f := ⟨"X", 42, 1, false, "", "", 8⟩) (by decide) (UnderIs.eq : Try.prog.underlying 42 = _) rfl rfl
    (.cons (f := ⟨"Z", 42, 2, false, "", "", 16⟩) (by decide) (UnderIs.eq : Try.prog.underlying 42 = _) rfl rfl (.cons (f := ⟨"Phase", 3, 3, false, "", "", 24⟩) (by decide) (UnderIs.eq : Try.prog.underlying 3 = _) rfl rfl .nil)))
instance Pu.pau_eq [e1 : TEval σ x (.agg [.v (.int .i64 a), .v (.int .u64 b), .v (.int .u64 c), .v (.int .i64 d)])] [e2 : TEval σ y (.agg [.v (.int .i64 a'), .v (.int .u64 b'), .v (.int .u64 c'), .v (.int .i64 d')])] : Pu Try.prog σ B (.binOp .eql 82 x y yt) (.v (.bool (a == a' && (b == b' && (c == c' && (d == d' && true)))))) :=
  Pu.eqStruct [.int .i64 a, .int .u64 b, .int .u64 c, .int .i64 d] [.int .i64 a', .int .u64 b', .int .u64 c', .int .i64 d'] rfl rfl Try.underlying82 pau_held pau_guard rfl rfl pau_eqF
instance (priority := 2000) Pu.pau_eq_same [e1 : TEval σ x (.agg [.v (.int .i64 a), .v (.int .u64 b), .v (.int .u64 c), .v (.int .i64 d)])] [e2 : TEval σ y (.agg [.v (.int .i64 a), .v (.int .u64 b), .v (.int .u64 c), .v (.int .i64 d)])] : Pu Try.prog σ B (.binOp .eql 82 x y yt) (.v (.bool true)) := by
  have h := Pu.pau_eq (σ := σ) (B := B) (x := x) (y := y) (yt := yt) (a := a) (b := b) (c := c) (d := d) (a' := a) (b' := b) (c' := c) (d' := d)
  simpa using h
theorem flt_eqF : EqF Try.prog fltFs #[.int .i64 a, .int .i64 b, .int .u8 c] #[.int .i64 a', .int .i64 b', .int .u8 c'] (a == a' && (b == b' && (c == c' && true))) :=
  .cons (f := ⟨"Behind", 3, 0, false, "", "", 0⟩) (by decide) (UnderIs.eq : Try.prog.underlying 3 = _) rfl rfl (.cons (f := ⟨"Qubit", 3, 1, false, "", "", 8⟩) (by decide) (UnderIs.eq : Try.prog.underlying 3 = _) rfl rfl
    (.cons (f := ⟨"Kind", 5, 2, false, "", "", 16⟩) (by decide) (UnderIs.eq : Try.prog.underlying 5 = _) rfl rfl .nil))
instance Pu.flt_ne [e1 : TEval σ x (.agg [.v (.int .i64 a), .v (.int .i64 b), .v (.int .u8 c)])] [e2 : TEval σ y (.agg [.v (.int .i64 a'), .v (.int .i64 b'), .v (.int .u8 c')])] : Pu Try.prog σ B (.binOp .neq 93 x y yt) (.v (.bool (!(a == a' && (b == b' && (c == c' && true)))))) :=
  Pu.neStruct [.int .i64 a, .int .i64 b, .int .u8 c] [.int .i64 a', .int .i64 b', .int .u8 c'] rfl rfl Try.underlying93 flt_held flt_guard rfl rfl flt_eqF
instance (priority := 2000) Pu.flt_ne_same [e1 : TEval σ x (.agg [.v (.int .i64 a), .v (.int .i64 b), .v (.int .u8 c)])] [e2 : TEval σ y (.agg [.v (.int .i64 a), .v (.int .i64 b), .v (.int .u8 c)])] : Pu Try.prog σ B (.binOp .neq 93 x y yt) (.v (.bool false)) := by
  have h := Pu.flt_ne (σ := σ) (B := B) (x := x) (y := y) (yt := yt) (a := a) (b := b) (c := c) (a' := a) (b' := b) (c' := c)
  simpa using h
end
/-! ### All single faults, of the reference -/
instance : CallIs Try.prog 48 := .of Try.func48 rfl rfl
end Go.Ideal

-- Vv
set_option linter.unusedSimpArgs false
set_option linter.unusedVariables false
namespace Go.Ideal
open Go Go.Proofs Go.RowKit
/-! ### The noise laws' own example -/
theorem gate24T (nm : ByteArray) (qs : List Int) : Fn Try.prog 88 [strT nm, .sl 1 (intRows qs)] (fun r => r = .agg (opCs (gateD nm qs))) := by
  refine Fn_of Try.func88 rfl (Nat.le_of_ble_eq_true rfl) (fun X => ?_)
  repeat (first | refine StepC.go ?_ | intro _)
  exact retT_1 (.inr rfl) rfl
instance : CallIs Try.prog 88 := .of Try.func88 rfl rfl
def hcxD : CircD := ⟨2, 0, [gateD nmH [0], gateD nmCx [0, 1]]⟩
theorem hcxW : CircW hcxD := by
  intro o ho
  simp only [hcxD, List.mem_cons, List.not_mem_nil, or_false] at ho
  rcases ho with rfl | rfl <;> exact ⟨by decide, by decide⟩
theorem hcx_push : pushC hcxD [⟨-1, 0, 90⟩] = (⟨2, 3, 0, 0⟩, 0) := by kernel_rfl
theorem hcx_singles : (singlesC hcxD).1.length = 18 ∧ (singlesC hcxD).2 = 0 := by decide +kernel
theorem hcx_check : checkF hcxD [⟨2, 0, 90⟩] = 2 := by decide +kernel
theorem awake24T : Fn Try.prog 45 [] (fun r => r = boolT true) := by
  refine Fn_of Try.func45 rfl (Nat.le_of_ble_eq_true rfl) (fun X => ?_)
  repeat (first | refine StepC.go ?_ | intro _)
  rename_i b
  refine TS_freeze 6 b ?_
  refine TS_call (gate24T nmH [0]) ?_
  rintro _ rfl
  repeat (first | refine StepC.go ?_ | intro _)
  rename_i b2
  refine TS_freeze 8 b2 ?_
  refine TS_call (gate24T nmCx [0, 1]) ?_
  rintro _ rfl
  refine StepC.go ?_
  intro bc
  refine TS_freeze 10 bc ?_
  repeat (first | refine StepC.go ?_ | intro _)
  rename_i b3
  refine TS_freeze 15 b3 ?_
  refine TS_call (pushT (c := hcxD) (fs := [⟨-1, 0, 90⟩]) hcxW (by decide)) ?_
  rintro _ rfl
  rw [hcx_push]
  repeat (first | refine StepC.go ?_ | intro _)
  refine TS_call (singlesT (c := hcxD) hcxW) ?_
  rintro _ rfl
  rw [hcx_singles.2]
  have hl : LenT (fltRows (singlesC hcxD).1) 18 := ⟨by rw [← hcx_singles.1]; simp [fltRows]⟩
  repeat (first | refine StepC.go ?_ | intro _ | refine TS_on rfl (by first | rfl | assumption) ?_)
  rename_i b4
  refine TS_freeze 43 b4 ?_
  refine TS_callE (checkFT (c := hcxD) (fs := [⟨2, 0, 90⟩]) hcxW) ?_
  rw [hcx_check]
  repeat (first | refine StepC.go ?_ | refine TS_on rfl (by first | rfl | assumption) ?_)
  exact retT_1 (.inr rfl) rfl
instance : CallIs Try.prog 45 := .of Try.func45 rfl rfl
end Go.Ideal

-- Vw
set_option linter.unusedSimpArgs false
set_option linter.unusedVariables false
namespace Go.Ideal
open Go Go.Proofs Go.RowKit
/-! ### Faults among the arguments -/
set_option maxRecDepth 10000 in
theorem flt_of {h : IHp} {n : Nat} {row : List Value} (hd : IRd Try.prog h (n + 2) 93 row) : ∃ f : FltD, row = [.int .i64 f.beh, .int .i64 f.q, .int .u8 f.kind] ∧ f.kind < 256 := by
  have hu : ∃ f0 f1 f2, Try.prog.underlying 93 = some (.struct #[f0, f1, f2]) ∧ (f0.type = 3 ∧ f0.offset = 0) ∧ (f1.type = 3 ∧ f1.offset = 1) ∧ (f2.type = 5 ∧ f2.offset = 2) :=
    ⟨_, _, _, Try.underlying93, ⟨rfl, rfl⟩, ⟨rfl, rfl⟩, ⟨rfl, rfl⟩⟩
  obtain ⟨f0, f1, f2, hu, ⟨t0, o0⟩, ⟨t1, o1⟩, ⟨t2, o2⟩⟩ := hu
  have ci : Try.prog.cellsOf 3 = 1 := by kernel_rfl
  have cu : Try.prog.cellsOf 5 = 1 := by kernel_rfl
  have cc : Try.prog.cellsOf 93 = 3 := by kernel_rfl
  rw [IRd, hu] at hd
  obtain ⟨hl, hf⟩ := hd
  rw [cc] at hl
  match row, hl with
  | [v0, v1, v2], _ =>
    have h0 := hf 0 f0 rfl
    have h1 := hf 1 f1 rfl
    have h2 := hf 2 f2 rfl
    rw [t0, o0, ci] at h0
    rw [t1, o1, ci] at h1
    rw [t2, o2, cu] at h2
    simp only [List.drop_zero, List.take_succ_cons, List.take_zero, List.drop_succ_cons] at h0 h1 h2
    rw [IRd, (UnderIs.eq : Try.prog.underlying 3 = _)] at h0 h1
    rw [IRd, (UnderIs.eq : Try.prog.underlying 5 = _)] at h2
    obtain ⟨z0, e0, _⟩ := h0
    obtain ⟨z1, e1, _⟩ := h1
    obtain ⟨z2, e2, w2⟩ := h2
    have hb : 0 ≤ z2 ∧ z2 < 256 := by
      simp [Lit.wf, IntKind.min, IntKind.max, IntKind.bits, IntKind.signed] at w2
      omega
    refine ⟨⟨z0, z1, z2.toNat⟩, ?_, by show z2.toNat < 256; omega⟩
    have h3 : ((z2.toNat : Nat) : Int) = z2 := by omega
    simp only [List.cons.injEq, and_true] at e0 e1 e2
    rw [e0, e1, e2, h3]
set_option maxRecDepth 10000 in
theorem flts_tree {h : IHp} {n : Nat} {v : Value} (hd : IRd Try.prog h (n + 3) 80 [v]) : ∃ (fs : List FltD) (a : Option Addr) (l c : Nat), v = .slice a l c ∧ fs.length = l ∧ Rep h.cell? (.sl 3 (fltRows fs)) v := by
  rw [IRd, (UnderIs.eq : Try.prog.underlying 80 = _)] at hd
  rcases hd with h1 | ⟨a, l, c, h1, h2, h3, h5, h4⟩
  · cases h1
    refine ⟨[], none, 0, 0, rfl, rfl, ?_⟩
    rw [Rep]
    exact ⟨none, 0, 0, rfl, rfl, Nat.le_refl _, by decide, (fun d hd => by cases hd), rfl⟩
  · cases h1
    have cc : Try.prog.cellsOf 93 = 3 := by kernel_rfl
    have key : ∀ i, i < c → ∃ f : FltD, h.row a.block (a.off + i * 3) 3 = some [.int .i64 f.beh, .int .i64 f.q, .int .u8 f.kind] := by
      intro i hi
      obtain ⟨row, g1, g2⟩ := h4 i hi
      rw [cc] at g1
      obtain ⟨f, rfl, _⟩ := flt_of g2
      exact ⟨f, g1⟩
    have hex : ∃ f : Nat → FltD, ∀ i, i < l → h.row a.block (a.off + i * 3) 3 = some [.int .i64 (f i).beh, .int .i64 (f i).q, .int .u8 (f i).kind] :=
      ⟨fun i => if hi : i < c then Classical.choose (key i hi) else ⟨0, 0, 0⟩, fun i hi => by
        have hic : i < c := by omega
        simp only [hic, dif_pos]
        exact Classical.choose_spec (key i hic)⟩
    obtain ⟨f, hf⟩ := hex
    refine ⟨(List.range l).map f, some a, l, c, rfl, by simp, ?_⟩
    rw [Rep]
    refine ⟨some a, l, c, rfl, by simp [fltRows], h2, by unfold maxLen at h3; omega, fun d hd => by cases hd; exact h5, ?_⟩
    simp only
    refine repR_of fun i row hr => ?_
    simp only [fltRows, List.getElem?_map, Option.map_eq_some_iff] at hr
    obtain ⟨o, ⟨k, hk, rfl⟩, rfl⟩ := hr
    obtain ⟨hk1, rfl⟩ := List.getElem?_eq_some_iff.1 hk
    simp only [List.length_range] at hk1
    simp only [List.getElem_range]
    exact ⟨_, by rw [← row_rowM]; exact hf i hk1, RepL.cons (rep_v _) (RepL.cons (rep_v _) (RepL.cons (rep_v _) RepL.nil))⟩
end Go.Ideal

-- Wd
set_option linter.unusedSimpArgs false
set_option linter.unusedVariables false
namespace Go.Ideal
open Go Go.Proofs Go.RowKit
/-! ### How long a list of faults among the arguments is -/
theorem R_len {ρ : RM} {a : Option Addr} {l c : Nat} {v : Value} (h : R ρ (.slice a l c) v) : ∃ a' c', v = .slice a' l c' := by
  cases a with
  | none => have := R_slice0 h; exact ⟨_, _, this⟩
  | some a =>
    by_cases hs : a.spot = none
    · obtain ⟨_, b, _, e⟩ := R_slice h hs; exact ⟨_, _, e⟩
    · obtain ⟨rfl, a', c', e⟩ := R_spotted h hs; exact ⟨_, _, e⟩
set_option maxRecDepth 100000 in
theorem flts_sized {H : Type} {enc : TypeId × Value → H} {W : World} {base : Nat} {v : Value} {d : DataW H} {p : List MemPlace} (k : Value.okWide Try.prog W .any base 80 v)
    (h : DataW.Trod enc Try.prog W 0 (fun _ => true) true 80 v d p) (hs : ∀ elems spare, d = .slice elems spare → (elems.length + spare.length) * Try.prog.bytesOf 93 ≤ reachBytes) : ∀ a l c, v = .slice a l c → 24 * l ≤ 2 ^ 47 - 4096 := by
  intro a l c e
  obtain ⟨fuel, h⟩ := h
  rw [(slice_cell Try.underlying80 k).1] at h
  have hb : Try.prog.bytesOf 93 = 24 := by kernel_rfl
  rcases DataW.trod_slice Try.underlying80 h with ⟨e1, _⟩ | ⟨a', len, cap, elems, rest, n, _, e1, ex, _, _, _, hl, _⟩
  · rw [e] at e1
    have : l = 0 := by simp at e1; exact e1.2.1
    omega
  · rw [e] at e1
    have hl2 : l = len := by simp at e1; exact e1.2.1
    have h1 := hs _ _ (Prod.ext_iff.1 ex).1
    rw [hb] at h1
    simp only [List.length_map] at h1
    have : reachBytes = 2 ^ 47 - 4096 := by decide
    rw [this] at h1
    omega
end Go.Ideal

-- We
set_option linter.unusedSimpArgs false
set_option linter.unusedVariables false
namespace Go.Ideal
open Go Go.Proofs Go.RowKit
/-! ### How long the slices inside an argument are -/
/-- no slice that is reached has more bytes than memory -/
def SzD (P : Program) (h : IHp) : Nat → TypeId → List Value → Prop
  | 0, _, _ => True
  | n + 1, t, cs =>
    match P.underlying t with
    | some (.slice e) => ∀ a l c, cs = [.slice a l c] → l * P.bytesOf e ≤ reachBytes ∧ ∀ b, a = some b → ∀ i, i < l → ∀ row, h.row b.block (b.off + i * P.cellsOf e) (P.cellsOf e) = some row → SzD P h n e row
    | some (.struct fs) => ∀ (i : Nat) (f : Field), fs[i]? = some f → SzD P h n f.type ((cs.drop f.offset).take (P.cellsOf f.type))
    | _ => True
section
variable {H : Type} {enc : TypeId × Value → H} {P : Program} {w : World} {held : Bool}
theorem weightsAll_mem {e : TypeId} {d : DataW H} : ∀ {ds : List (DataW H)}, d ∈ ds → ∀ n ∈ d.weights P e, n ∈ DataW.weightsAll P e ds
  | [], h, _, _ => by cases h
  | d0 :: ds, h, n, hn => by
    simp only [DataW.weightsAll, List.mem_append]
    rcases List.mem_cons.1 h with rfl | h
    · exact .inl hn
    · exact .inr (weightsAll_mem h n hn)
theorem bridgeS : ∀ (N : Nat) (t : TypeId) (fuel : Nat) (cs : List Value) (x : DataW H × List MemPlace), plainT P N t = true → DataW.trod enc P w 0 (fun _ => true) held fuel t cs = some x → (∀ n ∈ x.1.weights P t, n ≤ reachBytes) → SzD P (heapOf w) N t (cs.map up) := by
  intro N
  induction N with
  | zero => intro t fuel cs x h; simp [plainT] at h
  | succ N ih =>
    intro t fuel cs x hp h hw
    have hp0 := hp
    have h0 := h
    rw [plainT] at hp
    rw [SzD]
    split at hp
    · rename_i hu; rw [hu]; trivial
    · rename_i k hu; rw [hu]; trivial
    · rename_i hu; rw [hu]; trivial
    · rename_i e hu
      rw [hu]
      simp only
      simp only [Bool.and_eq_true, bne_iff_ne, ne_eq] at hp
      obtain ⟨hn, hpe⟩ := hp
      rcases DataW.trod_slice hu h with ⟨rfl, _⟩ | ⟨a, l, c, elems, rest, m, rfl, rfl, ex, _, hlc, hcm, hel, he, hr, _⟩
      · intro a l c e1
        have hup : up (.slice none 0 0) = .slice none 0 0 := by simp [up, upv]
        simp only [List.map_cons, List.map_nil, hup, List.cons.injEq, Value.slice.injEq, and_true] at e1
        obtain ⟨rfl, rfl, rfl⟩ := e1
        exact ⟨by rw [Nat.zero_mul]; exact Nat.zero_le _, fun b hb => by cases hb⟩
      · have hw1 : (elems.length + rest.length) * P.bytesOf e ≤ reachBytes := hw _ (by
          rw [ex]; simp [DataW.weights, hu])
        have hl1 : l * P.bytesOf e ≤ reachBytes := Nat.le_trans (Nat.mul_le_mul_right _ (by omega)) hw1
        intro a1 l1 c1 e1
        by_cases hs : a.spot = none
        · have hup : upv (.slice (some a) l c) = some (.slice (some { block := 2 * a.block + 1, off := a.off }) l c) := by simp [upv, hs]
          simp only [List.map_cons, List.map_nil, up_of hup, List.cons.injEq, Value.slice.injEq, and_true] at e1
          obtain ⟨rfl, rfl, rfl⟩ := e1
          refine ⟨hl1, fun b hb i hi row hrow => ?_⟩
          cases hb
          have h1 := he i hi
          rw [List.getElem?_eq_getElem (by omega)] at h1
          simp only [Option.bind_eq_some_iff] at h1
          obtain ⟨row0, h2, h3⟩ := h1
          obtain ⟨h4, _⟩ := bridge N e m row0 _ hpe h3
          have hsp : (a.add (i * P.cellsOf e)).spot = none := by unfold Addr.add; split <;> simp [hs]
          have h5 := irow hsp h2 h4
          have hblk : (a.add (i * P.cellsOf e)).block = a.block := by unfold Addr.add; split <;> rfl
          have hoff : (a.add (i * P.cellsOf e)).off = a.off + i * P.cellsOf e := by unfold Addr.add; split <;> simp_all
          rw [hblk, hoff] at h5
          have h6 : row = row0.map up := by
            have := hrow.symm.trans h5
            exact Option.some.inj this
          rw [h6]
          refine ih e m row0 _ hpe h3 fun n hn => hw n ?_
          rw [ex]
          simp only [DataW.weights, hu, List.mem_cons, List.mem_append]
          exact .inr (.inl (weightsAll_mem (List.mem_map.2 ⟨_, List.getElem_mem _, rfl⟩) n hn))
        · have hl0 : l = 0 := by
            apply Decidable.byContradiction
            intro hl
            have h1 := he 0 (by omega)
            rw [List.getElem?_eq_getElem (by omega)] at h1
            simp only [Option.bind_eq_some_iff] at h1
            obtain ⟨row0, h1, _⟩ := h1
            have ha0 : a.add (0 * P.cellsOf e) = a := by simp [Addr.add]
            rw [ha0] at h1
            simp only [World.cells?, Nat.zero_le, if_true] at h1
            obtain ⟨m', hm'⟩ : ∃ m', P.cellsOf e = m' + 1 := ⟨P.cellsOf e - 1, by omega⟩
            rw [hm', List.range_succ_eq_map, List.mapM_cons] at h1
            have : w.cell? (a.add 0) = none := by
              simp only [World.cell?, Addr.add, if_true]
              split
              · rw [if_pos]; cases hsp : a.spot with
                | none => exact absurd hsp hs
                | some _ => rfl
              · rfl
            rw [this] at h1
            simp at h1
          have hl1 : l1 = 0 := by
            obtain ⟨h7, _⟩ := bridge (N + 1) t _ _ _ hp0 h0
            have h9 : up (.slice (some a) l c) = .slice a1 l1 c1 := by simpa using e1
            obtain ⟨u, hu2⟩ := Option.isSome_iff_exists.1 (h7 (.slice (some a) l c) (by simp))
            rw [up_of hu2] at h9
            subst h9
            have hsn : a.spot.isNone = false := by
              rcases hq : a.spot with _ | q
              · exact absurd hq hs
              · rfl
            simp only [upv, hsn] at hu2
            split at hu2
            · rename_i h10; cases h10
            · split at hu2
              · have := Option.some.inj hu2; cases this; rfl
              · cases hu2
          subst hl1
          exact ⟨by rw [Nat.zero_mul]; exact Nat.zero_le _, fun b hb i hi => absurd hi (Nat.not_lt_zero i)⟩
    · rename_i fs hu
      rw [hu]
      simp only
      simp only [Bool.and_eq_true, List.all_eq_true] at hp
      obtain ⟨htile, hall⟩ := hp
      obtain ⟨xs, m, rfl, ex, hlen, hxl, hf⟩ := DataW.trod_struct hu h
      intro i f hfi
      have h1 := hf i f hfi
      have hi : i < xs.length := by rw [hxl]; exact (Array.getElem?_eq_some_iff.1 hfi).1
      rw [List.getElem?_eq_getElem hi] at h1
      have h2 := ih _ _ _ _ (hall f (by rw [Array.mem_toList_iff]; exact Array.mem_of_getElem? hfi)) h1 fun n hn => hw n (by
        rw [ex]
        simp only [DataW.weights, hu]
        exact DataW.weights_mem_each (j := i) (t := f.type) (d := xs[i].1) (by simp [hfi]) (by simp [hi]) n hn)
      simpa [List.map_take, List.map_drop] using h2
    · cases hp
theorem structS {N : Nat} {t : TypeId} {cs : Array Value} {c1 : List Value} {d : DataW H} {p : List MemPlace} (hp : plainT P N t = true) (h : DataW.Trod enc P w 0 (fun _ => true) held t (.agg cs) d p)
    (e : upA (.agg cs) = .agg c1.toArray) (hw : ∀ n ∈ d.weights P t, n ≤ reachBytes) : SzD P (heapOf w) N t c1 := by
  obtain ⟨fuel, h⟩ := h
  have h1 := bridgeS N t fuel _ _ hp h hw
  have e2 : c1 = cs.toList.map up := by
    simp only [upA, Value.agg.injEq] at e
    have := congrArg Array.toList e
    simpa using this.symm
  rw [e2]
  simpa [Value.cells] using h1
theorem structS2 {N base : Nat} {t : TypeId} {fs : Array Field} {v : Value} {c1 : List Value} {d : DataW H} {p : List MemPlace} (hu : P.underlying t = some (.struct fs)) (hp : plainT P N t = true) (hv : Value.okWide P w .any base t v)
    (h : DataW.Trod enc P w 0 (fun _ => true) held t v d p) (e : upA v = .agg c1.toArray) (hw : ∀ n ∈ d.weights P t, n ≤ reachBytes) : SzD P (heapOf w) N t c1 := by
  simp only [Value.okWide, hu] at hv
  obtain ⟨cs, rfl, _, _⟩ := hv
  exact structS hp h e hw
end
set_option maxRecDepth 100000 in
theorem op_sz {h : IHp} {n : Nat} {cells : List Value} {o : OpD} (x : OpC h cells o) (hd : SzD Try.prog h (n + 2) 44 cells) : 8 * o.qs.length ≤ reachBytes := by
  obtain ⟨a, l, c, rfl, ⟨h1, _, _⟩, _⟩ := x
  rw [ints_len] at h1
  have hu : ∃ f0 f1 f2 f3 f4 f5 f6, Try.prog.underlying 44 = some (.struct #[f0, f1, f2, f3, f4, f5, f6]) ∧ (f2.type = 25 ∧ f2.offset = 2) := ⟨_, _, _, _, _, _, _, Try.underlying44, ⟨rfl, rfl⟩⟩
  obtain ⟨f0, f1, f2, f3, f4, f5, f6, hu, ⟨t2, o2⟩⟩ := hu
  have csl : Try.prog.cellsOf 25 = 1 := by kernel_rfl
  have hb : Try.prog.bytesOf 3 = 8 := by kernel_rfl
  rw [SzD, hu] at hd
  have g2 := hd 2 f2 rfl
  rw [t2, o2, csl] at g2
  simp only [OpD.cells, List.take_succ_cons, List.take_zero, List.drop_zero, List.drop_succ_cons] at g2
  rw [SzD, (UnderIs.eq : Try.prog.underlying 25 = _)] at g2
  have := (g2 a l c rfl).1
  rw [hb] at this
  omega
set_option maxRecDepth 100000 in
theorem circ_sz {h : IHp} {n : Nat} {a : Option Addr} {l k : Nat} {c : CircD} (x : OpsV h a l k c.ops) (hd : SzD Try.prog h (n + 5) 24 [.int .i64 c.qubits, .int .i64 c.bits, .slice a l k]) :
    80 * c.ops.length ≤ reachBytes ∧ ∀ o ∈ c.ops, 8 * o.qs.length ≤ reachBytes := by
  obtain ⟨h1, h2, h3, h4⟩ := x
  have hu : ∃ f0 f1 f2, Try.prog.underlying 24 = some (.struct #[f0, f1, f2]) ∧ (f2.type = 22 ∧ f2.offset = 2) := ⟨_, _, _, Try.underlying24, ⟨rfl, rfl⟩⟩
  obtain ⟨f0, f1, f2, hu, ⟨t2, o2⟩⟩ := hu
  have csl : Try.prog.cellsOf 22 = 1 := by kernel_rfl
  have hb : Try.prog.bytesOf 44 = 80 := by kernel_rfl
  have hc : Try.prog.cellsOf 44 = 7 := by kernel_rfl
  rw [SzD, hu] at hd
  have g2 := hd 2 f2 rfl
  rw [t2, o2, csl] at g2
  simp only [List.take_succ_cons, List.take_zero, List.drop_zero, List.drop_succ_cons] at g2
  rw [SzD, (UnderIs.eq : Try.prog.underlying 22 = _)] at g2
  obtain ⟨g3, g4⟩ := g2 a l k rfl
  rw [hb] at g3
  refine ⟨by omega, fun o ho => ?_⟩
  obtain ⟨i, hi⟩ := List.getElem?_of_mem ho
  have hil := (List.getElem?_eq_some_iff.1 hi).1
  cases a with
  | none => simp only at h4; omega
  | some a =>
    obtain ⟨cells, h5, h6⟩ := h4 i o hi
    have g5 := g4 a rfl i (by omega) cells (by rw [hc]; exact h5)
    exact op_sz h6 g5
set_option maxRecDepth 100000 in
theorem circ_tree2 {h : IHp} {n : Nat} {cs : List Value} (hd : IRd Try.prog h (n + 5) 24 cs) (hz : SzD Try.prog h (n + 5) 24 cs) : ∃ c : CircD, Rep h.cell? (circT c) (.agg cs.toArray) ∧ CircW c ∧ 80 * c.ops.length ≤ reachBytes ∧ ∀ o ∈ c.ops, 8 * o.qs.length ≤ reachBytes := by
  have h0 := circ_sp hd
  clear hd
  obtain ⟨c, a, l, k, h1, h2, h3⟩ := h0
  rw [h2] at hz
  obtain ⟨z1, z2⟩ := circ_sz h1 hz
  obtain ⟨r1, r2⟩ := circ_rep h1 h3
  exact ⟨c, by rw [h2]; exact r1, r2, z1, z2⟩
end Go.Ideal

-- Wf
set_option linter.unusedSimpArgs false
set_option linter.unusedVariables false
namespace Go.Ideal
open Go Go.Proofs Go.RowKit
/-! ### Copy and Same, of circuits of any size -/
set_option synthInstance.maxSize 4000 in
set_option synthInstance.maxHeartbeats 400000 in
set_option maxHeartbeats 4000000 in
theorem sameT2 {c : CircD} (hs : ∀ o ∈ c.ops, o.qs.length < 2 ^ 60) : Fn Try.prog 21 [circT c, circT c] (fun r => r = boolT true) := by
  refine Fn_of Try.func21 rfl (Nat.le_of_ble_eq_true rfl) (fun X => ?_)
  refine TV_fact 0 (fun F v h => by obtain ⟨w, h1⟩ := rep_agg_at h (i := 2) rfl; exact rep_small h1) fun hsm => ?_
  have hL : (opRows c.ops).length = c.ops.length := by simp [opRows]
  rw [hL] at hsm
  repeat (first | refine StepC.go ?_ | intro _ | refine TS_on rfl (by first | rfl | assumption) ?_ | refine TV_cond_f (by first | rfl | assumption) ?_)
  rename_i pa pb
  refine TV_loop (fun d σ B => ∃ i : Nat, d = c.ops.length - i ∧ i ≤ c.ops.length ∧ TGet σ 5 (intT i) ∧ TGet σ 2 (.v (.pointer (some (ad pa 0)))) ∧ TGet σ 3 (.v (.pointer (some (ad pb 0)))) ∧ SubP B [(pa, .cells (circCs c) 24 true), (pb, .cells (circCs c) 24 true)]) c.ops.length
    ⟨0, by omega, by omega, inferInstance, inferInstance, inferInstance, inferInstance⟩ ?_
  rintro d σ B ⟨i, rfl, hi, g5, g2, g3, hB⟩
  refine TV_keep _ (p := hB) ?_
  repeat (refine StepC.go ?_)
  rw [hL]
  refine TV_cond ?_ ?_ <;> intro hc
  · have hil : i < c.ops.length := by simp at hc; omega
    obtain ⟨o, ho⟩ : ∃ o, c.ops[i]? = some o := ⟨_, List.getElem?_eq_getElem hil⟩
    have ng : NthG (opRows c.ops) i (opCs o) := .map opCs ho
    have hL2 : (intRows o.qs).length = o.qs.length := by simp [intRows]
    repeat (first | refine StepC.go ?_ | intro _ | refine TS_on rfl (by first | rfl | assumption) ?_ | refine TD_take rfl rfl ?_ | refine TD_load rfl rfl ?_ | refine TD_one rfl ?_ | refine FiltT_nil ?_ | refine FiltT_drop rfl ?_ | refine FiltT_keep rfl ?_ | refine TD_virt rfl rfl rfl (fun _ => ?_) | refine TV_draw (id := 6) (plan := [.take 0, .take 1, .take 2, .take 3, .take 4, .take 5, .take 6, .take 7, .take 8, .take 9, .virt 10, .one 11, .one 12, .one 13]) (by kernel_rfl) ?_)
    rename_i px py
    have hbb : (!o.iff == o.iff) = false := by simp
    rw [hbb]
    repeat (first | refine StepC.go ?_ | refine TS_on rfl (by first | rfl | assumption) ?_ | refine TV_cond_f (by first | rfl | assumption) ?_)
    refine TV_loop (fun d σ B => ∃ j : Nat, d = o.qs.length - j ∧ j ≤ o.qs.length ∧ TGet σ 8 (intT j) ∧ TGet σ 5 (intT i) ∧ TGet σ 6 (.v (.pointer (some (ad px 0)))) ∧ TGet σ 7 (.v (.pointer (some (ad py 0)))) ∧ TGet σ 2 (.v (.pointer (some (ad pa 0)))) ∧ TGet σ 3 (.v (.pointer (some (ad pb 0)))) ∧ SubP B [(px, .cells (opCs o) 44 true), (py, .cells (opCs o) 44 true), (pa, .cells (circCs c) 24 true), (pb, .cells (circCs c) 24 true)]) o.qs.length
      ⟨0, by omega, by omega, inferInstance, inferInstance, inferInstance, inferInstance, inferInstance, inferInstance, inferInstance⟩ ?_
    rintro d σ B ⟨j, rfl, hj, g8, g5, g6, g7, g2, g3, hB⟩
    refine TV_keep _ (p := hB) ?_
    have hqs := hs o (List.mem_of_getElem? ho)
    repeat (refine StepC.go ?_)
    rw [hL2]
    refine TV_cond ?_ ?_ <;> intro hc2
    · have hjl : j < o.qs.length := by simp at hc2; omega
      obtain ⟨x, hx⟩ : ∃ x, o.qs[j]? = some x := ⟨_, List.getElem?_eq_getElem hjl⟩
      have ngx : NthG (intRows o.qs) j [intT x] := .map (fun x => [intT x]) hx
      repeat (first | refine StepC.go ?_ | refine TS_puw (Pu.addi (by omega)) ?_ | refine TD_take rfl rfl ?_ | refine TD_load rfl rfl ?_ | refine TV_draw (id := 12) (plan := [.take 0, .take 1, .take 2, .take 3, .take 4, .take 5, .take 6, .take 7, .take 8, .take 9, .take 10]) (by kernel_rfl) ?_ | refine TV_cond_f (by first | rfl | assumption) ?_)
      refine ⟨_, ?_, j + 1, rfl, by omega, inferInstance, inferInstance, inferInstance, inferInstance, inferInstance, inferInstance, inferInstance⟩
      omega
    · repeat (first | refine StepC.go ?_ | refine TS_puw (Pu.addi (by omega)) ?_)
      refine ⟨_, ?_, i + 1, rfl, by omega, inferInstance, inferInstance, inferInstance, inferInstance⟩
      omega
  · repeat (refine StepC.go ?_)
    refine retT_1 (.inr rfl) ?_
    rfl
set_option maxHeartbeats 1000000 in
theorem copyT2 {c : CircD} (hs : ∀ o ∈ c.ops, 8 * o.qs.length ≤ 2 ^ 47) (hl : 80 * c.ops.length ≤ 2 ^ 47) : Fn Try.prog 35 [circT c] (fun r => r = circT c) := by
  refine Fn_of Try.func35 rfl (Nat.le_of_ble_eq_true rfl) (fun X => ?_)
  have hL : (opRows c.ops).length = c.ops.length := by simp [opRows]
  repeat (first | refine StepC.go ?_ | intro _)
  rename_i p pr pd
  refine TV_ghost 7 44 ?_
  intro b0
  refine TV_loop (fun d σ B => ∃ (i b : Nat), d = c.ops.length - i ∧ i ≤ c.ops.length ∧ TGet σ 4 (intT i) ∧ TGet σ 1 (.v (.pointer (some (ad p 0)))) ∧ TGet σ 2 (.v (.pointer (some (ad pr 0)))) ∧ TGet σ 3 (.v (.pointer (some (ad pd 0)))) ∧ SubP B [(p, .cells (circCs c) 24 true), (pr, .cells [intT 0, intT 0, .v (.slice none 0 0)] 24 true), (pd, .cells [intT c.qubits, intT c.bits, .v (gsv b i)] 24 true), (b, .arr 7 (opRows (c.ops.take i)) 44 false)]) c.ops.length
    ⟨0, b0, by omega, by omega, inferInstance, inferInstance, inferInstance, inferInstance, inferInstanceAs (SubP _ [(p, .cells (circCs c) 24 true), (pr, .cells [intT 0, intT 0, .v (.slice none 0 0)] 24 true), (pd, .cells [intT c.qubits, intT c.bits, .v (.slice none 0 0)] 24 true), (b0, .arr 7 [] 44 false)])⟩ ?_
  rintro d σ B ⟨i, b, rfl, hi, g4, g1, g2, g3, hB⟩
  refine TV_keep _ (p := hB) ?_
  have hLn : LenT (opRows (c.ops.take i)) i := ⟨by simp [opRows]; omega⟩
  have : Sm63 i := ⟨by omega⟩
  repeat (refine StepC.go ?_)
  rw [hL]
  refine TV_cond ?_ ?_ <;> intro hc
  · have hil : i < c.ops.length := by simp at hc; omega
    obtain ⟨o, ho⟩ : ∃ o, c.ops[i]? = some o := ⟨_, List.getElem?_eq_getElem (by omega)⟩
    have ng : NthG (opRows c.ops) i (opCs o) := .map opCs ho
    have hso := hs o (List.mem_of_getElem? ho)
    have : Sm63 (0 + o.qs.length) := ⟨by omega⟩
    iterate 5 refine StepC.go ?_
    refine TV_cut (fun σ B => ∃ (po : Nat), TGet σ 4 (intT i) ∧ TGet σ 1 (.v (.pointer (some (ad p 0)))) ∧ TGet σ 2 (.v (.pointer (some (ad pr 0)))) ∧ TGet σ 3 (.v (.pointer (some (ad pd 0)))) ∧ TGet σ 5 (.v (.pointer (some (ad po 0)))) ∧ SubP B [(po, .cells (opCs o) 44 true), (p, .cells (circCs c) 24 true), (pr, .cells [intT 0, intT 0, .v (.slice none 0 0)] 24 true), (pd, .cells [intT c.qubits, intT c.bits, .v (gsv b i)] 24 true), (b, .arr 7 (opRows (c.ops.take i)) 44 false)]) ?_ ?_
    · repeat (first | refine StepC.go ?_ | intro _)
      rename_i po
      exact ⟨po, inferInstance, inferInstance, inferInstance, inferInstance, inferInstance, inferInstance⟩
    rintro σ B ⟨po, g4, g1, g2, g3, g5, hB⟩
    refine TV_keep _ (p := hB) ?_
    refine StepC.go ?_
    refine TV_cut (fun σ B => ∃ (po bo : Nat), TGet σ 4 (intT i) ∧ TGet σ 1 (.v (.pointer (some (ad p 0)))) ∧ TGet σ 2 (.v (.pointer (some (ad pr 0)))) ∧ TGet σ 3 (.v (.pointer (some (ad pd 0)))) ∧ TGet σ 5 (.v (.pointer (some (ad po 0)))) ∧ SubP B [(bo, .arr 1 ([] ++ intRows o.qs) 3 ((intRows o.qs).isEmpty && true)), (po, .cells [intT o.kind, strT o.name, .v (.slice (some (ad bo 0)) (0 + o.qs.length) (0 + o.qs.length)), intT o.bit, boolT o.iff, u64T o.mask, u64T o.value] 44 true), (p, .cells (circCs c) 24 true), (pr, .cells [intT 0, intT 0, .v (.slice none 0 0)] 24 true), (pd, .cells [intT c.qubits, intT c.bits, .v (gsv b i)] 24 true), (b, .arr 7 (opRows (c.ops.take i)) 44 false)]) ?_ ?_
    · repeat (first | refine StepC.go ?_ | intro _ | refine TS_append_own (by omega) (fun _ => ?_))
      rename_i be bo
      exact ⟨po, bo, inferInstance, inferInstance, inferInstance, inferInstance, inferInstance, inferInstance⟩
    rintro σ B ⟨po, bo, g4, g1, g2, g3, g5, hB⟩
    refine TV_keep _ (p := hB) ?_
    have hLq : LenT ([] ++ intRows o.qs) (0 + o.qs.length) := ⟨by simp [intRows]⟩
    refine TV_freezeC po bo ?_
    repeat (first | refine StepC.go ?_ | intro _ | refine TS_puw (Pu.addi (by omega)) ?_ | refine TS_append (by omega) (fun _ => ?_))
    rename_i b2
    have hd : opRows (c.ops.take (i + 1)) = opRows (c.ops.take i) ++ [opCs o] := by
      rw [List.take_add_one, ho, opRows_app]; rfl
    refine ⟨_, ?_, i + 1, b2, rfl, by omega, inferInstance, inferInstance, inferInstance, inferInstance, ?_⟩
    · omega
    · rw [hd]; simp only [List.nil_append]; infer_instance
  · have hil : i = c.ops.length := by simp at hc; omega
    subst hil
    rw [List.take_length]
    repeat (refine StepC.go ?_)
    refine retT_1 (.inr rfl) ?_
    rfl
end Go.Ideal

-- Vz
set_option linter.unusedSimpArgs false
set_option linter.unusedVariables false
namespace Go.Ideal
open Go Go.Proofs Go.RowKit
/-! ### Products of strings: the plain laws -/
/-- a place's phase -/
def gph (a b c d : Bool) : Int := (prodL (atL a b) (atL c d)).2
theorem prPh_g (p q : PauD) (i : Nat) : prPh p q i = gph (p.x.testBit i) (p.z.testBit i) (q.x.testBit i) (q.z.testBit i) := by unfold prPh gph; rw [atS_bits, atS_bits]
theorem mph_sum {p q : PauD} (hp : PauV p) (hq : PauV q) (hn : p.n = q.n) : mphS p q = (p.ph + q.ph + sumPh p q p.n.toNat) % 4 := (ref_phase hp.1 hp.2 hq.1 hq.2 hn).symm
theorem mul_v {p q : PauD} (hp : PauV p) (hq : PauV q) (hn : p.n = q.n) : PauV (mulP p q) := (hp.mul hq hn).1
theorem gph_assoc : ∀ a b c d e f : Bool, (gph a b c d + gph (a ^^ c) (b ^^ d) e f) % 4 = (gph c d e f + gph a b (c ^^ e) (d ^^ f)) % 4 := by decide
theorem sum_assoc (p q r : PauD) : ∀ j, (sumPh p q j + sumPh (mulP p q) r j) % 4 = (sumPh q r j + sumPh p (mulP q r) j) % 4 := by
  intro j
  induction j with
  | zero => simp [sumPh]
  | succ j ih =>
    simp only [sumPh, prPh_g]
    have h := gph_assoc (p.x.testBit j) (p.z.testBit j) (q.x.testBit j) (q.z.testBit j) (r.x.testBit j) (r.z.testBit j)
    have e1 : (mulP p q).x.testBit j = (p.x.testBit j ^^ q.x.testBit j) := Nat.testBit_xor _ _ _
    have e2 : (mulP p q).z.testBit j = (p.z.testBit j ^^ q.z.testBit j) := Nat.testBit_xor _ _ _
    have e3 : (mulP q r).x.testBit j = (q.x.testBit j ^^ r.x.testBit j) := Nat.testBit_xor _ _ _
    have e4 : (mulP q r).z.testBit j = (q.z.testBit j ^^ r.z.testBit j) := Nat.testBit_xor _ _ _
    rw [e1, e2, e3, e4]
    omega
theorem mul_assoc {p q r : PauD} (hp : PauV p) (hq : PauV q) (hr : PauV r) (h1 : p.n = q.n) (h2 : q.n = r.n) : mulP (mulP p q) r = mulP p (mulP q r) := by
  have v1 := mul_v hp hq h1
  have v2 := mul_v hq hr h2
  have e1 := mph_sum v1 hr (by show p.n = r.n; rw [h1, h2])
  have e2 := mph_sum hp v2 (by show p.n = q.n; exact h1)
  have e3 := mph_sum hp hq h1
  have e4 := mph_sum hq hr h2
  have e5 := sum_assoc p q r p.n.toNat
  have hm : (mulP p q).ph = mphS p q := rfl
  have hm2 : (mulP q r).ph = mphS q r := rfl
  have hn : (mulP p q).n = p.n := rfl
  rw [hm, hn, e3] at e1
  rw [hm2, e4, ← h1] at e2
  have e6 : mphS (mulP p q) r = mphS p (mulP q r) := by rw [e1, e2]; omega
  show PauD.mk p.n ((p.x ^^^ q.x) ^^^ r.x) ((p.z ^^^ q.z) ^^^ r.z) (mphS (mulP p q) r) = PauD.mk p.n (p.x ^^^ (q.x ^^^ r.x)) (p.z ^^^ (q.z ^^^ r.z)) (mphS p (mulP q r))
  rw [e6, Nat.xor_assoc, Nat.xor_assoc]
theorem gph_eye : ∀ a b : Bool, gph a b false false = 0 ∧ gph false false a b = 0 := by decide
theorem sum_eye (p : PauD) {e : PauD} (hx : e.x = 0) (hz : e.z = 0) : ∀ j, sumPh p e j = 0 ∧ sumPh e p j = 0 := by
  intro j
  induction j with
  | zero => exact ⟨rfl, rfl⟩
  | succ j ih =>
    simp only [sumPh, prPh_g, hx, hz, Nat.zero_testBit, ih.1, ih.2, (gph_eye _ _).1, (gph_eye _ _).2]
    exact ⟨rfl, rfl⟩
theorem mul_eye {p : PauD} (hp : PauV p) : mulP p ⟨p.n, 0, 0, 0⟩ = p ∧ mulP ⟨p.n, 0, 0, 0⟩ p = p := by
  obtain ⟨a, b, c, d, e⟩ := pauV_iff.1 hp
  have ve : PauV ⟨p.n, 0, 0, 0⟩ := eye_v a b
  have e1 := mph_sum hp ve rfl
  have e2 := mph_sum ve hp rfl
  rw [(sum_eye p rfl rfl _).1] at e1
  rw [(sum_eye p rfl rfl _).2] at e2
  simp only at e1 e2
  constructor
  · show PauD.mk p.n (p.x ^^^ 0) (p.z ^^^ 0) (mphS p ⟨p.n, 0, 0, 0⟩) = p
    rw [e1, Nat.xor_zero, Nat.xor_zero, show (p.ph + 0 + 0) % 4 = p.ph by omega]
  · show PauD.mk p.n (0 ^^^ p.x) (0 ^^^ p.z) (mphS ⟨p.n, 0, 0, 0⟩ p) = p
    rw [e2, Nat.zero_xor, Nat.zero_xor, show (0 + p.ph + 0) % 4 = p.ph by omega]
end Go.Ideal

-- Wa
set_option linter.unusedSimpArgs false
set_option linter.unusedVariables false
namespace Go.Ideal
open Go Go.Proofs Go.RowKit
/-! ### A turn goes through a product -/
def locOf (p : PauD) (a b : Nat) : Loc := ⟨0, p.x.testBit a, p.z.testBit a, p.x.testBit b, p.z.testBit b⟩
theorem PauV.far {p : PauD} (h : PauV p) {i : Nat} (hi : 64 ≤ i) : p.x.testBit i = false ∧ p.z.testBit i = false := by
  obtain ⟨a, b, c, d, e⟩ := pauV_iff.1 h
  exact e i (by omega)
theorem View.self {p : PauD} (h : PauV p) {a b : Nat} : View p a b p 64 (locOf p a b) := by
  obtain ⟨h1, h2, h3, h4, h5⟩ := pauV_iff.1 h
  refine ⟨rfl, by show p.ph = (p.ph + 0) % 4; omega, fun i => ?_, fun i => ?_⟩
  · simp only [locOf]
    split
    · rename_i e; rw [e]
    · split
      · rename_i e; rw [e]
      · by_cases hi : i < 64
        · simp [hi]
        · simp [hi, (h.far (by omega : 64 ≤ i)).1]
  · simp only [locOf]
    split
    · rename_i e; rw [e]
    · split
      · rename_i e; rw [e]
      · by_cases hi : i < 64
        · simp [hi]
        · simp [hi, (h.far (by omega : 64 ≤ i)).2]
theorem sum_two {p q p' q' : PauD} {a b : Nat} (hab : a ≠ b) (h : ∀ i, i ≠ a → i ≠ b → prPh p' q' i = prPh p q i) : ∀ j,
    sumPh p' q' j + (if a < j then prPh p q a else 0) + (if b < j then prPh p q b else 0) = sumPh p q j + (if a < j then prPh p' q' a else 0) + (if b < j then prPh p' q' b else 0) := by
  intro j
  induction j with
  | zero => simp [sumPh]
  | succ j ih =>
    simp only [sumPh]
    by_cases h1 : j = a
    · subst h1
      have e1 : ¬ j < j := by omega
      have e2 : j < j + 1 := by omega
      simp only [if_neg e1, if_pos e2] at ih ⊢
      by_cases h2 : b < j
      · have h3 : b < j + 1 := by omega
        simp only [if_pos h2, if_pos h3] at ih ⊢
        omega
      · have h3 : ¬ b < j + 1 := by omega
        simp only [if_neg h2, if_neg h3] at ih ⊢
        omega
    · by_cases h2 : j = b
      · subst h2
        have e1 : ¬ j < j := by omega
        have e2 : j < j + 1 := by omega
        simp only [if_neg e1, if_pos e2] at ih ⊢
        by_cases h3 : a < j
        · have h4 : a < j + 1 := by omega
          simp only [if_pos h3, if_pos h4] at ih ⊢
          omega
        · have h4 : ¬ a < j + 1 := by omega
          simp only [if_neg h3, if_neg h4] at ih ⊢
          omega
      · rw [h j h1 h2]
        have e1 : a < j + 1 ↔ a < j := by omega
        have e2 : b < j + 1 ↔ b < j := by omega
        simp only [e1, e2]
        omega
/-- what is to be looked at, case by case -/
def HomL (f : Loc → Loc) : Prop := ∀ a b c d e g h i : Bool,
  (f ⟨0, a ^^ e, b ^^ g, c ^^ h, d ^^ i⟩).xa = ((f ⟨0, a, b, c, d⟩).xa ^^ (f ⟨0, e, g, h, i⟩).xa) ∧ (f ⟨0, a ^^ e, b ^^ g, c ^^ h, d ^^ i⟩).za = ((f ⟨0, a, b, c, d⟩).za ^^ (f ⟨0, e, g, h, i⟩).za) ∧
  (f ⟨0, a ^^ e, b ^^ g, c ^^ h, d ^^ i⟩).xb = ((f ⟨0, a, b, c, d⟩).xb ^^ (f ⟨0, e, g, h, i⟩).xb) ∧ (f ⟨0, a ^^ e, b ^^ g, c ^^ h, d ^^ i⟩).zb = ((f ⟨0, a, b, c, d⟩).zb ^^ (f ⟨0, e, g, h, i⟩).zb) ∧
  ((f ⟨0, a ^^ e, b ^^ g, c ^^ h, d ^^ i⟩).ph + gph a b e g + gph c d h i) % 4 =
    ((f ⟨0, a, b, c, d⟩).ph + (f ⟨0, e, g, h, i⟩).ph + gph (f ⟨0, a, b, c, d⟩).xa (f ⟨0, a, b, c, d⟩).za (f ⟨0, e, g, h, i⟩).xa (f ⟨0, e, g, h, i⟩).za + gph (f ⟨0, a, b, c, d⟩).xb (f ⟨0, a, b, c, d⟩).zb (f ⟨0, e, g, h, i⟩).xb (f ⟨0, e, g, h, i⟩).zb) % 4
def EyeL (f : Loc → Loc) : Prop := (f ⟨0, false, false, false, false⟩).ph % 4 = 0 ∧ (f ⟨0, false, false, false, false⟩).xa = false ∧ (f ⟨0, false, false, false, false⟩).za = false ∧ (f ⟨0, false, false, false, false⟩).xb = false ∧ (f ⟨0, false, false, false, false⟩).zb = false
structure Homs (F : PauD → PauD) (n : Int) : Prop where
  v : ∀ p, PauV p → p.n = n → PauV (F p) ∧ (F p).n = n
  mul : ∀ p q, PauV p → PauV q → p.n = n → q.n = n → F (mulP p q) = mulP (F p) (F q)
  eye : 0 ≤ n → n ≤ 64 → F ⟨n, 0, 0, 0⟩ = ⟨n, 0, 0, 0⟩
theorem Homs.of {F : PauD → PauD} {f : Loc → Loc} {n : Int} {a b : Nat} (hab : a ≠ b) (hv : ∀ p, PauV p → p.n = n → PauV (F p) ∧ (F p).n = n)
    (vw : ∀ p o j L, p.n = n → PauV p → View p a b o j L → View p a b (F o) j (f L)) (hl : HomL f) (he : EyeL f) : Homs F n := by
  refine ⟨hv, fun p q hp hq hpn hqn => ?_, fun h0 h1 => ?_⟩
  · have hn : p.n = q.n := by rw [hpn, hqn]
    have hm := mul_v hp hq hn
    have vp := vw p p 64 _ hpn hp (View.self hp)
    have vq := vw q q 64 _ hqn hq (View.self hq)
    have vm := vw (mulP p q) (mulP p q) 64 _ hpn hm (View.self hm)
    obtain ⟨hfp, hfpn⟩ := hv p hp hpn
    obtain ⟨hfq, hfqn⟩ := hv q hq hqn
    have hl := hl (p.x.testBit a) (p.z.testBit a) (p.x.testBit b) (p.z.testBit b) (q.x.testBit a) (q.z.testBit a) (q.x.testBit b) (q.z.testBit b)
    have hlm : locOf (mulP p q) a b = ⟨0, p.x.testBit a ^^ q.x.testBit a, p.z.testBit a ^^ q.z.testBit a, p.x.testBit b ^^ q.x.testBit b, p.z.testBit b ^^ q.z.testBit b⟩ := by
      simp only [locOf, mulP, Nat.testBit_xor]
    rw [hlm] at vm
    have hlp : locOf p a b = ⟨0, p.x.testBit a, p.z.testBit a, p.x.testBit b, p.z.testBit b⟩ := rfl
    have hlq : locOf q a b = ⟨0, q.x.testBit a, q.z.testBit a, q.x.testBit b, q.z.testBit b⟩ := rfl
    rw [← hlp, ← hlq] at hl
    generalize f ⟨0, p.x.testBit a ^^ q.x.testBit a, p.z.testBit a ^^ q.z.testBit a, p.x.testBit b ^^ q.x.testBit b, p.z.testBit b ^^ q.z.testBit b⟩ = R at vm hl
    generalize f (locOf p a b) = P at vp hl
    generalize f (locOf q a b) = Q at vq hl
    obtain ⟨l1, l2, l3, l4, l5⟩ := hl
    have hsum := sum_two (p := p) (q := q) (p' := F p) (q' := F q) hab (fun i h1 h2 => by
      rw [prPh_g, prPh_g, vp.x i, vp.z i, vq.x i, vq.z i]
      simp only [if_neg h1, if_neg h2]
      by_cases hi : i < 64
      · simp [hi]
      · have f1 := hp.far (by omega : 64 ≤ i)
        have f2 := hq.far (by omega : 64 ≤ i)
        simp [hi, f1.1, f1.2, f2.1, f2.2]) p.n.toNat
    have out : ∀ (p q : PauD), PauV p → PauV q → p.n = n → q.n = n → ∀ i, (if i < n.toNat then prPh p q i else 0) = gph (p.x.testBit i) (p.z.testBit i) (q.x.testBit i) (q.z.testBit i) := by
      intro p q hp hq h1 h2 i
      split
      · exact prPh_g p q i
      · obtain ⟨_, _, _, _, e1⟩ := pauV_iff.1 hp
        obtain ⟨_, _, _, _, e2⟩ := pauV_iff.1 hq
        rw [(e1 i (by omega)).1, (e1 i (by omega)).2, (e2 i (by omega)).1, (e2 i (by omega)).2]
        decide
    rw [hpn, out p q hp hq hpn hqn a, out p q hp hq hpn hqn b, out _ _ hfp hfq hfpn hfqn a, out _ _ hfp hfq hfpn hfqn b, vp.x a, vp.z a, vp.x b, vp.z b, vq.x a, vq.z a, vq.x b, vq.z b] at hsum
    simp only [if_true, if_neg (Ne.symm hab)] at hsum
    have e1 := mph_sum hp hq hn
    have e2 := mph_sum hfp hfq (by rw [hfpn, hfqn])
    rw [hpn] at e1
    rw [hfpn, vp.ph, vq.ph] at e2
    have vmul : View (mulP p q) a b (mulP (F p) (F q)) 64 ⟨R.ph, P.xa ^^ Q.xa, P.za ^^ Q.za, P.xb ^^ Q.xb, P.zb ^^ Q.zb⟩ := by
      refine ⟨by show (F p).n = p.n; rw [hfpn, hpn], ?_, fun i => ?_, fun i => ?_⟩
      · show mphS (F p) (F q) = (mphS p q + R.ph) % 4
        rw [e1, e2]
        omega
      · show ((F p).x ^^^ (F q).x).testBit i = if i = a then P.xa ^^ Q.xa else if i = b then P.xb ^^ Q.xb else (decide (i < 64) && (p.x ^^^ q.x).testBit i)
        rw [Nat.testBit_xor, vp.x, vq.x, Nat.testBit_xor]
        split
        · rfl
        · split
          · rfl
          · cases decide (i < 64) <;> simp
      · show ((F p).z ^^^ (F q).z).testBit i = if i = a then P.za ^^ Q.za else if i = b then P.zb ^^ Q.zb else (decide (i < 64) && (p.z ^^^ q.z).testBit i)
        rw [Nat.testBit_xor, vp.z, vq.z, Nat.testBit_xor]
        split
        · rfl
        · split
          · rfl
          · cases decide (i < 64) <;> simp
    exact vm.same vmul ⟨rfl, l1, l2, l3, l4⟩
  · have ve := eye_v h0 h1
    have v1 := vw ⟨n, 0, 0, 0⟩ _ 64 _ rfl ve (View.self ve)
    have v0 := View.self ve (a := a) (b := b)
    have e : locOf ⟨n, 0, 0, 0⟩ a b = ⟨0, false, false, false, false⟩ := by simp [locOf]
    rw [e] at v1 v0
    obtain ⟨i1, i2, i3, i4, i5⟩ := he
    exact v1.same v0 ⟨by rw [i1]; rfl, i2, i3, i4, i5⟩
theorem Homs.id (n : Int) : Homs (fun p => p) n := ⟨fun p h1 h2 => ⟨h1, h2⟩, fun _ _ _ _ _ _ => rfl, fun _ _ => rfl⟩
theorem Homs.comp {F G : PauD → PauD} {n : Int} (hF : Homs F n) (hG : Homs G n) : Homs (fun p => F (G p)) n := by
  refine ⟨fun p h1 h2 => ?_, fun p q hp hq h1 h2 => ?_, fun h0 h1 => ?_⟩
  · obtain ⟨a, b⟩ := hG.v p h1 h2
    exact hF.v _ a b
  · obtain ⟨a, b⟩ := hG.v p hp h1
    obtain ⟨c, d⟩ := hG.v q hq h2
    show F (G (mulP p q)) = _
    rw [hG.mul p q hp hq h1 h2, hF.mul _ _ a c b d]
  · show F (G _) = _
    rw [hG.eye h0 h1, hF.eye h0 h1]
theorem Homs.ite {F G : PauD → PauD} {n : Int} {y : Bool} (hF : Homs F n) (hG : Homs G n) : Homs (fun p => if y then F p else G p) n := by
  cases y
  · exact hG
  · exact hF
section
variable {n : Int} {a b : Nat}
theorem minus_hn {p : PauD} {y : Bool} (h : PauV p) (hn : p.n = n) : PauV (minusS p y) ∧ (minusS p y).n = n := ⟨minusS_v h y, by rw [minusS_n, hn]⟩
theorem hom_x (h1 : n ≤ 64) (ha : (a : Int) < n) : Homs (fun p => minusS p (btS p.z (a : Int))) n :=
  Homs.of (f := fun L => minLoc L L.za) (a := a) (b := a + 1) (by omega) (fun p h hn => minus_hn h hn) (fun p o j L hn hp v => by rw [v.za]; exact v.minus _) (by unfold HomL; decide) (by unfold EyeL; decide)
theorem hom_z (h1 : n ≤ 64) (ha : (a : Int) < n) : Homs (fun p => minusS p (btS p.x (a : Int))) n :=
  Homs.of (f := fun L => minLoc L L.xa) (a := a) (b := a + 1) (by omega) (fun p h hn => minus_hn h hn) (fun p o j L hn hp v => by rw [v.xa]; exact v.minus _) (by unfold HomL; decide) (by unfold EyeL; decide)
theorem hom_y (h1 : n ≤ 64) (ha : (a : Int) < n) : Homs (fun p => minusS p (btS p.x (a : Int) != btS p.z (a : Int))) n :=
  Homs.of (f := fun L => minLoc L (L.xa != L.za)) (a := a) (b := a + 1) (by omega) (fun p h hn => minus_hn h hn) (fun p o j L hn hp v => by rw [v.xa, v.za]; exact v.minus _) (by unfold HomL; decide) (by unfold EyeL; decide)
theorem hom_h (h1 : n ≤ 64) (ha : (a : Int) < n) : Homs (fun p => hS p (a : Int)) n :=
  Homs.of (f := hLoc) (a := a) (b := a + 1) (by omega) (fun p h hn => ⟨hS_v h (by omega), by rw [hS_n, hn]⟩) (fun p o j L hn hp v => v.h (by omega)) (by unfold HomL; decide) (by unfold EyeL; decide)
theorem hom_s (h1 : n ≤ 64) (ha : (a : Int) < n) (y : Bool) : Homs (fun p => sS p (a : Int) y) n :=
  Homs.of (f := fun L => sLoc L y) (a := a) (b := a + 1) (by omega) (fun p h hn => ⟨sS_v h (by omega) y, by rw [sS_n, hn]⟩) (fun p o j L hn hp v => v.s (by omega) y) (by unfold HomL; cases y <;> decide) (by unfold EyeL; cases y <;> decide)
theorem hom_v (h1 : n ≤ 64) (ha : (a : Int) < n) (y : Bool) : Homs (fun p => vS p (a : Int) y) n :=
  Homs.of (f := fun L => vLoc L y) (a := a) (b := a + 1) (by omega) (fun p h hn => ⟨vS_v h (by omega) y, by rw [vS_n, hn]⟩) (fun p o j L hn hp v => v.v (by omega) y) (by unfold HomL; cases y <;> decide) (by unfold EyeL; cases y <;> decide)
theorem hom_cx (h1 : n ≤ 64) (ha : (a : Int) < n) (hb : (b : Int) < n) (hab : a ≠ b) : Homs (fun p => cxS p (a : Int) (b : Int)) n :=
  Homs.of (f := cxLoc) (a := a) (b := b) hab (fun p h hn => ⟨cxS_v h (by omega) (by omega), by rw [cxS_n, hn]⟩) (fun p o j L hn hp v => v.cx hab (by omega) (by omega)) (by unfold HomL; decide) (by unfold EyeL; decide)
end
theorem byS_hom {n : Int} (nm : ByteArray) {qs : List Int} (h1 : n ≤ 64) (hr : ∀ q ∈ qs, 0 ≤ q ∧ q < n) (hd : qs.Nodup) : Homs (byS nm qs) n := by
  match qs with
  | [] => exact Homs.id n
  | [q] =>
    have h := hr q (by simp)
    obtain ⟨a, rfl⟩ : ∃ a : Nat, q = (a : Int) := ⟨q.toNat, by omega⟩
    have I := Homs.id n
    exact .ite I (.ite I (.ite I (.ite (hom_x h1 h.2) (.ite (hom_y h1 h.2) (.ite (hom_z h1 h.2) (.ite (hom_h h1 h.2) (.ite (hom_s h1 h.2 _) (.ite (hom_s h1 h.2 _) (.ite (hom_v h1 h.2 _) (.ite (hom_v h1 h.2 _) I))))))))))
  | [q, r] =>
    have h := hr q (by simp)
    have k := hr r (by simp)
    obtain ⟨a, rfl⟩ : ∃ a : Nat, q = (a : Int) := ⟨q.toNat, by omega⟩
    obtain ⟨b, rfl⟩ : ∃ b : Nat, r = (b : Int) := ⟨r.toNat, by omega⟩
    have hab : a ≠ b := fun e => by subst e; simp at hd
    have cab := hom_cx h1 h.2 k.2 hab
    have cba := hom_cx h1 k.2 h.2 (Ne.symm hab)
    have ha := hom_h h1 h.2
    have hb := hom_h h1 k.2
    have sa := hom_s h1 h.2
    have sb := hom_s h1 k.2
    have I := Homs.id n
    exact .ite cab (.ite (hb.comp (cab.comp hb)) (.ite (cab.comp (cba.comp cab)) (.ite ((sb _).comp (cab.comp (sb _))) (.ite (hb.comp (cba.comp (cab.comp (ha.comp ((sb _).comp (sa _)))))) (.ite ((sa _).comp ((sb _).comp (ha.comp (cab.comp (cba.comp hb))))) I)))))
  | _ :: _ :: _ :: _ => exact Homs.id n
end Go.Ideal

-- Wb
set_option linter.unusedSimpArgs false
set_option linter.unusedVariables false
namespace Go.Ideal
open Go Go.Proofs Go.RowKit
/-! ### Faults behind others count as a product -/
def badO (o : OpD) : Prop := (o.kind ≠ 1 ∨ o.iff = true) ∨ cliffS o.name = false
abbrev opK (c : CircD) (k : Nat) : OpD := opAt c.ops ((k : Int) - 1)
def gateSt (c : CircD) (fs : List FltD) (k : Nat) : PauD := if 0 < k ∧ (pushSt c fs k).2.1 = true then byS (opK c k).name (opK c k).qs (pushSt c fs k).1 else (pushSt c fs k).1
theorem pushSt_bad {c : CircD} {fs : List FltD} {k : Nat} (h : (pushSt c fs k).2.2 ≠ 0 ∨ ((0 < k ∧ (pushSt c fs k).2.1 = true) ∧ badO (opK c k))) : (pushSt c fs (k + 1)).2.2 ≠ 0 := by
  rw [pushSt]
  by_cases h1 : (pushSt c fs k).2.2 ≠ 0
  · rw [if_pos h1]; exact h1
  · rw [if_neg h1]
    rcases h with h | ⟨h2, h3⟩
    · exact absurd h h1
    · rw [if_pos h2]
      by_cases h4 : (opAt c.ops ((k : Int) - 1)).kind ≠ 1 ∨ (opAt c.ops ((k : Int) - 1)).iff = true
      · rw [if_pos h4]; decide
      · rw [if_neg h4]
        rcases h3 with h3 | h3
        · exact absurd h3 h4
        · rw [if_pos h3]; decide
theorem pushSt_good {c : CircD} {fs : List FltD} {k : Nat} (h0 : (pushSt c fs k).2.2 = 0) (h1 : (0 < k ∧ (pushSt c fs k).2.1 = true) → ¬ badO (opK c k)) :
    pushSt c fs (k + 1) = (strikeS c (fltAt fs k) (gateSt c fs k), (pushSt c fs k).2.1 || !(fltAt fs k).isEmpty, 0) := by
  rw [pushSt, if_neg (fun h => h h0), gateSt]
  by_cases h2 : 0 < k ∧ (pushSt c fs k).2.1 = true
  · have h3 := h1 h2
    have h4 : ¬ ((opAt c.ops ((k : Int) - 1)).kind ≠ 1 ∨ (opAt c.ops ((k : Int) - 1)).iff = true) := fun h => h3 (.inl h)
    have h5 : ¬ cliffS (opAt c.ops ((k : Int) - 1)).name = false := fun h => h3 (.inr h)
    rw [if_pos h2, if_neg h4, if_neg h5, if_pos h2, h2.2]; rfl
  · rw [if_neg h2, if_neg h2]
theorem pushSt_eye {c : CircD} {fs : List FltD} : ∀ k : Nat, (∀ f ∈ fs, (k : Int) ≤ f.beh + 1) → pushSt c fs k = (⟨c.qubits, 0, 0, 0⟩, false, 0) := by
  intro k
  induction k with
  | zero => intro _; rfl
  | succ k ih =>
    intro h
    have e := ih (fun f hf => by have := h f hf; omega)
    have hn : fltAt fs k = [] := by
      refine List.filter_eq_nil_iff.2 fun f hf => ?_
      have := h f hf
      simp only [decide_eq_true_eq]
      omega
    rw [pushSt_good (by rw [e]) (by rw [e]; simp), gateSt, e, hn]
    simp [strikeS]
theorem unstruck {c : CircD} {fs : List FltD} : ∀ k, (pushSt c fs k).2.2 = 0 → (pushSt c fs k).2.1 = false → (pushSt c fs k).1 = ⟨c.qubits, 0, 0, 0⟩ := by
  intro k
  induction k with
  | zero => intro _ _; rfl
  | succ k ih =>
    intro h1 h2
    have h3 : (pushSt c fs k).2.2 = 0 := Classical.byContradiction fun h => pushSt_bad (.inl h) h1
    have h4 : (0 < k ∧ (pushSt c fs k).2.1 = true) → ¬ badO (opK c k) := fun h5 h6 => pushSt_bad (.inr ⟨h5, h6⟩) h1
    rw [pushSt_good h3 h4] at h2 ⊢
    simp only [Bool.or_eq_false_iff] at h2
    have h5 : fltAt fs k = [] := by simpa using h2.2
    rw [h5]
    show gateSt c fs k = _
    rw [gateSt, if_neg (by rw [h2.1]; simp)]
    exact ih h3 h2.1
theorem strike_mul {c : CircD} (hq : c.qubits ≤ 64) {p : PauD} (hp : PauV p) (hpn : p.n = c.qubits) : ∀ (l : List FltD) (q : PauD), (∀ f ∈ l, fltOk c f = true) → PauV q → q.n = c.qubits → strikeS c l (mulP q p) = mulP (strikeS c l q) p := by
  intro l
  induction l with
  | nil => intro q _ _ _; rfl
  | cons f l ih =>
    intro q hf h1 h2
    obtain ⟨_, o1, o2⟩ := oneF_v hq (hf f List.mem_cons_self)
    show strikeS c l (mulP (oneF c f) (mulP q p)) = mulP (strikeS c l (mulP (oneF c f) q)) p
    rw [← mul_assoc o1 h1 hp (by rw [o2, h2]) (by rw [h2, hpn])]
    exact ih _ (fun g hg => hf g (List.mem_cons_of_mem _ hg)) (mul_v o1 h1 (by rw [o2, h2])) o2
theorem fltAt_append (a b : List FltD) (k : Nat) : fltAt (a ++ b) k = fltAt a k ++ fltAt b k := List.filter_append _ _
theorem gateSt_v {c : CircD} {fs : List FltD} (g : FltG c fs) {k : Nat} (hk : k ≤ c.ops.length) (h0 : (pushSt c fs k).2.2 = 0) (h1 : (0 < k ∧ (pushSt c fs k).2.1 = true) → ¬ badO (opK c k)) : PauV (gateSt c fs k) ∧ (gateSt c fs k).n = c.qubits := by
  obtain ⟨i1, i2⟩ := pushSt_v g k (by omega) h0
  rw [gateSt]
  by_cases h2 : 0 < k ∧ (pushSt c fs k).2.1 = true
  · rw [if_pos h2]
    have h3 := h1 h2
    have ho := List.mem_of_getElem? (opAt_get (ops := c.ops) (k := (k : Int) - 1) (by omega))
    have hg := gateOk_of (g.op _ ho) (Classical.byContradiction fun h => h3 (.inl (.inl h))) (by cases h : cliffS (opAt c.ops ((k : Int) - 1)).name with | true => rfl | false => exact absurd (.inr h) h3)
    exact (byS_hom _ g.q1 hg.rng hg.nd).v _ i1 i2
  · rw [if_neg h2]; exact ⟨i1, i2⟩
theorem pushSt_parts {c : CircD} {a b : List FltD} (ga : FltG c a) (gb : FltG c b) (hs : ∀ x ∈ a, ∀ y ∈ b, x.beh ≤ y.beh) : ∀ k, k ≤ c.ops.length + 1 →
    ((pushSt c a k).2.2 = 0 → (pushSt c b k).2.2 = 0 → (pushSt c (a ++ b) k).2.2 = 0 ∧ (pushSt c (a ++ b) k).2.1 = ((pushSt c a k).2.1 || (pushSt c b k).2.1) ∧ (pushSt c (a ++ b) k).1 = mulP (pushSt c b k).1 (pushSt c a k).1) ∧
    ((pushSt c a k).2.2 ≠ 0 ∨ (pushSt c b k).2.2 ≠ 0 → (pushSt c (a ++ b) k).2.2 ≠ 0) := by
  intro k
  induction k with
  | zero =>
    intro _
    refine ⟨fun _ _ => ⟨rfl, rfl, ?_⟩, fun h => by rcases h with h | h <;> exact absurd rfl h⟩
    exact ((mul_eye (eye_v ga.q0 ga.q1)).1).symm
  | succ k ih =>
    intro hk
    obtain ⟨i1, i2⟩ := ih (by omega)
    by_cases ea : (pushSt c a k).2.2 = 0
    case neg =>
      have hr := i2 (.inl ea)
      exact ⟨fun h => absurd h (pushSt_bad (.inl ea)), fun _ => pushSt_bad (.inl hr)⟩
    by_cases eb : (pushSt c b k).2.2 = 0
    case neg =>
      have hr := i2 (.inr eb)
      exact ⟨fun _ h => absurd h (pushSt_bad (.inl eb)), fun _ => pushSt_bad (.inl hr)⟩
    obtain ⟨r1, r2, r3⟩ := i1 ea eb
    by_cases ba : (0 < k ∧ (pushSt c a k).2.1 = true) ∧ badO (opK c k)
    · exact ⟨fun h => absurd h (pushSt_bad (.inr ba)), fun _ => pushSt_bad (.inr ⟨⟨ba.1.1, by rw [r2, ba.1.2]; rfl⟩, ba.2⟩)⟩
    by_cases bb : (0 < k ∧ (pushSt c b k).2.1 = true) ∧ badO (opK c k)
    · exact ⟨fun _ h => absurd h (pushSt_bad (.inr bb)), fun _ => pushSt_bad (.inr ⟨⟨bb.1.1, by rw [r2, bb.1.2, Bool.or_true]⟩, bb.2⟩)⟩
    have na : (0 < k ∧ (pushSt c a k).2.1 = true) → ¬ badO (opK c k) := fun h h2 => ba ⟨h, h2⟩
    have nb : (0 < k ∧ (pushSt c b k).2.1 = true) → ¬ badO (opK c k) := fun h h2 => bb ⟨h, h2⟩
    have nr : (0 < k ∧ (pushSt c (a ++ b) k).2.1 = true) → ¬ badO (opK c k) := fun h h2 => by
      have h3 := h.2
      rw [r2, Bool.or_eq_true] at h3
      rcases h3 with h3 | h3
      · exact na ⟨h.1, h3⟩ h2
      · exact nb ⟨h.1, h3⟩ h2
    rw [pushSt_good ea na, pushSt_good eb nb, pushSt_good r1 nr]
    refine ⟨fun _ _ => ⟨rfl, ?_, ?_⟩, fun h => by rcases h with h | h <;> exact absurd rfl h⟩
    · show ((pushSt c (a ++ b) k).2.1 || !(fltAt (a ++ b) k).isEmpty) = (((pushSt c a k).2.1 || !(fltAt a k).isEmpty) || ((pushSt c b k).2.1 || !(fltAt b k).isEmpty))
      rw [r2, fltAt_append]
      cases (pushSt c a k).2.1 <;> cases (pushSt c b k).2.1 <;> cases fltAt a k <;> cases fltAt b k <;> rfl
    · show strikeS c (fltAt (a ++ b) k) (gateSt c (a ++ b) k) = mulP (strikeS c (fltAt b k) (gateSt c b k)) (strikeS c (fltAt a k) (gateSt c a k))
      obtain ⟨va, wa⟩ := pushSt_v ga k (by omega) ea
      obtain ⟨vb, wb⟩ := pushSt_v gb k (by omega) eb
      obtain ⟨xa, ya⟩ := gateSt_v ga (by omega) ea na
      obtain ⟨xb, yb⟩ := gateSt_v gb (by omega) eb nb
      have key : gateSt c (a ++ b) k = mulP (gateSt c b k) (gateSt c a k) := by
        by_cases hst : 0 < k ∧ (pushSt c (a ++ b) k).2.1 = true
        · have hgood := nr hst
          have ho := List.mem_of_getElem? (opAt_get (ops := c.ops) (k := (k : Int) - 1) (by omega))
          have hg := gateOk_of (ga.op _ ho) (Classical.byContradiction fun h => hgood (.inl (.inl h))) (by cases h : cliffS (opAt c.ops ((k : Int) - 1)).name with | true => rfl | false => exact absurd (.inr h) hgood)
          have hom := byS_hom (n := c.qubits) (opK c k).name ga.q1 hg.rng hg.nd
          have un : ∀ fs : List FltD, (pushSt c fs k).2.2 = 0 → gateSt c fs k = byS (opK c k).name (opK c k).qs (pushSt c fs k).1 := by
            intro fs h0
            rw [gateSt]
            by_cases h2 : 0 < k ∧ (pushSt c fs k).2.1 = true
            · rw [if_pos h2]
            · rw [if_neg h2]
              have h3 : (pushSt c fs k).2.1 = false := by
                cases h4 : (pushSt c fs k).2.1 with
                | false => rfl
                | true => exact absurd ⟨hst.1, h4⟩ h2
              rw [unstruck k h0 h3, hom.eye ga.q0 ga.q1]
          rw [un _ r1, un _ ea, un _ eb, r3]
          exact hom.mul _ _ vb va wb wa
        · rw [gateSt, if_neg hst, r3]
          have ha : ¬ (0 < k ∧ (pushSt c a k).2.1 = true) := fun h => hst ⟨h.1, by rw [r2, h.2]; rfl⟩
          have hb : ¬ (0 < k ∧ (pushSt c b k).2.1 = true) := fun h => hst ⟨h.1, by rw [r2, h.2, Bool.or_true]⟩
          rw [gateSt, gateSt, if_neg ha, if_neg hb]
      have fa : ∀ f ∈ fltAt a k, fltOk c f = true := fun f hf => ga.flt f (fltAt_mem hf)
      have fb : ∀ f ∈ fltAt b k, fltOk c f = true := fun f hf => gb.flt f (fltAt_mem hf)
      have happ : ∀ (l m : List FltD) (p : PauD), strikeS c (l ++ m) p = strikeS c m (strikeS c l p) := fun l m p => List.foldl_append
      rw [key, fltAt_append, happ]
      obtain ⟨sa, ta⟩ := strikeS_v ga.q1 _ _ fa xa ya
      by_cases hea : fltAt a k = []
      · rw [hea]
        show strikeS c (fltAt b k) (mulP (gateSt c b k) (gateSt c a k)) = mulP (strikeS c (fltAt b k) (gateSt c b k)) (gateSt c a k)
        exact strike_mul ga.q1 xa ya _ _ fb xb yb
      · obtain ⟨x, hx⟩ := List.exists_mem_of_ne_nil _ hea
        have hxk : x.beh + 1 = (k : Int) := by have := (List.mem_filter.1 hx).2; simpa using this
        have e := pushSt_eye (c := c) (fs := b) k (fun y hy => by have := hs x (fltAt_mem hx) y hy; omega)
        have eg : gateSt c b k = ⟨c.qubits, 0, 0, 0⟩ := by rw [gateSt, e]; simp
        have e1 : mulP (gateSt c b k) (gateSt c a k) = gateSt c a k := by rw [eg, ← ya]; exact (mul_eye xa).2
        have e2 : mulP (gateSt c b k) (strikeS c (fltAt a k) (gateSt c a k)) = strikeS c (fltAt a k) (gateSt c a k) := by rw [eg, ← ta]; exact (mul_eye sa).2
        rw [e1]
        have h4 := strike_mul ga.q1 sa ta _ _ fb xb yb
        rw [e2] at h4
        exact h4
theorem push_parts {c : CircD} {a b : List FltD} (hs : ∀ x ∈ a, ∀ y ∈ b, x.beh ≤ y.beh) :
    ((pushC c a).2 ≠ 0 ∨ (pushC c b).2 ≠ 0 → (pushC c (a ++ b)).2 ≠ 0) ∧ ((pushC c a).2 = 0 → (pushC c b).2 = 0 → (pushC c (a ++ b)).2 = 0 ∧ mulC (pushC c b).1 (pushC c a).1 = ((pushC c (a ++ b)).1, 0)) := by
  have hab : checkF c (a ++ b) = 0 ↔ checkF c a = 0 ∧ checkF c b = 0 := by
    unfold checkF
    by_cases h : (checkC c).2 = 0
    · simp only [if_pos h, List.all_append]
      cases a.all (fltOk c) <;> cases b.all (fltOk c) <;> simp
    · simp only [if_neg h]; simp [h]
  by_cases ca : checkF c a = 0
  case neg =>
    have h1 : checkF c (a ++ b) ≠ 0 := fun h => ca (hab.1 h).1
    unfold pushC
    rw [if_neg ca, if_neg h1]
    exact ⟨fun _ => h1, fun h => absurd h ca⟩
  by_cases cb : checkF c b = 0
  case neg =>
    have h1 : checkF c (a ++ b) ≠ 0 := fun h => cb (hab.1 h).2
    unfold pushC
    rw [if_neg cb, if_neg h1]
    exact ⟨fun _ => h1, fun _ h => absurd h cb⟩
  have ga := FltG.of ca
  have gb := FltG.of cb
  obtain ⟨p1, p2⟩ := pushSt_parts ga gb hs (c.ops.length + 1) (Nat.le_refl _)
  unfold pushC
  rw [if_pos ca, if_pos cb, if_pos (hab.2 ⟨ca, cb⟩)]
  refine ⟨p2, fun h1 h2 => ?_⟩
  obtain ⟨r1, _, r3⟩ := p1 h1 h2
  obtain ⟨va, wa⟩ := pushSt_v ga _ (Nat.le_refl _) h1
  obtain ⟨vb, wb⟩ := pushSt_v gb _ (Nat.le_refl _) h2
  refine ⟨r1, ?_⟩
  simp only
  rw [r3, mulC, if_pos ?_]
  unfold bothS
  rw [vb.2, va.2]
  simp [wa, wb]
end Go.Ideal

-- Wc
set_option linter.unusedSimpArgs false
set_option linter.unusedVariables false
namespace Go.Ideal
open Go Go.Proofs Go.RowKit
/-! ### The law NoiseParts -/
theorem pushC_w {c : CircD} {fs : List FltD} (h : (pushC c fs).2 = 0) : PauW (pushC c fs).1 := by
  unfold pushC at h ⊢
  split at h
  · rename_i h1
    rw [if_pos h1]
    exact (pushSt_v (FltG.of h1) _ (Nat.le_refl _) h).1.1
  · rename_i h1; exact absurd h h1
set_option synthInstance.maxSize 4000 in
set_option synthInstance.maxHeartbeats 400000 in
set_option maxHeartbeats 4000000 in
theorem noisePartsT {c : CircD} {a b : List FltD} (hw : CircW c) (hl : 80 * c.ops.length ≤ reachBytes) (hq : ∀ o ∈ c.ops, 8 * o.qs.length ≤ reachBytes) (ha : 24 * a.length ≤ 2 ^ 47 - 4096) (hb : 24 * b.length ≤ 2 ^ 47 - 4096) :
    Fn Try.prog 14 [circT c, .sl 3 (fltRows a), .sl 3 (fltRows b)] (fun r => r = boolT true) := by
  refine Fn_of Try.func14 rfl (Nat.le_of_ble_eq_true rfl) (fun X => ?_)
  have hLa : (fltRows a).length = a.length := by simp [fltRows]
  have hLb : (fltRows b).length = b.length := by simp [fltRows]
  have hR : reachBytes = 2 ^ 47 - 4096 := by decide
  repeat (first | refine StepC.go ?_ | intro _)
  rename_i pc
  refine TS_callE awake24T ?_
  repeat (first | refine StepC.go ?_ | refine TV_cond_f (by first | rfl | assumption) ?_)
  refine TV_loop (fun d σ B => ∃ (i : Nat), d = a.length - i ∧ i ≤ a.length ∧ i ≤ 301 ∧ (∀ x ∈ a.take i, ∀ y ∈ b, x.beh ≤ y.beh) ∧ TGet σ 7 (intT (i : Int)) ∧ TGet σ 3 (ptrT pc) ∧ TGet σ 1 (.sl 3 (fltRows a)) ∧ TGet σ 2 (.sl 3 (fltRows b)) ∧
      SubP B [(pc, .cells (circCs c) 24 true)]) a.length
    ⟨0, by omega, by omega, by omega, (fun x hx => by simp at hx), tget_as rfl, inferInstance, inferInstance, inferInstance, inferInstance⟩ ?_
  rintro d σ B ⟨i, rfl, hi, hi3, hord, g7, g3, g1, g2, hB⟩
  refine TV_keep _ (p := hB) ?_
  repeat (refine StepC.go ?_)
  rw [hLa]
  refine TV_cond ?_ ?_ <;> intro hc
  · have hil : i < a.length := by have := of_decide_eq_true hc; omega
    obtain ⟨f, hf⟩ : ∃ f, a[i]? = some f := ⟨_, List.getElem?_eq_getElem hil⟩
    have ngf : NthG (fltRows a) i (fltCs f) := .map fltCs hf
    repeat (refine StepC.go ?_)
    refine TV_loop (fun d σ B => ∃ (k : Nat), d = b.length - k ∧ k ≤ b.length ∧ (∀ y ∈ b.take k, f.beh ≤ y.beh) ∧ TGet σ 8 (intT (k : Int)) ∧ TGet σ 7 (intT (i : Int)) ∧ TGet σ 3 (ptrT pc) ∧ TGet σ 1 (.sl 3 (fltRows a)) ∧ TGet σ 2 (.sl 3 (fltRows b)) ∧
        SubP B [(pc, .cells (circCs c) 24 true)]) b.length
      ⟨0, by omega, by omega, (fun x hx => by simp at hx), tget_as rfl, inferInstance, inferInstance, inferInstance, inferInstance, inferInstance⟩ ?_
    clear g7 g3 g1 g2 hB
    rintro d σ B ⟨k, rfl, hk, hbk, g8, g7, g3, g1, g2, hB⟩
    refine TV_keep _ (p := hB) ?_
    repeat (refine StepC.go ?_)
    rw [hLb]
    refine TV_cond ?_ ?_ <;> intro hc2
    · have hkl : k < b.length := by have := of_decide_eq_true hc2; omega
      obtain ⟨g, hg⟩ : ∃ g, b[k]? = some g := ⟨_, List.getElem?_eq_getElem hkl⟩
      have ngg : NthG (fltRows b) k (fltCs g) := .map fltCs hg
      repeat (first | refine StepC.go ?_ | refine TD_take rfl rfl ?_ | refine TD_load rfl rfl ?_ | refine TV_draw (id := 9) (plan := [.take 0, .take 1, .take 2, .take 3, .take 4, .take 5, .take 6, .take 7, .take 8, .take 9, .take 10]) (by kernel_rfl) ?_)
      refine TV_cond ?_ ?_ <;> intro hc3
      · repeat (refine StepC.go ?_)
        exact retT_1 (.inr rfl) rfl
      · have hle : f.beh ≤ g.beh := by have := of_decide_eq_false hc3; omega
        repeat (first | refine StepC.go ?_ | refine TS_puw (Pu.addi (by omega)) ?_)
        refine ⟨_, ?_, k + 1, rfl, by omega, ?_, tget_as rfl, inferInstance, inferInstance, inferInstance, inferInstance, inferInstance⟩
        · omega
        · rw [take_succ hg]
          intro y hy
          rcases List.mem_append.1 hy with h | h
          · exact hbk y h
          · rw [List.mem_singleton.1 h]; exact hle
    · have hkl : k = b.length := by have := of_decide_eq_false hc2; omega
      subst hkl
      rw [List.take_length] at hbk
      repeat (refine StepC.go ?_)
      refine TV_cond ?_ ?_ <;> intro hc4
      · repeat (refine StepC.go ?_)
        exact retT_1 (.inr rfl) rfl
      · have hi4 : i ≤ 300 := by have := of_decide_eq_false hc4; omega
        repeat (first | refine StepC.go ?_ | refine TS_puw (Pu.addi (by omega)) ?_)
        refine ⟨_, ?_, i + 1, rfl, by omega, by omega, ?_, tget_as rfl, inferInstance, inferInstance, inferInstance, inferInstance⟩
        · omega
        · rw [take_succ hf]
          intro x hx
          rcases List.mem_append.1 hx with h | h
          · exact hord x h
          · rw [List.mem_singleton.1 h]; exact hbk
  · have hil : i = a.length := by have := of_decide_eq_false hc; omega
    subst hil
    rw [List.take_length] at hord
    have hlen : a.length ≤ 301 := hi3
    repeat (first | refine StepC.go ?_ | intro _ | refine TS_append_own (by omega) (fun _ => ?_))
    rename_i b48 x50 x52 b53 x55 b57 x58
    have hL1 : LenT ([] ++ fltRows a ++ fltRows b) (0 + a.length + b.length) := ⟨by simp [fltRows]⟩
    have hL2 : LenT ([] ++ ([] ++ fltRows a ++ fltRows b) ++ [[intT 0, intT 77, u8T 0]]) (0 + (0 + a.length + b.length) + 1) := ⟨by simp [fltRows]; omega⟩
    have hS1 : Sm63 (0 + a.length + b.length) := ⟨by omega⟩
    have hS2 : Sm63 (0 + (0 + a.length + b.length) + 1) := ⟨by omega⟩
    refine TS_freeze 9 x52 ?_
    refine TS_freeze 10 x58 ?_
    simp only [List.nil_append, Nat.zero_add]
    rw [← fltRows_app]
    have hAB : (fltRows (a ++ b)).length = a.length + b.length := by simp [fltRows]
    have hABl : LenT (fltRows (a ++ b)) (a.length + b.length) := ⟨hAB⟩
    generalize hrows : fltRows (a ++ b) ++ [[intT 0, intT 77, u8T 0]] = rows
    have h77 : NthG rows (a.length + b.length) [intT 0, intT 77, u8T 0] := ⟨by rw [← hrows, List.getElem?_append_right (by omega), hAB]; simp⟩
    have hrl : LenT rows (a.length + b.length + 1) := ⟨by rw [← hrows, List.length_append, hAB]; rfl⟩
    have htk : rows.take (a.length + b.length) = fltRows (a ++ b) := by rw [← hrows, List.take_append_of_le_length (by omega), List.take_of_length_le (by omega)]
    refine TS_call (copyT2 (fun o ho => by have := hq o ho; omega) (by omega)) ?_
    rintro _ rfl
    repeat (first | refine StepC.go ?_ | intro _)
    refine TS_call (pushT hw (by omega)) ?_
    rintro _ rfl
    repeat (first | refine StepC.go ?_ | intro _)
    refine TS_call (pushT hw (by omega)) ?_
    rintro _ rfl
    repeat (first | refine StepC.go ?_ | intro _ | refine TD_take rfl rfl ?_ | refine TD_load rfl rfl ?_ | refine TV_draw (id := 18) (plan := [.take 0, .take 1, .take 2, .take 3, .take 4, .virt 9, .one 5, .take 6, .take 7, .take 8, .one 10, .take 11]) (by kernel_rfl) ?_)
    have hne : rows ≠ [] := fun h => by have := hrl.eq; rw [h] at this; simp at this
    refine TD_takew rfl rfl (Pu.slice_hi hne (by rw [hAB, hrl.eq]; omega)) ?_
    rw [hAB, htk]
    repeat (first | refine TD_one rfl ?_ | refine FiltT_nil ?_ | refine FiltT_drop rfl ?_ | refine FiltT_keep rfl ?_ | refine TD_virt rfl rfl rfl (fun _ => ?_))
    refine TS_call (pushT hw (by rw [List.length_append]; omega)) ?_
    rintro _ rfl
    repeat (first | refine StepC.go ?_ | refine TD_take rfl rfl ?_ | refine TD_one rfl ?_ | refine FiltT_nil ?_ | refine FiltT_drop rfl ?_)
    refine TS_callE (sameT2 (fun o ho => by have := hq o ho; omega)) ?_
    have h77b : NthG rows (fltRows (a ++ b)).length [intT 0, intT 77, u8T 0] := ⟨by rw [hAB]; exact h77.eq⟩
    repeat (first | refine StepC.go ?_ | refine TS_on rfl (by first | rfl | assumption) ?_ | refine TV_cond_f (by first | rfl | assumption) ?_)
    rename_i bc bp bq br
    generalize hP : pushC c a = P
    generalize hQ : pushC c b = Q
    generalize hRR : pushC c (a ++ b) = R
    refine TV_loop (fun d σ B => ∃ (k : Nat), d = (a ++ b).length - k ∧ k ≤ (a ++ b).length ∧ TGet σ 18 (intT (k : Int)) ∧ TGet σ 10 (.sl 3 rows) ∧ TGet σ 9 (.sl 3 (fltRows (a ++ b))) ∧ TGet σ 12 (ptrT bp) ∧ TGet σ 14 (ptrT bq) ∧ TGet σ 16 (ptrT br) ∧ TGet σ 13 (intT P.2) ∧ TGet σ 15 (intT Q.2) ∧ TGet σ 17 (intT R.2) ∧
        SubP B [(br, .cells (pauCs R.1) 82 true), (bq, .cells (pauCs Q.1) 82 true), (bp, .cells (pauCs P.1) 82 true)]) (a ++ b).length
      ⟨0, by omega, Nat.zero_le _, tget_as rfl, inferInstance, inferInstance, inferInstance, inferInstance, inferInstance, inferInstance, inferInstance, inferInstance, inferInstance⟩ ?_
    clear g7 g3 g1 g2 hB
    rintro d σ B ⟨k, rfl, hk, g18, g10, g9, g12, g14, g16, g13, g15, g17, hB⟩
    refine TV_keep _ (p := hB) ?_
    repeat (refine StepC.go ?_)
    rw [hAB]
    refine TV_cond ?_ ?_ <;> intro hc
    · have hkl : k < (a ++ b).length := by have := of_decide_eq_true hc; rw [List.length_append]; omega
      have hkl2 : k < a.length + b.length := by rw [List.length_append] at hkl; exact hkl
      obtain ⟨f, hf⟩ : ∃ f, (a ++ b)[k]? = some f := ⟨_, List.getElem?_eq_getElem hkl⟩
      have ngf : NthG (fltRows (a ++ b)) k (fltCs f) := .map fltCs hf
      have ngr : NthG rows k (fltCs f) := ⟨by rw [← hrows, List.getElem?_append_left (by rw [hAB, ← List.length_append]; exact hkl)]; exact ngf.eq⟩
      repeat (first | refine StepC.go ?_ | refine TS_puw (Pu.addi (by omega)) ?_ | refine TD_take rfl rfl ?_ | refine TD_load rfl rfl ?_ | refine TV_draw (id := 24) (plan := [.take 0, .take 1, .take 2, .take 3, .take 4, .take 5, .take 6, .take 7, .take 8]) (by kernel_rfl) ?_ | refine TV_cond_f (by first | rfl | assumption) ?_)
      refine ⟨_, ?_, k + 1, rfl, by omega, tget_as rfl, inferInstance, inferInstance, inferInstance, inferInstance, inferInstance, inferInstance, inferInstance, inferInstance, inferInstance⟩
      omega
    · obtain ⟨hp1, hp2⟩ := push_parts (c := c) hord
      rw [hP, hQ, hRR] at hp1 hp2
      by_cases e1 : P.2 = 0
      · have d1 : (!decide (P.2 = 0)) = false := by rw [decide_eq_true e1]; rfl
        by_cases e2 : Q.2 = 0
        · have d2 : (!decide (Q.2 = 0)) = false := by rw [decide_eq_true e2]; rfl
          obtain ⟨e3, e4⟩ := hp2 e1 e2
          have d3 : decide (R.2 = 0) = true := decide_eq_true e3
          have d34 : (if decide (R.2 = 0) = true then true else false) = true := by rw [d3]; rfl
          have d12 : (if (!decide (P.2 = 0)) = true then true else !decide (Q.2 = 0)) = false := by rw [d1, d2]; rfl
          have hwP : PauW P.1 := by rw [← hP]; exact pushC_w (by rw [hP]; exact e1)
          have hwQ : PauW Q.1 := by rw [← hQ]; exact pushC_w (by rw [hQ]; exact e2)
          repeat (first | refine StepC.go ?_ | refine TS_on rfl (by first | rfl | assumption) ?_ | refine TV_cond_f (by first | rfl | assumption) ?_)
          refine TS_call (mulT hwQ hwP) ?_
          rintro _ rfl
          rw [e4]
          repeat (first | refine StepC.go ?_ | intro _ | refine TS_on rfl (by first | rfl | assumption) ?_)
          refine retT_1 (.inr rfl) ?_
          simp [tret, e3, d3]
        · have d2 : (!decide (Q.2 = 0)) = true := by rw [decide_eq_false e2]; rfl
          have hR2 : R.2 ≠ 0 := hp1 (.inr e2)
          have d12 : (if (!decide (P.2 = 0)) = true then true else !decide (Q.2 = 0)) = true := by rw [d1, d2]; rfl
          repeat (first | refine StepC.go ?_ | refine TS_on rfl (by first | rfl | assumption) ?_ | refine TV_cond_t (by first | rfl | assumption) ?_)
          refine retT_1 (.inr rfl) ?_
          simp [tret, hR2]
      · have d1 : (!decide (P.2 = 0)) = true := by rw [decide_eq_false e1]; rfl
        have hR2 : R.2 ≠ 0 := hp1 (.inl e1)
        repeat (first | refine StepC.go ?_ | refine TS_off rfl (by first | rfl | assumption) ?_ | refine TS_puw (Pu.pick_t (by first | rfl | assumption)) ?_ | refine TV_cond_t (by first | rfl | assumption) ?_)
        refine retT_1 (.inr rfl) ?_
        simp [tret, hR2]
theorem noisePartsW {h : IHp} {v1 v2 v3 : Value} {c : CircD} {a b : List FltD} (m1 : Rep h.cell? (circT c) v1) (hw : CircW c) (hl : 80 * c.ops.length ≤ reachBytes) (hq : ∀ o ∈ c.ops, 8 * o.qs.length ≤ reachBytes)
    (m2 : Rep h.cell? (.sl 3 (fltRows a)) v2) (m3 : Rep h.cell? (.sl 3 (fltRows b)) v3) (ha : 24 * a.length ≤ 2 ^ 47 - 4096) (hb : 24 * b.length ≤ 2 ^ 47 - 4096) : EvX Try.prog 14 #[v1, v2, v3] h (fun v _ => v = .bool true) :=
  EvX_of_Fn (noisePartsT hw hl hq ha hb) (RepL.cons m1 (RepL.cons m2 (RepL.cons m3 RepL.nil)))
end Go.Ideal
