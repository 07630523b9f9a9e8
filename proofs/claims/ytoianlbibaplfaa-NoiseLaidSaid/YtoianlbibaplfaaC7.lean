/- Part 7 of what the proof stands on: an interpreter over an ideal memory that is proved sound, steps over it, and contracts of the functions that are called. No condition: no law is claimed here. -/
import Derived.Test.YtoianlbibaplfaaC6
import Derived.SizedLaws
import Derived.ChangeArms
-- Vr
set_option linter.unusedSimpArgs false
set_option linter.unusedVariables false
namespace Go.Ideal
open Go Go.Proofs Go.RowKit
/-! ### Push, of the program -/
theorem pushSt_go {c : CircD} {fs : List FltD} {k : Nat} (h0 : (pushSt c fs k).2.2 = 0) {p1 : PauD} (hp1 : (0 < k ∧ (pushSt c fs k).2.1 = true ∧ (opAt c.ops ((k : Int) - 1)).kind = 1 ∧ (opAt c.ops ((k : Int) - 1)).iff = false ∧ cliffS (opAt c.ops ((k : Int) - 1)).name = true ∧ p1 = byS (opAt c.ops ((k : Int) - 1)).name (opAt c.ops ((k : Int) - 1)).qs (pushSt c fs k).1) ∨ (¬ (0 < k ∧ (pushSt c fs k).2.1 = true) ∧ p1 = (pushSt c fs k).1)) :
    pushSt c fs (k + 1) = (strikeS c (fltAt fs k) p1, (pushSt c fs k).2.1 || !(fltAt fs k).isEmpty, 0) := by
  rw [pushSt]
  rw [if_neg (by simpa using h0)]
  rcases hp1 with ⟨a, b, d, e, f, rfl⟩ | ⟨a, rfl⟩
  · rw [if_pos ⟨a, b⟩, if_neg (by simp [d, e]), if_neg (by simp [f]), b]; rfl
  · rw [if_neg a]
theorem pushSt_err {c : CircD} {fs : List FltD} {k : Nat} (h0 : (pushSt c fs k).2.2 = 0) (hs : 0 < k ∧ (pushSt c fs k).2.1 = true) (hk : k ≤ c.ops.length) (hc : checkF c fs = 0) :
    ((opAt c.ops ((k : Int) - 1)).kind ≠ 1 ∨ (opAt c.ops ((k : Int) - 1)).iff = true → pushC c fs = (noPau, 121)) ∧
    (¬ ((opAt c.ops ((k : Int) - 1)).kind ≠ 1 ∨ (opAt c.ops ((k : Int) - 1)).iff = true) → cliffS (opAt c.ops ((k : Int) - 1)).name = false → pushC c fs = (noPau, 181)) := by
  have e : pushSt c fs (k + 1) = if (opAt c.ops ((k : Int) - 1)).kind ≠ 1 ∨ (opAt c.ops ((k : Int) - 1)).iff = true then (noPau, true, 121) else if cliffS (opAt c.ops ((k : Int) - 1)).name = false then (noPau, true, 181)
        else (strikeS c (fltAt fs k) (byS (opAt c.ops ((k : Int) - 1)).name (opAt c.ops ((k : Int) - 1)).qs (pushSt c fs k).1), true, 0) := by
    rw [pushSt]; rw [if_neg (by simpa using h0), if_pos hs]
  refine ⟨fun h => ?_, fun h h2 => ?_⟩
  · rw [if_pos h] at e
    have := pushSt_more (c := c) (fs := fs) (k := k + 1) (by rw [e]; simp) (c.ops.length + 1) (by omega)
    unfold pushC
    rw [if_pos hc, this, e]
  · rw [if_neg h, if_pos h2] at e
    have := pushSt_more (c := c) (fs := fs) (k := k + 1) (by rw [e]; simp) (c.ops.length + 1) (by omega)
    unfold pushC
    rw [if_pos hc, this, e]
set_option synthInstance.maxSize 4000 in
set_option synthInstance.maxHeartbeats 400000 in
set_option maxHeartbeats 8000000 in
theorem pushT {c : CircD} {fs : List FltD} (hw : CircW c) (hfl : 24 * fs.length ≤ 2 ^ 47 + 2 ^ 20) : Fn Try.prog 8 [circT c, .sl 3 (fltRows fs)] (fun r => r = .tup [pauT (pushC c fs).1, intT (pushC c fs).2]) := by
  refine Fn_of Try.func8 rfl (Nat.le_of_ble_eq_true rfl) (fun X => ?_)
  repeat (first | refine StepC.go ?_ | intro _)
  rename_i pc pr
  refine TS_callE (checkFT hw) ?_
  repeat (refine StepC.go ?_)
  refine TV_cond ?_ ?_ <;> intro hc
  · repeat (refine StepC.go ?_)
    refine retT_2 (.inr rfl) ?_
    simp only [tret, pushC]
    rw [if_neg (by simpa using hc)]; rfl
  have hck : checkF c fs = 0 := by simpa using hc
  have g := FltG.of hck
  have hey : eyeP c.qubits = (⟨c.qubits, 0, 0, 0⟩, 0) := by unfold eyeP; rw [if_neg (by have := g.q0; have := g.q1; omega)]
  have hLb : (fltLs (behS fs (c.ops.length + 1))).length = c.ops.length + 1 := by simp [fltLs, behS]
  have hlen := g.len
  repeat (refine StepC.go ?_)
  refine TS_callE (eyeT c.qubits) ?_
  rw [hey]
  repeat (first | refine StepC.go ?_ | intro _)
  rename_i pp
  refine TS_call (behindT g.len hfl g.flt) ?_
  rintro _ rfl
  repeat (refine StepC.go ?_)
  rw [hLb]
  refine TV_loop (fun d σ B => ∃ (k : Nat), d = c.ops.length + 1 - k ∧ k ≤ c.ops.length + 1 ∧ TGet σ 34 (intT k) ∧ TGet σ 33 (intT ((c.ops.length + 1 : Nat) : Int)) ∧ TGet σ 32 (.sl 1 (fltLs (behS fs (c.ops.length + 1)))) ∧ TGet σ 2 (ptrT pc) ∧ TGet σ 4 (ptrT pr) ∧ TGet σ 7 (ptrT pp) ∧ TGet σ 9 (boolT (pushSt c fs k).2.1) ∧
      SubP B [(pp, .cells (pauCs (pushSt c fs k).1) 29 true), (pc, .cells (circCs c) 24 true), (pr, .cells [intT 0, u64T 0, u64T 0, intT 0] 29 true)] ∧ (pushSt c fs k).2.2 = 0) (c.ops.length + 1)
    ⟨0, by omega, by omega, tget_as rfl, inferInstance, inferInstance, inferInstance, inferInstance, inferInstance, tget_as rfl, inferInstanceAs (SubP _ [(pp, .cells [intT c.qubits, u64T 0, u64T 0, intT 0] 29 true), _, _]), rfl⟩ ?_
  rintro d σ B ⟨k, rfl, hk, g34, g33, g32, g2, g4, g7, g9, hB, he0⟩
  refine TV_keep _ (p := hB) ?_
  repeat (refine StepC.go ?_)
  refine TV_cond ?_ ?_ <;> intro hc2
  · have hkl : k < c.ops.length + 1 := by have := of_decide_eq_true hc2; omega
    obtain ⟨v1, v2⟩ := pushSt_v g k (by omega) he0
    obtain ⟨p, hp⟩ : ∃ p, p = (pushSt c fs k).1 := ⟨_, rfl⟩
    obtain ⟨st, hst⟩ : ∃ st, st = (pushSt c fs k).2.1 := ⟨_, rfl⟩
    have hgo := fun p1 => pushSt_go (c := c) (fs := fs) (k := k) he0 (p1 := p1)
    have herr := fun hs => pushSt_err (c := c) (fs := fs) (k := k) he0 hs (by omega) hck
    rw [← hp, ← hst] at hgo
    rw [← hst] at herr g9
    rw [← hp] at v1 v2 ⊢
    have hll := fltAt_len fs k
    obtain ⟨l, hl⟩ : ∃ l, l = fltAt fs k := ⟨_, rfl⟩
    have ngl : NthG (fltLs (behS fs (c.ops.length + 1))) k [.sl 3 (fltRows l)] := .map (fun l => [Tr.sl 3 (fltRows l)]) (by rw [hl]; exact behS_at fs hkl)
    have hlok : ∀ f ∈ l, fltOk c f = true := fun f hf => g.flt f (fltAt_mem (hl ▸ hf))
    rw [← hl] at hgo hll
    have hLl : (fltRows l).length = l.length := by simp [fltRows]
    repeat (refine StepC.go ?_)
    refine TS_cut (fun σ B => TGet σ 43 (boolT (decide (0 < k) && st)) ∧ TGet σ 34 (intT k) ∧ TGet σ 33 (intT ((c.ops.length + 1 : Nat) : Int)) ∧ TGet σ 32 (.sl 1 (fltLs (behS fs (c.ops.length + 1)))) ∧ TGet σ 2 (ptrT pc) ∧ TGet σ 4 (ptrT pr) ∧ TGet σ 7 (ptrT pp) ∧ TGet σ 9 (boolT st) ∧ TGet σ 10 (intT k) ∧ TGet σ 11 (.sl 3 (fltRows l)) ∧
      SubP B [(pp, .cells (pauCs p) 29 true), (pc, .cells (circCs c) 24 true), (pr, .cells [intT 0, u64T 0, u64T 0, intT 0] 29 true)]) ?_ ?_
    · by_cases h0 : 0 < k
      · have d1 : decide ((0 : Int) < (k : Int)) = true := by simpa using h0
        repeat (first | refine StepC.go ?_ | (refine TS_on rfl ?_ ?_; · first | rfl | assumption))
        exact ⟨tget_as (by rw [d1, decide_eq_true h0]; simp), inferInstance, inferInstance, inferInstance, inferInstance, inferInstance, inferInstance, inferInstance, inferInstance, inferInstance, inferInstance⟩
      · have d1 : decide ((0 : Int) < (k : Int)) = false := by simpa using h0
        repeat (first | refine StepC.go ?_ | (refine TS_off rfl ?_ ?_; · first | rfl | assumption) | (refine TS_puw (Pu.pick_f ?_) ?_; · first | rfl | assumption))
        exact ⟨tget_as (by rw [decide_eq_false h0]; rfl), inferInstance, inferInstance, inferInstance, inferInstance, inferInstance, inferInstance, inferInstance, inferInstance, inferInstance, inferInstance⟩
    clear hB g34 g33 g32 g2 g4 g7 g9
    rintro σ B ⟨g43, g34, g33, g32, g2, g4, g7, g9, g10, g11, hB⟩
    refine TV_keep _ (p := hB) ?_
    refine TV_cut (fun σ B => ∃ p1, TGet σ 34 (intT k) ∧ TGet σ 33 (intT ((c.ops.length + 1 : Nat) : Int)) ∧ TGet σ 32 (.sl 1 (fltLs (behS fs (c.ops.length + 1)))) ∧ TGet σ 2 (ptrT pc) ∧ TGet σ 4 (ptrT pr) ∧ TGet σ 7 (ptrT pp) ∧ TGet σ 9 (boolT st) ∧ TGet σ 11 (.sl 3 (fltRows l)) ∧
      SubP B [(pp, .cells (pauCs p1) 29 true), (pc, .cells (circCs c) 24 true), (pr, .cells [intT 0, u64T 0, u64T 0, intT 0] 29 true)] ∧ PauV p1 ∧ p1.n = c.qubits ∧ pushSt c fs (k + 1) = (strikeS c l p1, st || !l.isEmpty, 0)) ?_ ?_
    · refine TV_cond ?_ ?_ <;> intro hb
      · have hs : 0 < k ∧ st = true := by simpa using hb
        obtain ⟨o, ho⟩ : ∃ o, o = opAt c.ops ((k : Int) - 1) := ⟨_, rfl⟩
        have hA : AsNat ((k : Int) - 1) (k - 1) := ⟨by omega⟩
        have hoi : c.ops[k - 1]? = some o := by
          have := opAt_get (ops := c.ops) (k := (k : Int) - 1) (by omega)
          rw [show ((k : Int) - 1).toNat = k - 1 by omega] at this
          rw [ho]; exact this
        have ngo : NthG (opRows c.ops) (k - 1) (opCs o) := .map opCs hoi
        have hom := List.mem_of_getElem? hoi
        obtain ⟨e1, e2⟩ := herr hs
        rw [← ho] at e1 e2 hgo
        repeat (first | refine StepC.go ?_ | intro _ | (refine TS_puw (Pu.subi ?_) ?_; · omega))
        refine TS_cut (fun σ B => TGet σ 56 (boolT (!decide (o.kind = 1) || o.iff)) ∧ TGet σ 34 (intT k) ∧ TGet σ 33 (intT ((c.ops.length + 1 : Nat) : Int)) ∧ TGet σ 32 (.sl 1 (fltLs (behS fs (c.ops.length + 1)))) ∧ TGet σ 2 (ptrT pc) ∧ TGet σ 4 (ptrT pr) ∧ TGet σ 7 (ptrT pp) ∧ TGet σ 9 (boolT st) ∧ TGet σ 11 (.sl 3 (fltRows l)) ∧ ∃ po, TGet σ 12 (ptrT po) ∧
          SubP B [(po, .cells (opCs o) 49 true), (pp, .cells (pauCs p) 29 true), (pc, .cells (circCs c) 24 true), (pr, .cells [intT 0, u64T 0, u64T 0, intT 0] 29 true)]) ?_ ?_
        · by_cases h1 : o.kind = 1
          · have d1 : (!decide (o.kind = 1)) = false := by simpa using h1
            repeat (first | refine StepC.go ?_ | (refine TS_on rfl ?_ ?_; · first | rfl | assumption))
            exact ⟨tget_as (by rw [d1]; simp), inferInstance, inferInstance, inferInstance, inferInstance, inferInstance, inferInstance, inferInstance, inferInstance, _, inferInstance, inferInstance⟩
          · have d1 : (!decide (o.kind = 1)) = true := by simpa using h1
            repeat (first | refine StepC.go ?_ | (refine TS_off rfl ?_ ?_; · first | rfl | assumption) | (refine TS_puw (Pu.pick_t ?_) ?_; · first | rfl | assumption))
            exact ⟨tget_as (by rw [d1]; simp), inferInstance, inferInstance, inferInstance, inferInstance, inferInstance, inferInstance, inferInstance, inferInstance, _, inferInstance, inferInstance⟩
        clear hB g43 g34 g33 g32 g2 g4 g7 g9 g10 g11
        rintro σ B ⟨g56, g34, g33, g32, g2, g4, g7, g9, g11, po, g12, hB⟩
        refine TV_keep _ (p := hB) ?_
        skip
        refine TV_cond ?_ ?_ <;> intro hb2
        · have h3 : o.kind ≠ 1 ∨ o.iff = true := by simpa using hb2
          repeat (refine StepC.go ?_)
          refine retT_2 (.inr rfl) ?_
          simp only [tret]
          rw [e1 h3]; rfl
        have h3 : ¬ (o.kind ≠ 1 ∨ o.iff = true) := by simpa using hb2
        have h3' : o.kind = 1 ∧ o.iff = false := by simpa using hb2
        repeat (refine StepC.go ?_)
        refine TS_callE (cliffT o.name) ?_
        cases hcl : cliffS o.name with
        | false =>
          repeat (first | refine StepC.go ?_ | (refine TV_cond_t ?_ ?_; · first | rfl | assumption))
          refine retT_2 (.inr rfl) ?_
          simp only [tret]
          rw [e2 h3 hcl]; rfl
        | true =>
          have hgk := gateOk_of (g.op _ hom) h3'.1 hcl
          obtain ⟨c1, _, c3, c4⟩ := byAll v1 (by rw [v2]; exact hgk)
          repeat (first | refine StepC.go ?_ | (refine TV_cond_f ?_ ?_; · first | rfl | assumption))
          refine TS_callE c1 ?_
          repeat (refine StepC.go ?_)
          exact ⟨byS o.name o.qs p, inferInstance, inferInstance, inferInstance, inferInstance, inferInstance, inferInstance, inferInstance, inferInstance, inferInstanceAs (SubP _ [(pp, .cells (pauCs (byS o.name o.qs p)) 29 true), _, _]), c3, by rw [c4, v2], hgo _ (.inl ⟨hs.1, hs.2, h3'.1, h3'.2, hcl, rfl⟩)⟩
      · have hs : ¬ (0 < k ∧ st = true) := by simpa using hb
        repeat (refine StepC.go ?_)
        exact ⟨p, inferInstance, inferInstance, inferInstance, inferInstance, inferInstance, inferInstance, inferInstance, inferInstance, inferInstance, v1, v2, hgo p (.inr ⟨hs, rfl⟩)⟩
    clear hB g43 g34 g33 g32 g2 g4 g7 g9 g10 g11 hgo herr
    rintro σ B ⟨p1, g34, g33, g32, g2, g4, g7, g9, g11, hB, w1, w2, hnext⟩
    refine TV_keep _ (p := hB) ?_
    repeat (refine StepC.go ?_)
    rw [hLl]
    refine TV_loop (fun d σ B => ∃ (j : Nat), d = l.length - j ∧ j ≤ l.length ∧ TGet σ 71 (intT j) ∧ TGet σ 70 (intT l.length) ∧ TGet σ 69 (.sl 3 (fltRows l)) ∧ TGet σ 34 (intT k) ∧ TGet σ 33 (intT ((c.ops.length + 1 : Nat) : Int)) ∧ TGet σ 32 (.sl 1 (fltLs (behS fs (c.ops.length + 1)))) ∧ TGet σ 2 (ptrT pc) ∧ TGet σ 4 (ptrT pr) ∧ TGet σ 7 (ptrT pp) ∧ TGet σ 9 (boolT (st || decide (0 < j))) ∧
      SubP B [(pp, .cells (pauCs (strikeS c (l.take j) p1)) 29 true), (pc, .cells (circCs c) 24 true), (pr, .cells [intT 0, u64T 0, u64T 0, intT 0] 29 true)]) l.length
      ⟨0, by omega, by omega, tget_as rfl, inferInstance, inferInstance, inferInstance, inferInstance, inferInstance, inferInstance, inferInstance, inferInstance, tget_as (by simp), inferInstanceAs (SubP _ [(pp, .cells (pauCs p1) 29 true), _, _])⟩ ?_
    clear hB g34 g33 g32 g2 g4 g7 g9 g11
    rintro d σ B ⟨j, rfl, hj, g71, g70, g69, g34, g33, g32, g2, g4, g7, g9, hB⟩
    refine TV_keep _ (p := hB) ?_
    repeat (refine StepC.go ?_)
    refine TV_cond ?_ ?_ <;> intro hc3
    · have hjl : j < l.length := by have := of_decide_eq_true hc3; omega
      obtain ⟨f, hf⟩ : ∃ f, l[j]? = some f := ⟨_, List.getElem?_eq_getElem hjl⟩
      have ngf : NthG (fltRows l) j (fltCs f) := .map fltCs hf
      have hfo := hlok f (List.mem_of_getElem? hf)
      obtain ⟨o1, o2, o3⟩ := oneF_v g.q1 hfo
      obtain ⟨s1, s2⟩ := strikeS_v g.q1 (l.take j) p1 (fun f hf => hlok f (List.mem_of_mem_take hf)) w1 w2
      have hsn : strikeS c (l.take (j + 1)) p1 = mulP (oneF c f) (strikeS c (l.take j) p1) := by rw [take_succ hf, strikeS_snoc]
      repeat (first | refine StepC.go ?_ | intro _)
      refine TS_callE (oneT c.qubits f.q f.kind) ?_
      rw [o1]
      repeat (first | refine StepC.go ?_ | intro _)
      refine TS_callE (mulT o2.1 s1.1) ?_
      rw [(o2.mul s1 (by rw [o3, s2])).2]
      repeat (first | refine StepC.go ?_ | (refine TS_puw (Pu.addi ?_) ?_; · omega))
      refine ⟨_, ?_, j + 1, rfl, by omega, tget_as rfl, inferInstance, inferInstance, inferInstance, inferInstance, inferInstance, inferInstance, inferInstance, inferInstance, tget_as (by simp), ?_⟩
      · omega
      · rw [hsn]; exact inferInstanceAs (SubP _ [(pp, .cells (pauCs (mulP (oneF c f) (strikeS c (l.take j) p1))) 29 true), _, _])
    · have hjl : j = l.length := by have := of_decide_eq_false hc3; omega
      subst hjl
      rw [List.take_length]
      have hlz : decide (0 < l.length) = !l.isEmpty := by cases l <;> simp
      repeat (first | refine StepC.go ?_ | (refine TS_puw (Pu.addi ?_) ?_; · omega))
      refine ⟨_, ?_, k + 1, rfl, by omega, tget_as rfl, inferInstance, inferInstance, inferInstance, inferInstance, inferInstance, tget_as (by rw [hnext, hlz]), ?_, by rw [hnext]⟩
      · omega
      · rw [hnext]; exact inferInstanceAs (SubP _ [(pp, .cells (pauCs (strikeS c l p1)) 29 true), _, _])
  · have hkl : k = c.ops.length + 1 := by have := of_decide_eq_false hc2; omega
    subst hkl
    repeat (refine StepC.go ?_)
    refine retT_2 (.inr rfl) ?_
    simp only [tret, pushC]
    rw [if_pos hck, he0]
instance : CallIs Try.prog 8 := .of Try.func8 rfl rfl
end Go.Ideal

-- Vs
set_option linter.unusedSimpArgs false
set_option linter.unusedVariables false
namespace Go.Ideal
open Go Go.Proofs Go.RowKit
/-! ### Check and Push, of the reference -/
instance : CallIs Try.prog 13 := .of Try.func13 rfl rfl
instance : CallIs Try.prog 7 := .of Try.func7 rfl rfl
end Go.Ideal

-- Vt
set_option linter.unusedSimpArgs false
set_option linter.unusedVariables false
namespace Go.Ideal
open Go Go.Proofs Go.RowKit
/-! ### All single faults -/
def fltE (k q t : Nat) : FltD := ⟨(k : Int) - 1, (q : Int), 88 + t⟩
def sgT (k q : Nat) : Nat → List FltD
  | 0 => []
  | t + 1 => sgT k q t ++ [fltE k q t]
def sgQ (k : Nat) : Nat → List FltD
  | 0 => []
  | q + 1 => sgQ k q ++ sgT k q 3
def sgK (n : Nat) : Nat → List FltD
  | 0 => []
  | k + 1 => sgK n k ++ sgQ k n
def singlesC (c : CircD) : List FltD × Int := if (checkC c).2 = 0 then (sgK c.qubits.toNat (c.ops.length + 1), 0) else ([], (checkC c).2)
theorem sgT_len (k q : Nat) : ∀ t, (sgT k q t).length = t := by
  intro t
  induction t with
  | zero => rfl
  | succ t ih => rw [sgT, List.length_append, ih]; rfl
theorem sgQ_len (k : Nat) : ∀ q, (sgQ k q).length = 3 * q := by
  intro q
  induction q with
  | zero => rfl
  | succ q ih => rw [sgQ, List.length_append, ih, sgT_len]; omega
theorem sgK_len (n : Nat) : ∀ k, (sgK n k).length = 3 * n * k := by
  intro k
  induction k with
  | zero => rfl
  | succ k ih => rw [sgK, List.length_append, ih, sgQ_len, Nat.mul_add, Nat.mul_one]
theorem sgK_small {n k : Nat} (hn : n ≤ 64) (hk : k ≤ 4097) : (sgK n k).length ≤ 786624 := by
  rw [sgK_len]
  have : 3 * n * k ≤ 192 * 4097 := Nat.mul_le_mul (by omega) hk
  omega
theorem xyzR {j : Nat} (h : j < 3) : NthG [[u8T 88], [u8T 89], [u8T 90]] j [u8T (88 + j)] := ⟨by
  match j, h with
  | 0, _ => rfl
  | 1, _ => rfl
  | 2, _ => rfl⟩
set_option synthInstance.maxSize 4000 in
set_option synthInstance.maxHeartbeats 400000 in
set_option maxHeartbeats 4000000 in
theorem singlesT {c : CircD} (hw : CircW c) : Fn Try.prog 16 [circT c] (fun r => r = .tup [.sl 3 (fltRows (singlesC c).1), intT (singlesC c).2]) := by
  refine Fn_of Try.func16 rfl (Nat.le_of_ble_eq_true rfl) (fun X => ?_)
  have hLc : (opRows c.ops).length = c.ops.length := by simp [opRows]
  repeat (first | refine StepC.go ?_ | intro _)
  rename_i pc
  refine TS_callE (checkT hw) ?_
  repeat (refine StepC.go ?_)
  refine TV_cond ?_ ?_ <;> intro hc
  · repeat (refine StepC.go ?_)
    refine retT_2c [.sl 3 [], intT (checkC c).2] (.inr rfl) ?_
    simp only [tret, singlesC]
    rw [if_neg (by simpa using hc)]; rfl
  have hck : (checkC c).2 = 0 := by simpa using hc
  obtain ⟨hr, hlen, _⟩ := checkC_ok hck
  obtain ⟨q0, q1, _, _⟩ := rangeBad_no hr
  obtain ⟨N, hN⟩ : ∃ N : Nat, c.qubits = (N : Int) := ⟨c.qubits.toNat, by omega⟩
  have hNt : c.qubits.toNat = N := by omega
  repeat (refine StepC.go ?_)
  refine TV_ghost 3 46 ?_
  intro bl
  refine TV_loop (fun d σ B => ∃ (k bl : Nat), d = c.ops.length + 1 - k ∧ k ≤ c.ops.length + 1 ∧ TGet σ 7 (intT ((k : Int) - 1)) ∧ TGet σ 1 (ptrT pc) ∧ TGet σ 6 (.v (gsv bl (sgK N k).length)) ∧
      SubP B [(bl, .arr 3 (fltRows (sgK N k)) 46 false), (pc, .cells (circCs c) 24 true)]) (c.ops.length + 1)
    ⟨0, bl, by omega, by omega, tget_as rfl, inferInstance, tget_as rfl, inferInstanceAs (SubP _ [(bl, .arr 3 [] 46 false), _])⟩ ?_
  rintro d σ B ⟨k, bl, rfl, hk, g7, g1, g6, hB⟩
  refine TV_keep _ (p := hB) ?_
  repeat (refine StepC.go ?_)
  rw [hLc]
  refine TV_cond ?_ ?_ <;> intro hc2
  · have hkl : k < c.ops.length + 1 := by have := of_decide_eq_true hc2; omega
    have hsz := sgK_small (n := N) (k := k + 1) (by omega) (by omega)
    rw [sgK, List.length_append, sgQ_len] at hsz
    repeat (refine StepC.go ?_)
    rw [hN]
    refine TV_loop (fun d σ B => ∃ (q bl : Nat), d = N - q ∧ q ≤ N ∧ TGet σ 28 (intT q) ∧ TGet σ 27 (intT N) ∧ TGet σ 7 (intT ((k : Int) - 1)) ∧ TGet σ 1 (ptrT pc) ∧ TGet σ 6 (.v (gsv bl (sgK N k ++ sgQ k q).length)) ∧
      SubP B [(bl, .arr 3 (fltRows (sgK N k ++ sgQ k q)) 46 false), (pc, .cells (circCs c) 24 true)]) N
      ⟨0, bl, by omega, by omega, tget_as rfl, inferInstance, inferInstance, inferInstance, tget_as (by rw [sgQ, List.append_nil]), by rw [sgQ, List.append_nil]; infer_instance⟩ ?_
    clear hB g7 g1 g6
    clear bl
    rintro d σ B ⟨q, bl, rfl, hq, g28, g27, g7, g1, g6, hB⟩
    refine TV_keep _ (p := hB) ?_
    repeat (refine StepC.go ?_)
    refine TV_cond ?_ ?_ <;> intro hc3
    · have hql : q < N := by have := of_decide_eq_true hc3; omega
      have hs2 : (sgK N k ++ sgQ k q).length ≤ 786624 := by rw [List.length_append, sgQ_len]; omega
      repeat (first | refine StepC.go ?_ | intro _)
      refine TS_conv ?_
      repeat (refine StepC.go ?_)
      rename_i bx
      refine TV_loop (fun d σ B => ∃ (t bl : Nat), d = 3 - t ∧ t ≤ 3 ∧ TGet σ 34 (intT t) ∧ TGet σ 33 (intT 3) ∧ TGet σ 32 (.v (.slice (some (ad bx 0)) 3 3)) ∧ TGet σ 28 (intT q) ∧ TGet σ 27 (intT N) ∧ TGet σ 8 (intT q) ∧ TGet σ 7 (intT ((k : Int) - 1)) ∧ TGet σ 1 (ptrT pc) ∧ TGet σ 6 (.v (gsv bl ((sgK N k ++ sgQ k q) ++ sgT k q t).length)) ∧
        SubP B [(bl, .arr 3 (fltRows ((sgK N k ++ sgQ k q) ++ sgT k q t)) 46 false), (bx, .arr 1 [[u8T 88], [u8T 89], [u8T 90]] 5 true), (pc, .cells (circCs c) 24 true)]) 3
        ⟨0, bl, by omega, by omega, tget_as rfl, tget_as rfl, inferInstance, inferInstance, inferInstance, inferInstance, inferInstance, inferInstance, tget_as (by rw [sgT, List.append_nil]), by rw [sgT, List.append_nil]; infer_instance⟩ ?_
      clear hB g28 g27 g7 g1 g6
      clear bl
      rintro d σ B ⟨t, bl, rfl, ht, g34, g33, g32, g28, g27, g8, g7, g1, g6, hB⟩
      refine TV_keep _ (p := hB) ?_
      have hs3 : ((sgK N k ++ sgQ k q) ++ sgT k q t).length ≤ 786627 := by rw [List.length_append, sgT_len]; omega
      repeat (refine StepC.go ?_)
      refine TV_cond ?_ ?_ <;> intro hc4
      · have htl : t < 3 := by have := of_decide_eq_true hc4; omega
        have ngt := xyzR htl
        repeat (first | refine StepC.go ?_ | intro _ | (refine TS_puw (Pu.addi ?_) ?_; · omega) | (refine TS_append ?_ (fun _ => ?_); · omega))
        rename_i b1 bl2
        refine ⟨_, ?_, t + 1, bl2, rfl, by omega, tget_as rfl, inferInstance, inferInstance, inferInstance, inferInstance, inferInstance, inferInstance, inferInstance, tget_as (by simp [sgT, Nat.add_assoc]), ?_⟩
        · omega
        · have e : fltRows ((sgK N k ++ sgQ k q) ++ sgT k q t ++ [fltE k q t]) = fltRows ((sgK N k ++ sgQ k q) ++ sgT k q t) ++ [[intT ((k : Int) - 1), intT (q : Int), u8T (88 + t)]] := by rw [fltRows_app]; rfl
          rw [sgT, ← List.append_assoc, e]
          show SubP _ [(bl2, .arr 3 (fltRows ((sgK N k ++ sgQ k q) ++ sgT k q t) ++ [[intT ((k : Int) - 1), intT (q : Int), u8T (88 + t)]]) 46 false), (bx, .arr 1 [[u8T 88], [u8T 89], [u8T 90]] 5 true), (pc, .cells (circCs c) 24 true)]
          infer_instance
      · have htl : t = 3 := by have := of_decide_eq_false hc4; omega
        subst htl
        repeat (first | refine StepC.go ?_ | (refine TS_puw (Pu.addi ?_) ?_; · omega))
        refine ⟨_, ?_, q + 1, bl, rfl, by omega, tget_as rfl, inferInstance, inferInstance, inferInstance, tget_as (by rw [sgQ, List.append_assoc]), ?_⟩
        · omega
        · rw [sgQ, ← List.append_assoc]; infer_instance
    · have hql : q = N := by have := of_decide_eq_false hc3; omega
      subst hql
      repeat (first | refine StepC.go ?_ | (refine TS_puw (Pu.addi ?_) ?_; · omega))
      refine ⟨_, ?_, k + 1, bl, rfl, by omega, tget_as (by rw [show (k : Int) - 1 + 1 = ((k + 1 : Nat) : Int) - 1 by omega]), inferInstance, inferInstance, ?_⟩
      · omega
      · rw [sgK]; infer_instance
  · have hkl : k = c.ops.length + 1 := by have := of_decide_eq_false hc2; omega
    subst hkl
    have hsz := sgK_small (n := N) (k := c.ops.length + 1) (by omega) (by omega)
    have : Sm63 (sgK N (c.ops.length + 1)).length := ⟨by omega⟩
    repeat (refine StepC.go ?_)
    refine retT_2 (.inr rfl) ?_
    simp only [tret, singlesC]
    rw [if_pos hck, hNt]
instance : CallIs Try.prog 16 := .of Try.func16 rfl rfl
end Go.Ideal

-- Vu
set_option linter.unusedSimpArgs false
set_option linter.unusedVariables false
namespace Go.Ideal
open Go Go.Proofs Go.RowKit
/-! ### Strings and faults compared -/
theorem pau_held : Try.prog.stoodInHeld 29 = false := by kernel_rfl
theorem pau_guard : Try.prog.eqGuardType Try.prog.depth 29 = false := by kernel_rfl
theorem flt_held : Try.prog.stoodInHeld 46 = false := by kernel_rfl
theorem flt_guard : Try.prog.eqGuardType Try.prog.depth 46 = false := by kernel_rfl
@[reducible] def pauFs : List Field := [⟨"N", 3, 0, false, "", "", 0⟩, ⟨"X", 27, 1, false, "", "", 8⟩, ⟨"Z", 27, 2, false, "", "", 16⟩, ⟨"Phase", 3, 3, false, "", "", 24⟩]
@[reducible] def fltFs : List Field := [⟨"Behind", 3, 0, false, "", "", 0⟩, ⟨"Qubit", 3, 1, false, "", "", 8⟩, ⟨"Kind", 5, 2, false, "", "", 16⟩]
section
variable {σ : Nat → Tr} {B : Boxes} {x y : Operand} {yt : TypeId} {a b c d a' b' c' d' : Int}
theorem pau_eqF : EqF Try.prog pauFs #[.int .i64 a, .int .u64 b, .int .u64 c, .int .i64 d] #[.int .i64 a', .int .u64 b', .int .u64 c', .int .i64 d'] (a == a' && (b == b' && (c == c' && (d == d' && true)))) :=
  .cons (f := ⟨"N", 3, 0, false, "", "", 0⟩) (by decide) (UnderIs.eq : Try.prog.underlying 3 = _) rfl rfl (.cons (f := ⟨"X", 27, 1, false, "", "", 8⟩) (by decide) (UnderIs.eq : Try.prog.underlying 27 = _) rfl rfl
    (.cons (f := ⟨"Z", 27, 2, false, "", "", 16⟩) (by decide) (UnderIs.eq : Try.prog.underlying 27 = _) rfl rfl (.cons (f := ⟨"Phase", 3, 3, false, "", "", 24⟩) (by decide) (UnderIs.eq : Try.prog.underlying 3 = _) rfl rfl .nil)))
instance Pu.pau_eq [e1 : TEval σ x (.agg [.v (.int .i64 a), .v (.int .u64 b), .v (.int .u64 c), .v (.int .i64 d)])] [e2 : TEval σ y (.agg [.v (.int .i64 a'), .v (.int .u64 b'), .v (.int .u64 c'), .v (.int .i64 d')])] : Pu Try.prog σ B (.binOp .eql 29 x y yt) (.v (.bool (a == a' && (b == b' && (c == c' && (d == d' && true)))))) :=
  Pu.eqStruct [.int .i64 a, .int .u64 b, .int .u64 c, .int .i64 d] [.int .i64 a', .int .u64 b', .int .u64 c', .int .i64 d'] rfl rfl Try.underlying29 pau_held pau_guard rfl rfl pau_eqF
instance (priority := 2000) Pu.pau_eq_same [e1 : TEval σ x (.agg [.v (.int .i64 a), .v (.int .u64 b), .v (.int .u64 c), .v (.int .i64 d)])] [e2 : TEval σ y (.agg [.v (.int .i64 a), .v (.int .u64 b), .v (.int .u64 c), .v (.int .i64 d)])] : Pu Try.prog σ B (.binOp .eql 29 x y yt) (.v (.bool true)) := by
  have h := Pu.pau_eq (σ := σ) (B := B) (x := x) (y := y) (yt := yt) (a := a) (b := b) (c := c) (d := d) (a' := a) (b' := b) (c' := c) (d' := d)
  simpa using h
theorem flt_eqF : EqF Try.prog fltFs #[.int .i64 a, .int .i64 b, .int .u8 c] #[.int .i64 a', .int .i64 b', .int .u8 c'] (a == a' && (b == b' && (c == c' && true))) :=
  .cons (f := ⟨"Behind", 3, 0, false, "", "", 0⟩) (by decide) (UnderIs.eq : Try.prog.underlying 3 = _) rfl rfl (.cons (f := ⟨"Qubit", 3, 1, false, "", "", 8⟩) (by decide) (UnderIs.eq : Try.prog.underlying 3 = _) rfl rfl
    (.cons (f := ⟨"Kind", 5, 2, false, "", "", 16⟩) (by decide) (UnderIs.eq : Try.prog.underlying 5 = _) rfl rfl .nil))
instance Pu.flt_ne [e1 : TEval σ x (.agg [.v (.int .i64 a), .v (.int .i64 b), .v (.int .u8 c)])] [e2 : TEval σ y (.agg [.v (.int .i64 a'), .v (.int .i64 b'), .v (.int .u8 c')])] : Pu Try.prog σ B (.binOp .neq 46 x y yt) (.v (.bool (!(a == a' && (b == b' && (c == c' && true)))))) :=
  Pu.neStruct [.int .i64 a, .int .i64 b, .int .u8 c] [.int .i64 a', .int .i64 b', .int .u8 c'] rfl rfl Try.underlying46 flt_held flt_guard rfl rfl flt_eqF
instance (priority := 2000) Pu.flt_ne_same [e1 : TEval σ x (.agg [.v (.int .i64 a), .v (.int .i64 b), .v (.int .u8 c)])] [e2 : TEval σ y (.agg [.v (.int .i64 a), .v (.int .i64 b), .v (.int .u8 c)])] : Pu Try.prog σ B (.binOp .neq 46 x y yt) (.v (.bool false)) := by
  have h := Pu.flt_ne (σ := σ) (B := B) (x := x) (y := y) (yt := yt) (a := a) (b := b) (c := c) (a' := a) (b' := b) (c' := c)
  simpa using h
end
/-! ### All single faults, of the reference -/
end Go.Ideal

-- Vv
set_option linter.unusedSimpArgs false
set_option linter.unusedVariables false
namespace Go.Ideal
open Go Go.Proofs Go.RowKit
/-! ### The noise laws' own example -/
theorem gate24T (nm : ByteArray) (qs : List Int) : Fn Try.prog 15 [strT nm, .sl 1 (intRows qs)] (fun r => r = .agg (opCs (gateD nm qs))) := by
  refine Fn_of Try.func15 rfl (Nat.le_of_ble_eq_true rfl) (fun X => ?_)
  repeat (first | refine StepC.go ?_ | intro _)
  exact retT_1 (.inr rfl) rfl
instance : CallIs Try.prog 15 := .of Try.func15 rfl rfl
def hcxD : CircD := ⟨2, 0, [gateD nmH [0], gateD nmCx [0, 1]]⟩
theorem hcxW : CircW hcxD := by
  intro o ho
  simp only [hcxD, List.mem_cons, List.not_mem_nil, or_false] at ho
  rcases ho with rfl | rfl <;> exact ⟨by decide, by decide⟩
theorem hcx_push : pushC hcxD [⟨-1, 0, 90⟩] = (⟨2, 3, 0, 0⟩, 0) := by kernel_rfl
theorem hcx_singles : (singlesC hcxD).1.length = 18 ∧ (singlesC hcxD).2 = 0 := by decide +kernel
theorem hcx_check : checkF hcxD [⟨2, 0, 90⟩] = 2 := by decide +kernel
theorem awake24T : Fn Try.prog 6 [] (fun r => r = boolT true) := by
  refine Fn_of Try.func6 rfl (Nat.le_of_ble_eq_true rfl) (fun X => ?_)
  repeat (first | refine StepC.go ?_ | intro _)
  rename_i b
  refine TS_freeze 6 b ?_
  refine TS_call (gate24T nmH [0]) ?_
  rintro _ rfl
  repeat (first | refine StepC.go ?_ | intro _)
  rename_i b2
  refine TS_freeze 8 b2 ?_
  refine TS_call (gate24T nmCx [0, 1]) ?_
  rintro _ rfl
  refine StepC.go ?_
  intro bc
  refine TS_freeze 10 bc ?_
  repeat (first | refine StepC.go ?_ | intro _)
  rename_i b3
  refine TS_freeze 15 b3 ?_
  refine TS_call (pushT (c := hcxD) (fs := [⟨-1, 0, 90⟩]) hcxW (by decide)) ?_
  rintro _ rfl
  rw [hcx_push]
  repeat (first | refine StepC.go ?_ | intro _)
  refine TS_call (singlesT (c := hcxD) hcxW) ?_
  rintro _ rfl
  rw [hcx_singles.2]
  have hl : LenT (fltRows (singlesC hcxD).1) 18 := ⟨by rw [← hcx_singles.1]; simp [fltRows]⟩
  repeat (first | refine StepC.go ?_ | intro _ | (refine TS_on rfl ?_ ?_; · first | rfl | assumption))
  rename_i b4
  refine TS_freeze 43 b4 ?_
  refine TS_callE (checkFT (c := hcxD) (fs := [⟨2, 0, 90⟩]) hcxW) ?_
  rw [hcx_check]
  repeat (first | refine StepC.go ?_ | (refine TS_on rfl ?_ ?_; · first | rfl | assumption))
  exact retT_1 (.inr rfl) rfl
instance : CallIs Try.prog 6 := .of Try.func6 rfl rfl
end Go.Ideal

-- Vw
set_option linter.unusedSimpArgs false
set_option linter.unusedVariables false
namespace Go.Ideal
open Go Go.Proofs Go.RowKit
/-! ### Faults among the arguments -/
set_option maxRecDepth 10000 in
theorem flt_of {h : IHp} {n : Nat} {row : List Value} (hd : IRd Try.prog h (n + 2) 46 row) : ∃ f : FltD, row = [.int .i64 f.beh, .int .i64 f.q, .int .u8 f.kind] ∧ f.kind < 256 := by
  have hu : ∃ f0 f1 f2, Try.prog.underlying 46 = some (.struct #[f0, f1, f2]) ∧ (f0.type = 3 ∧ f0.offset = 0) ∧ (f1.type = 3 ∧ f1.offset = 1) ∧ (f2.type = 5 ∧ f2.offset = 2) :=
    ⟨_, _, _, Try.underlying46, ⟨rfl, rfl⟩, ⟨rfl, rfl⟩, ⟨rfl, rfl⟩⟩
  obtain ⟨f0, f1, f2, hu, ⟨t0, o0⟩, ⟨t1, o1⟩, ⟨t2, o2⟩⟩ := hu
  have ci : Try.prog.cellsOf 3 = 1 := by kernel_rfl
  have cu : Try.prog.cellsOf 5 = 1 := by kernel_rfl
  have cc : Try.prog.cellsOf 46 = 3 := by kernel_rfl
  rw [IRd, hu] at hd
  obtain ⟨hl, hf⟩ := hd
  rw [cc] at hl
  match row, hl with
  | [v0, v1, v2], _ =>
    have h0 := hf 0 f0 rfl
    have h1 := hf 1 f1 rfl
    have h2 := hf 2 f2 rfl
    rw [t0, o0, ci] at h0
    rw [t1, o1, ci] at h1
    rw [t2, o2, cu] at h2
    simp only [List.drop_zero, List.take_succ_cons, List.take_zero, List.drop_succ_cons] at h0 h1 h2
    rw [IRd, (UnderIs.eq : Try.prog.underlying 3 = _)] at h0 h1
    rw [IRd, (UnderIs.eq : Try.prog.underlying 5 = _)] at h2
    obtain ⟨z0, e0, _⟩ := h0
    obtain ⟨z1, e1, _⟩ := h1
    obtain ⟨z2, e2, w2⟩ := h2
    have hb : 0 ≤ z2 ∧ z2 < 256 := by
      simp [Lit.wf, IntKind.min, IntKind.max, IntKind.bits, IntKind.signed] at w2
      omega
    refine ⟨⟨z0, z1, z2.toNat⟩, ?_, by show z2.toNat < 256; omega⟩
    have h3 : ((z2.toNat : Nat) : Int) = z2 := by omega
    simp only [List.cons.injEq, and_true] at e0 e1 e2
    rw [e0, e1, e2, h3]
set_option maxRecDepth 10000 in
theorem flts_tree {h : IHp} {n : Nat} {v : Value} (hd : IRd Try.prog h (n + 3) 25 [v]) : ∃ (fs : List FltD) (a : Option Addr) (l c : Nat), v = .slice a l c ∧ fs.length = l ∧ Rep h.cell? (.sl 3 (fltRows fs)) v := by
  rw [IRd, (UnderIs.eq : Try.prog.underlying 25 = _)] at hd
  rcases hd with h1 | ⟨a, l, c, h1, h2, h3, h5, h4⟩
  · cases h1
    refine ⟨[], none, 0, 0, rfl, rfl, ?_⟩
    rw [Rep]
    exact ⟨none, 0, 0, rfl, rfl, Nat.le_refl _, by decide, (fun d hd => by cases hd), rfl⟩
  · cases h1
    have cc : Try.prog.cellsOf 46 = 3 := by kernel_rfl
    have key : ∀ i, i < c → ∃ f : FltD, h.row a.block (a.off + i * 3) 3 = some [.int .i64 f.beh, .int .i64 f.q, .int .u8 f.kind] := by
      intro i hi
      obtain ⟨row, g1, g2⟩ := h4 i hi
      rw [cc] at g1
      obtain ⟨f, rfl, _⟩ := flt_of g2
      exact ⟨f, g1⟩
    have hex : ∃ f : Nat → FltD, ∀ i, i < l → h.row a.block (a.off + i * 3) 3 = some [.int .i64 (f i).beh, .int .i64 (f i).q, .int .u8 (f i).kind] :=
      ⟨fun i => if hi : i < c then Classical.choose (key i hi) else ⟨0, 0, 0⟩, fun i hi => by
        have hic : i < c := by omega
        simp only [hic, dif_pos]
        exact Classical.choose_spec (key i hic)⟩
    obtain ⟨f, hf⟩ := hex
    refine ⟨(List.range l).map f, some a, l, c, rfl, by simp, ?_⟩
    rw [Rep]
    refine ⟨some a, l, c, rfl, by simp [fltRows], h2, by unfold maxLen at h3; omega, fun d hd => by cases hd; exact h5, ?_⟩
    simp only
    refine repR_of fun i row hr => ?_
    simp only [fltRows, List.getElem?_map, Option.map_eq_some_iff] at hr
    obtain ⟨o, ⟨k, hk, rfl⟩, rfl⟩ := hr
    obtain ⟨hk1, rfl⟩ := List.getElem?_eq_some_iff.1 hk
    simp only [List.length_range] at hk1
    simp only [List.getElem_range]
    exact ⟨_, by rw [← row_rowM]; exact hf i hk1, RepL.cons (rep_v _) (RepL.cons (rep_v _) (RepL.cons (rep_v _) RepL.nil))⟩
end Go.Ideal

-- Wd
set_option linter.unusedSimpArgs false
set_option linter.unusedVariables false
namespace Go.Ideal
open Go Go.Proofs Go.RowKit
/-! ### How long a list of faults among the arguments is -/
theorem R_len {ρ : RM} {a : Option Addr} {l c : Nat} {v : Value} (h : R ρ (.slice a l c) v) : ∃ a' c', v = .slice a' l c' := by
  cases a with
  | none => have := R_slice0 h; exact ⟨_, _, this⟩
  | some a =>
    by_cases hs : a.spot = none
    · obtain ⟨_, b, _, e⟩ := R_slice h hs; exact ⟨_, _, e⟩
    · obtain ⟨rfl, a', c', e⟩ := R_spotted h hs; exact ⟨_, _, e⟩
set_option maxRecDepth 100000 in
theorem flts_sized {H : Type} {enc : TypeId × Value → H} {W : World} {base : Nat} {v : Value} {d : DataW H} {p : List MemPlace} (k : Value.okWide Try.prog W .any base 25 v)
    (h : DataW.Trod enc Try.prog W 0 (fun _ => true) true 25 v d p) (hs : ∀ elems spare, d = .slice elems spare → (elems.length + spare.length) * Try.prog.bytesOf 46 ≤ reachBytes) : ∀ a l c, v = .slice a l c → 24 * l ≤ 2 ^ 47 - 4096 := by
  intro a l c e
  obtain ⟨fuel, h⟩ := h
  rw [(slice_cell Try.underlying25 k).1] at h
  have hb : Try.prog.bytesOf 46 = 24 := by kernel_rfl
  rcases DataW.trod_slice Try.underlying25 h with ⟨e1, _⟩ | ⟨a', len, cap, elems, rest, n, _, e1, ex, _, _, _, hl, _⟩
  · rw [e] at e1
    have : l = 0 := by simp at e1; exact e1.2.1
    omega
  · rw [e] at e1
    have hl2 : l = len := by simp at e1; exact e1.2.1
    have h1 := hs _ _ (Prod.ext_iff.1 ex).1
    rw [hb] at h1
    simp only [List.length_map] at h1
    have : reachBytes = 2 ^ 47 - 4096 := by decide
    rw [this] at h1
    omega
end Go.Ideal

-- Gj
set_option linter.unusedSimpArgs false
set_option linter.unusedVariables false
namespace Go.Ideal
open Go Go.Proofs Go.RowKit
/-! ### Rows of own memory that may be frozen; copies that are own memory -/
/-- lists of numbers, each in a box of its own -/
def iB (fam : List (Nat × List Int × Bool)) : Boxes := fam.map fun x => (x.1, .arr 1 (intRows x.2.1) 3 x.2.2)
/-- the value of a list of numbers in a box of its own -/
@[reducible] def iV (x : Nat × List Int × Bool) : Value := .slice (some (ad x.1 0)) x.2.1.length x.2.1.length
@[reducible] def opCsV (o : OpD) (b : Nat) : List Tr := [intT o.kind, strT o.name, .v (iV (b, o.qs, false)), intT o.bit, boolT o.iff, u64T o.mask, u64T o.value]
end Go.Ideal

-- Gk
set_option linter.unusedSimpArgs false
set_option linter.unusedVariables false
namespace Go.Ideal
open Go Go.Proofs Go.RowKit
/-! ### Circuits in own memory -/
def ocRows (dq : List (Nat × OpD)) : List (List Tr) := dq.map fun d => opCsV d.2 d.1
def ocB (dq : List (Nat × OpD)) : Boxes := iB (dq.map fun d => (d.1, d.2.qs, false))
instance {dq : List (Nat × OpD)} : LenT (ocRows dq) dq.length := ⟨by simp [ocRows]⟩
theorem ocB_app (a b : List (Nat × OpD)) : ocB (a ++ b) = ocB a ++ ocB b := by simp [ocB, iB]
theorem SubP.oc {B : Boxes} {x y : Nat × Box} {bl : Nat} {e : Box} {dq : List (Nat × OpD)} {b : Nat} {o : OpD} (h : SubP B ((b, .arr 1 (intRows o.qs) 3 false) :: x :: y :: (bl, e) :: ocB dq)) : SubP B (x :: y :: (bl, e) :: ocB (dq ++ [(b, o)])) := by
  rw [ocB_app]
  exact SubP.last h
end Go.Ideal

-- Gl
set_option linter.unusedSimpArgs false
set_option linter.unusedVariables false
namespace Go.Ideal
open Go Go.Proofs Go.RowKit
/-! ### From own circuits to frozen ones -/
end Go.Ideal

-- Ha
set_option linter.unusedSimpArgs false
set_option linter.unusedVariables false
namespace Go.Ideal
open Go Go.Proofs Go.RowKit
/-! ### Faults that are laid in -/
@[reducible] def nmF (k : Nat) : ByteArray := ByteArray.empty.push (UInt8.ofNat (((k : Nat) : Int) + 32).toNat)
@[reducible] def fltOp (f : FltD) : OpD := ⟨1, nmF f.kind, [f.q], 0, false, 0, 0⟩
def layO (c : CircD) (k : Nat) : List OpD := if k = 0 then [] else [opAt c.ops ((k : Int) - 1)]
def layK (c : CircD) (fs : List FltD) : Nat → List OpD
  | 0 => []
  | k + 1 => layK c fs k ++ layO c k ++ (fltAt fs k).map fltOp
def layC (c : CircD) (fs : List FltD) : CircD × Int :=
  if checkF c fs = 0 then (if 4096 < c.ops.length + fs.length then (⟨0, 0, []⟩, 115) else (⟨c.qubits, c.bits, layK c fs (c.ops.length + 1)⟩, 0)) else (⟨0, 0, []⟩, checkF c fs)
theorem layK_len (c : CircD) (fs : List FltD) : ∀ k, (layK c fs k).length ≤ k * (1 + fs.length) := by
  intro k
  induction k with
  | zero => exact Nat.zero_le _
  | succ k ih =>
    have h1 := fltAt_len fs k
    have h2 : (layO c k).length ≤ 1 := by unfold layO; split <;> simp
    simp only [layK, List.length_append, List.length_map, Nat.add_mul, Nat.one_mul]
    omega
/-- rows of operations, some with their qubits in a box of their own -/
def mRow (d : OpD × Option Nat) : List Tr := match d.2 with | none => opCs d.1 | some b => opCsV d.1 b
def mRows (ls : List (OpD × Option Nat)) : List (List Tr) := ls.map mRow
def mB (ls : List (OpD × Option Nat)) : Boxes := ls.filterMap fun d => d.2.map fun b => (b, .arr 1 (intRows d.1.qs) 3 true)
instance {ls : List (OpD × Option Nat)} : LenT (mRows ls) ls.length := ⟨by simp [mRows]⟩
theorem mRows_app (a b : List (OpD × Option Nat)) : mRows (a ++ b) = mRows a ++ mRows b := by simp [mRows]
theorem mB_none (a : List (OpD × Option Nat)) (o : OpD) : mB (a ++ [(o, none)]) = mB a := by simp [mB]
theorem mB_some (a : List (OpD × Option Nat)) (o : OpD) (b : Nat) : mB (a ++ [(o, some b)]) = mB a ++ [(b, .arr 1 (intRows o.qs) 3 true)] := by simp [mB]
theorem mRows_frz {B : Boxes} {ls : List (OpD × Option Nat)} (hs : ∀ d ∈ ls, d.1.qs.length < 2 ^ 62) (f : ∀ p ∈ mB ls, p ∈ B) : FrzR B (mRows ls) (opRows (ls.map Prod.fst)) := ⟨by simp [mRows, opRows], fun i row hr => by
  simp only [mRows, List.getElem?_map, Option.map_eq_some_iff] at hr
  obtain ⟨d, hd, rfl⟩ := hr
  have hm := List.mem_of_getElem? hd
  refine ⟨opCs d.1, by simp [opRows, hd], ?_⟩
  have h1 := hs d hm
  obtain ⟨o, ob⟩ := d
  cases ob with
  | none =>
    have : FrzL B (opCs o) (opCs o) := inferInstance
    exact this.eq
  | some b =>
    have : BoxIs B b (.arr 1 (intRows o.qs) 3 true) := ⟨f _ (List.mem_filterMap.2 ⟨(o, some b), hm, rfl⟩)⟩
    simp only at h1
    have : Sm63 o.qs.length := ⟨by omega⟩
    have : FrzL B (opCsV o b) (opCs o) := inferInstance
    exact this.eq⟩
theorem lay_in {c : CircD} {fs : List FltD} (hg : ∀ o ∈ c.ops, o.qs.length < 2 ^ 40) : ∀ k, k ≤ c.ops.length + 1 → ∀ o ∈ layK c fs k, o.qs.length < 2 ^ 40 := by
  intro k
  induction k with
  | zero => intro _ o ho; cases ho
  | succ k ih =>
    intro hk o ho
    simp only [layK, List.mem_append] at ho
    rcases ho with (h | h) | h
    · exact ih (by omega) o h
    · unfold layO at h
      split at h
      · cases h
      · rw [List.mem_singleton.1 h]
        exact hg _ (List.mem_of_getElem? (opAt_get (ops := c.ops) (k := (k : Int) - 1) (by omega)))
    · obtain ⟨f, _, rfl⟩ := List.mem_map.1 h
      show ([f.q] : List Int).length < _
      simp
theorem byte_sub {k : Nat} (h : k = 88 ∨ k = 89 ∨ k = 90) : AriT .sub .u8 (k : Int) 65 ((k : Int) - 65) := ⟨by rcases h with rfl | rfl | rfl <;> rfl⟩
theorem byte_add {k : Nat} (h : k = 88 ∨ k = 89 ∨ k = 90) : AriT .add .u8 ((k : Int) - 65) 97 ((k : Int) + 32) := ⟨by rcases h with rfl | rfl | rfl <;> rfl⟩
theorem byte_add2 {k : Nat} (h : k = 88 ∨ k = 89 ∨ k = 90) : AriT .add .u8 (k : Int) 32 ((k : Int) + 32) := ⟨by rcases h with rfl | rfl | rfl <;> rfl⟩
class InB (fam B : Boxes) : Prop where eq : ∀ p ∈ fam, p ∈ B
instance (priority := 1000) InB.same {fam : Boxes} : InB fam fam := ⟨fun _ h => h⟩
instance (priority := 900) InB.tail {fam B : Boxes} {p : Nat × Box} [i : InB fam B] : InB fam (p :: B) := ⟨fun q h => List.mem_cons_of_mem _ (i.eq q h)⟩
theorem SubP.mB {B : Boxes} {x y z : Nat × Box} {bl : Nat} {e : Box} {ls : List (OpD × Option Nat)} {b : Nat} {o : OpD} (h : SubP B ((b, .arr 1 (intRows o.qs) 3 true) :: x :: y :: z :: (bl, e) :: Go.Ideal.mB ls)) : SubP B (x :: y :: z :: (bl, e) :: Go.Ideal.mB (ls ++ [(o, some b)])) := by
  rw [mB_some]
  exact SubP.last h
theorem fltAt_more (fs : List FltD) (f : FltD) (k : Nat) : fltAt (fs ++ [f]) k = fltAt fs k ++ (if f.beh + 1 = (k : Int) then [f] else []) := by
  unfold fltAt
  rw [List.filter_append]
  congr 1
  by_cases h : f.beh + 1 = (k : Int) <;> simp [h]
theorem take_snoc {α : Type} {l : List α} {i : Nat} {a : α} (h : l[i]? = some a) : l.take (i + 1) = l.take i ++ [a] := by rw [List.take_add_one, h]; rfl
theorem map_len {α β : Type} {f : α → β} {l : List α} {m : List β} (h : l.map f = m) : l.length = m.length := by rw [← h, List.length_map]
set_option synthInstance.maxSize 4000 in
set_option synthInstance.maxHeartbeats 400000 in
set_option maxHeartbeats 4000000 in
theorem layT_ {c : CircD} {fs : List FltD} (hw : CircW c) (hfl : 24 * fs.length ≤ 2 ^ 47 + 2 ^ 20) : Fn Try.prog 10 [circT c, .sl 3 (fltRows fs)] (fun r => r = .tup [circT (layC c fs).1, intT (layC c fs).2]) := by
  refine Fn_of Try.func10 rfl (Nat.le_of_ble_eq_true rfl) (fun X => ?_)
  have hL : (fltRows fs).length = fs.length := by simp [fltRows]
  have hLc : (opRows c.ops).length = c.ops.length := by simp [opRows]
  repeat (first | refine StepC.go ?_ | intro _)
  rename_i p pr
  refine TS_callE (checkFT hw) ?_
  repeat (refine StepC.go ?_)
  refine TV_cond ?_ ?_ <;> intro hc
  · repeat (refine StepC.go ?_)
    refine retT_2c [.agg [intT 0, intT 0, .sl 7 []], intT (checkF c fs)] (.inr rfl) ?_
    simp only [tret, layC]
    rw [if_neg (by simpa using hc)]; rfl
  have hck : checkF c fs = 0 := by simpa using hc
  obtain ⟨hcc, hfok⟩ := checkF_ok hck
  obtain ⟨hlen, hg⟩ := circ_good hw hcc
  clear hc
  repeat (first | refine StepC.go ?_ | (refine TS_puw (Pu.addi ?_) ?_; · omega))
  rw [hL, hLc]
  refine TV_cond ?_ ?_ <;> intro hc
  · have h4 : 4096 < c.ops.length + fs.length := by have := of_decide_eq_true hc; omega
    repeat (refine StepC.go ?_)
    refine retT_2c [.agg [intT 0, intT 0, .sl 7 []], intT 115] (.inr rfl) ?_
    simp only [tret, layC]
    rw [if_pos hck, if_pos h4]; rfl
  have h4 : ¬ 4096 < c.ops.length + fs.length := by have := of_decide_eq_false hc; omega
  have hR : layC c fs = (⟨c.qubits, c.bits, layK c fs (c.ops.length + 1)⟩, 0) := by unfold layC; rw [if_pos hck, if_neg h4]
  clear hc
  have hLb : (fltLs (behS fs (c.ops.length + 1))).length = c.ops.length + 1 := by simp [fltLs, behS]
  refine TV_ghost 7 49 ?_
  intro bl0
  repeat (first | refine StepC.go ?_ | intro _)
  rename_i pd
  refine TS_call (behindT hlen hfl hfok) ?_
  rintro _ rfl
  repeat (refine StepC.go ?_)
  rw [hLb]
  refine TV_loop (fun d σ B => ∃ (k bl : Nat) (ls : List (OpD × Option Nat)), d = c.ops.length + 1 - k ∧ k ≤ c.ops.length + 1 ∧ TGet σ 37 (intT k) ∧ TGet σ 36 (intT ((c.ops.length + 1 : Nat) : Int)) ∧ TGet σ 35 (.sl 1 (fltLs (behS fs (c.ops.length + 1)))) ∧ TGet σ 2 (.v (.pointer (some (ad p 0)))) ∧ TGet σ 4 (.v (.pointer (some (ad pr 0)))) ∧ TGet σ 5 (intT 0) ∧ TGet σ 7 (.v (.pointer (some (ad pd 0)))) ∧
      SubP B ((p, .cells (circCs c) 24 true) :: (pr, .cells [intT 0, intT 0, .v (.slice none 0 0)] 24 true) :: (pd, .cells [intT c.qubits, intT c.bits, .v (gsv bl ls.length)] 24 true) :: (bl, .arr 7 (mRows ls) 49 false) :: mB ls) ∧ ls.map Prod.fst = layK c fs k) (c.ops.length + 1)
    ⟨0, bl0, [], by omega, by omega, tget_as rfl, inferInstance, inferInstance, inferInstance, inferInstance, inferInstance, inferInstance, inferInstanceAs (SubP _ [(p, .cells (circCs c) 24 true), (pr, .cells [intT 0, intT 0, .v (.slice none 0 0)] 24 true), (pd, .cells [intT c.qubits, intT c.bits, .v (.slice none 0 0)] 24 true), (bl0, .arr 7 [] 49 false)]), rfl⟩ ?_
  rintro d σ B ⟨k, bl, ls, rfl, hk, g37, g36, g35, g2, g4, g5, g7, hB, hls⟩
  refine TV_keep _ (p := hB) ?_
  clear hB
  have hll : ls.length ≤ 4097 * 4097 := by
    have h1 := map_len hls
    have h2 := layK_len c fs k
    have h3 : k * (1 + fs.length) ≤ 4097 * 4097 := Nat.mul_le_mul (by omega) (by omega)
    omega
  have hsm : Sm63 ls.length := ⟨by omega⟩
  have hfz : ∀ B, [InB (mB ls) B] → FrzR B (mRows ls) (opRows (ls.map Prod.fst)) := fun B i => mRows_frz (fun d hd => by
    have h1 : d.1 ∈ layK c fs k := by rw [← hls]; exact List.mem_map.2 ⟨d, hd, rfl⟩
    have := lay_in (fs := fs) (fun o ho => by have := (hg o ho).len; omega) k hk d.1 h1
    omega) i.eq
  repeat (refine StepC.go ?_)
  refine TV_cond ?_ ?_ <;> intro hc2
  · have hkl : k < c.ops.length + 1 := by have := of_decide_eq_true hc2; omega
    have hll2 := fltAt_len fs k
    obtain ⟨l, hl⟩ : ∃ l, l = fltAt fs k := ⟨_, rfl⟩
    have ngl : NthG (fltLs (behS fs (c.ops.length + 1))) k [.sl 3 (fltRows l)] := .map (fun l => [Tr.sl 3 (fltRows l)]) (by rw [hl]; exact behS_at fs hkl)
    have hlok : ∀ f ∈ l, fltOk c f = true := fun f hf => hfok f (List.mem_filter.1 (hl ▸ hf)).1
    have hLl : (fltRows l).length = l.length := by simp [fltRows]
    rw [← hl] at hll2
    repeat (refine StepC.go ?_)
    refine TV_cut (fun σ B => ∃ (bl : Nat) (ls : List (OpD × Option Nat)), TGet σ 9 (.sl 3 (fltRows l)) ∧ TGet σ 37 (intT k) ∧ TGet σ 36 (intT ((c.ops.length + 1 : Nat) : Int)) ∧ TGet σ 35 (.sl 1 (fltLs (behS fs (c.ops.length + 1)))) ∧ TGet σ 2 (.v (.pointer (some (ad p 0)))) ∧ TGet σ 4 (.v (.pointer (some (ad pr 0)))) ∧ TGet σ 5 (intT 0) ∧ TGet σ 7 (.v (.pointer (some (ad pd 0)))) ∧
        SubP B ((p, .cells (circCs c) 24 true) :: (pr, .cells [intT 0, intT 0, .v (.slice none 0 0)] 24 true) :: (pd, .cells [intT c.qubits, intT c.bits, .v (gsv bl ls.length)] 24 true) :: (bl, .arr 7 (mRows ls) 49 false) :: mB ls) ∧ ls.map Prod.fst = layK c fs k ++ layO c k) ?_ ?_
    · refine TV_cond ?_ ?_ <;> intro hc3
      · have hk0 : 0 < k := by have := of_decide_eq_true hc3; omega
        obtain ⟨o, ho⟩ : ∃ o, o = opAt c.ops ((k : Int) - 1) := ⟨_, rfl⟩
        have hA : AsNat ((k : Int) - 1) (k - 1) := ⟨by omega⟩
        have hoi : c.ops[k - 1]? = some o := by
          have := opAt_get (ops := c.ops) (k := (k : Int) - 1) (by omega)
          rw [show ((k : Int) - 1).toNat = k - 1 by omega] at this
          rw [ho]; exact this
        have ngo : NthG (opRows c.ops) (k - 1) (opCs o) := .map opCs hoi
        have hso := (hg o (List.mem_of_getElem? hoi)).len
        have : Sm63 (0 + o.qs.length) := ⟨by omega⟩
        refine StepC.go ?_
        refine TV_cut (fun σ B => ∃ (po : Nat), TGet σ 10 (.v (.pointer (some (ad po 0)))) ∧ TGet σ 9 (.sl 3 (fltRows l)) ∧ TGet σ 37 (intT k) ∧ TGet σ 36 (intT ((c.ops.length + 1 : Nat) : Int)) ∧ TGet σ 35 (.sl 1 (fltLs (behS fs (c.ops.length + 1)))) ∧ TGet σ 2 (.v (.pointer (some (ad p 0)))) ∧ TGet σ 4 (.v (.pointer (some (ad pr 0)))) ∧ TGet σ 5 (intT 0) ∧ TGet σ 7 (.v (.pointer (some (ad pd 0)))) ∧
          SubP B ((po, .cells (opCs o) 49 true) :: (p, .cells (circCs c) 24 true) :: (pr, .cells [intT 0, intT 0, .v (.slice none 0 0)] 24 true) :: (pd, .cells [intT c.qubits, intT c.bits, .v (gsv bl ls.length)] 24 true) :: (bl, .arr 7 (mRows ls) 49 false) :: mB ls)) ?_ ?_
        · repeat (first | refine StepC.go ?_ | intro _ | (refine TS_puw (Pu.subi ?_) ?_; · omega))
          exact ⟨_, inferInstance, inferInstance, inferInstance, inferInstance, inferInstance, inferInstance, inferInstance, inferInstance, inferInstance, inferInstance⟩
        clear g37 g36 g35 g2 g4 g5 g7
        rintro σ B ⟨po, g10, g9, g37, g36, g35, g2, g4, g5, g7, hB⟩
        refine TV_keep _ (p := hB) ?_
        clear hB
        refine StepC.go ?_
        refine TV_cut (fun σ B => ∃ (po bo : Nat), TGet σ 10 (.v (.pointer (some (ad po 0)))) ∧ TGet σ 9 (.sl 3 (fltRows l)) ∧ TGet σ 37 (intT k) ∧ TGet σ 36 (intT ((c.ops.length + 1 : Nat) : Int)) ∧ TGet σ 35 (.sl 1 (fltLs (behS fs (c.ops.length + 1)))) ∧ TGet σ 2 (.v (.pointer (some (ad p 0)))) ∧ TGet σ 4 (.v (.pointer (some (ad pr 0)))) ∧ TGet σ 5 (intT 0) ∧ TGet σ 7 (.v (.pointer (some (ad pd 0)))) ∧
          SubP B ((bo, .arr 1 ([] ++ intRows o.qs) 3 ((intRows o.qs).isEmpty && true)) :: (po, .cells [intT o.kind, strT o.name, .v (.slice (some (ad bo 0)) (0 + o.qs.length) (0 + o.qs.length)), intT o.bit, boolT o.iff, u64T o.mask, u64T o.value] 49 true) :: (p, .cells (circCs c) 24 true) :: (pr, .cells [intT 0, intT 0, .v (.slice none 0 0)] 24 true) :: (pd, .cells [intT c.qubits, intT c.bits, .v (gsv bl ls.length)] 24 true) :: (bl, .arr 7 (mRows ls) 49 false) :: mB ls)) ?_ ?_
        · repeat (first | refine StepC.go ?_ | intro _ | (refine TS_append_own ?_ (fun _ => ?_); · omega))
          rename_i be bo
          exact ⟨po, bo, inferInstance, inferInstance, inferInstance, inferInstance, inferInstance, inferInstance, inferInstance, inferInstance, inferInstance, inferInstance⟩
        clear g37 g36 g35 g2 g4 g5 g7 g9 g10
        rintro σ B ⟨po, bo, g10, g9, g37, g36, g35, g2, g4, g5, g7, hB⟩
        refine TV_keep _ (p := hB) ?_
        clear hB
        have hLq : LenT ([] ++ intRows o.qs) (0 + o.qs.length) := ⟨by simp [intRows]⟩
        refine TV_freezeC po bo ?_
        repeat (first | refine StepC.go ?_ | intro _ | (refine TS_append ?_ (fun _ => ?_); · omega))
        rename_i b2
        refine ⟨b2, ls ++ [(o, none)], inferInstance, inferInstance, inferInstance, inferInstance, inferInstance, inferInstance, inferInstance, inferInstance, ?_, ?_⟩
        · rw [List.length_append, mRows_app, mB_none]
          simp only [List.nil_append]
          exact inferInstanceAs (SubP _ (_ :: _ :: (pd, .cells [intT c.qubits, intT c.bits, .v (gsv b2 (ls.length + 1))] 24 true) :: (b2, .arr 7 (mRows ls ++ [opCs o]) 49 false) :: mB ls))
        · rw [List.map_append, hls]
          unfold layO
          rw [if_neg (by omega), ho]; rfl
      · have hk0 : k = 0 := by have := of_decide_eq_false hc3; omega
        repeat (refine StepC.go ?_)
        refine ⟨bl, ls, inferInstance, inferInstance, inferInstance, inferInstance, inferInstance, inferInstance, inferInstance, inferInstance, inferInstance, ?_⟩
        rw [hls]
        unfold layO
        rw [if_pos hk0, List.append_nil]
    clear g37 g36 g35 g2 g4 g5 g7 hfz hsm hll hls ls bl
    rintro σ B ⟨bl, ls, g9, g37, g36, g35, g2, g4, g5, g7, hB, hls⟩
    refine TV_keep _ (p := hB) ?_
    clear hB
    repeat (refine StepC.go ?_)
    rw [hLl]
    refine TV_loop (fun d σ B => ∃ (j bl : Nat) (ls : List (OpD × Option Nat)), d = l.length - j ∧ j ≤ l.length ∧ TGet σ 63 (intT j) ∧ TGet σ 62 (intT l.length) ∧ TGet σ 61 (.sl 3 (fltRows l)) ∧ TGet σ 37 (intT k) ∧ TGet σ 36 (intT ((c.ops.length + 1 : Nat) : Int)) ∧ TGet σ 35 (.sl 1 (fltLs (behS fs (c.ops.length + 1)))) ∧ TGet σ 2 (.v (.pointer (some (ad p 0)))) ∧ TGet σ 4 (.v (.pointer (some (ad pr 0)))) ∧ TGet σ 5 (intT 0) ∧ TGet σ 7 (.v (.pointer (some (ad pd 0)))) ∧
        SubP B ((p, .cells (circCs c) 24 true) :: (pr, .cells [intT 0, intT 0, .v (.slice none 0 0)] 24 true) :: (pd, .cells [intT c.qubits, intT c.bits, .v (gsv bl ls.length)] 24 true) :: (bl, .arr 7 (mRows ls) 49 false) :: mB ls) ∧ ls.map Prod.fst = layK c fs k ++ layO c k ++ (l.take j).map fltOp) l.length
      ⟨0, bl, ls, by omega, by omega, tget_as rfl, inferInstance, inferInstance, inferInstance, inferInstance, inferInstance, inferInstance, inferInstance, inferInstance, inferInstance, inferInstance, by rw [hls]; simp⟩ ?_
    clear g37 g36 g35 g2 g4 g5 g7 g9 hls ls bl
    rintro d σ B ⟨j, bl, ls, rfl, hj, g63, g62, g61, g37, g36, g35, g2, g4, g5, g7, hB, hls⟩
    refine TV_keep _ (p := hB) ?_
    clear hB
    have hll : ls.length ≤ 4097 * 4097 + 4097 := by
      have h1 := map_len hls
      have h2 := layK_len c fs k
      have h3 : k * (1 + fs.length) ≤ 4097 * 4097 := Nat.mul_le_mul (by omega) (by omega)
      have h5 : (layO c k).length ≤ 1 := by unfold layO; split <;> simp
      simp only [List.length_append, List.length_map, List.length_take] at h1
      omega
    repeat (refine StepC.go ?_)
    refine TV_cond ?_ ?_ <;> intro hc4
    · have hjl : j < l.length := by have := of_decide_eq_true hc4; omega
      obtain ⟨f, hf⟩ : ∃ f, l[j]? = some f := ⟨_, List.getElem?_eq_getElem hjl⟩
      have ngf : NthG (fltRows l) j (fltCs f) := .map fltCs hf
      have hfo := fltOk_iff.1 (hlok f (List.mem_of_getElem? hf))
      have a1 := byte_sub hfo.1
      have a2 := byte_add hfo.1
      repeat (first | refine StepC.go ?_ | intro _ | (refine TS_puw (Pu.addi ?_) ?_; · omega) | (refine TS_append ?_ (fun _ => ?_); · omega))
      rename_i pf b1 b2 b3 b4
      refine ⟨_, ?_, j + 1, b4, ls ++ [(fltOp f, some b2)], rfl, by omega, tget_as rfl, inferInstance, inferInstance, inferInstance, inferInstance, inferInstance, inferInstance, inferInstance, inferInstance, inferInstance, ?_, ?_⟩
      · omega
      · rw [List.length_append, mRows_app]
        refine SubP.mB ?_
        exact inferInstanceAs (SubP _ ((b2, .arr 1 [[intT f.q]] 3 true) :: _ :: _ :: (pd, .cells [intT c.qubits, intT c.bits, .v (gsv b4 (ls.length + 1))] 24 true) :: (b4, .arr 7 (mRows ls ++ [[intT 1, strT (nmF f.kind), .v (.slice (some (ad b2 0)) 1 1), intT 0, boolT false, u64T 0, u64T 0]]) 49 false) :: mB ls))
      · rw [List.map_append, hls, take_snoc hf, List.map_append, List.append_assoc]; rfl
    · have hjl : j = l.length := by have := of_decide_eq_false hc4; omega
      subst hjl
      rw [List.take_length] at hls
      repeat (first | refine StepC.go ?_ | (refine TS_puw (Pu.addi ?_) ?_; · omega))
      refine ⟨_, ?_, k + 1, bl, ls, rfl, by omega, tget_as rfl, inferInstance, inferInstance, inferInstance, inferInstance, inferInstance, inferInstance, inferInstance, ?_⟩
      · omega
      · rw [hls, hl]; rfl
  · have hkl : k = c.ops.length + 1 := by have := of_decide_eq_false hc2; omega
    subst hkl
    repeat (refine StepC.go ?_)
    refine retT_2 (.inr rfl) ?_
    simp only [tret]
    rw [hR, hls]
instance : CallIs Try.prog 10 := .of Try.func10 rfl rfl
end Go.Ideal

-- Hd
set_option linter.unusedSimpArgs false
set_option linter.unusedVariables false
namespace Go.Ideal
open Go Go.Proofs Go.RowKit
/-! ### What a circuit with faults laid in is like -/
theorem sumH_app (a b : List OpD) : sumH (a ++ b) = sumH a + sumH b := by
  induction a with
  | nil => simp [sumH]
  | cons o a ih => simp only [List.cons_append, sumH, ih]; omega
theorem chkK_sum {q b : Int} : ∀ (ops : List OpD) (i n : Int), (∀ o ∈ ops, faultS o q b = 0) → n ≤ 36 → (chkK q b ops i n).2 = if n + sumH ops ≤ 36 then 0 else 116 := by
  intro ops
  induction ops with
  | nil => intro i n _ hn; simp [chkK, sumH, hn]
  | cons o ops ih =>
    intro i n hf hn
    have h0 := hf o List.mem_cons_self
    have hh := halvesO_01 o
    have hs := sumH_nn ops
    rw [chkK, if_neg (by simpa using h0)]
    by_cases h1 : 36 < n + halvesO o
    · rw [if_pos h1, if_neg (by simp only [sumH]; omega)]
    · rw [if_neg h1, ih _ _ (fun x hx => hf x (List.mem_cons_of_mem _ hx)) (by omega)]
      show (if n + halvesO o + sumH ops ≤ 36 then (0 : Int) else 116) = if n + (halvesO o + sumH ops) ≤ 36 then 0 else 116
      rw [Int.add_assoc]
theorem checkC_sum {c : CircD} (hr : rangeBad c = false) (hf : ∀ o ∈ c.ops, faultS o c.qubits c.bits = 0) : (checkC c).2 = if 4096 < c.ops.length then 115 else if sumH c.ops ≤ 36 then 0 else 116 := by
  unfold checkC
  rw [if_neg (by simp [hr])]
  split
  · rfl
  · rw [chkK_sum _ _ _ hf (by omega)]; simp
theorem layK_split (c : CircD) (fs : List FltD) : ∀ n k, k < n → ∃ tl, layK c fs n = layK c fs k ++ layO c k ++ (fltAt fs k).map fltOp ++ tl := by
  intro n
  induction n with
  | zero => intro k hk; omega
  | succ n ih =>
    intro k hk
    by_cases h : k = n
    · subst h
      exact ⟨[], by simp [layK]⟩
    · obtain ⟨tl, h1⟩ := ih k (by omega)
      refine ⟨tl ++ layO c n ++ (fltAt fs n).map fltOp, ?_⟩
      simp only [layK, h1, List.append_assoc]
def cntS (fs : List FltD) (k : Nat) : Nat := (fs.filter fun f => decide (f.beh + 1 < (k : Int))).length
theorem cnt_succ (fs : List FltD) (k : Nat) : cntS fs (k + 1) = cntS fs k + (fltAt fs k).length := by
  unfold cntS fltAt
  induction fs with
  | nil => rfl
  | cons f fs ih =>
    by_cases h1 : f.beh + 1 < (k : Int)
    · have h2 : f.beh + 1 < ((k + 1 : Nat) : Int) := by omega
      have h3 : ¬ f.beh + 1 = (k : Int) := by omega
      rw [List.filter_cons_of_pos (by simpa using h2), List.filter_cons_of_pos (by simpa using h1), List.filter_cons_of_neg (by simpa using h3)]
      simp only [List.length_cons, ih]
      omega
    · by_cases h3 : f.beh + 1 = (k : Int)
      · have h2 : f.beh + 1 < ((k + 1 : Nat) : Int) := by omega
        rw [List.filter_cons_of_pos (by simpa using h2), List.filter_cons_of_neg (by simpa using h1), List.filter_cons_of_pos (by simpa using h3)]
        simp only [List.length_cons, ih]
        omega
      · have h2 : ¬ f.beh + 1 < ((k + 1 : Nat) : Int) := by omega
        rw [List.filter_cons_of_neg (by simpa using h2), List.filter_cons_of_neg (by simpa using h1), List.filter_cons_of_neg (by simpa using h3)]
        exact ih
theorem layK_count (c : CircD) (fs : List FltD) (h0 : ∀ f ∈ fs, -1 ≤ f.beh) : ∀ k, (layK c fs k).length = (k - 1) + cntS fs k := by
  intro k
  induction k with
  | zero =>
    have : cntS fs 0 = 0 := by
      unfold cntS
      rw [List.length_eq_zero_iff, List.filter_eq_nil_iff]
      intro f hf
      have := h0 f hf
      simp; omega
    rw [this]; rfl
  | succ k ih =>
    have h1 : (layO c k).length = if k = 0 then 0 else 1 := by unfold layO; split <;> simp
    simp only [layK, List.length_append, List.length_map, ih, cnt_succ, h1]
    split <;> omega
theorem cnt_all {fs : List FltD} {n : Nat} (h : ∀ f ∈ fs, f.beh + 1 < (n : Int)) : cntS fs n = fs.length := by
  unfold cntS
  rw [List.filter_eq_self.2 (fun f hf => by simpa using h f hf)]
theorem flt_facts {f : FltD} {q b : Int} (hk : f.kind = 88 ∨ f.kind = 89 ∨ f.kind = 90) (h0 : 0 ≤ f.q) (h1 : f.q < q) : faultS (fltOp f) q b = 0 ∧ halvesO (fltOp f) = 0 := by
  have ha : arityS (nmF f.kind) = 1 := by rcases hk with h | h | h <;> rw [h] <;> decide +kernel
  have hh : halvesS (nmF f.kind) = 0 := by rcases hk with h | h | h <;> rw [h] <;> decide +kernel
  have h2 : outS q f.q = false := by simp [outS]; omega
  refine ⟨?_, by simp [halvesO, hh]⟩
  simp [faultS, shapeBad, bad1, bad2, bad3, bad4, ha, nS, h2, bitBad, dupK]
theorem lay_good {c : CircD} {fs : List FltD} (hw : CircW c) (hck : checkF c fs = 0) (h4 : ¬ 4096 < c.ops.length + fs.length) :
    (layK c fs (c.ops.length + 1)).length = c.ops.length + fs.length ∧ CircW ⟨c.qubits, c.bits, layK c fs (c.ops.length + 1)⟩ ∧
      halvesC c = (sumH c.ops, 0) ∧ halvesC ⟨c.qubits, c.bits, layK c fs (c.ops.length + 1)⟩ = (sumH c.ops, 0) := by
  obtain ⟨hcc, hfok⟩ := checkF_ok hck
  obtain ⟨hr, hlen, hfl⟩ := checkC_ok hcc
  have hbeh : ∀ f ∈ fs, -1 ≤ f.beh ∧ f.beh < c.ops.length := fun f hf => by have := fltOk_iff.1 (hfok f hf); omega
  have hc := layK_count c fs (fun f hf => (hbeh f hf).1) (c.ops.length + 1)
  rw [cnt_all (n := c.ops.length + 1) (fun f hf => by have := hbeh f hf; omega)] at hc
  have hl : (layK c fs (c.ops.length + 1)).length = c.ops.length + fs.length := by omega
  have hall : ∀ k, k ≤ c.ops.length + 1 → ∀ o ∈ layK c fs k, faultS o c.qubits c.bits = 0 ∧ OpW o := by
    intro k
    induction k with
    | zero => intro _ o ho; cases ho
    | succ k ih =>
      intro hk o ho
      simp only [layK, List.mem_append] at ho
      rcases ho with (h | h) | h
      · exact ih (by omega) o h
      · unfold layO at h
        split at h
        · cases h
        · rw [List.mem_singleton.1 h]
          have hm := List.mem_of_getElem? (opAt_get (ops := c.ops) (k := (k : Int) - 1) (by omega))
          exact ⟨hfl _ hm, hw _ hm⟩
      · obtain ⟨f, hf, rfl⟩ := List.mem_map.1 h
        have := fltOk_iff.1 (hfok f (List.mem_filter.1 hf).1)
        exact ⟨(flt_facts this.1 this.2.2.2.1 this.2.2.2.2).1, by show (0 : Nat) < 2 ^ 64; decide, by show (0 : Nat) < 2 ^ 64; decide⟩
  have hsF : ∀ l : List FltD, (∀ f ∈ l, fltOk c f = true) → sumH (l.map fltOp) = 0 := by
    intro l
    induction l with
    | nil => intro _; rfl
    | cons f l ih =>
      intro h
      have := fltOk_iff.1 (h f (by simp))
      simp only [List.map_cons, sumH, (flt_facts (b := c.bits) this.1 this.2.2.2.1 this.2.2.2.2).2, ih fun g hg => h g (by simp [hg])]
      rfl
  have hsum : ∀ k, k ≤ c.ops.length → sumH (layK c fs (k + 1)) = sumH (c.ops.take k) := by
    intro k
    induction k with
    | zero =>
      intro _
      simp only [layK, List.nil_append, sumH_app, List.take_zero]
      rw [hsF (fltAt fs 0) fun f hf => hfok f (List.mem_filter.1 hf).1]
      rfl
    | succ k ih =>
      intro hk
      have hx := opAt_get (ops := c.ops) (k := ((k + 1 : Nat) : Int) - 1) (by omega)
      rw [show (((k + 1 : Nat) : Int) - 1).toNat = k by omega] at hx
      rw [layK, sumH_app, sumH_app, ih (by omega), hsF (fltAt fs (k + 1)) fun f hf => hfok f (List.mem_filter.1 hf).1, take_snoc hx, sumH_app]
      unfold layO
      rw [if_neg (by omega)]
      omega
  have hs := hsum c.ops.length (Nat.le_refl _)
  rw [List.take_length] at hs
  have h36 : sumH c.ops ≤ 36 := by
    have h1 := checkC_sum hr hfl
    rw [hcc] at h1
    split at h1
    · cases h1
    · split at h1
      · assumption
      · cases h1
  have hD : (checkC ⟨c.qubits, c.bits, layK c fs (c.ops.length + 1)⟩).2 = 0 := by
    rw [checkC_sum (c := ⟨c.qubits, c.bits, layK c fs (c.ops.length + 1)⟩) hr (fun o ho => (hall _ (Nat.le_refl _) o ho).1)]
    simp only
    rw [if_neg (by omega), hs, if_pos h36]
  refine ⟨hl, fun o ho => (hall _ (Nat.le_refl _) o ho).2, by unfold halvesC; rw [if_pos hcc], ?_⟩
  unfold halvesC
  rw [if_pos hD]
  simp only [hs]
/-- where a fault's operation stands -/
theorem lay_at {c : CircD} {fs : List FltD} {n k j : Nat} {f : FltD} (hk : k < n) (hf : fs[j]? = some f) (hb : f.beh + 1 = (k : Int)) : (layK c fs n)[(layK c fs k ++ layO c k).length + (fltAt (fs.take j) k).length]? = some (fltOp f) := by
  obtain ⟨tl, h1⟩ := layK_split c fs n k hk
  have h2 : fltAt fs k = fltAt (fs.take j) k ++ f :: fltAt (fs.drop (j + 1)) k := by
    have h3 : fs = fs.take j ++ f :: fs.drop (j + 1) := by
      conv => lhs; rw [← List.take_append_drop j fs, drop_cons hf]
    have h4 : fltAt (fs.take j ++ f :: fs.drop (j + 1)) k = fltAt (fs.take j) k ++ f :: fltAt (fs.drop (j + 1)) k := by
      unfold fltAt
      rw [List.filter_append, List.filter_cons_of_pos (by simpa using hb)]
    rw [← h3] at h4
    exact h4
  rw [h1, h2, List.map_append, List.map_cons]
  simp only [List.append_assoc]
  rw [← List.append_assoc, List.getElem?_append_right (by omega)]
  simp
theorem lay_op {c : CircD} {fs : List FltD} {n k : Nat} (hk : k < n) (h0 : 0 < k) : (layK c fs n)[(layK c fs k).length]? = some (opAt c.ops ((k : Int) - 1)) := by
  obtain ⟨tl, h1⟩ := layK_split c fs n k hk
  rw [h1]
  unfold layO
  rw [if_neg (by omega)]
  simp
end Go.Ideal

-- He
set_option linter.unusedSimpArgs false
set_option linter.unusedVariables false
namespace Go.Ideal
open Go Go.Proofs Go.RowKit
/-! ### The law NoiseLaid -/
theorem frz_zero {B : Boxes} {q b : Int} {ops : List OpD} (h : (⟨q, b, ops⟩ : CircD) = ⟨0, 0, []⟩) : FrzL B [circT ⟨q, b, ops⟩, .agg [.v (.int .i64 0), .v (.int .i64 0), .v (.slice none 0 0)]] [circT ⟨0, 0, []⟩, circT ⟨0, 0, []⟩] := ⟨fun F G hh o vs hv => by
  rw [h] at hv
  simp only [RepL, Rep] at hv
  obtain ⟨_, _, rfl, ⟨_, rfl, _, _, rfl, rfl, _, _, rfl, rfl, w, _, rfl, hw, rfl⟩, _, _, rfl, ⟨_, rfl, _, _, rfl, rfl, _, _, rfl, rfl, _, _, rfl, rfl, rfl⟩, rfl⟩ := hv
  refine RepL.cons ?_ (RepL.cons ?_ RepL.nil)
  · simp only [Rep]
    refine ⟨_, rfl, RepL.cons (rep_v _) (RepL.cons (rep_v _) (RepL.cons ?_ RepL.nil))⟩
    obtain ⟨a, n, c, rfl, h2, h3, h4, h5, h6⟩ := hw
    simp only [Rep]
    refine ⟨a, n, c, rfl, h2, h3, h4, h5, ?_⟩
    cases a with
    | none => exact h6
    | some a => trivial
  · simp only [Rep]
    refine ⟨_, rfl, RepL.cons (rep_v _) (RepL.cons (rep_v _) (RepL.cons ?_ RepL.nil))⟩
    simp only [Rep]
    exact ⟨none, 0, 0, rfl, rfl, Nat.le_refl _, by decide, (fun d hd => by cases hd), rfl⟩⟩
def regionAt (r : Nat) : Code → Option Code
  | .region id ops d => if id == r then some (.region id ops d) else none
  | .seq a b => match regionAt r a with | some x => some x | none => regionAt r b
  | .cond _ a b => match regionAt r a with | some x => some x | none => regionAt r b
  | .block _ b => regionAt r b
  | .loop b => regionAt r b
  | .rangeFunc _ _ a b => match regionAt r a with | some x => some x | none => regionAt r b
  | _ => none
theorem TGet.low {σ : Nat → Tr} {s : Nat → Value} {i : Nat} {t : Tr} [g : TGet σ i t] (h : i < 118) : TGet (fun i => if i < 118 then σ i else .v (s i)) i t := ⟨by simp only [h, if_true]; exact g.eq⟩
theorem TCut_normal' {I : TK} {K : IExit → TK} {σ : Nat → Tr} {B : Boxes} (k : I σ B) : TcutK I K .normal σ B := TC_normal k
theorem TR.low {X : Cx} {F : Mem} {σ : Nat → Tr} {B : Boxes} {s s' : Nat → Value} {h : IHp} (r : TR X F σ B s h) (hs : ∀ i, i < 118 → s' i = s i) : TR X F (fun i => if i < 118 then σ i else .v (s' i)) B s' h :=
  ⟨r.ext, r.base, r.sub, r.own, r.box, r.sep, r.dis, r.gd, fun i => by
    by_cases h : i < 118
    · simp only [h, if_true, hs i h]; exact r.slot i
    · simp only [h, if_false]; exact rep_v _⟩
theorem rowF_cell {F : Mem} {X : Cx} {σ : Nat → Tr} {B : Boxes} {s : Nat → Value} {h : IHp} (r : TR X F σ B s h) {b off n : Nat} {vs : List Value} (hr : rowM F b off n = some vs) (i : Nat) (v : Value) (hv : vs[i]? = some v) : CellIs h b (off + i) v := ⟨by
  have h1 := rowM_len hr
  have h2 := (List.getElem?_eq_some_iff.1 hv).1
  have h3 := rowM_get hr i (by omega)
  rw [hv] at h3
  exact r.sub _ _ _ h3⟩
set_option synthInstance.maxSize 4000 in
set_option synthInstance.maxHeartbeats 400000 in
set_option maxHeartbeats 4000000 in
theorem laid24 {X : Cx} {σ : Nat → Tr} {B : Boxes} {Q : IExit → TK} {po j : Nat} {f : FltD} {fs : List FltD} {cc : Code} (hcc : Try.f5.body.bind (regionAt 24) = some cc) (hf : fs[j]? = some f) (hk : f.kind = 88 ∨ f.kind = 89 ∨ f.kind = 90) [t16 : TGet σ 16 (.v (.pointer (some (ad po 0))))] [t15 : TGet σ 15 (intT j)] [t1 : TGet σ 1 (.sl 3 (fltRows fs))] [bi : BoxIs B po (.cells (opCs (fltOp f)) 49 true)]
    (k : ∀ (s' : Nat → Value) (x : Nat × Box), Get s' 155 (.bool false) → Q .normal (fun i => if i < 118 then σ i else .v (s' i)) (x :: B)) : TV X Try.prog ⟨Try.f5.ntmps, [], false⟩ cc Q σ B := by
  have ecc := Option.some.inj hcc
  subst ecc
  clear hcc
  skip -- EvX_of Try.func5
  unfold TV
  intro F s h r
  have e16 : Get s 16 (.pointer (some (ad po 0))) := t16.is r
  have e15 : Get s 15 (.int .i64 j) := t15.is r
  obtain ⟨vs, h1, h2⟩ := r.boxOf bi
  simp only [opCs, RepL, Rep] at h1
  obtain ⟨_, _, rfl, rfl, _, _, rfl, rfl, _, _, rfl, ⟨qa, qn, qc, rfl, hq1, hq2, hq3, hq4, hq5⟩, _, _, rfl, rfl, _, _, rfl, rfl, _, _, rfl, rfl, _, _, rfl, rfl, rfl⟩ := h1
  have hqn : qn = 1 := by rw [← hq1]; rfl
  subst hqn
  have hs1 := r.slot 1
  rw [t1.eq] at hs1
  simp only [Rep] at hs1
  obtain ⟨fa, fn, fc, hs1, hf1, hf2, hf3, hf4, hf5⟩ := hs1
  have hfl : fs.length = fn := by rw [← hf1]; simp [fltRows]
  have hjl := (List.getElem?_eq_some_iff.1 hf).1
  cases fa with
  | none => simp only at hf5; omega
  | some fa =>
  cases qa with
  | none => simp only at hq5; omega
  | some qa =>
  simp only at hf5 hq5
  have e1 : Get s 1 (.slice (some fa) fn fc) := ⟨hs1⟩
  obtain ⟨ws, g1, g2⟩ := RepR.get hf5 (i := j) (row := fltCs f) (by simp [fltRows, hf])
  simp only [fltCs, RepL, Rep] at g2
  obtain ⟨_, _, rfl, rfl, _, _, rfl, rfl, _, _, rfl, rfl, rfl⟩ := g2
  have ej : ((j : Nat) : Int).toNat = j := Int.toNat_natCast j
  have c1 : CellIs h fa.block (fa.off + ((j : Nat) : Int).toNat * 3 + 1) (.int .i64 f.q) := by rw [ej]; exact rowF_cell r g1 1 _ rfl
  have c2 : CellIs h fa.block (fa.off + ((j : Nat) : Int).toNat * 3 + 2) (.int .u8 f.kind) := by rw [ej]; exact rowF_cell r g1 2 _ rfl
  obtain ⟨us, g3, g4⟩ := RepR.get hq5 (i := 0) (row := [intT f.q]) rfl
  simp only [RepL, Rep] at g4
  obtain ⟨_, _, rfl, rfl, rfl⟩ := g4
  have c3 : CellIs h qa.block (qa.off + (0 : Int).toNat * 1) (.int .i64 f.q) := rowF_cell r g3 0 _ rfl
  have a2 := (byte_add2 hk).eq
  repeat (first | refine WS_nil ?_ | refine WS_on rfl (by first | rfl | assumption) ?_ | refine WS_move ?_ | refine WS_pick_f (by first | rfl | assumption) ?_ | refine WS_neq_same ?_ | refine WS_arith rfl ?_ | refine WS_fieldAddr ?_ | refine WS_indexAddr (by first | decide | omega) ?_ | refine WS_buildSlice (by decide) rfl rfl (by simp [Value.cells]) ?_ | refine WDK_go ?_ | refine WDT_go ?_ | refine WD_load rfl ?_ | refine WD_load_on rfl rfl (by first | rfl | assumption) ?_ | refine WD_take rfl rfl ?_ | refine WD_take_on rfl rfl (by first | rfl | assumption) rfl ?_ | refine WD_filt rfl ?_ | refine Filt_keep rfl ?_ | refine Filt_nil ?_ | refine V_draw (id := 24) (plan := [.take 0, .take 1, .take 2, .take 3, .take 4, .take 5, .take 6, .take 7, .take 8, .take 9, .take 10, .take 11, .take 12, .take 13, .take 14, .take 15, .one 16, .one 17, .take 18, .take 19, .take 20, .take 21, .take 22, .take 23, .take 24, .take 25, .take 26, .take 27, .take 28, .take 29, .take 30, .take 31, .take 32, .take 33, .take 34, .take 35, .take 36, .take 37]) (by kernel_rfl) ?_)
  have hw8 : IntKind.u8.wrap ((f.kind : Int) + 32) = (f.kind : Int) + 32 := by rcases hk with h | h | h <;> rw [h] <;> rfl
  rw [hw8]
  refine WS_bts (b := h.fresh) (n := 1) (c := 1) (vs := [.int .u8 ((f.kind : Int) + 32)]) (r := nmF f.kind) inferInstance ?_ rfl ?_
  · exact RowIs.eq (self := inferInstance)
  repeat (first | refine WS_nil ?_ | refine WS_move ?_ | refine WS_pick_f (by first | rfl | assumption) ?_ | refine WS_strne ?_ | refine WDK_go ?_ | refine WDT_go ?_ | refine WD_take rfl rfl ?_ | refine WD_take_on rfl rfl (by first | rfl | assumption) rfl ?_)
  have hbq : beqS (nmF f.kind) (nmF f.kind) = true := by simp [beqS]
  rw [hbq]
  repeat (first | refine WS_nil ?_ | refine WS_move ?_ | refine WS_pick_f (by first | rfl | assumption) ?_ | refine WS_neq_same ?_ | refine WS_len_slice ?_ | refine WS_fieldAddr ?_ | refine WS_indexAddr (by first | decide | omega) ?_ | refine WDT_go ?_ | refine WD_nil ?_ | refine WD_load_on rfl rfl (by first | rfl | assumption) ?_ | refine WD_take rfl rfl ?_ | refine WD_take_on rfl rfl (by first | rfl | assumption) rfl ?_)
  have rp := r.push (x' := .arr 1 [[.v (.int .u8 ((f.kind : Int) + 32))]] 5 true) (o := .cells [.int .u8 ((f.kind : Int) + 32)] 5 true) (by
    simp only [BoxRep]
    exact ⟨by simp, .inr ⟨_, RepL.cons (rep_v _) RepL.nil, inferInstance⟩⟩)
  refine ⟨F, _, _, rp.low (fun i hi => ?_), k _ _ inferInstance⟩
  simp only [putS]
  repeat rw [if_neg (by omega)]
set_option synthInstance.maxSize 4000 in
set_option synthInstance.maxHeartbeats 400000 in
set_option maxHeartbeats 4000000 in
theorem noiseLaidT {c : CircD} {fs : List FltD} (hw : CircW c) (hfl : 24 * fs.length ≤ 2 ^ 47 + 2 ^ 20) : Fn Try.prog 5 [circT c, .sl 3 (fltRows fs)] (fun r => r = boolT true) := by
  refine Fn_of Try.func5 rfl (Nat.le_of_ble_eq_true rfl) (fun X => ?_)
  have hL : (fltRows fs).length = fs.length := by simp [fltRows]
  have hLc : (opRows c.ops).length = c.ops.length := by simp [opRows]
  repeat (first | refine StepC.go ?_ | intro _)
  rename_i p
  refine TS_call awake24T ?_
  rintro _ rfl
  repeat (first | refine StepC.go ?_ | (refine TV_cond_f ?_ ?_; · first | rfl | assumption))
  refine TS_call (layT_ hw hfl) ?_
  rintro _ rfl
  repeat (first | refine StepC.go ?_ | intro _)
  rename_i pd
  refine TV_cond ?_ ?_ <;> intro hc
  · have hz : (layC c fs).1 = ⟨0, 0, []⟩ := by
      unfold layC at hc ⊢
      split
      · rename_i h1
        rw [if_pos h1] at hc
        split
        · rfl
        · rename_i h2; rw [if_neg h2] at hc; simp at hc
      · rfl
    repeat (refine StepC.go ?_)
    refine TS_callE (fz := frz_zero hz) (sameT (c := ⟨0, 0, []⟩) (fun o ho => by cases ho)) ?_
    repeat (refine StepC.go ?_)
    exact retT_1 (.inr rfl) rfl
  have he : (layC c fs).2 = 0 := by simpa using hc
  have hck : checkF c fs = 0 ∧ ¬ 4096 < c.ops.length + fs.length := by
    unfold layC at he
    split at he
    · rename_i h1
      split at he
      · cases he
      · rename_i h2; exact ⟨h1, h2⟩
    · rename_i h1; exact absurd he h1
  obtain ⟨hck, h4⟩ := hck
  have hR : layC c fs = (⟨c.qubits, c.bits, layK c fs (c.ops.length + 1)⟩, 0) := by unfold layC; rw [if_pos hck, if_neg h4]
  obtain ⟨g1, g2, g3, g4⟩ := lay_good hw hck h4
  obtain ⟨hcc, hfok⟩ := checkF_ok hck
  obtain ⟨hlen, hg⟩ := circ_good hw hcc
  have gop := fun k (h1 : k < c.ops.length + 1) (h0 : 0 < k) => lay_op (c := c) (fs := fs) h1 h0
  have gat := fun k j f (h1 : k < c.ops.length + 1) (hf : fs[j]? = some f) (hb : f.beh + 1 = (k : Int)) => lay_at (c := c) (fs := fs) h1 hf hb
  have gle : ∀ k, k ≤ c.ops.length + 1 → (layK c fs k).length ≤ c.ops.length + fs.length := fun k hk => by
    rw [← g1]
    by_cases h : k = c.ops.length + 1
    · rw [h]; exact Nat.le_refl _
    · obtain ⟨tl, h1⟩ := layK_split c fs (c.ops.length + 1) k (by omega)
      rw [h1]; simp
  rw [hR]
  have gend : layK c fs (c.ops.length + 1) = layK c fs (c.ops.length + 1) := rfl
  obtain ⟨os, hos⟩ : ∃ os, os = layK c fs (c.ops.length + 1) := ⟨_, rfl⟩
  rw [← hos] at g1 g2 g4 gop gat ⊢
  have hLd : (opRows os).length = c.ops.length + fs.length := by simp [opRows, g1]
  clear hc he hR
  repeat (refine StepC.go ?_)
  refine TS_callE (circHalvesT hw) ?_
  rw [g3]
  repeat (refine StepC.go ?_)
  refine TS_callE (circHalvesT g2) ?_
  rw [g4]
  repeat (first | refine StepC.go ?_ | (refine TS_on rfl ?_ ?_; · first | rfl | assumption) | (refine TS_puw (Pu.addi ?_) ?_; · omega))
  refine TV_cond ?_ ?_ <;> intro hc
  · exfalso
    simp only [hLd, hLc, hL] at hc
    simp at hc
  clear hc
  repeat (refine StepC.go ?_)
  refine TV_loop (fun d σ B => ∃ (k : Nat), d = c.ops.length + 1 - k ∧ k ≤ c.ops.length + 1 ∧ TGet σ 12 (intT ((k : Int) - 1)) ∧ TGet σ 11 (intT ((layK c fs k).length : Nat)) ∧ TGet σ 1 (.sl 3 (fltRows fs)) ∧ TGet σ 2 (.v (.pointer (some (ad p 0)))) ∧ TGet σ 5 (.v (.pointer (some (ad pd 0)))) ∧
      SubP B [(pd, .cells [intT c.qubits, intT c.bits, .sl 7 (opRows os)] 24 true), (p, .cells (circCs c) 24 true)]) (c.ops.length + 1)
    ⟨0, by omega, by omega, tget_as rfl, tget_as rfl, inferInstance, inferInstance, inferInstance, inferInstance⟩ ?_
  rintro d σ B ⟨k, rfl, hk, g12, g11, t1, t2, t5, hB⟩
  refine TV_keep _ (p := hB) ?_
  clear hB
  have hlk := gle k hk
  repeat (refine StepC.go ?_)
  rw [hLc]
  refine TV_cond ?_ ?_ <;> intro hc2
  · have hkl : k < c.ops.length + 1 := by have := of_decide_eq_true hc2; omega
    repeat (refine StepC.go ?_)
    refine TV_cut (fun σ B => TGet σ 12 (intT ((k : Int) - 1)) ∧ TGet σ 11 (intT ((layK c fs k ++ layO c k).length : Nat)) ∧ TGet σ 1 (.sl 3 (fltRows fs)) ∧ TGet σ 2 (.v (.pointer (some (ad p 0)))) ∧ TGet σ 5 (.v (.pointer (some (ad pd 0)))) ∧
        SubP B [(pd, .cells [intT c.qubits, intT c.bits, .sl 7 (opRows os)] 24 true), (p, .cells (circCs c) 24 true)]) ?_ ?_
    · refine TV_cond ?_ ?_ <;> intro hc3
      · have hk0 : 0 < k := by have := of_decide_eq_true hc3; omega
        obtain ⟨o, ho⟩ : ∃ o, o = opAt c.ops ((k : Int) - 1) := ⟨_, rfl⟩
        have hoi : c.ops[k - 1]? = some o := by
          have := opAt_get (ops := c.ops) (k := (k : Int) - 1) (by omega)
          rw [show ((k : Int) - 1).toNat = k - 1 by omega] at this
          rw [ho]; exact this
        have hoi2 := gop k hkl hk0
        rw [← ho] at hoi2
        have hAl := (List.getElem?_eq_some_iff.1 hoi2).1
        have hA1 : AsNat ((k : Int) - 1) (k - 1) := ⟨by omega⟩
        have hA2 : AsNat ((k : Int) - 1 + 1) k := ⟨by omega⟩
        have hA3 : AsNat (((layK c fs k).length : Nat) + (1 : Int)) ((layK c fs k).length + 1) := ⟨by omega⟩
        have hcut : ∀ (l : List OpD) (i j : Nat), l[i]? = some o → j = i + 1 → ((opRows l).drop i).take (j - i) = [opCs o] := by
          intro l i j hi hj
          rw [hj, show i + 1 - i = 1 by omega]
          have h1 : (opRows l)[i]? = some (opCs o) := by simp [opRows, hi]
          rw [drop_cons h1]; rfl
        have hc1 := hcut c.ops (k - 1) k hoi (by omega)
        have hc2 := hcut os (layK c fs k).length ((layK c fs k).length + 1) hoi2 rfl
        have hso := (hg o (List.mem_of_getElem? hoi)).len
        repeat (first | refine StepC.go ?_ | refine TD_take rfl rfl ?_ | refine TD_load rfl rfl ?_ | (refine TD_takew rfl rfl (Pu.addi ?_) ?_; · omega) | refine TV_draw (id := 15) (plan := [.take 0, .take 1, .take 2, .take 3, .take 4, .take 5, .take 6, .take 7, .take 8, .take 9, .take 10, .take 11, .take 12, .take 13, .take 14, .take 15, .take 16, .take 17, .take 18, .take 19, .take 20, .take 21, .virt 22, .one 23, .one 24, .one 25]) (by kernel_rfl) ?_)
        refine TD_takew rfl rfl (Pu.slice_mid (i := k - 1) (j := k) (by omega) (by rw [hLc]; omega)) ?_
        rw [hc1]
        repeat (first | refine TD_take rfl rfl ?_ | refine TD_load rfl rfl ?_ | (refine TD_takew rfl rfl (Pu.addi ?_) ?_; · omega))
        refine TD_takew rfl rfl (Pu.slice_mid (i := (layK c fs k).length) (j := (layK c fs k).length + 1) (by omega) (by rw [hLd]; omega)) ?_
        rw [hc2]
        repeat (first | refine StepC.go ?_ | intro _ | refine TD_take rfl rfl ?_ | refine TD_one rfl ?_ | refine FiltT_nil ?_ | refine FiltT_drop rfl ?_ | refine FiltT_keep rfl ?_ | refine TD_virt rfl rfl rfl (fun _ => ?_))
        refine TS_callE (sameT (c := ⟨c.qubits, c.bits, [o]⟩) (fun x hx => by rw [List.mem_singleton.1 hx]; omega)) ?_
        repeat (first | refine StepC.go ?_ | (refine TS_puw (Pu.addi ?_) ?_; · omega) | (refine TV_cond_f ?_ ?_; · first | rfl | assumption))
        refine ⟨inferInstance, tget_as ?_, inferInstance, inferInstance, inferInstance, inferInstance⟩
        unfold layO
        rw [if_neg (by omega), List.length_append]
        congr 2
      · have hk0 : k = 0 := by have := of_decide_eq_false hc3; omega
        repeat (refine StepC.go ?_)
        refine ⟨inferInstance, tget_as ?_, inferInstance, inferInstance, inferInstance, inferInstance⟩
        unfold layO
        rw [if_pos hk0, List.append_nil]
    clear g12 g11 t1 t2 t5
    rintro σ B ⟨g12, g11, t1, t2, t5, hB⟩
    refine TV_keep _ (p := hB) ?_
    clear hB
    repeat (refine StepC.go ?_)
    refine TV_loop (fun d σ B => ∃ (j : Nat), d = fs.length - j ∧ j ≤ fs.length ∧ TGet σ 15 (intT j) ∧ TGet σ 12 (intT ((k : Int) - 1)) ∧ TGet σ 11 (intT (((layK c fs k ++ layO c k).length + (fltAt (fs.take j) k).length : Nat))) ∧ TGet σ 1 (.sl 3 (fltRows fs)) ∧ TGet σ 2 (.v (.pointer (some (ad p 0)))) ∧ TGet σ 5 (.v (.pointer (some (ad pd 0)))) ∧
        SubP B [(pd, .cells [intT c.qubits, intT c.bits, .sl 7 (opRows os)] 24 true), (p, .cells (circCs c) 24 true)]) fs.length
      ⟨0, by omega, by omega, tget_as rfl, inferInstance, tget_as (by simp [fltAt]), inferInstance, inferInstance, inferInstance, inferInstance⟩ ?_
    clear g12 g11 t1 t2 t5
    rintro d σ B ⟨j, rfl, hj, t15, g12, g11, t1, t2, t5, hB⟩
    refine TV_keep _ (p := hB) ?_
    clear hB
    have hlo : (layK c fs k ++ layO c k).length ≤ 4096 + 1 := by
      have h5 : (layO c k).length ≤ 1 := by unfold layO; split <;> simp
      rw [List.length_append]; omega
    have hlf := fltAt_len (fs.take j) k
    rw [List.length_take] at hlf
    repeat (refine StepC.go ?_)
    rw [hL]
    refine TV_cond ?_ ?_ <;> intro hc4
    · have hjl : j < fs.length := by have := of_decide_eq_true hc4; omega
      obtain ⟨f, hf⟩ : ∃ f, fs[j]? = some f := ⟨_, List.getElem?_eq_getElem hjl⟩
      have ngf : NthG (fltRows fs) j (fltCs f) := .map fltCs hf
      have hfo := fltOk_iff.1 (hfok f (List.mem_of_getElem? hf))
      have a2 := byte_add2 hfo.1
      have hmore := fltAt_more (fs.take j) f k
      rw [← take_snoc hf] at hmore
      repeat (refine StepC.go ?_)
      refine TV_cond ?_ ?_ <;> intro hc5
      · have hb : ¬ f.beh + 1 = (k : Int) := by
          intro h
          have h7 : f.beh = (k : Int) - 1 := by omega
          rw [h7] at hc5
          simp at hc5
        rw [if_neg hb, List.append_nil] at hmore
        repeat (first | refine StepC.go ?_ | (refine TS_puw (Pu.addi ?_) ?_; · omega))
        exact ⟨_, by omega, j + 1, rfl, by omega, tget_as rfl, inferInstance, tget_as (by rw [hmore]), inferInstance, inferInstance, inferInstance, inferInstance⟩
      · have hb : f.beh + 1 = (k : Int) := by
          have : f.beh = (k : Int) - 1 := by simpa using hc5
          omega
        rw [if_pos hb] at hmore
        have ngo : NthG (opRows os) ((layK c fs k ++ layO c k).length + (fltAt (fs.take j) k).length) (opCs (fltOp f)) := .map opCs (gat k j f hkl hf hb)
        repeat (first | refine StepC.go ?_ | intro _)
        rename_i po
        refine TV_cut (fun σ B => TGet σ 155 (boolT false) ∧ TGet σ 15 (intT j) ∧ TGet σ 12 (intT ((k : Int) - 1)) ∧ TGet σ 11 (intT (((layK c fs k ++ layO c k).length + (fltAt (fs.take j) k).length : Nat))) ∧ TGet σ 1 (.sl 3 (fltRows fs)) ∧ TGet σ 2 (.v (.pointer (some (ad p 0)))) ∧ TGet σ 5 (.v (.pointer (some (ad pd 0)))) ∧
          SubP B [(pd, .cells [intT c.qubits, intT c.bits, .sl 7 (opRows os)] 24 true), (p, .cells (circCs c) 24 true)]) ?_ ?_
        · refine laid24 (j := j) (f := f) (po := po) rfl hf hfo.1 ?_
          intro s' x hs'
          refine TCut_normal' ⟨⟨by simp [hs'.eq]⟩, TGet.low (by decide), TGet.low (by decide), TGet.low (by decide), TGet.low (by decide), TGet.low (by decide), TGet.low (by decide), inferInstance⟩
        rintro σ B ⟨t155, t15, g12, g11, t1, t2, t5, hB⟩
        refine TV_keep _ (p := hB) ?_
        clear hB
        repeat (first | refine StepC.go ?_ | (refine TS_puw (Pu.addi ?_) ?_; · omega) | (refine TV_cond_f ?_ ?_; · first | rfl | assumption))
        refine ⟨_, by omega, j + 1, rfl, by omega, tget_as rfl, inferInstance, tget_as ?_, inferInstance, inferInstance, inferInstance, inferInstance⟩
        rw [hmore]
        exact congrArg intT (by simp only [List.length_append, List.length_cons, List.length_nil, Int.natCast_add]; omega)
    · have hjl : j = fs.length := by have := of_decide_eq_false hc4; omega
      subst hjl
      repeat (first | refine StepC.go ?_ | (refine TS_puw (Pu.addi ?_) ?_; · omega))
      refine ⟨_, by omega, k + 1, rfl, by omega, tget_as (by congr 2; omega), tget_as ?_, inferInstance, inferInstance, inferInstance, inferInstance⟩
      rw [List.take_length]
      have h9 : (layK c fs (k + 1)).length = (layK c fs k ++ layO c k).length + (fltAt fs k).length := by simp only [layK, List.length_append, List.length_map]
      rw [h9]
  · have hkl : k = c.ops.length + 1 := by have := of_decide_eq_false hc2; omega
    subst hkl
    repeat (refine StepC.go ?_)
    refine retT_1 (.inr rfl) ?_
    simp only [tret]
    rw [← hos]
    simp [opRows]
theorem noiseLaidW {h : IHp} {v1 v2 : Value} {c : CircD} {fs : List FltD} (m1 : Rep h.cell? (circT c) v1) (hw : CircW c) (m2 : Rep h.cell? (.sl 3 (fltRows fs)) v2) (hfl : 24 * fs.length ≤ 2 ^ 47 + 2 ^ 20) :
    EvX Try.prog 5 #[v1, v2] h (fun v _ => v = .bool true) :=
  EvX_of_Fn (noiseLaidT hw hfl) (RepL.cons m1 (RepL.cons m2 RepL.nil))
end Go.Ideal
