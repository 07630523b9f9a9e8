/- Part 7 of what the proof stands on: an interpreter over an ideal memory that is proved sound, steps over it, and contracts of the functions that are called. No condition: no law is claimed here. -/
import Derived.Test.YteloepinfffmgaaC6
-- Yd
set_option linter.unusedSimpArgs false
set_option linter.unusedVariables false
namespace Go.Ideal
open Go Go.Proofs Go.RowKit
/-! ### The two ways to what is certain are one: the plain law -/
theorem pcK_single (q : Nat) (b : Bool) : ∀ k, pcK (fun i => decide (i = q) && b) k = if q < k then b.toNat else 0 := by
  intro k
  induction k with
  | zero => rfl
  | succ k ih =>
    rw [pcK, ih]
    by_cases h1 : k = q
    · subst h1
      rw [if_neg (Nat.lt_irrefl k), if_pos (Nat.lt_succ_self k)]
      simp
    · by_cases h2 : q < k
      · rw [if_pos h2, if_pos (by omega), decide_eq_false h1]; simp
      · rw [if_neg h2, if_neg (by omega), decide_eq_false h1]; simp
theorem pcS_bit {q : Nat} (hq : q < 64) (x : Nat) : pcS (bitN (q : Int) &&& x) = (x.testBit q).toNat := by
  unfold pcS
  have := pcK_congr (f := fun i => (bitN (q : Int) &&& x).testBit i) (g := fun i => decide (i = q) && x.testBit q) 64 (fun j _ => by
    rw [Nat.testBit_and, bitN_bit hq]
    by_cases h : j = q
    · subst h; rfl
    · rw [decide_eq_false h]; simp)
  rw [this, pcK_single, if_pos hq]
theorem bitN_shl (q : Nat) : bitN (q : Int) = (1 <<< q) % 18446744073709551616 := by unfold bitN; rw [Int.toNat_natCast]
theorem oneZ_comm {n : Int} {q : Nat} (hq : q < 64) (r : PauD) : commP (oneZ n q 0) r = !r.x.testBit q := by
  unfold commP
  show decide ((pcS (0 &&& r.z) : Int) % 2 = (pcS ((1 <<< q) % 18446744073709551616 &&& r.x) : Int) % 2) = _
  rw [← bitN_shl, pcS_bit hq, Nat.zero_and]
  have h0 : pcS 0 = 0 := by decide +kernel
  rw [h0]
  cases r.x.testBit q <;> rfl
theorem xAt_bit (q : Nat) (r : PauD) : xAt q r = r.x.testBit q := by
  unfold xAt
  rw [Nat.testBit, Nat.and_one_is_mod, Nat.one_and_eq_mod_two]
  rw [Bool.eq_iff_iff]
  simp only [decide_eq_true_eq, bne_iff_ne, ne_eq]
  omega
theorem loose_comm {t : TabD} (g : TabG t) {q : Nat} (hq : (q : Int) < t.n) : (0 ≤ looseS t q) ↔ allComm t (oneZ t.n q 0) t.n.toNat = false := by
  have n0 := g.n0
  have n1 := g.n1
  have nl := g.nl
  have h1 := idxF_any (xAt q) (t.rows.drop t.n.toNat) 0
  have h2 : (0 ≤ looseS t q) ↔ (t.rows.drop t.n.toNat).any (xAt q) = true := by
    rw [← h1]; unfold looseS; exact decide_eq_true_iff.symm
  rw [h2]
  constructor
  · intro h
    obtain ⟨r, hr, hx⟩ := List.any_eq_true.1 h
    obtain ⟨i, hi⟩ := List.getElem?_of_mem hr
    rw [List.getElem?_drop] at hi
    have hil := (List.getElem?_eq_some_iff.1 hi).1
    rw [Bool.eq_false_iff]
    intro h3
    have h4 := allComm_iff.1 h3 i (by omega)
    rw [rowAt_get hi, oneZ_comm (by omega), ← xAt_bit, hx] at h4
    cases h4
  · intro h
    apply Decidable.byContradiction
    intro h3
    have h5 : allComm t (oneZ t.n q 0) t.n.toNat = true := allComm_iff.2 fun i hi => by
      obtain ⟨hr, _, _⟩ := g.at_ (i := t.n.toNat + i) (by omega)
      rw [oneZ_comm (by omega), ← xAt_bit]
      have h6 := List.any_eq_false.1 (Bool.eq_false_iff.2 h3) (rowAt t (t.n.toNat + i)) (List.mem_of_getElem? (i := i) (by rw [List.getElem?_drop]; exact hr))
      cases hx : xAt q (rowAt t (t.n.toNat + i)) with
      | false => rfl
      | true => exact absurd hx h6
    rw [h5] at h
    cases h
theorem pauEq_xz' {q p : PauD} (hn : q.n = p.n) (hx : q.x = p.x) (hz : q.z = p.z) : pauEqB q p = decide (q.ph = p.ph) := by
  unfold pauEqB
  rw [hn, hx, hz]
  rw [Bool.eq_iff_iff]; simp
theorem cert_eq {t : TabD} (hw : TabW t) (hck : checkTab t = 0) {q : Nat} (hq : (q : Int) < t.n) :
    certS t q = if allComm t (oneZ t.n q 0) t.n.toNat = true then ((groupK t (oneZ t.n q 0) t.n.toNat).ph.tdiv 2, true) else (0, false) := by
  have g := TabG.of hw hck
  have hv := oneZ_v g.n0 g.n1 hq
  have hl := loose_comm g hq
  unfold certS
  cases ha : allComm t (oneZ t.n q 0) t.n.toNat with
  | false => rw [if_pos (hl.2 ha), if_neg (by decide)]
  | true =>
    rw [if_neg (fun h => by rw [hl.1 h] at ha; cases ha), if_pos rfl]
    obtain ⟨e1, e2⟩ := group_xz hw hck hv rfl ha
    obtain ⟨vg, ng⟩ := groupK_v g (oneZ t.n q 0) t.n.toNat (Nat.le_refl _)
    have he := groupK_even hw hck (oneZ t.n q 0) t.n.toNat (Nat.le_refl _)
    obtain ⟨_, _, p0, p1, _⟩ := pauV_iff.1 vg
    have hph : (oneZ t.n q 0).ph = 0 := rfl
    unfold valueS
    rw [if_pos ha, pauEq_xz' ng e1 e2, hph]
    obtain h | h : (groupK t (oneZ t.n q 0) t.n.toNat).ph = 0 ∨ (groupK t (oneZ t.n q 0) t.n.toNat).ph = 2 := by omega
    · rw [h]; rfl
    · rw [h]; rfl
end Go.Ideal

-- Ye
set_option linter.unusedSimpArgs false
set_option linter.unusedVariables false
namespace Go.Ideal
open Go Go.Proofs Go.RowKit
/-! ### The group of a tableau: the plain law -/
theorem mulP_comm {p q : PauD} (hn : p.n = q.n) (hc : commP p q = true) : mulP p q = mulP q p := by
  have h := (mphS_comm p q).2 hc
  show PauD.mk p.n (p.x ^^^ q.x) (p.z ^^^ q.z) (mphS p q) = PauD.mk q.n (q.x ^^^ p.x) (q.z ^^^ p.z) (mphS q p)
  rw [h, hn, Nat.xor_comm p.x, Nat.xor_comm p.z]
theorem mulP_self {p : PauD} (he : p.ph % 2 = 0) : mulP p p = ⟨p.n, 0, 0, 0⟩ := by
  show PauD.mk p.n (p.x ^^^ p.x) (p.z ^^^ p.z) (mphS p p) = _
  have h0 : pcS 0 = 0 := by decide +kernel
  have : mphS p p = 0 := by
    unfold mphS
    rw [Nat.xor_self, Nat.xor_self, Nat.zero_and, h0, Nat.and_comm p.z p.x]
    omega
  rw [this, Nat.xor_self, Nat.xor_self]
theorem row_even {t : TabD} (h : checkTab t = 0) {i : Nat} (hi : i < t.rows.length) : (rowAt t i).ph % 2 = 0 := by
  have hrb : rowsB t t.rows.length = true := by
    unfold checkTab at h
    split at h
    · rename_i h1; exact h1.2
    · cases h
  have h1 := (rowsB_ok hrb _ hi).1
  simp only [rowOk, Bool.and_eq_true, decide_eq_true_eq] at h1
  exact Int.emod_eq_zero_of_dvd (Int.dvd_of_tmod_eq_zero h1.2)
theorem groupK_congr {t : TabD} {x y : PauD} (hx : x.x = y.x) (hz : x.z = y.z) : ∀ k, groupK t x k = groupK t y k := by
  intro k
  induction k with
  | zero => rfl
  | succ k ih =>
    rw [groupK, groupK, ih]
    have : commP x (rowAt t k) = commP y (rowAt t k) := by unfold commP; rw [hx, hz]
    rw [this]
theorem groupK_stab {t : TabD} (hw : TabW t) (h : checkTab t = 0) (p : PauD) {k : Nat} (hk : k ≤ t.n.toNat) {j : Nat} (hj : j < t.n.toNat) : commP (groupK t p k) (rowAt t (t.n.toNat + j)) = true := by
  have g := TabG.of hw h
  have n0 := g.n0
  have nl := g.nl
  have h1 := groupK_ac hw h p (j := t.n.toNat + j) (by omega) k hk
  rw [decide_eq_false (by omega), Bool.false_and] at h1
  unfold acP at h1
  simpa using h1
theorem groupK_mul {t : TabD} (hw : TabW t) (h : checkTab t = 0) (x y : PauD) : ∀ k, k ≤ t.n.toNat → groupK t (mulP x y) k = mulP (groupK t x k) (groupK t y k) := by
  have g := TabG.of hw h
  have n0 := g.n0
  have nl := g.nl
  intro k
  induction k with
  | zero => intro _; exact ((mul_eye (eye_v g.n0 g.n1)).1).symm
  | succ k ih =>
    intro hk
    have ih := ih (by omega)
    have hi : t.n.toNat + k < t.rows.length := by omega
    obtain ⟨_, vS, nS⟩ := g.at_ hi
    obtain ⟨vG, nG⟩ := groupK_v g x k (by omega)
    obtain ⟨vH, nH⟩ := groupK_v g y k (by omega)
    have hcH := groupK_stab hw h y (k := k) (by omega) (j := k) (by omega)
    have eS := row_even h hi
    have hac : acP (mulP x y) (rowAt t k) = (acP x (rowAt t k) ^^ acP y (rowAt t k)) := acP_xor rfl rfl
    rw [groupK, groupK, groupK, ih]
    generalize rowAt t (t.n.toNat + k) = S at *
    generalize groupK t x k = G at *
    generalize groupK t y k = H at *
    unfold acP at hac
    cases c1 : commP x (rowAt t k) <;> cases c2 : commP y (rowAt t k) <;> rw [c1, c2] at hac
    · have c3 : commP (mulP x y) (rowAt t k) = true := by simpa using hac
      rw [if_pos c3, if_neg (by decide), if_neg (by decide)]
      have vHS := mul_v vH vS (by rw [nH, nS])
      rw [mul_assoc vG vS vHS (by rw [nG, nS]) (by rw [nS]; exact nH.symm), ← mul_assoc vS vH vS (by rw [nS, nH]) (by rw [nH, nS]), ← mulP_comm (by rw [nH, nS]) hcH, mul_assoc vH vS vS (by rw [nH, nS]) rfl, mulP_self eS]
      have e := (mul_eye vH).1
      rw [show S.n = H.n by rw [nS, nH], e]
    · have c3 : ¬ commP (mulP x y) (rowAt t k) = true := by simpa using hac
      rw [if_neg c3, if_neg (by decide), if_pos rfl]
      rw [mul_assoc vG vH vS (by rw [nG, nH]) (by rw [nH, nS]), mul_assoc vG vS vH (by rw [nG, nS]) (by rw [nS, nH]), mulP_comm (by rw [nH, nS]) hcH]
    · have c3 : ¬ commP (mulP x y) (rowAt t k) = true := by simpa using hac
      rw [if_neg c3, if_pos rfl, if_neg (by decide)]
      exact mul_assoc vG vH vS (by rw [nG, nH]) (by rw [nH, nS])
    · have c3 : commP (mulP x y) (rowAt t k) = true := by simpa using hac
      rw [if_pos c3, if_pos rfl, if_pos rfl]
def InG (t : TabD) (x : PauD) : Prop := PauV x ∧ x.n = t.n ∧ groupK t x t.n.toNat = x
theorem InG.mul {t : TabD} (hw : TabW t) (h : checkTab t = 0) {x y : PauD} (hx : InG t x) (hy : InG t y) : InG t (mulP x y) :=
  ⟨mul_v hx.1 hy.1 (by rw [hx.2.1, hy.2.1]), hx.2.1, by rw [groupK_mul hw h x y _ (Nat.le_refl _), hx.2.2, hy.2.2]⟩
theorem InG.eye {t : TabD} (hw : TabW t) (h : checkTab t = 0) : InG t ⟨t.n, 0, 0, 0⟩ := by
  have g := TabG.of hw h
  refine ⟨eye_v g.n0 g.n1, rfl, ?_⟩
  have : ∀ k, groupK t ⟨t.n, 0, 0, 0⟩ k = ⟨t.n, 0, 0, 0⟩ := by
    intro k
    induction k with
    | zero => rfl
    | succ k ih =>
      have : commP ⟨t.n, 0, 0, 0⟩ (rowAt t k) = true := by
        have := acP_eye (p := ⟨t.n, 0, 0, 0⟩) (q := rowAt t k) rfl rfl
        unfold acP at this
        simpa using this
      rw [groupK, if_pos this, ih]
  exact this _
theorem InG.stab {t : TabD} (hw : TabW t) (h : checkTab t = 0) {j : Nat} (hj : j < t.n.toNat) : InG t (rowAt t (t.n.toNat + j)) := by
  have g := TabG.of hw h
  have n0 := g.n0
  have nl := g.nl
  obtain ⟨_, vS, nS⟩ := g.at_ (i := t.n.toNat + j) (by omega)
  refine ⟨vS, nS, ?_⟩
  have key : ∀ k, k ≤ t.n.toNat → groupK t (rowAt t (t.n.toNat + j)) k = if j < k then rowAt t (t.n.toNat + j) else ⟨t.n, 0, 0, 0⟩ := by
    intro k
    induction k with
    | zero => intro _; rfl
    | succ k ih =>
      intro hk
      have hc := rows_ac hw h (i := t.n.toNat + j) (j := k) (by omega) (by omega)
      unfold acP at hc
      rw [groupK, ih (by omega)]
      by_cases h1 : k = j
      · subst h1
        rw [decide_eq_true (by omega)] at hc
        rw [if_neg (by rw [Bool.not_eq_true']  at hc; rw [hc]; decide), if_neg (Nat.lt_irrefl k), if_pos (Nat.lt_succ_self k)]
        have e := (mul_eye vS).2
        rw [nS] at e
        exact e
      · rw [decide_eq_false (by omega)] at hc
        rw [if_pos (by simpa using hc)]
        by_cases h2 : j < k
        · rw [if_pos h2, if_pos (by omega)]
        · rw [if_neg h2, if_neg (by omega)]
  rw [key _ (Nat.le_refl _), if_pos hj]
theorem InG.comm {t : TabD} (hw : TabW t) (h : checkTab t = 0) {x : PauD} (hx : InG t x) {j : Nat} (hj : j < t.n.toNat) : commP x (rowAt t (t.n.toNat + j)) = true := by
  have := groupK_stab hw h x (Nat.le_refl _) hj
  rw [hx.2.2] at this
  exact this
theorem value_one {t : TabD} (hw : TabW t) (h : checkTab t = 0) {x : PauD} (hv : PauV x) (hn : x.n = t.n) : valueS t x = 1 ↔ InG t x := by
  unfold valueS
  constructor
  · intro h1
    split at h1
    · split at h1
      · rename_i h2 h3
        refine ⟨hv, hn, ?_⟩
        unfold pauEqB at h3
        simp only [Bool.and_eq_true, beq_iff_eq, Bool.and_true] at h3
        obtain ⟨e1, e2, e3, e4⟩ := h3
        have e2 : (groupK t x t.n.toNat).x = x.x := by omega
        have e3 : (groupK t x t.n.toNat).z = x.z := by omega
        cases hg : groupK t x t.n.toNat with
        | mk a b c d => rw [hg] at e1 e2 e3 e4; cases x; simp only at e1 e2 e3 e4; rw [e1, e2, e3, e4]
      · cases h1
    · cases h1
  · intro hx
    rw [if_pos (allComm_iff.2 fun i hi => hx.comm hw h hi), hx.2.2, if_pos]
    unfold pauEqB; simp
/-- if all of b's stabilizers are in a's group, all of a's are in b's -/
theorem same_symm {a b : TabD} (hwa : TabW a) (ha : checkTab a = 0) (hwb : TabW b) (hb : checkTab b = 0) (hn : a.n = b.n) (h : ∀ i, i < b.n.toNat → InG a (rowAt b (b.n.toNat + i))) : ∀ j, j < a.n.toNat → InG b (rowAt a (a.n.toNat + j)) := by
  intro j hj
  have ga := TabG.of hwa ha
  have gb := TabG.of hwb hb
  have hs := InG.stab hwa ha hj
  have hall : allComm b (rowAt a (a.n.toNat + j)) b.n.toNat = true := allComm_iff.2 fun i hi => by
    rw [commP_symm]
    exact (h i hi).comm hwa ha hj
  have nx : (rowAt a (a.n.toNat + j)).n = b.n := by rw [hs.2.1, hn]
  have hP : ∀ k, k ≤ b.n.toNat → InG a (groupK b (rowAt a (a.n.toNat + j)) k) := by
    intro k
    induction k with
    | zero => intro _; rw [groupK, ← hn]; exact InG.eye hwa ha
    | succ k ih =>
      intro hk
      rw [groupK]
      split
      · exact ih (by omega)
      · exact (ih (by omega)).mul hwa ha (h k (by omega))
  have hPN := hP _ (Nat.le_refl _)
  obtain ⟨e1, e2⟩ := group_xz hwb hb hs.1 nx hall
  refine ⟨hs.1, nx, ?_⟩
  rw [← hPN.2.2, groupK_congr e1 e2]
  exact hs.2.2
end Go.Ideal

-- Yf
set_option linter.unusedSimpArgs false
set_option linter.unusedVariables false
namespace Go.Ideal
open Go Go.Proofs Go.RowKit
/-! ### The reference's Certain and Value -/
theorem onS_oneZ (n : Int) (q : Nat) : onS n (q : Int) 90 0 = oneZ n q 0 := by
  unfold onS oneZ bitN; rw [Int.toNat_natCast]; rfl
set_option synthInstance.maxSize 4000 in
set_option synthInstance.maxHeartbeats 400000 in
set_option maxHeartbeats 4000000 in
theorem rcertT {t : TabD} {q : Nat} (hw : TabW t) (hck : checkTab t = 0) (hq : (q : Int) < t.n) : Fn Try.prog 46 [tabT t, intT (q : Int)] (fun r => r = .tup [intT (certS t q).1, boolT (certS t q).2]) := by
  refine Fn_of Try.func46 rfl (Nat.le_of_ble_eq_true rfl) (fun X => ?_)
  have g := TabG.of hw hck
  have hv := oneZ_v g.n0 g.n1 hq
  obtain ⟨vg, ng⟩ := groupK_v g (oneZ t.n q 0) t.n.toNat (Nat.le_refl _)
  obtain ⟨_, _, p0, p1, _⟩ := pauV_iff.1 vg
  rw [cert_eq hw hck hq]
  repeat (first | refine StepC.go ?_ | intro _ | refine TD_take rfl rfl ?_ | refine TD_load rfl rfl ?_ | refine TD_one rfl ?_ | refine FiltT_nil ?_ | refine FiltT_drop rfl ?_ | refine FiltT_keep rfl ?_ | refine TD_virt rfl rfl rfl (fun _ => ?_) | refine TV_draw (id := 1) (plan := [.take 0, .take 1, .take 2, .take 3, .virt 9, .one 4, .one 5, .take 6, .take 7, .take 8, .one 10, .take 11]) (by kernel_rfl) ?_)
  refine TS_callE (onT (n := t.n) (q := (q : Int)) (k := 90) (ph := 0) g.n1 (by omega) hq (.inr (.inr rfl))) ?_
  rw [onS_oneZ]
  repeat (first | refine StepC.go ?_ | refine TD_one rfl ?_ | refine FiltT_nil ?_ | refine FiltT_drop rfl ?_ | refine FiltT_keep rfl ?_)
  refine TS_call (inGroupT hw hck hv rfl) ?_
  rintro _ rfl
  cases ha : allComm t (oneZ t.n q 0) t.n.toNat with
  | false =>
    repeat (first | refine StepC.go ?_ | refine TD_take rfl rfl ?_ | refine TD_one rfl ?_ | refine FiltT_nil ?_ | refine FiltT_drop rfl ?_ | refine TV_cond_t (by first | rfl | assumption) ?_)
    refine retT_2 (.inr rfl) ?_
    rfl
  | true =>
    rw [if_pos rfl, if_pos rfl]
    generalize groupK t (oneZ t.n q 0) t.n.toNat = G at *
    have hdv : idivs .quo .i64 G.ph 2 = some (G.ph.tdiv 2) := by
      obtain h | h | h | h : G.ph = 0 ∨ G.ph = 1 ∨ G.ph = 2 ∨ G.ph = 3 := by omega
      all_goals rw [h]; decide
    repeat (first | refine StepC.go ?_ | refine TD_take rfl rfl ?_ | refine TD_one rfl ?_ | refine FiltT_nil ?_ | refine FiltT_drop rfl ?_ | refine TV_cond_f (by first | rfl | assumption) ?_)
    refine TS_puw (Pu.divw (r := G.ph.tdiv 2) (by decide) hdv) ?_
    repeat (refine StepC.go ?_)
    refine retT_2 (.inr rfl) ?_
    rfl
instance : CallIs Try.prog 46 := .of Try.func46 rfl rfl
set_option synthInstance.maxSize 4000 in
set_option synthInstance.maxHeartbeats 400000 in
set_option maxHeartbeats 4000000 in
theorem rcertainT {t : TabD} {q : Int} (hw : TabW t) : Fn Try.prog 13 [tabT t, intT q] (fun r => r = .tup [intT (certC t q).1, boolT (certC t q).2.1, intT (certC t q).2.2]) := by
  refine Fn_of Try.func13 rfl (Nat.le_of_ble_eq_true rfl) (fun X => ?_)
  repeat (first | refine StepC.go ?_ | intro _)
  rename_i pt
  refine TS_callE (tabCheckRT hw) ?_
  repeat (refine StepC.go ?_)
  refine TV_cond ?_ ?_ <;> intro hc
  · have h0 : ¬ checkTab t = 0 := by simpa using hc
    repeat (refine StepC.go ?_)
    refine retT_3 (.inr rfl) ?_
    simp only [tret, certC]; rw [if_neg h0, (checkTab_or t).resolve_left h0]
  have h1 : checkTab t = 0 := by simpa using hc
  have g := TabG.of hw h1
  repeat (refine StepC.go ?_)
  refine TS_cut (fun σ B => TGet σ 19 (boolT (outS t.n q)) ∧ TGet σ 1 (intT q) ∧ TGet σ 2 (ptrT pt) ∧ SubP B [(pt, .cells (tabCs t) 24 true)]) ?_ ?_
  · repeat' (first | refine StepC.go ?_ | refine TS_on rfl (by first | rfl | assumption) ?_ | refine TS_off rfl (by first | rfl | assumption) ?_ | refine TS_puw (Pu.pick_t (by first | rfl | assumption)) ?_ | (refine TS_guard rfl ?_ ?_ <;> intro hg))
    all_goals exact ⟨tget_as (by simp_all [outS]), inferInstance, inferInstance, inferInstance⟩
  rintro σ B ⟨g19, g1, g2, hB⟩
  refine TV_keep _ (p := hB) ?_
  refine TV_cond ?_ ?_ <;> intro hc2
  · repeat (refine StepC.go ?_)
    refine retT_3 (.inr rfl) ?_
    simp only [tret, certC]; rw [if_pos h1, if_neg (by simp [outS] at hc2; omega)]
  have hq : 0 ≤ q ∧ q < t.n := by simp [outS] at hc2; omega
  obtain ⟨Q, rfl⟩ : ∃ Q : Nat, q = (Q : Int) := ⟨q.toNat, by omega⟩
  repeat (refine StepC.go ?_)
  refine TS_call (rcertT hw h1 hq.2) ?_
  rintro _ rfl
  repeat (refine StepC.go ?_)
  refine retT_3 (.inr rfl) ?_
  simp only [tret, certC]; rw [if_pos h1, if_pos hq, Int.toNat_natCast]
instance : CallIs Try.prog 13 := .of Try.func13 rfl rfl
set_option synthInstance.maxSize 4000 in
set_option synthInstance.maxHeartbeats 400000 in
set_option maxHeartbeats 4000000 in
theorem rvalueT {t : TabD} {p : PauD} (hw : TabW t) (hp : PauW p) : Fn Try.prog 14 [tabT t, pauT p] (fun r => r = .tup [intT (valC t p).1, intT (valC t p).2]) := by
  refine Fn_of Try.func14 rfl (Nat.le_of_ble_eq_true rfl) (fun X => ?_)
  repeat (first | refine StepC.go ?_ | intro _)
  rename_i pt pp
  refine TS_callE (tabCheckRT hw) ?_
  repeat (refine StepC.go ?_)
  refine TV_cond ?_ ?_ <;> intro hc
  · have h0 : ¬ checkTab t = 0 := by simpa using hc
    repeat (refine StepC.go ?_)
    refine retT_2 (.inr rfl) ?_
    simp only [tret, valC]; rw [if_neg h0, (checkTab_or t).resolve_left h0]
  have h1 : checkTab t = 0 := by simpa using hc
  have g := TabG.of hw h1
  repeat (refine StepC.go ?_)
  refine TS_callE (checkRT' hp) ?_
  repeat (refine StepC.go ?_)
  refine TV_cond ?_ ?_ <;> intro hc2
  · repeat (refine StepC.go ?_)
    refine retT_2 (.inr rfl) ?_
    simp only [tret, valC]; rw [if_pos h1, if_neg (by simpa using hc2)]
  have h2 : checkP p = 0 := by simpa using hc2
  repeat (refine StepC.go ?_)
  refine TS_cut (fun σ B => TGet σ 27 (boolT (!(decide (p.n = t.n) && decide (p.ph.tmod 2 = 0)))) ∧ TGet σ 2 (ptrT pt) ∧ TGet σ 3 (ptrT pp) ∧ SubP B [(pp, .cells (pauCs p) 27 true), (pt, .cells (tabCs t) 24 true)]) ?_ ?_
  · repeat' (first | refine StepC.go ?_ | refine TS_on rfl (by first | rfl | assumption) ?_ | refine TS_off rfl (by first | rfl | assumption) ?_ | refine TS_puw (Pu.pick_t (by first | rfl | assumption)) ?_ | (refine TS_guard rfl ?_ ?_ <;> intro hg))
    · refine TS_puw (Pu.divw (r := p.ph.tmod 2) (by decide) (by rfl)) ?_
      repeat (first | refine StepC.go ?_ | refine TS_on rfl (by first | rfl | assumption) ?_)
      exact ⟨tget_as (by simp_all), inferInstance, inferInstance, inferInstance⟩
    · exact ⟨tget_as (by simp_all), inferInstance, inferInstance, inferInstance⟩
  rintro σ B ⟨g27, g2, g3, hB⟩
  refine TV_keep _ (p := hB) ?_
  refine TV_cond ?_ ?_ <;> intro hc3
  · repeat (refine StepC.go ?_)
    refine retT_2 (.inr rfl) ?_
    simp only [tret, valC]; rw [if_pos h1, if_pos h2, if_neg (by simp at hc3; omega)]
  have h3 : p.n = t.n ∧ p.ph.tmod 2 = 0 := by simp at hc3; omega
  have hv : PauV p := ⟨hp, h2⟩
  repeat (refine StepC.go ?_)
  refine TS_call (inGroupT hw h1 hv h3.1) ?_
  rintro _ rfl
  cases ha : allComm t p t.n.toNat with
  | false =>
    repeat (first | refine StepC.go ?_ | intro _ | refine TV_cond_t (by first | rfl | assumption) ?_)
    refine retT_2 (.inr rfl) ?_
    simp only [tret, valC]; rw [if_pos h1, if_pos h2, if_pos h3]; unfold valueS; rw [if_neg (by rw [ha]; decide)]
  | true =>
    obtain ⟨vg, ng⟩ := groupK_v g p t.n.toNat (Nat.le_refl _)
    obtain ⟨e1, e2⟩ := group_xz hw h1 hv h3.1 ha
    have hpe := pauEq_xz (q := groupK t p t.n.toNat) (p := p) (by rw [ng, h3.1]) e1 e2
    rw [if_pos rfl]
    repeat (first | refine StepC.go ?_ | intro _ | refine TV_cond_f (by first | rfl | assumption) ?_)
    refine TV_cond ?_ ?_ <;> intro hc4
    · repeat (refine StepC.go ?_)
      refine retT_2 (.inr rfl) ?_
      simp only [tret, valC]; rw [if_pos h1, if_pos h2, if_pos h3]; unfold valueS; rw [if_pos ha, hpe, if_pos hc4]
    · repeat (refine StepC.go ?_)
      refine retT_2 (.inr rfl) ?_
      simp only [tret, valC]; rw [if_pos h1, if_pos h2, if_pos h3]; unfold valueS; rw [if_pos ha, hpe, if_neg (by rw [hc4]; decide)]
instance : CallIs Try.prog 14 := .of Try.func14 rfl rfl
end Go.Ideal

-- Yg
set_option linter.unusedSimpArgs false
set_option linter.unusedVariables false
namespace Go.Ideal
open Go Go.Proofs Go.RowKit
/-! ### The reference's Zero -/
theorem zFill_all (n : Int) (N : Nat) : zFill n N N = (List.range N).map (zX n) ++ (List.range N).map (zZ n) := by
  unfold zFill
  congr 1
  · exact List.map_congr_left fun j hj => by rw [if_pos (List.mem_range.1 hj)]
  · exact List.map_congr_left fun j hj => by rw [if_pos (List.mem_range.1 hj)]
theorem onS_x (n : Int) (i : Nat) : onS n (i : Int) 88 0 = zX n i := by
  unfold onS zX bitN; rw [Int.toNat_natCast]; rfl
theorem onS_z (n : Int) (i : Nat) : onS n (i : Int) 90 0 = zZ n i := by
  unfold onS zZ bitN; rw [Int.toNat_natCast]; rfl
set_option synthInstance.maxSize 4000 in
set_option synthInstance.maxHeartbeats 400000 in
set_option maxHeartbeats 4000000 in
theorem zeroRT {n : Int} : Fn Try.prog 12 [intT n] (fun r => r = .tup [tabT (zeroC n).1, intT (zeroC n).2]) := by
  refine Fn_of Try.func12 rfl (Nat.le_of_ble_eq_true rfl) (fun X => ?_)
  repeat (first | refine StepC.go ?_ | intro _)
  rename_i pr
  refine TS_cut (fun σ B => TGet σ 12 (boolT (!(decide (0 ≤ n) && decide (n ≤ 64)))) ∧ TGet σ 0 (intT n) ∧ TGet σ 2 (ptrT pr) ∧ SubP B [(pr, .cells [intT 0, .v (.slice none 0 0)] 24 true)]) ?_ ?_
  · repeat' (first | refine StepC.go ?_ | refine TS_on rfl (by first | rfl | assumption) ?_ | refine TS_off rfl (by first | rfl | assumption) ?_ | refine TS_puw (Pu.pick_t (by first | rfl | assumption)) ?_ | (refine TS_guard rfl ?_ ?_ <;> intro hg))
    all_goals refine ⟨tget_as (congrArg (fun b => boolT b) ?_), inferInstance, inferInstance, inferInstance⟩
    all_goals (rw [Bool.eq_iff_iff]; simp only [Bool.if_true_left, Bool.if_false_right, Bool.and_eq_true, Bool.and_eq_false_iff, Bool.not_eq_true', Bool.or_eq_true, Bool.or_eq_false_iff, decide_eq_true_eq, decide_eq_false_iff_not, Bool.not_eq_false', Bool.not_false, Bool.not_true, true_iff, false_iff, Bool.decide_eq_true] at * <;> grind)
  rintro σ B ⟨g12, g0, g2, hB⟩
  refine TV_keep _ (p := hB) ?_
  refine TV_cond ?_ ?_ <;> intro hc
  · repeat (refine StepC.go ?_)
    refine retT_2c [.agg [intT 0, .sl 4 []], intT 2] (.inr rfl) ?_
    simp only [tret, zeroC]; rw [if_neg (by simp at hc; omega)]; rfl
  have hr : 0 ≤ n ∧ n ≤ 64 := by simp at hc; omega
  obtain ⟨N, rfl⟩ : ∃ N : Nat, n = (N : Int) := ⟨n.toNat, by omega⟩
  repeat (first | refine StepC.go ?_ | intro _)
  rename_i po
  refine TV_ghost 4 27 ?_
  intro b0
  refine TV_loop (fun d σ B => ∃ (i b : Nat), d = N - i ∧ i ≤ N ∧ TGet σ 5 (intT (i : Int)) ∧ TGet σ 4 (ptrT po) ∧ TGet σ 2 (ptrT pr) ∧ TGet σ 0 (intT (N : Int)) ∧
      SubP B [(po, .cells [intT (N : Int), .v (gsv b i)] 24 true), (pr, .cells [intT 0, .v (.slice none 0 0)] 24 true), (b, .arr 4 (pauRows ((List.range i).map (zX N))) 27 false)]) N
    ⟨0, b0, by omega, Nat.zero_le _, tget_as rfl, inferInstance, inferInstance, inferInstance, inferInstanceAs (SubP _ [(po, .cells [intT (N : Int), .v (.slice none 0 0)] 24 true), (pr, .cells [intT 0, .v (.slice none 0 0)] 24 true), (b0, .arr 4 [] 27 false)])⟩ ?_
  clear hB g12 g0 g2
  rintro d σ B ⟨i, b, rfl, hi, g5, g4, g2, g0, hB⟩
  refine TV_keep _ (p := hB) ?_
  have hlF : LenT (pauRows ((List.range i).map (zX N))) i := ⟨by simp [pauRows]⟩
  repeat (refine StepC.go ?_)
  refine TV_cond ?_ ?_ <;> intro hc3
  · have hil : i < N := by have := of_decide_eq_true hc3; omega
    repeat (first | refine StepC.go ?_ | refine TD_take rfl rfl ?_ | refine TD_load rfl rfl ?_ | refine TD_one rfl ?_ | refine FiltT_nil ?_ | refine FiltT_keep rfl ?_ | refine TV_draw (id := 7) (plan := [.take 0, .take 1, .take 2, .take 3, .one 4, .one 5, .one 6, .take 7, .one 8]) (by kernel_rfl) ?_)
    refine TS_callE (onT (n := (N : Int)) (q := (i : Int)) (k := 88) (ph := 0) hr.2 (by omega) (by omega) (.inl rfl)) ?_
    rw [onS_x]
    repeat (first | refine StepC.go ?_ | intro _ | refine TS_puw (Pu.addi (by omega)) ?_ | refine TS_append (by omega) (fun _ => ?_) | refine TD_take rfl rfl ?_ | refine TD_one rfl ?_ | refine FiltT_nil ?_ | refine FiltT_drop rfl ?_ | refine FiltT_keep rfl ?_)
    rename_i b2
    have hd : pauRows ((List.range (i + 1)).map (zX N)) = pauRows ((List.range i).map (zX N)) ++ [pauCs (zX N i)] := by
      rw [List.range_succ, List.map_append, pauRows_app]; rfl
    refine ⟨_, ?_, i + 1, b2, rfl, by omega, tget_as rfl, inferInstance, inferInstance, inferInstance, ?_⟩
    · omega
    · rw [hd]; infer_instance
  have hil : i = N := by have := of_decide_eq_false hc3; omega
  subst hil
  repeat (refine StepC.go ?_)
  refine TV_loop (fun d σ B => ∃ (j b : Nat), d = i - j ∧ j ≤ i ∧ TGet σ 6 (intT (j : Int)) ∧ TGet σ 4 (ptrT po) ∧ TGet σ 2 (ptrT pr) ∧ TGet σ 0 (intT (i : Int)) ∧
      SubP B [(po, .cells [intT (i : Int), .v (gsv b (i + j))] 24 true), (pr, .cells [intT 0, .v (.slice none 0 0)] 24 true), (b, .arr 4 (pauRows ((List.range i).map (zX i) ++ (List.range j).map (zZ i))) 27 false)]) i
    ⟨0, b, by omega, Nat.zero_le _, tget_as rfl, inferInstance, inferInstance, inferInstance, by rw [List.range_zero, List.map_nil, List.append_nil, Nat.add_zero]; infer_instance⟩ ?_
  clear hB g5 g4 g2 g0 hlF
  clear b
  rintro d σ B ⟨j, b, rfl, hj, g6, g4, g2, g0, hB⟩
  refine TV_keep _ (p := hB) ?_
  have hlG : LenT (pauRows ((List.range i).map (zX i) ++ (List.range j).map (zZ i))) (i + j) := ⟨by simp [pauRows]⟩
  repeat (refine StepC.go ?_)
  refine TV_cond ?_ ?_ <;> intro hc4
  · have hji : j < i := by have := of_decide_eq_true hc4; omega
    repeat (first | refine StepC.go ?_ | refine TD_take rfl rfl ?_ | refine TD_load rfl rfl ?_ | refine TD_one rfl ?_ | refine FiltT_nil ?_ | refine FiltT_keep rfl ?_ | refine TV_draw (id := 11) (plan := [.take 0, .take 1, .take 2, .take 3, .one 4, .one 5, .one 6, .take 7, .one 8]) (by kernel_rfl) ?_)
    refine TS_callE (onT (n := (i : Int)) (q := (j : Int)) (k := 90) (ph := 0) hr.2 (by omega) (by omega) (.inr (.inr rfl))) ?_
    rw [onS_z]
    repeat (first | refine StepC.go ?_ | intro _ | refine TS_puw (Pu.addi (by omega)) ?_ | refine TS_append (by omega) (fun _ => ?_) | refine TD_take rfl rfl ?_ | refine TD_one rfl ?_ | refine FiltT_nil ?_ | refine FiltT_drop rfl ?_ | refine FiltT_keep rfl ?_)
    rename_i b2
    have hd : pauRows ((List.range i).map (zX i) ++ (List.range (j + 1)).map (zZ i)) = pauRows ((List.range i).map (zX i) ++ (List.range j).map (zZ i)) ++ [pauCs (zZ i j)] := by
      rw [List.range_succ, List.map_append, ← List.append_assoc, pauRows_app (_ ++ _)]; rfl
    refine ⟨_, ?_, j + 1, b2, rfl, by omega, tget_as rfl, inferInstance, inferInstance, inferInstance, ?_⟩
    · omega
    · rw [hd]; infer_instance
  · have hji : j = i := by have := of_decide_eq_false hc4; omega
    subst hji
    rw [← zFill_all] at *
    have hlH : LenT (pauRows (zFill (j : Int) j j)) (j + j) := hlG
    have : Sm63 (j + j) := ⟨by omega⟩
    repeat (refine StepC.go ?_)
    refine retT_2 (.inr rfl) ?_
    simp only [tret, zeroC]
    rw [if_pos hr, Int.toNat_natCast]
instance : CallIs Try.prog 12 := .of Try.func12 rfl rfl
end Go.Ideal

-- Yh
set_option linter.unusedSimpArgs false
set_option linter.unusedVariables false
namespace Go.Ideal
open Go Go.Proofs Go.RowKit
/-! ### Same, of both -/
def stabsIn (a b : TabD) : Bool := (b.rows.drop b.n.toNat).all (fun p => decide (valueS a p = 1))
def sameC (a b : TabD) : Bool × Int := if checkTab a = 0 ∧ checkTab b = 0 then (if a.n = b.n then (stabsIn a b, 0) else (false, 0)) else (false, 180)
theorem stabsIn_iff {a b : TabD} (gb : TabG b) : stabsIn a b = true ↔ ∀ i, i < b.n.toNat → valueS a (rowAt b (b.n.toNat + i)) = 1 := by
  have n0 := gb.n0
  have nl := gb.nl
  unfold stabsIn
  rw [List.all_eq_true]
  constructor
  · intro h i hi
    obtain ⟨hr, _, _⟩ := gb.at_ (i := b.n.toNat + i) (by omega)
    exact of_decide_eq_true (h _ (List.mem_of_getElem? (i := i) (by rw [List.getElem?_drop]; exact hr)))
  · intro h p hp
    obtain ⟨i, hi⟩ := List.getElem?_of_mem hp
    rw [List.getElem?_drop] at hi
    have hil := (List.getElem?_eq_some_iff.1 hi).1
    have := h i (by omega)
    rw [rowAt_get hi] at this
    exact decide_eq_true this
theorem stabsIn_symm {a b : TabD} (hwa : TabW a) (ha : checkTab a = 0) (hwb : TabW b) (hb : checkTab b = 0) (hn : a.n = b.n) : stabsIn a b = stabsIn b a := by
  have ga := TabG.of hwa ha
  have gb := TabG.of hwb hb
  have key : ∀ {a b : TabD}, TabW a → checkTab a = 0 → TabW b → checkTab b = 0 → a.n = b.n → stabsIn a b = true → stabsIn b a = true := by
    intro a b hwa ha hwb hb hn h
    have ga := TabG.of hwa ha
    have gb := TabG.of hwb hb
    have a0 := ga.n0
    have al := ga.nl
    have b0 := gb.n0
    have bl := gb.nl
    have h1 := (stabsIn_iff gb).1 h
    refine (stabsIn_iff ga).2 fun j hj => ?_
    obtain ⟨_, vj, nj⟩ := ga.at_ (i := a.n.toNat + j) (by omega)
    refine (value_one hwb hb vj (by rw [nj, hn])).2 (same_symm hwa ha hwb hb hn (fun i hi => ?_) j hj)
    obtain ⟨_, vi, ni⟩ := gb.at_ (i := b.n.toNat + i) (by omega)
    exact (value_one hwa ha vi (by rw [ni, hn])).1 (h1 i hi)
  rw [Bool.eq_iff_iff]
  exact ⟨key hwa ha hwb hb hn, key hwb hb hwa ha hn.symm⟩
theorem anyPT {ps : List PauD} {f : Nat} {a b : List Tr} [c : CallIs Try.prog f] {p : PauD → Bool} (hp : ∀ o ∈ ps, Fn Try.prog f ((a ++ [pauT o]) ++ b) (fun r => r = boolT (p o))) : Fn Try.prog 52 [.sl 4 (pauRows ps), .fn f a b] (fun r => r = boolT (ps.any p)) := by
  refine Fn_of Try.func52 rfl (Nat.le_of_ble_eq_true rfl) (fun X => ?_)
  repeat (refine StepC.go ?_)
  refine TS_call (indexPT hp) ?_
  rintro _ rfl
  repeat (refine StepC.go ?_)
  refine retT_1 (.inr rfl) ?_
  simp only [tret]
  rw [idxF_any]
instance : CallIs Try.prog 52 := .of Try.func52 rfl rfl
theorem same1T {a : TabD} {p : PauD} (g : TabG a) (hp : PauV p) (hn : p.n = a.n) : Fn Try.prog 53 [pauT p, .pf (tabCs a)] (fun r => r = boolT (!decide (valueS a p = 1))) := by
  refine Fn_of Try.func53 rfl (Nat.le_of_ble_eq_true rfl) (fun X => ?_)
  repeat (first | refine StepC.go ?_ | intro _)
  refine TS_callE (tabValT g hp hn) ?_
  repeat (refine StepC.go ?_)
  exact retT_1 (.inr rfl) rfl
instance : CallIs Try.prog 53 := .of Try.func53 rfl rfl
set_option synthInstance.maxSize 4000 in
set_option synthInstance.maxHeartbeats 400000 in
set_option maxHeartbeats 4000000 in
theorem tabSameT {a b : TabD} (hwa : TabW a) (hwb : TabW b) : Fn Try.prog 19 [tabT a, tabT b] (fun r => r = .tup [boolT (sameC a b).1, intT (sameC a b).2]) := by
  refine Fn_of Try.func19 rfl (Nat.le_of_ble_eq_true rfl) (fun X => ?_)
  repeat (first | refine StepC.go ?_ | intro _)
  rename_i pa pb bs
  refine TV_loop (fun d σ B => ∃ (i : Nat), d = 2 - i ∧ i ≤ 2 ∧ TGet σ 13 (intT (i : Int)) ∧ TGet σ 12 (intT 2) ∧ TGet σ 11 (.v (.slice (some (ad bs 0)) 2 2)) ∧ TGet σ 2 (ptrT pa) ∧ TGet σ 3 (ptrT pb) ∧ (0 < i → checkTab a = 0) ∧ (1 < i → checkTab b = 0) ∧
      SubP B [(bs, .arr 2 [tabCs a, tabCs b] 24 true), (pb, .cells (tabCs b) 24 true), (pa, .cells (tabCs a) 24 true)]) 2
    ⟨0, by omega, by omega, tget_as rfl, inferInstance, inferInstance, inferInstance, inferInstance, (fun h => by omega), (fun h => by omega), inferInstance⟩ ?_
  rintro d σ B ⟨i, rfl, hi, g13, g12, g11, g2, g3, ca, cb, hB⟩
  refine TV_keep _ (p := hB) ?_
  repeat (refine StepC.go ?_)
  refine TV_cond ?_ ?_ <;> intro hc
  · have hil : i < 2 := by have := of_decide_eq_true hc; omega
    obtain ⟨x, hx, hwx, hx2⟩ : ∃ x : TabD, [tabCs a, tabCs b][i]? = some (tabCs x) ∧ TabW x ∧ (x = a ∧ i = 0 ∨ x = b ∧ i = 1) := by
      obtain rfl | rfl : i = 0 ∨ i = 1 := by omega
      · exact ⟨a, rfl, hwa, .inl ⟨rfl, rfl⟩⟩
      · exact ⟨b, rfl, hwb, .inr ⟨rfl, rfl⟩⟩
    have ng : NthG [tabCs a, tabCs b] i (tabCs x) := ⟨hx⟩
    repeat (first | refine StepC.go ?_ | intro _)
    refine TS_callE (tabCheckT hwx) ?_
    repeat (refine StepC.go ?_)
    refine TV_cond ?_ ?_ <;> intro hc2
    · have h0 : ¬ checkTab x = 0 := by simpa using hc2
      repeat (refine StepC.go ?_)
      refine retT_2 (.inr rfl) ?_
      simp only [tret, sameC]
      rw [if_neg (by rcases hx2 with ⟨rfl, _⟩ | ⟨rfl, _⟩ <;> simp [h0]), (checkTab_or x).resolve_left h0]
    · have h0 : checkTab x = 0 := by simpa using hc2
      repeat (first | refine StepC.go ?_ | refine TS_puw (Pu.addi (by omega)) ?_)
      refine ⟨_, ?_, i + 1, rfl, by omega, tget_as rfl, inferInstance, inferInstance, inferInstance, inferInstance, ?_, ?_, inferInstance⟩
      · omega
      · intro _
        rcases hx2 with ⟨rfl, h3⟩ | ⟨_, h3⟩
        · exact h0
        · exact ca (by omega)
      · intro h4
        rcases hx2 with ⟨_, h3⟩ | ⟨rfl, h3⟩
        · omega
        · exact h0
  have hil : i = 2 := by have := of_decide_eq_false hc; omega
  have ha := ca (by omega)
  have hb := cb (by omega)
  have ga := TabG.of hwa ha
  have gb := TabG.of hwb hb
  repeat (refine StepC.go ?_)
  refine TV_cond ?_ ?_ <;> intro hc2
  · repeat (refine StepC.go ?_)
    refine retT_2 (.inr rfl) ?_
    simp only [tret, sameC]
    rw [if_pos ⟨ha, hb⟩, if_neg (by simpa using hc2)]
  have hn : a.n = b.n := by simpa using hc2
  have hL : (pauRows b.rows).length = b.rows.length := by simp [pauRows]
  obtain ⟨N, hN⟩ : ∃ N : Nat, b.n = (N : Int) := ⟨b.n.toNat, by have := gb.n0; omega⟩
  have hNt : b.n.toNat = N := by omega
  have nl := gb.nl
  have : AsNat b.n N := ⟨hN⟩
  repeat (refine StepC.go ?_)
  refine TS_puw (Pu.slice_lo' (by rw [hL]; omega)) ?_
  have hd : (pauRows b.rows).drop N = pauRows (b.rows.drop N) := by simp [pauRows, List.map_drop]
  rw [hd]
  repeat (refine StepC.go ?_)
  refine TS_callE (anyPT (p := fun p => !decide (valueS a p = 1)) (fun o ho => by
    obtain ⟨v, n⟩ := gb.hv o (List.mem_of_mem_drop ho)
    exact same1T ga v (by rw [n, hn]))) ?_
  repeat (refine StepC.go ?_)
  refine retT_2 (.inr rfl) ?_
  simp only [tret, sameC]
  rw [if_pos ⟨ha, hb⟩, if_pos hn]
  have e : (!(b.rows.drop N).any fun p => !decide (valueS a p = 1)) = stabsIn a b := by
    unfold stabsIn; rw [hNt, List.any_eq_not_all_not]; simp
  rw [e]
instance : CallIs Try.prog 19 := .of Try.func19 rfl rfl
end Go.Ideal

-- Yi
set_option linter.unusedSimpArgs false
set_option linter.unusedVariables false
namespace Go.Ideal
open Go Go.Proofs Go.RowKit
/-! ### The reference's Same; the law TableauAsks -/
set_option synthInstance.maxSize 4000 in
set_option synthInstance.maxHeartbeats 400000 in
set_option maxHeartbeats 4000000 in
theorem tabSameRT {a b : TabD} (hwa : TabW a) (hwb : TabW b) : Fn Try.prog 15 [tabT a, tabT b] (fun r => r = .tup [boolT (sameC a b).1, intT (sameC a b).2]) := by
  refine Fn_of Try.func15 rfl (Nat.le_of_ble_eq_true rfl) (fun X => ?_)
  repeat (first | refine StepC.go ?_ | intro _)
  rename_i pa pb
  refine TS_callE (tabCheckRT hwa) ?_
  by_cases ha : checkTab a = 0
  case neg =>
    have d1 : (!decide (checkTab a = 0)) = true := by rw [decide_eq_false ha]; rfl
    repeat (first | refine StepC.go ?_ | refine TS_off rfl (by first | rfl | assumption) ?_ | refine TS_puw (Pu.pick_t (by first | rfl | assumption)) ?_ | refine TV_cond_t (by first | rfl | assumption) ?_)
    refine retT_2 (.inr rfl) ?_
    simp only [tret, sameC]; rw [if_neg (fun h => ha h.1)]
  have d1 : (!decide (checkTab a = 0)) = false := by rw [decide_eq_true ha]; rfl
  repeat (first | refine StepC.go ?_ | refine TS_on rfl (by first | rfl | assumption) ?_)
  refine TS_callE (tabCheckRT hwb) ?_
  by_cases hb : checkTab b = 0
  case neg =>
    have d2 : (!decide (checkTab b = 0)) = true := by rw [decide_eq_false hb]; rfl
    have d12 : (if (!decide (checkTab a = 0)) = true then true else !decide (checkTab b = 0)) = true := by rw [d1, d2]; rfl
    repeat (first | refine StepC.go ?_ | refine TS_on rfl (by first | rfl | assumption) ?_ | refine TV_cond_t (by first | rfl | assumption) ?_)
    refine retT_2 (.inr rfl) ?_
    simp only [tret, sameC]; rw [if_neg (fun h => hb h.2)]
  have d2 : (!decide (checkTab b = 0)) = false := by rw [decide_eq_true hb]; rfl
  have d12 : (if (!decide (checkTab a = 0)) = true then true else !decide (checkTab b = 0)) = false := by rw [d1, d2]; rfl
  have ga := TabG.of hwa ha
  have gb := TabG.of hwb hb
  repeat (first | refine StepC.go ?_ | refine TS_on rfl (by first | rfl | assumption) ?_ | refine TV_cond_f (by first | rfl | assumption) ?_)
  refine TV_cond ?_ ?_ <;> intro hc2
  · repeat (refine StepC.go ?_)
    refine retT_2 (.inr rfl) ?_
    simp only [tret, sameC]
    rw [if_pos ⟨ha, hb⟩, if_neg (by simpa using hc2)]
  have hn : a.n = b.n := by simpa using hc2
  have hL : (pauRows a.rows).length = a.rows.length := by simp [pauRows]
  obtain ⟨N, hN⟩ : ∃ N : Nat, a.n = (N : Int) := ⟨a.n.toNat, by have := ga.n0; omega⟩
  have hNt : a.n.toNat = N := by omega
  have nl := ga.nl
  have n1 := ga.n1
  repeat (refine StepC.go ?_)
  refine TV_loop (fun d σ B => ∃ (i : Nat), d = N - i ∧ i ≤ N ∧ TGet σ 6 (intT (i : Int)) ∧ TGet σ 2 (ptrT pa) ∧ TGet σ 3 (ptrT pb) ∧ (∀ j, j < i → valueS b (rowAt a (N + j)) = 1) ∧
      SubP B [(pb, .cells (tabCs b) 24 true), (pa, .cells (tabCs a) 24 true)]) N
    ⟨0, by omega, Nat.zero_le _, tget_as rfl, inferInstance, inferInstance, (fun j hj => by omega), inferInstance⟩ ?_
  rintro d σ B ⟨i, rfl, hi, g6, g2, g3, hv, hB⟩
  refine TV_keep _ (p := hB) ?_
  repeat (refine StepC.go ?_)
  refine TV_cond ?_ ?_ <;> intro hc
  · have hil : i < N := by have := of_decide_eq_true hc; omega
    obtain ⟨h2, v2, m2⟩ := ga.at_ (i := N + i) (by omega)
    have ng2 : NthG (pauRows a.rows) (N + i) (pauCs (rowAt a (N + i))) := .map pauCs h2
    have an : AsNat (a.n + (i : Int)) (N + i) := ⟨by rw [hN]; omega⟩
    have he := row_even ha (i := N + i) (by omega)
    have hval : valC b (rowAt a (N + i)) = (valueS b (rowAt a (N + i)), 0) := by
      unfold valC
      rw [if_pos hb, if_pos v2.2, if_pos ⟨by rw [m2, hn], Int.tmod_eq_zero_of_dvd (Int.dvd_of_emod_eq_zero he)⟩]
    repeat (first | refine StepC.go ?_ | refine TD_take rfl rfl ?_ | refine TD_load rfl rfl ?_ | refine TD_one rfl ?_ | refine FiltT_nil ?_ | refine FiltT_drop rfl ?_ | refine FiltT_keep rfl ?_ | refine TD_takew rfl rfl (Pu.addi (by omega)) ?_ | refine TV_draw (id := 8) (plan := [.take 0, .take 1, .take 2, .take 3, .take 4, .take 5, .take 6, .take 7, .take 8, .one 9, .take 10, .take 11, .take 12, .take 13, .take 14]) (by kernel_rfl) ?_)
    refine TS_call (rvalueT hwb v2.1) ?_
    rintro _ rfl
    rw [hval]
    repeat (first | refine StepC.go ?_ | refine TD_take rfl rfl ?_)
    refine TV_cond ?_ ?_ <;> intro hc3
    · have hne : ¬ valueS b (rowAt a (N + i)) = 1 := by simpa using hc3
      repeat (refine StepC.go ?_)
      refine retT_2 (.inr rfl) ?_
      simp only [tret, sameC]
      rw [if_pos ⟨ha, hb⟩, if_pos hn, stabsIn_symm hwa ha hwb hb hn]
      have e : stabsIn b a = false := Bool.eq_false_iff.2 fun h => hne (by have := (stabsIn_iff ga).1 h i (by omega); rw [hNt] at this; exact this)
      rw [e]
    · have he1 : valueS b (rowAt a (N + i)) = 1 := by simpa using hc3
      repeat (first | refine StepC.go ?_ | refine TS_puw (Pu.addi (by omega)) ?_)
      refine ⟨_, ?_, i + 1, rfl, by omega, tget_as rfl, inferInstance, inferInstance, ?_, inferInstance⟩
      · omega
      · intro j hj
        by_cases h5 : j = i
        · rw [h5]; exact he1
        · exact hv j (by omega)
  · have hil : i = N := by have := of_decide_eq_false hc; omega
    repeat (refine StepC.go ?_)
    refine retT_2 (.inr rfl) ?_
    simp only [tret, sameC]
    rw [if_pos ⟨ha, hb⟩, if_pos hn, stabsIn_symm hwa ha hwb hb hn]
    have e : stabsIn b a = true := (stabsIn_iff ga).2 fun j hj => by rw [hNt]; exact hv j (by omega)
    rw [e]
instance : CallIs Try.prog 15 := .of Try.func15 rfl rfl
end Go.Ideal

-- Yj
set_option linter.unusedSimpArgs false
set_option linter.unusedVariables false
namespace Go.Ideal
open Go Go.Proofs Go.RowKit
/-! ### The law TableauAsks -/
set_option synthInstance.maxSize 4000 in
set_option synthInstance.maxHeartbeats 400000 in
set_option maxHeartbeats 4000000 in
theorem tableauAsksT {t u : TabD} {n : Int} {p : PauD} (hwt : TabW t) (hwu : TabW u) (hp : PauW p) : Fn Try.prog 3 [tabT t, tabT u, intT n, pauT p] (fun r => r = boolT true) := by
  refine Fn_of Try.func3 rfl (Nat.le_of_ble_eq_true rfl) (fun X => ?_)
  repeat (first | refine StepC.go ?_ | intro _)
  refine TS_callE awake18T ?_
  repeat (first | refine StepC.go ?_ | refine TV_cond_f (by first | rfl | assumption) ?_)
  refine TS_call zeroRT ?_
  rintro _ rfl
  generalize hZ : (zeroC n).1 = Z
  generalize hz : (zeroC n).2 = z
  repeat (first | refine StepC.go ?_ | intro _)
  refine TS_call (rcertainT hwt) ?_
  rintro _ rfl
  generalize hC1 : (certC t n).1 = c1
  generalize hC2 : (certC t n).2.1 = c2
  generalize hC3 : (certC t n).2.2 = c3
  repeat (refine StepC.go ?_)
  refine TS_call (rvalueT hwt hp) ?_
  rintro _ rfl
  generalize hV1 : (valC t p).1 = v1
  generalize hV2 : (valC t p).2 = v2
  repeat (refine StepC.go ?_)
  refine TS_call (tabSameRT hwt hwu) ?_
  rintro _ rfl
  generalize hS1 : (sameC t u).1 = s1
  generalize hS2 : (sameC t u).2 = s2
  repeat (refine StepC.go ?_)
  refine TS_call zeroT ?_
  rintro _ rfl
  rw [hZ, hz]
  repeat (first | refine StepC.go ?_ | intro _)
  refine TS_call (certainT hwt) ?_
  rintro _ rfl
  rw [hC1, hC2, hC3]
  repeat (refine StepC.go ?_)
  refine TS_call (valueT hwt hp) ?_
  rintro _ rfl
  rw [hV1, hV2]
  repeat (refine StepC.go ?_)
  refine TS_call (tabSameT hwt hwu) ?_
  rintro _ rfl
  rw [hS1, hS2]
  repeat (refine StepC.go ?_)
  rename_i bt bu bp bz by_
  refine TV_draw (id := 11) (plan := [.take 0, .take 2, .one 1, .one 3, .take 4, .take 5, .take 6, .take 7, .one 8, .take 9, .take 10, .take 11, .take 12, .take 13, .take 14, .take 15]) (by kernel_rfl) ?_
  refine TD_pin by_ 2 ?_
  refine TD_pin bz 2 ?_
  repeat (first | refine TD_load rfl rfl ?_ | refine TD_one rfl ?_ | refine FiltT_nil ?_ | refine FiltT_drop rfl ?_ | refine FiltT_keep rfl ?_)
  refine TS_callE (tabCheckT hwt) ?_
  repeat (first | refine StepC.go ?_ | refine TD_one rfl ?_ | refine FiltT_nil ?_ | refine FiltT_drop rfl ?_ | refine FiltT_keep rfl ?_)
  refine TS_callE (tabCheckRT hwt) ?_
  repeat (first | refine StepC.go ?_ | refine TS_on rfl (by first | rfl | assumption) ?_ | refine TD_take rfl rfl ?_ | refine TD_one rfl ?_ | refine FiltT_nil ?_ | refine FiltT_drop rfl ?_ | refine FiltT_keep rfl ?_ | refine TD_loadP_on rfl rfl (by first | rfl | assumption) rfl ?_)
  simp only [eq_self, decide_true, Bool.not_true]
  skip
  refine TS_callE tabEqualT ?_
  repeat (first | refine StepC.go ?_ | refine TS_on rfl (by first | rfl | assumption) ?_ | refine TD_take rfl rfl ?_ | refine TD_take_on rfl rfl (by first | rfl | assumption) rfl ?_ | refine TV_cond_f (by first | rfl | assumption) ?_)
  try simp only [eq_self, decide_true, Bool.not_true, beq_self_eq_true, if_true, Bool.false_eq_true, if_false]
  skip
  try simp only [eq_self, decide_true, Bool.not_true, beq_self_eq_true, if_true, Bool.false_eq_true, if_false]
  skip
  try simp only [eq_self, decide_true, Bool.not_true, beq_self_eq_true, if_true, Bool.false_eq_true, if_false]
  skip
  try simp only [eq_self, decide_true, Bool.not_true, beq_self_eq_true, if_true, Bool.false_eq_true, if_false]
  skip
  try simp only [eq_self, decide_true, Bool.not_true, beq_self_eq_true, if_true, Bool.false_eq_true, if_false]
  skip
  try simp only [eq_self, decide_true, Bool.not_true, beq_self_eq_true, if_true, Bool.false_eq_true, if_false]
  skip
  try simp only [eq_self, decide_true, Bool.not_true, beq_self_eq_true, if_true, Bool.false_eq_true, if_false]
  skip
  try simp only [eq_self, decide_true, Bool.not_true, beq_self_eq_true, if_true, Bool.false_eq_true, if_false]
  skip
  try simp only [eq_self, decide_true, Bool.not_true, beq_self_eq_true, if_true, Bool.false_eq_true, if_false]
  skip
  try simp only [eq_self, decide_true, Bool.not_true, beq_self_eq_true, if_true, Bool.false_eq_true, if_false]
  skip
  try simp only [eq_self, decide_true, Bool.not_true, beq_self_eq_true, if_true, Bool.false_eq_true, if_false]
  skip
  try simp only [eq_self, decide_true, Bool.not_true, beq_self_eq_true, if_true, Bool.false_eq_true, if_false]
  skip
  refine retT_1 (.inr rfl) ?_
  simp [tret]
theorem tableauAsksW {h : IHp} {v1 v2 v4 : Value} {n : Int} {t u : TabD} {p : PauD} (m1 : Rep h.cell? (tabT t) v1) (w1 : TabW t) (m2 : Rep h.cell? (tabT u) v2) (w2 : TabW u) (m4 : Rep h.cell? (pauT p) v4) (w4 : PauW p) :
    EvX Try.prog 3 #[v1, v2, .int .i64 n, v4] h (fun v _ => v = .bool true) :=
  EvX_of_Fn (tableauAsksT w1 w2 w4) (RepL.cons m1 (RepL.cons m2 (RepL.cons (rep_v _) (RepL.cons m4 RepL.nil))))
set_option maxRecDepth 100000 in
theorem pau_tree {h : IHp} {n : Nat} {cs : List Value} (hd : IRd Try.prog h (n + 2) 27 cs) : ∃ p : PauD, Rep h.cell? (pauT p) (.agg cs.toArray) ∧ PauW p := by
  obtain ⟨p, rfl, w⟩ := pau_of hd
  refine ⟨p, ?_, w⟩
  rw [Rep]
  exact ⟨_, rfl, RepL.cons (rep_v _) (RepL.cons (rep_v _) (RepL.cons (rep_v _) (RepL.cons (rep_v _) RepL.nil)))⟩
end Go.Ideal
