/- Part 7 of what the proof stands on: an interpreter over an ideal memory that is proved sound, steps over it, and contracts of the functions that are called. No condition: no law is claimed here. -/
import Derived.Test.YteloepinfffmgaaC6
-- Ye
set_option linter.unusedSimpArgs false
set_option linter.unusedVariables false
namespace Go.Ideal
open Go Go.Proofs Go.RowKit
/-! ### The group of a tableau: the plain law -/
theorem mulP_comm {p q : PauD} (hn : p.n = q.n) (hc : commP p q = true) : mulP p q = mulP q p := by
  have h := (mphS_comm p q).2 hc
  show PauD.mk p.n (p.x ^^^ q.x) (p.z ^^^ q.z) (mphS p q) = PauD.mk q.n (q.x ^^^ p.x) (q.z ^^^ p.z) (mphS q p)
  rw [h, hn, Nat.xor_comm p.x, Nat.xor_comm p.z]
theorem mulP_self {p : PauD} (he : p.ph % 2 = 0) : mulP p p = ⟨p.n, 0, 0, 0⟩ := by
  show PauD.mk p.n (p.x ^^^ p.x) (p.z ^^^ p.z) (mphS p p) = _
  have h0 : pcS 0 = 0 := by decide +kernel
  have : mphS p p = 0 := by
    unfold mphS
    rw [Nat.xor_self, Nat.xor_self, Nat.zero_and, h0, Nat.and_comm p.z p.x]
    omega
  rw [this, Nat.xor_self, Nat.xor_self]
theorem row_even {t : TabD} (h : checkTab t = 0) {i : Nat} (hi : i < t.rows.length) : (rowAt t i).ph % 2 = 0 := by
  have hrb : rowsB t t.rows.length = true := by
    unfold checkTab at h
    split at h
    · rename_i h1; exact h1.2
    · cases h
  have h1 := (rowsB_ok hrb _ hi).1
  simp only [rowOk, Bool.and_eq_true, decide_eq_true_eq] at h1
  exact Int.emod_eq_zero_of_dvd (Int.dvd_of_tmod_eq_zero h1.2)
theorem groupK_congr {t : TabD} {x y : PauD} (hx : x.x = y.x) (hz : x.z = y.z) : ∀ k, groupK t x k = groupK t y k := by
  intro k
  induction k with
  | zero => rfl
  | succ k ih =>
    rw [groupK, groupK, ih]
    have : commP x (rowAt t k) = commP y (rowAt t k) := by unfold commP; rw [hx, hz]
    rw [this]
theorem groupK_stab {t : TabD} (hw : TabW t) (h : checkTab t = 0) (p : PauD) {k : Nat} (hk : k ≤ t.n.toNat) {j : Nat} (hj : j < t.n.toNat) : commP (groupK t p k) (rowAt t (t.n.toNat + j)) = true := by
  have g := TabG.of hw h
  have n0 := g.n0
  have nl := g.nl
  have h1 := groupK_ac hw h p (j := t.n.toNat + j) (by omega) k hk
  rw [decide_eq_false (by omega), Bool.false_and] at h1
  unfold acP at h1
  simpa using h1
theorem groupK_mul {t : TabD} (hw : TabW t) (h : checkTab t = 0) (x y : PauD) : ∀ k, k ≤ t.n.toNat → groupK t (mulP x y) k = mulP (groupK t x k) (groupK t y k) := by
  have g := TabG.of hw h
  have n0 := g.n0
  have nl := g.nl
  intro k
  induction k with
  | zero => intro _; exact ((mul_eye (eye_v g.n0 g.n1)).1).symm
  | succ k ih =>
    intro hk
    have ih := ih (by omega)
    have hi : t.n.toNat + k < t.rows.length := by omega
    obtain ⟨_, vS, nS⟩ := g.at_ hi
    obtain ⟨vG, nG⟩ := groupK_v g x k (by omega)
    obtain ⟨vH, nH⟩ := groupK_v g y k (by omega)
    have hcH := groupK_stab hw h y (k := k) (by omega) (j := k) (by omega)
    have eS := row_even h hi
    have hac : acP (mulP x y) (rowAt t k) = (acP x (rowAt t k) ^^ acP y (rowAt t k)) := acP_xor rfl rfl
    rw [groupK, groupK, groupK, ih]
    generalize rowAt t (t.n.toNat + k) = S at *
    generalize groupK t x k = G at *
    generalize groupK t y k = H at *
    unfold acP at hac
    cases c1 : commP x (rowAt t k) <;> cases c2 : commP y (rowAt t k) <;> rw [c1, c2] at hac
    · have c3 : commP (mulP x y) (rowAt t k) = true := by simpa using hac
      rw [if_pos c3, if_neg (by decide), if_neg (by decide)]
      have vHS := mul_v vH vS (by rw [nH, nS])
      rw [mul_assoc vG vS vHS (by rw [nG, nS]) (by rw [nS]; exact nH.symm), ← mul_assoc vS vH vS (by rw [nS, nH]) (by rw [nH, nS]), ← mulP_comm (by rw [nH, nS]) hcH, mul_assoc vH vS vS (by rw [nH, nS]) rfl, mulP_self eS]
      have e := (mul_eye vH).1
      rw [show S.n = H.n by rw [nS, nH], e]
    · have c3 : ¬ commP (mulP x y) (rowAt t k) = true := by simpa using hac
      rw [if_neg c3, if_neg (by decide), if_pos rfl]
      rw [mul_assoc vG vH vS (by rw [nG, nH]) (by rw [nH, nS]), mul_assoc vG vS vH (by rw [nG, nS]) (by rw [nS, nH]), mulP_comm (by rw [nH, nS]) hcH]
    · have c3 : ¬ commP (mulP x y) (rowAt t k) = true := by simpa using hac
      rw [if_neg c3, if_pos rfl, if_neg (by decide)]
      exact mul_assoc vG vH vS (by rw [nG, nH]) (by rw [nH, nS])
    · have c3 : commP (mulP x y) (rowAt t k) = true := by simpa using hac
      rw [if_pos c3, if_pos rfl, if_pos rfl]
def InG (t : TabD) (x : PauD) : Prop := PauV x ∧ x.n = t.n ∧ groupK t x t.n.toNat = x
theorem InG.mul {t : TabD} (hw : TabW t) (h : checkTab t = 0) {x y : PauD} (hx : InG t x) (hy : InG t y) : InG t (mulP x y) :=
  ⟨mul_v hx.1 hy.1 (by rw [hx.2.1, hy.2.1]), hx.2.1, by rw [groupK_mul hw h x y _ (Nat.le_refl _), hx.2.2, hy.2.2]⟩
theorem InG.eye {t : TabD} (hw : TabW t) (h : checkTab t = 0) : InG t ⟨t.n, 0, 0, 0⟩ := by
  have g := TabG.of hw h
  refine ⟨eye_v g.n0 g.n1, rfl, ?_⟩
  have : ∀ k, groupK t ⟨t.n, 0, 0, 0⟩ k = ⟨t.n, 0, 0, 0⟩ := by
    intro k
    induction k with
    | zero => rfl
    | succ k ih =>
      have : commP ⟨t.n, 0, 0, 0⟩ (rowAt t k) = true := by
        have := acP_eye (p := ⟨t.n, 0, 0, 0⟩) (q := rowAt t k) rfl rfl
        unfold acP at this
        simpa using this
      rw [groupK, if_pos this, ih]
  exact this _
theorem InG.stab {t : TabD} (hw : TabW t) (h : checkTab t = 0) {j : Nat} (hj : j < t.n.toNat) : InG t (rowAt t (t.n.toNat + j)) := by
  have g := TabG.of hw h
  have n0 := g.n0
  have nl := g.nl
  obtain ⟨_, vS, nS⟩ := g.at_ (i := t.n.toNat + j) (by omega)
  refine ⟨vS, nS, ?_⟩
  have key : ∀ k, k ≤ t.n.toNat → groupK t (rowAt t (t.n.toNat + j)) k = if j < k then rowAt t (t.n.toNat + j) else ⟨t.n, 0, 0, 0⟩ := by
    intro k
    induction k with
    | zero => intro _; rfl
    | succ k ih =>
      intro hk
      have hc := rows_ac hw h (i := t.n.toNat + j) (j := k) (by omega) (by omega)
      unfold acP at hc
      rw [groupK, ih (by omega)]
      by_cases h1 : k = j
      · subst h1
        rw [decide_eq_true (by omega)] at hc
        rw [if_neg (by rw [Bool.not_eq_true']  at hc; rw [hc]; decide), if_neg (Nat.lt_irrefl k), if_pos (Nat.lt_succ_self k)]
        have e := (mul_eye vS).2
        rw [nS] at e
        exact e
      · rw [decide_eq_false (by omega)] at hc
        rw [if_pos (by simpa using hc)]
        by_cases h2 : j < k
        · rw [if_pos h2, if_pos (by omega)]
        · rw [if_neg h2, if_neg (by omega)]
  rw [key _ (Nat.le_refl _), if_pos hj]
theorem InG.comm {t : TabD} (hw : TabW t) (h : checkTab t = 0) {x : PauD} (hx : InG t x) {j : Nat} (hj : j < t.n.toNat) : commP x (rowAt t (t.n.toNat + j)) = true := by
  have := groupK_stab hw h x (Nat.le_refl _) hj
  rw [hx.2.2] at this
  exact this
theorem value_one {t : TabD} (hw : TabW t) (h : checkTab t = 0) {x : PauD} (hv : PauV x) (hn : x.n = t.n) : valueS t x = 1 ↔ InG t x := by
  unfold valueS
  constructor
  · intro h1
    split at h1
    · split at h1
      · rename_i h2 h3
        refine ⟨hv, hn, ?_⟩
        unfold pauEqB at h3
        simp only [Bool.and_eq_true, beq_iff_eq, Bool.and_true] at h3
        obtain ⟨e1, e2, e3, e4⟩ := h3
        have e2 : (groupK t x t.n.toNat).x = x.x := by omega
        have e3 : (groupK t x t.n.toNat).z = x.z := by omega
        cases hg : groupK t x t.n.toNat with
        | mk a b c d => rw [hg] at e1 e2 e3 e4; cases x; simp only at e1 e2 e3 e4; rw [e1, e2, e3, e4]
      · cases h1
    · cases h1
  · intro hx
    rw [if_pos (allComm_iff.2 fun i hi => hx.comm hw h hi), hx.2.2, if_pos]
    unfold pauEqB; simp
end Go.Ideal

-- Yf
set_option linter.unusedSimpArgs false
set_option linter.unusedVariables false
namespace Go.Ideal
open Go Go.Proofs Go.RowKit
/-! ### The reference's Certain and Value -/
instance : CallIs Try.prog 46 := .of Try.func46 rfl rfl
instance : CallIs Try.prog 13 := .of Try.func13 rfl rfl
instance : CallIs Try.prog 14 := .of Try.func14 rfl rfl
end Go.Ideal

-- Yg
set_option linter.unusedSimpArgs false
set_option linter.unusedVariables false
namespace Go.Ideal
open Go Go.Proofs Go.RowKit
/-! ### The reference's Zero -/
instance : CallIs Try.prog 12 := .of Try.func12 rfl rfl
end Go.Ideal

-- Yh
set_option linter.unusedSimpArgs false
set_option linter.unusedVariables false
namespace Go.Ideal
open Go Go.Proofs Go.RowKit
/-! ### Same, of both -/
instance : CallIs Try.prog 52 := .of Try.func52 rfl rfl
instance : CallIs Try.prog 53 := .of Try.func53 rfl rfl
instance : CallIs Try.prog 19 := .of Try.func19 rfl rfl
end Go.Ideal

-- Yi
set_option linter.unusedSimpArgs false
set_option linter.unusedVariables false
namespace Go.Ideal
open Go Go.Proofs Go.RowKit
/-! ### The reference's Same; the law TableauAsks -/
instance : CallIs Try.prog 15 := .of Try.func15 rfl rfl
end Go.Ideal

-- Yj
set_option linter.unusedSimpArgs false
set_option linter.unusedVariables false
namespace Go.Ideal
open Go Go.Proofs Go.RowKit
/-! ### The law TableauAsks -/
end Go.Ideal

-- Za
set_option linter.unusedSimpArgs false
set_option linter.unusedVariables false
namespace Go.Ideal
open Go Go.Proofs Go.RowKit
/-! ### Behind a measurement -/
theorem PauD.eq_of {p q : PauD} (h : pauEqB p q = true) : p = q := by
  obtain ⟨a, b, c, d⟩ := p
  obtain ⟨a', b', c', d'⟩ := q
  simp only [pauEqB, Bool.and_eq_true, beq_iff_eq, Bool.and_true] at h
  obtain ⟨h1, h2, h3, h4⟩ := h
  subst h1 h4
  have h2 : b = b' := by omega
  have h3 : c = c' := by omega
  subst h2 h3
  rfl
theorem pauEqB_self (p : PauD) : pauEqB p p = true := by simp [pauEqB]
theorem rows_ne {t : TabD} (hw : TabW t) (h : checkTab t = 0) {k i : Nat} (hi : i < t.n.toNat) (hk : k < t.rows.length) : pauEqB (rowAt t k) (rowAt t (t.n.toNat + i)) = decide (k = t.n.toNat + i) := by
  have g := TabG.of hw h
  have n0 := g.n0
  have nl := g.nl
  rw [Bool.eq_iff_iff, decide_eq_true_eq]
  constructor
  · intro he
    have e := PauD.eq_of he
    have h1 := rows_ac hw h (i := t.n.toNat + i) (j := i) (by omega) (by omega)
    rw [decide_eq_true (.inl (by omega)), ← e, rows_ac hw h hk (by omega)] at h1
    have := of_decide_eq_true h1
    omega
  · rintro rfl
    exact pauEqB_self _
def prow (t : TabD) (i q : Nat) (k : Nat) : PauD := if k ≠ i ∧ k ≠ t.n.toNat + i ∧ xAt q (rowAt t k) = true then mulP (rowAt t (t.n.toNat + i)) (rowAt t k) else rowAt t k
def pfill (t : TabD) (i q m : Nat) : List PauD := (List.range t.rows.length).map fun k => if k < m then prow t i q k else rowAt t k
theorem pfill_0 (t : TabD) (i q : Nat) : pfill t i q 0 = t.rows := by
  refine List.ext_getElem? fun k => ?_
  unfold pfill
  rw [List.getElem?_map]
  by_cases h : k < t.rows.length
  · rw [List.getElem?_range h]
    obtain ⟨p, hp⟩ : ∃ p, t.rows[k]? = some p := ⟨_, List.getElem?_eq_getElem h⟩
    simp [hp, rowAt_get hp]
  · rw [List.getElem?_eq_none (by simp; omega), List.getElem?_eq_none (by omega)]; rfl
theorem pfill_len (t : TabD) (i q m : Nat) : (pfill t i q m).length = t.rows.length := by simp [pfill]
theorem pfill_at {t : TabD} {i q m : Nat} (h : m < t.rows.length) : (pfill t i q m)[m]? = some (rowAt t m) := by
  unfold pfill
  rw [List.getElem?_map, List.getElem?_range h]; simp
theorem pfill_set (t : TabD) (i q m : Nat) : (pfill t i q m).set m (prow t i q m) = pfill t i q (m + 1) := by
  have e : prow t i q m = (fun k => if k < m + 1 then prow t i q k else rowAt t k) m := by simp
  unfold pfill
  conv => lhs; rw [e]
  refine map_set (N := t.rows.length) (i := m) (f := fun k => if k < m then prow t i q k else rowAt t k) (g := fun k => if k < m + 1 then prow t i q k else rowAt t k) fun j hj hne => ?_
  by_cases h1 : j < m
  · simp only [h1, if_true]; rw [if_pos (by omega)]
  · simp only [h1, if_false]; rw [if_neg (by omega)]
theorem pfill_skip {t : TabD} {i q m : Nat} (h : prow t i q m = rowAt t m) : pfill t i q (m + 1) = pfill t i q m := by
  unfold pfill
  refine List.map_congr_left fun k _ => ?_
  by_cases h1 : k < m
  · rw [if_pos h1, if_pos (by omega)]
  · rw [if_neg h1]
    by_cases h2 : k = m
    · rw [if_pos (by omega), h2, h]
    · rw [if_neg (by omega)]
def projRows (t : TabD) (i q : Nat) (b : Int) : List PauD := ((pfill t i q t.rows.length).set i (rowAt t (t.n.toNat + i))).set (t.n.toNat + i) (oneZ t.n q b)
def projC (t : TabD) (q b : Int) : TabD × Int :=
  if checkTab t = 0 then (if 0 ≤ q ∧ q < t.n then (if 0 ≤ b ∧ b ≤ 1 then (if (certS t q.toNat).2 = true then (if (certS t q.toNat).1 = b then (t, 0) else (noTab, 131)) else (⟨t.n, projRows t (looseS t q.toNat).toNat q.toNat b⟩, 0)) else (noTab, 2)) else (noTab, 112)) else (noTab, 180)
theorem certS_loose (t : TabD) (q : Nat) : (certS t q).2 = !decide (0 ≤ looseS t q) := by
  unfold certS; split <;> simp_all
theorem idxF_spec {α : Type} (p : α → Bool) : ∀ (l : List α) (k : Nat), (idxF p l k = -1 ∧ ∀ x ∈ l, p x = false) ∨ ∃ i x, idxF p l k = ((k + i : Nat) : Int) ∧ l[i]? = some x ∧ p x = true ∧ ∀ j, j < i → ∀ y, l[j]? = some y → p y = false := by
  intro l
  induction l with
  | nil => intro k; exact .inl ⟨rfl, by simp⟩
  | cons a l ih =>
    intro k
    rw [idxF]
    by_cases h : p a = true
    · rw [if_pos h]
      exact .inr ⟨0, a, by simp, rfl, h, fun j hj => by omega⟩
    · rw [if_neg h]
      rcases ih (k + 1) with ⟨h1, h2⟩ | ⟨i, x, h1, h2, h3, h4⟩
      · refine .inl ⟨h1, fun x hx => ?_⟩
        rcases List.mem_cons.1 hx with h5 | h5
        · rw [h5]; simpa using h
        · exact h2 x h5
      · refine .inr ⟨i + 1, x, ?_, h2, h3, fun j hj y hy => ?_⟩
        · rw [h1]; congr 1; omega
        · cases j with
          | zero => simp at hy; subst hy; simpa using h
          | succ j => exact h4 j (by omega) y (by simpa using hy)
theorem loose_spec {t : TabD} (g : TabG t) (q : Nat) (h : 0 ≤ looseS t q) : ∃ i : Nat, looseS t q = (i : Int) ∧ i < t.n.toNat ∧ xAt q (rowAt t (t.n.toNat + i)) = true ∧ ∀ j, j < i → xAt q (rowAt t (t.n.toNat + j)) = false := by
  have n0 := g.n0
  have nl := g.nl
  unfold looseS at *
  rcases idxF_spec (xAt q) (t.rows.drop t.n.toNat) 0 with ⟨h1, _⟩ | ⟨i, x, h1, h2, h3, h4⟩
  · omega
  · rw [List.getElem?_drop] at h2
    have hl := (List.getElem?_eq_some_iff.1 h2).1
    refine ⟨i, by rw [h1]; congr 1; omega, by omega, by rw [rowAt_get h2]; exact h3, fun j hj => ?_⟩
    obtain ⟨y, hy⟩ : ∃ y, t.rows[t.n.toNat + j]? = some y := ⟨_, List.getElem?_eq_getElem (by omega)⟩
    rw [rowAt_get hy]
    exact h4 j hj y (by rw [List.getElem?_drop]; exact hy)
set_option synthInstance.maxSize 4000 in
theorem clonePO {ps : List PauD} (hne : ps ≠ []) (hl : ps.length ≤ 2 ^ 30) : FnO Try.prog 60 [.sl 4 (pauRows ps)] (fun r B => ∃ b, r = .v (.slice (some (ad b 0)) ps.length ps.length) ∧ B = [(b, .arr 4 (pauRows ps) 27 false)]) := by
  refine FnO_of Try.func60 rfl (Nat.le_of_ble_eq_true rfl) (fun X => ?_)
  have hL : (pauRows ps).length = ps.length := by simp [pauRows]
  have hl' : ps.length < 2 ^ 31 := by omega
  repeat (refine StepC.go ?_)
  refine TS_isnil ?_
  intro b hb
  have hbf : b = false := by
    cases b with
    | false => rfl
    | true => have := hb rfl; exact absurd (by simpa [pauRows] using this) hne
  subst hbf
  repeat (first | refine StepC.go ?_ | intro _ | refine TS_append_own (by omega) (fun _ => ?_) | refine TV_cond_f (by first | rfl | assumption) ?_)
  have : Sm63 (0 + ps.length) := ⟨by omega⟩
  skip
  rename_i bs bx
  have e3 : ((pauRows ps).isEmpty && true) = false := by
    cases ps with
    | nil => exact absurd rfl hne
    | cons a l => rfl
  simp only [Nat.zero_add, List.nil_append, e3]
  refine retO_1 [(bx, .arr 4 (pauRows ps) 27 false)] (.inr rfl) (fun p hp => ?_) ⟨bx, rfl, rfl⟩
  rw [List.mem_singleton.1 hp]
  intro h1
  exact absurd (by simpa [pauRows] using h1) hne
instance : CallIs Try.prog 60 := .of Try.func60 rfl rfl
instance : CallIs Try.prog 26 := .of Try.func26 rfl rfl
instance {ps : List PauD} : RealX (pauRows ps) ps.isEmpty := ⟨fun h => by simpa [pauRows] using h⟩
theorem pgetD_at {l : List PauD} {i : Nat} (h : i < l.length) : l[i]? = some (l.getD i noPau) := by simp [List.getD, h]
theorem chgA (k i N : Nat) (y : Bool) : (if (if (!decide ((k : Int) = (i : Int))) = true then !decide (k = N + i) else false) = true then y else false) = decide (k ≠ i ∧ k ≠ N + i ∧ y = true) := by
  have q0 : ((k : Int) = (i : Int)) ↔ k = i := by omega
  simp only [q0]
  by_cases q1 : k = i <;> by_cases q2 : k = N + i <;> cases y <;> simp [q1, q2]
theorem chgB (k i N : Nat) (y : Bool) (hg : (if (!decide ((k : Int) = (i : Int))) = true then !decide (k = N + i) else false) = !true) : false = decide (k ≠ i ∧ k ≠ N + i ∧ y = true) := by
  rw [← chgA, hg]; rfl
theorem chgC (k i N : Nat) (y : Bool) (hg : (!decide ((k : Int) = (i : Int))) = !true) : false = decide (k ≠ i ∧ k ≠ N + i ∧ y = true) := by
  rw [← chgA, hg]; rfl
/-- the answer of Project: own memory, or nothing -/
def ProjO (t : TabD) (q b : Int) (r : Tr) (B : Boxes) : Prop :=
  if (projC t q b).2 = 0 then ∃ pb, r = .tup [.agg [intT t.n, .v (.slice (some (ad pb 0)) t.rows.length t.rows.length)], intT 0] ∧ B = [(pb, .arr 4 (pauRows (projC t q b).1.rows) 27 false)]
  else r = .tup [.agg [intT 0, .v (.slice none 0 0)], intT (projC t q b).2] ∧ B = []
set_option synthInstance.maxSize 4000 in
set_option synthInstance.maxHeartbeats 400000 in
set_option maxHeartbeats 4000000 in
theorem projectO {t : TabD} {q b : Int} (hw : TabW t) : FnO Try.prog 28 [tabT t, intT q, intT b] (ProjO t q b) := by
  refine FnO_of Try.func28 rfl (Nat.le_of_ble_eq_true rfl) (fun X => ?_)
  repeat (first | refine StepC.go ?_ | intro _)
  rename_i pt pr
  refine TS_callE (tabCheckT hw) ?_
  repeat (refine StepC.go ?_)
  refine TV_cond ?_ ?_ <;> intro hc
  · have h0 : ¬ checkTab t = 0 := by simpa using hc
    have e : projC t q b = (noTab, 180) := by unfold projC; rw [if_neg h0]
    repeat (refine StepC.go ?_)
    refine retO_2 [] (.inr rfl) (by simp) ?_
    unfold ProjO
    rw [e, if_neg (by decide), (checkTab_or t).resolve_left h0]
    exact ⟨rfl, rfl⟩
  have h1 : checkTab t = 0 := by simpa using hc
  have g := TabG.of hw h1
  repeat (refine StepC.go ?_)
  refine TS_cut (fun σ B => TGet σ 23 (boolT (outS t.n q)) ∧ TGet σ 1 (intT q) ∧ TGet σ 2 (intT b) ∧ TGet σ 3 (ptrT pt) ∧ TGet σ 6 (ptrT pr) ∧ SubP B [(pt, .cells (tabCs t) 24 true), (pr, .cells [intT 0, .v (.slice none 0 0)] 24 true)]) ?_ ?_
  · repeat' (first | refine StepC.go ?_ | refine TS_on rfl (by first | rfl | assumption) ?_ | refine TS_off rfl (by first | rfl | assumption) ?_ | refine TS_puw (Pu.pick_t (by first | rfl | assumption)) ?_ | (refine TS_guard rfl ?_ ?_ <;> intro hg))
    all_goals exact ⟨tget_as (by simp_all [outS]), inferInstance, inferInstance, inferInstance, inferInstance, inferInstance⟩
  rintro σ B ⟨g23, g1, g2, g3, g6, hB⟩
  refine TV_keep _ (p := hB) ?_
  refine TV_cond ?_ ?_ <;> intro hc2
  · have e : projC t q b = (noTab, 112) := by unfold projC; rw [if_pos h1, if_neg (by simp [outS] at hc2; omega)]
    repeat (refine StepC.go ?_)
    refine retO_2 [] (.inr rfl) (by simp) ?_
    unfold ProjO
    rw [e, if_neg (by decide)]
    exact ⟨rfl, rfl⟩
  have hq : 0 ≤ q ∧ q < t.n := by simp [outS] at hc2; omega
  clear hB hc hc2
  obtain ⟨Q, rfl⟩ : ∃ Q : Nat, q = (Q : Int) := ⟨q.toNat, by omega⟩
  have nl := g.nl
  have n1 := g.n1
  obtain ⟨N, hN⟩ : ∃ N : Nat, t.n = (N : Int) := ⟨t.n.toNat, by omega⟩
  have hNt : t.n.toNat = N := by omega
  have hne : t.rows ≠ [] := fun h => by rw [h] at nl; simp at nl; omega
  have hL : (pauRows t.rows).length = t.rows.length := by simp [pauRows]
  repeat (refine StepC.go ?_)
  refine TS_cut (fun σ B => TGet σ 33 (boolT (!(decide (0 ≤ b) && decide (b ≤ 1)))) ∧ TGet σ 1 (intT (Q : Int)) ∧ TGet σ 2 (intT b) ∧ TGet σ 3 (ptrT pt) ∧ TGet σ 6 (ptrT pr) ∧ SubP B [(pt, .cells (tabCs t) 24 true), (pr, .cells [intT 0, .v (.slice none 0 0)] 24 true)]) ?_ ?_
  · repeat' (first | refine StepC.go ?_ | refine TS_on rfl (by first | rfl | assumption) ?_ | refine TS_off rfl (by first | rfl | assumption) ?_ | refine TS_puw (Pu.pick_t (by first | rfl | assumption)) ?_ | (refine TS_guard rfl ?_ ?_ <;> intro hg))
    all_goals refine ⟨tget_as (congrArg (fun b => boolT b) ?_), inferInstance, inferInstance, inferInstance, inferInstance, inferInstance⟩
    all_goals (rw [Bool.eq_iff_iff]; simp only [Bool.if_true_left, Bool.if_false_right, Bool.and_eq_true, Bool.and_eq_false_iff, Bool.not_eq_true', Bool.or_eq_true, Bool.or_eq_false_iff, decide_eq_true_eq, decide_eq_false_iff_not, Bool.not_eq_false', Bool.not_false, Bool.not_true, true_iff, false_iff, Bool.decide_eq_true] at * <;> grind)
  rintro σ B ⟨g33, g1, g2, g3, g6, hB⟩
  refine TV_keep _ (p := hB) ?_
  refine TV_cond ?_ ?_ <;> intro hc3
  · have e : projC t Q b = (noTab, 2) := by unfold projC; rw [if_pos h1, if_pos hq, if_neg (by simp at hc3; omega)]
    repeat (refine StepC.go ?_)
    refine retO_2 [] (.inr rfl) (by simp) ?_
    unfold ProjO
    rw [e, if_neg (by decide)]
    exact ⟨rfl, rfl⟩
  have hb : 0 ≤ b ∧ b ≤ 1 := by simp at hc3; omega
  clear hB hc3
  repeat (first | refine StepC.go ?_ | refine TD_take rfl rfl ?_ | refine TD_load rfl rfl ?_ | refine TD_one rfl ?_ | refine FiltT_nil ?_ | refine FiltT_drop rfl ?_ | refine FiltT_keep rfl ?_ | refine TD_virt rfl rfl rfl (fun _ => ?_) | refine TV_draw (id := 8) (plan := [.take 0, .take 1, .take 2, .take 3, .virt 6, .one 4, .take 5, .one 7]) (by kernel_rfl) ?_)
  refine TS_callO (clonePO hne (by omega)) ?_
  rintro _ _ ⟨pb, rfl, rfl⟩
  simp only [List.singleton_append]
  repeat (first | refine StepC.go ?_ | refine TD_take rfl rfl ?_ | refine TD_one rfl ?_ | refine FiltT_nil ?_ | refine FiltT_drop rfl ?_)
  rename_i px
  refine TS_callE (tabCertT g hq.2) ?_
  have hreal : ∀ ps : List PauD, ps.length = t.rows.length → pauRows ps = [] → False := fun ps h1 h2 => hne (List.eq_nil_of_length_eq_zero (by rw [← h1]; simpa [pauRows] using congrArg List.length h2))
  cases hcs : (certS t Q).2 with
  | true =>
    repeat (first | refine StepC.go ?_ | refine TV_cond_t (by first | rfl | assumption) ?_)
    refine TV_cond ?_ ?_ <;> intro hc4
    · have e : projC t Q b = (noTab, 131) := by
        unfold projC; rw [if_pos h1, if_pos hq, if_pos hb, Int.toNat_natCast, if_pos hcs, if_neg (by simpa using hc4)]
      repeat (refine StepC.go ?_)
      refine retO_2 [] (.inr rfl) (by simp) ?_
      unfold ProjO
      rw [e, if_neg (by decide)]
      exact ⟨rfl, rfl⟩
    · have e : projC t Q b = (t, 0) := by
        unfold projC; rw [if_pos h1, if_pos hq, if_pos hb, Int.toNat_natCast, if_pos hcs, if_pos (by simpa using hc4)]
      repeat (refine StepC.go ?_)
      refine retO_2 [(pb, .arr 4 (pauRows t.rows) 27 false)] (.inr rfl) (fun p hp => ?_) ?_
      · rw [List.mem_singleton.1 hp]; exact fun h => (hreal _ rfl h).elim
      · unfold ProjO
        rw [e, if_pos rfl]
        exact ⟨pb, rfl, rfl⟩
  | false =>
    have hl0 : 0 ≤ looseS t Q := by
      have := certS_loose t Q
      rw [hcs] at this; simpa using this
    obtain ⟨i, hi1, hi2, hi3, hi4⟩ := loose_spec g Q hl0
    have e : projC t Q b = (⟨t.n, projRows t i Q b⟩, 0) := by
      unfold projC; rw [if_pos h1, if_pos hq, if_pos hb, Int.toNat_natCast, if_neg (by rw [hcs]; decide), hi1, Int.toNat_natCast]
    repeat (first | refine StepC.go ?_ | refine TV_cond_f (by first | rfl | assumption) ?_)
    refine TS_callE (looseT g (by omega) (by omega)) ?_
    rw [hi1]
    obtain ⟨hs2, vs, ms⟩ := g.at_ (i := N + i) (by omega)
    have ngs : NthG (pauRows t.rows) (N + i) (pauCs (rowAt t (N + i))) := .map pauCs hs2
    have an : AsNat (t.n + (i : Int)) (N + i) := ⟨by rw [hN]; omega⟩
    repeat (first | refine StepC.go ?_ | intro _ | refine TS_puw (Pu.addi (by omega)) ?_)
    rename_i ps
    rw [hL]
    have e0 := pfill_0 t i Q
    refine TV_loop (fun d σ B => ∃ (k : Nat), d = t.rows.length - k ∧ k ≤ t.rows.length ∧ TGet σ 73 (intT (k : Int)) ∧ TGet σ 72 (intT (t.rows.length : Int)) ∧ TGet σ 71 (.sl 4 (pauRows t.rows)) ∧ TGet σ 12 (intT (i : Int)) ∧ TGet σ 13 (ptrT ps) ∧ TGet σ 9 (ptrT px) ∧ TGet σ 6 (ptrT pr) ∧ TGet σ 3 (ptrT pt) ∧ TGet σ 1 (intT (Q : Int)) ∧ TGet σ 2 (intT b) ∧
        SubP B [(ps, .cells (pauCs (rowAt t (N + i))) 27 true), (pb, .arr 4 (pauRows (pfill t i Q k)) 27 false), (px, .cells [intT t.n, .v (.slice (some (ad pb 0)) t.rows.length t.rows.length)] 24 true), (pt, .cells (tabCs t) 24 true), (pr, .cells [intT 0, .v (.slice none 0 0)] 24 true)]) t.rows.length
      ⟨0, by omega, Nat.zero_le _, tget_as rfl, inferInstance, inferInstance, inferInstance, inferInstance, inferInstance, inferInstance, inferInstance, inferInstance, inferInstance, by rw [e0]; infer_instance⟩ ?_
    clear g1 g2 g3 g6 g33
    rintro d σ B ⟨k, rfl, hk, g73, g72, g71, g12, g13, g9, g6, g3, g1, g2, hB⟩
    refine TV_keep _ (p := hB) ?_
    have hlF : LenT (pauRows (pfill t i Q k)) t.rows.length := ⟨by rw [pauRows, List.length_map, pfill_len]⟩
    repeat (refine StepC.go ?_)
    refine TV_cond ?_ ?_ <;> intro hc5
    · have hkl : k < t.rows.length := by have := of_decide_eq_true hc5; omega
      obtain ⟨hk2, vk, mk⟩ := g.at_ hkl
      have ngk : NthG (pauRows t.rows) k (pauCs (rowAt t k)) := .map pauCs hk2
      have ngf : NthG (pauRows (pfill t i Q k)) k (pauCs (rowAt t k)) := .map pauCs (pfill_at hkl)
      have h64 : Lt64 (rowAt t k).x := ⟨vk.1.1⟩
      have h65 : Lt64 ((rowAt t k).x >>> Q) := ⟨Nat.lt_of_le_of_lt (Nat.shiftRight_le _ _) vk.1.1⟩
      have hne2 := rows_ne hw h1 (k := k) (i := i) hi2 hkl
      rw [hNt] at hne2
      unfold pauEqB at hne2
      repeat (first | refine StepC.go ?_ | intro _)
      rename_i pk
      refine TS_cut (fun σ B => TGet σ 93 (boolT (decide (k ≠ i ∧ k ≠ N + i ∧ xAt Q (rowAt t k) = true))) ∧ TGet σ 73 (intT (k : Int)) ∧ TGet σ 72 (intT (t.rows.length : Int)) ∧ TGet σ 71 (.sl 4 (pauRows t.rows)) ∧ TGet σ 14 (intT (k : Int)) ∧ TGet σ 15 (ptrT pk) ∧ TGet σ 12 (intT (i : Int)) ∧ TGet σ 13 (ptrT ps) ∧ TGet σ 9 (ptrT px) ∧ TGet σ 6 (ptrT pr) ∧ TGet σ 3 (ptrT pt) ∧ TGet σ 1 (intT (Q : Int)) ∧ TGet σ 2 (intT b) ∧
        SubP B [(pk, .cells (pauCs (rowAt t k)) 27 true), (ps, .cells (pauCs (rowAt t (N + i))) 27 true), (pb, .arr 4 (pauRows (pfill t i Q k)) 27 false), (px, .cells [intT t.n, .v (.slice (some (ad pb 0)) t.rows.length t.rows.length)] 24 true), (pt, .cells (tabCs t) 24 true), (pr, .cells [intT 0, .v (.slice none 0 0)] 24 true)]) ?_ ?_
      · repeat' (first | refine StepC.go ?_ | refine TS_on rfl (by first | rfl | assumption) ?_ | refine TS_off rfl (by first | rfl | assumption) ?_ | refine TS_puw (Pu.pick_f (by first | rfl | assumption)) ?_ | (refine TS_guard rfl ?_ ?_ <;> intro hg))
        all_goals refine ⟨tget_as (congrArg (fun b => boolT b) ?_), inferInstance, inferInstance, inferInstance, inferInstance, inferInstance, inferInstance, inferInstance, inferInstance, inferInstance, inferInstance, inferInstance, inferInstance, inferInstance⟩
        all_goals simp only [hne2] at *
        all_goals try rw [show decide ((((rowAt t k).x >>> Q &&& 1 : Nat) : Int) = 1) = xAt Q (rowAt t k) from rfl]
        all_goals generalize xAt Q (rowAt t k) = y
        all_goals first
          | exact chgA k i N _
          | exact chgB k i N _ hg
          | exact chgC k i N _ hg
      rintro σ B ⟨g93, g73, g72, g71, g14, g15, g12, g13, g9, g6, g3, g1, g2, hB⟩
      refine TV_keep _ (p := hB) ?_
      have hst := pfill_set t i Q k
      refine TV_cond ?_ ?_ <;> intro hc6
      · have hch := of_decide_eq_true hc6
        have hpr : prow t i Q k = mulP (rowAt t (N + i)) (rowAt t k) := by unfold prow; rw [hNt, if_pos hch]
        rw [hpr] at hst
        repeat (first | refine TD_take rfl rfl ?_ | refine TD_load rfl rfl ?_ | refine TD_one rfl ?_ | refine FiltT_nil ?_ | refine FiltT_drop rfl ?_ | refine FiltT_keep rfl ?_ | refine TV_draw (id := 20) (plan := [.take 0, .take 1, .take 2, .take 3, .take 4, .one 5, .take 6, .take 7, .take 8, .take 9, .one 10]) (by kernel_rfl) ?_)
        refine TS_call (mulT vs.1 vk.1) ?_
        rintro _ rfl
        rw [mulC_v vs vk (by rw [ms, mk])]
        repeat (first | refine StepC.go ?_ | refine TS_puw (Pu.addi (by omega)) ?_ | refine TD_take rfl rfl ?_ | refine TD_one rfl ?_ | refine FiltT_nil ?_ | refine FiltT_drop rfl ?_)
        refine ⟨_, ?_, k + 1, rfl, by omega, tget_as rfl, inferInstance, inferInstance, inferInstance, inferInstance, inferInstance, inferInstance, inferInstance, inferInstance, inferInstance, ?_⟩
        · omega
        · rw [← hst]; infer_instance
      · have hch := of_decide_eq_false hc6
        have hpr : prow t i Q k = rowAt t k := by unfold prow; rw [hNt, if_neg hch]
        repeat (first | refine StepC.go ?_ | refine TS_puw (Pu.addi (by omega)) ?_)
        refine ⟨_, ?_, k + 1, rfl, by omega, tget_as rfl, inferInstance, inferInstance, inferInstance, inferInstance, inferInstance, inferInstance, inferInstance, inferInstance, inferInstance, ?_⟩
        · omega
        · rw [pfill_skip hpr]; infer_instance
    · have hkl : k = t.rows.length := by have := of_decide_eq_false hc5; omega
      subst hkl
      have hs1 : NthG (pauRows (pfill t i Q t.rows.length)) i (pauCs ((pfill t i Q t.rows.length).getD i noPau)) := .map pauCs (pgetD_at (by rw [pfill_len]; omega))
      have hs3 : NthG (pauRows ((pfill t i Q t.rows.length).set i (rowAt t (N + i)))) (N + i) (pauCs ((pfill t i Q t.rows.length).getD (N + i) noPau)) := .map pauCs (by rw [List.getElem?_set_ne (by omega)]; exact pgetD_at (by rw [pfill_len]; omega))
      have hlG : LenT (pauRows ((pfill t i Q t.rows.length).set i (rowAt t (N + i)))) t.rows.length := ⟨by rw [pauRows, List.length_map, List.length_set, pfill_len]⟩
      repeat (first | refine StepC.go ?_ | refine TD_take rfl rfl ?_ | refine TD_load rfl rfl ?_ | refine TD_one rfl ?_ | refine FiltT_nil ?_ | refine FiltT_drop rfl ?_ | refine FiltT_keep rfl ?_ | refine TD_takew rfl rfl (Pu.addi (by omega)) ?_ | refine TV_draw (id := 22) (plan := [.take 0, .take 1, .take 2, .take 3, .take 4, .take 5, .take 6, .take 7, .take 8, .take 9, .take 10, .take 11, .take 12, .take 13, .one 14, .take 15, .one 16, .take 17, .one 18]) (by kernel_rfl) ?_)
      refine TS_callE (tabOneT hb) ?_
      repeat (first | refine StepC.go ?_ | refine TD_take rfl rfl ?_ | refine TD_one rfl ?_ | refine FiltT_nil ?_ | refine FiltT_drop rfl ?_ | refine FiltT_keep rfl ?_)
      refine retO_2 [(pb, .arr 4 (pauRows (projRows t i Q b)) 27 false)] (sp := by unfold projRows; rw [hNt]; infer_instance) (.inr rfl) (fun p hp => ?_) ?_
      · rw [List.mem_singleton.1 hp]; exact fun h => (hreal _ (by unfold projRows; simp [pfill_len]) h).elim
      · unfold ProjO
        rw [e, if_pos rfl]
        exact ⟨pb, rfl, rfl⟩
end Go.Ideal

-- Zb
set_option linter.unusedSimpArgs false
set_option linter.unusedVariables false
namespace Go.Ideal
open Go Go.Proofs Go.RowKit
/-! ### What makes a tableau; behind a measurement it is one: the plain law -/
theorem checkTab_of {t : TabD} (n0 : 0 ≤ t.n) (n1 : t.n ≤ 64) (nl : (t.rows.length : Int) = 2 * t.n) (hr : ∀ i, i < t.rows.length → PauV (rowAt t i) ∧ (rowAt t i).n = t.n ∧ (rowAt t i).ph % 2 = 0)
    (hc : ∀ i j, j < i → i < t.rows.length → acP (rowAt t i) (rowAt t j) = decide (i = j + t.n.toNat)) : checkTab t = 0 := by
  have hp : ∀ i, i < t.rows.length → ∀ k, k ≤ i → pairsB t i k = true := by
    intro i hi k
    induction k with
    | zero => intro _; rfl
    | succ k ih =>
      intro hk
      rw [pairsB, ih (by omega), Bool.true_and]
      have h1 := hc i k (by omega) hi
      unfold acP at h1
      have h2 : commP (rowAt t i) (rowAt t k) = !decide (i = k + t.n.toNat) := by rw [← h1, Bool.not_not]
      rw [h2]
      have h3 : decide (i = k + t.n.toNat) = decide ((i : Int) = (k : Int) + t.n) := decide_eq_decide.2 (by omega)
      rw [h3]
      cases decide ((i : Int) = (k : Int) + t.n) <;> rfl
  have hb : ∀ k, k ≤ t.rows.length → rowsB t k = true := by
    intro k
    induction k with
    | zero => intro _; rfl
    | succ k ih =>
      intro hk
      obtain ⟨v, n, e⟩ := hr k (by omega)
      rw [rowsB, ih (by omega), hp k (by omega) k (Nat.le_refl _)]
      have h1 : rowOk t (rowAt t k) = true := by
        unfold rowOk
        rw [decide_eq_true v.2, decide_eq_true n, decide_eq_true (Int.tmod_eq_zero_of_dvd (Int.dvd_of_emod_eq_zero e))]
        rfl
      rw [h1]; rfl
  unfold checkTab
  rw [if_pos]
  refine ⟨?_, hb _ (Nat.le_refl _)⟩
  unfold tabR
  rw [decide_eq_true n0, decide_eq_true n1, decide_eq_true nl]; rfl
theorem TabW_of {t : TabD} (h : ∀ i, i < t.rows.length → PauV (rowAt t i)) : TabW t := by
  intro p hp
  obtain ⟨i, hi⟩ := List.getElem?_of_mem hp
  have := h i (List.getElem?_eq_some_iff.1 hi).1
  rw [rowAt_get hi] at this
  exact this.1
theorem mulP_x (p q : PauD) : (mulP p q).x = p.x ^^^ q.x := rfl
theorem acP_mul (p q r : PauD) : acP (mulP p q) r = (acP p r ^^ acP q r) := acP_xor rfl rfl
theorem acP_mulr (p q r : PauD) : acP r (mulP p q) = (acP r p ^^ acP r q) := by rw [acP_symm, acP_mul, acP_symm p, acP_symm q]
theorem acP_oneZ {n : Int} {q : Nat} (hq : q < 64) (b : Int) (r : PauD) : acP (oneZ n q b) r = xAt q r := by
  have : commP (oneZ n q b) r = commP (oneZ n q 0) r := rfl
  unfold acP
  rw [this, oneZ_comm hq, xAt_bit, Bool.not_not]
theorem oneZ_vb {n b : Int} {q : Nat} (h0 : 0 ≤ n) (h1 : n ≤ 64) (hq : (q : Int) < n) (hb : 0 ≤ b ∧ b ≤ 1) : PauV (oneZ n q b) := by
  have h := oneZ_v h0 h1 hq
  rw [pauV_iff] at h ⊢
  obtain ⟨a1, a2, a3, a4, a5⟩ := h
  exact ⟨a1, a2, by show 0 ≤ 2 * b; omega, by show 2 * b ≤ 3; omega, a5⟩
theorem projRows_len (t : TabD) (i q : Nat) (b : Int) : (projRows t i q b).length = t.rows.length := by unfold projRows; simp [pfill_len]
def projD (t : TabD) (i q : Nat) (b : Int) : TabD := ⟨t.n, projRows t i q b⟩
theorem proj_at {t : TabD} {i q : Nat} {b : Int} {k : Nat} (hk : k < t.rows.length) (hi : i < t.n.toNat) : rowAt (projD t i q b) k = if k = t.n.toNat + i then oneZ t.n q b else if k = i then rowAt t (t.n.toNat + i) else prow t i q k := by
  have hp : (pfill t i q t.rows.length)[k]? = some (prow t i q k) := by
    unfold pfill
    rw [List.getElem?_map, List.getElem?_range hk]; simp [hk]
  refine rowAt_get ?_
  show (projRows t i q b)[k]? = _
  unfold projRows
  rw [List.getElem?_set, List.getElem?_set, List.length_set, pfill_len]
  by_cases h1 : k = t.n.toNat + i
  · subst h1; simp [hk]
  · rw [if_neg (by omega), if_neg h1]
    by_cases h2 : k = i
    · subst h2; simp [hk]
    · rw [if_neg (by omega), if_neg h2]; exact hp
theorem prow_v {t : TabD} {i q : Nat} (hw : TabW t) (hck : checkTab t = 0) (hq : (q : Int) < t.n) (hi : i < t.n.toNat) (hx : xAt q (rowAt t (t.n.toNat + i)) = true) {k : Nat} (hk : k < t.rows.length) (hki : k ≠ i) : PauV (prow t i q k) ∧ (prow t i q k).n = t.n ∧ (prow t i q k).ph % 2 = 0 := by
  have g := TabG.of hw hck
  have n0 := g.n0
  have nl := g.nl
  obtain ⟨_, v1, m1⟩ := g.at_ hk
  obtain ⟨_, v2, m2⟩ := g.at_ (i := t.n.toNat + i) (by omega)
  unfold prow
  split
  · rename_i h
    have hc : acP (rowAt t (t.n.toNat + i)) (rowAt t k) = false := by
      rw [rows_ac hw hck (by omega) hk]; exact decide_eq_false (by omega)
    refine ⟨mul_v v2 v1 (by rw [m1, m2]), m2, mul_even (row_even hck (by omega)) (row_even hck hk) ?_⟩
    unfold acP at hc; simpa using hc
  · exact ⟨v1, m1, row_even hck hk⟩
theorem prow_x {t : TabD} {i q : Nat} (hw : TabW t) (hck : checkTab t = 0) (hq : (q : Int) < t.n) (hi : i < t.n.toNat) (hx : xAt q (rowAt t (t.n.toNat + i)) = true) {k : Nat} (hki : k ≠ i) (hkn : k ≠ t.n.toNat + i) : xAt q (prow t i q k) = false := by
  unfold prow
  cases h : xAt q (rowAt t k) with
  | true =>
    rw [if_pos ⟨hki, hkn, rfl⟩, xAt_bit, mulP_x, Nat.testBit_xor, ← xAt_bit, ← xAt_bit, hx, h]; rfl
  | false => rw [if_neg (by simp), h]
theorem prow_ac1 {t : TabD} {i q : Nat} (hw : TabW t) (hck : checkTab t = 0) (hq : (q : Int) < t.n) (hi : i < t.n.toNat) (hx : xAt q (rowAt t (t.n.toNat + i)) = true) {k l : Nat} (hk : k < t.rows.length) (hki : k ≠ i) (hl : l < t.rows.length) (hli : l ≠ i) : acP (prow t i q k) (rowAt t l) = acP (rowAt t k) (rowAt t l) := by
  have g := TabG.of hw hck
  have n0 := g.n0
  have nl := g.nl
  unfold prow
  split
  · rw [acP_mul, rows_ac hw hck (i := t.n.toNat + i) (by omega) hl, decide_eq_false (by omega), Bool.false_xor]
  · rfl
theorem prow_ac2 {t : TabD} {i q : Nat} (hw : TabW t) (hck : checkTab t = 0) (hq : (q : Int) < t.n) (hi : i < t.n.toNat) (hx : xAt q (rowAt t (t.n.toNat + i)) = true) {k l : Nat} (hk : k < t.rows.length) (hki : k ≠ i) (hl : l < t.rows.length) (hli : l ≠ i) : acP (prow t i q k) (prow t i q l) = acP (rowAt t k) (rowAt t l) := by
  have g := TabG.of hw hck
  have n0 := g.n0
  have nl := g.nl
  conv => lhs; rw [show prow t i q l = if l ≠ i ∧ l ≠ t.n.toNat + i ∧ xAt q (rowAt t l) = true then mulP (rowAt t (t.n.toNat + i)) (rowAt t l) else rowAt t l from rfl]
  split
  · rw [acP_mulr, prow_ac1 hw hck hq hi hx hk hki (by omega) (by omega), prow_ac1 hw hck hq hi hx hk hki hl hli, rows_ac hw hck hk (j := t.n.toNat + i) (by omega), decide_eq_false (by omega), Bool.false_xor]
  · exact prow_ac1 hw hck hq hi hx hk hki hl hli
theorem proj_ok {t : TabD} {i q : Nat} {b : Int} (hw : TabW t) (hck : checkTab t = 0) (hq : (q : Int) < t.n) (hi : i < t.n.toNat) (hx : xAt q (rowAt t (t.n.toNat + i)) = true) (hb : 0 ≤ b ∧ b ≤ 1) : TabW (projD t i q b) ∧ checkTab (projD t i q b) = 0 := by
  have g := TabG.of hw hck
  have n0 := g.n0
  have n1 := g.n1
  have nl := g.nl
  have hlen : (projD t i q b).rows.length = t.rows.length := projRows_len t i q b
  have hn : (projD t i q b).n = t.n := rfl
  obtain ⟨_, vs, ms⟩ := g.at_ (i := t.n.toNat + i) (by omega)
  have hr : ∀ k, k < t.rows.length → PauV (rowAt (projD t i q b) k) ∧ (rowAt (projD t i q b) k).n = t.n ∧ (rowAt (projD t i q b) k).ph % 2 = 0 := by
    intro k hk
    rw [proj_at hk hi]
    split
    · exact ⟨oneZ_vb n0 n1 hq hb, rfl, by show (2 * b) % 2 = 0; omega⟩
    · split
      · exact ⟨vs, ms, row_even hck (by omega)⟩
      · rename_i h1 h2
        exact prow_v hw hck hq hi hx hk h2
  have hsa : ∀ k, k < t.rows.length → k ≠ i → acP (rowAt t (t.n.toNat + i)) (prow t i q k) = false := by
    intro k hk hki
    rw [acP_symm, prow_ac1 hw hck hq hi hx hk hki (by omega) (by omega), rows_ac hw hck hk (by omega)]
    exact decide_eq_false (by omega)
  have hza : ∀ k, k < t.rows.length → k ≠ i → k ≠ t.n.toNat + i → acP (oneZ t.n q b) (prow t i q k) = false := by
    intro k hk hki hkn
    rw [acP_oneZ (by omega)]
    exact prow_x hw hck hq hi hx hki hkn
  refine ⟨TabW_of fun k hk => (hr k (by omega)).1, checkTab_of n0 n1 (by rw [hlen]; exact nl) (fun k hk => hr k (by omega)) fun k l hlk hk => ?_⟩
  rw [hlen] at hk
  rw [proj_at hk hi, proj_at (by omega : l < t.rows.length) hi, hn]
  by_cases h1 : k = t.n.toNat + i
  · rw [if_pos h1, if_neg (by omega)]
    by_cases h2 : l = i
    · rw [if_pos h2, acP_oneZ (by omega), hx]; exact (decide_eq_true (by omega)).symm
    · rw [if_neg h2, hza l (by omega) h2 (by omega)]; exact (decide_eq_false (by omega)).symm
  · rw [if_neg h1]
    by_cases h2 : k = i
    · rw [if_pos h2, if_neg (by omega), if_neg (by omega), hsa l (by omega) (by omega)]; exact (decide_eq_false (by omega)).symm
    · rw [if_neg h2]
      by_cases h3 : l = t.n.toNat + i
      · rw [if_pos h3, acP_symm, hza k hk h2 h1]; exact (decide_eq_false (by omega)).symm
      · rw [if_neg h3]
        by_cases h4 : l = i
        · rw [if_pos h4, acP_symm, hsa k hk h2]; exact (decide_eq_false (by omega)).symm
        · rw [if_neg h4, prow_ac2 hw hck hq hi hx hk h2 (by omega) h4, rows_ac hw hck hk (by omega)]
          exact decide_eq_decide.2 (by omega)
end Go.Ideal

-- Zc
set_option linter.unusedSimpArgs false
set_option linter.unusedVariables false
namespace Go.Ideal
open Go Go.Proofs Go.RowKit
/-! ### There and back: the plain law -/
def InvP (F G : PauD → PauD) (n : Int) : Prop := ∀ p, PauV p → p.n = n → G (F p) = p
def InvL (f g : Loc → Loc) : Prop := ∀ a b c d : Bool, (g (f ⟨0, a, b, c, d⟩)).ph % 4 = 0 ∧ (g (f ⟨0, a, b, c, d⟩)).xa = a ∧ (g (f ⟨0, a, b, c, d⟩)).za = b ∧ (g (f ⟨0, a, b, c, d⟩)).xb = c ∧ (g (f ⟨0, a, b, c, d⟩)).zb = d
theorem InvP.of {F G : PauD → PauD} {f g : Loc → Loc} {n : Int} {a b : Nat}
    (vF : ∀ p o j L, p.n = n → PauV p → View p a b o j L → View p a b (F o) j (f L)) (vG : ∀ p o j L, p.n = n → PauV p → View p a b o j L → View p a b (G o) j (g L)) (hl : InvL f g) : InvP F G n := fun p hp hn => by
  have v1 := vG p _ _ _ hn hp (vF p _ _ _ hn hp (View.self hp (a := a) (b := b)))
  obtain ⟨h1, h2, h3, h4, h5⟩ := hl (p.x.testBit a) (p.z.testBit a) (p.x.testBit b) (p.z.testBit b)
  refine v1.same (View.self hp) ⟨?_, h2, h3, h4, h5⟩
  exact h1
theorem InvP.comp {F1 G1 F2 G2 : PauD → PauD} {n : Int} (a : InvP F1 G1 n) (b : InvP F2 G2 n) (h : Homs F2 n) : InvP (fun p => F1 (F2 p)) (fun p => G2 (G1 p)) n := fun p hp hn => by
  obtain ⟨v, m⟩ := h.v p hp hn
  show G2 (G1 (F1 (F2 p))) = p
  rw [a _ v m, b p hp hn]
theorem InvP.id (n : Int) : InvP (fun p => p) (fun p => p) n := fun _ _ _ => rfl
section
variable {n : Int} {a b : Nat}
theorem inv_x : InvP (fun p => minusS p (btS p.z (a : Int))) (fun p => minusS p (btS p.z (a : Int))) n :=
  InvP.of (f := fun L => minLoc L L.za) (g := fun L => minLoc L L.za) (a := a) (b := a + 1) (fun p o j L hn hp v => by rw [v.za]; exact v.minus _) (fun p o j L hn hp v => by rw [v.za]; exact v.minus _) (by unfold InvL; decide)
theorem inv_z : InvP (fun p => minusS p (btS p.x (a : Int))) (fun p => minusS p (btS p.x (a : Int))) n :=
  InvP.of (f := fun L => minLoc L L.xa) (g := fun L => minLoc L L.xa) (a := a) (b := a + 1) (fun p o j L hn hp v => by rw [v.xa]; exact v.minus _) (fun p o j L hn hp v => by rw [v.xa]; exact v.minus _) (by unfold InvL; decide)
theorem inv_y : InvP (fun p => minusS p (btS p.x (a : Int) != btS p.z (a : Int))) (fun p => minusS p (btS p.x (a : Int) != btS p.z (a : Int))) n :=
  InvP.of (f := fun L => minLoc L (L.xa != L.za)) (g := fun L => minLoc L (L.xa != L.za)) (a := a) (b := a + 1) (fun p o j L hn hp v => by rw [v.xa, v.za]; exact v.minus _) (fun p o j L hn hp v => by rw [v.xa, v.za]; exact v.minus _) (by unfold InvL; decide)
theorem inv_h (h1 : n ≤ 64) (ha : (a : Int) < n) : InvP (fun p => hS p (a : Int)) (fun p => hS p (a : Int)) n :=
  InvP.of (f := hLoc) (g := hLoc) (a := a) (b := a + 1) (fun p o j L hn hp v => v.h (by omega)) (fun p o j L hn hp v => v.h (by omega)) (by unfold InvL; decide)
theorem inv_s (h1 : n ≤ 64) (ha : (a : Int) < n) (y : Bool) : InvP (fun p => sS p (a : Int) y) (fun p => sS p (a : Int) (!y)) n :=
  InvP.of (f := fun L => sLoc L y) (g := fun L => sLoc L (!y)) (a := a) (b := a + 1) (fun p o j L hn hp v => v.s (by omega) y) (fun p o j L hn hp v => v.s (by omega) (!y)) (by unfold InvL; cases y <;> decide)
theorem inv_v (h1 : n ≤ 64) (ha : (a : Int) < n) (y : Bool) : InvP (fun p => vS p (a : Int) y) (fun p => vS p (a : Int) (!y)) n :=
  InvP.of (f := fun L => vLoc L y) (g := fun L => vLoc L (!y)) (a := a) (b := a + 1) (fun p o j L hn hp v => v.v (by omega) y) (fun p o j L hn hp v => v.v (by omega) (!y)) (by unfold InvL; cases y <;> decide)
theorem inv_cx (h1 : n ≤ 64) (ha : (a : Int) < n) (hb : (b : Int) < n) (hab : a ≠ b) : InvP (fun p => cxS p (a : Int) (b : Int)) (fun p => cxS p (a : Int) (b : Int)) n :=
  InvP.of (f := cxLoc) (g := cxLoc) (a := a) (b := b) (fun p o j L hn hp v => v.cx hab (by omega) (by omega)) (fun p o j L hn hp v => v.cx hab (by omega) (by omega)) (by unfold InvL; decide)
end
set_option maxHeartbeats 4000000 in
theorem byS_inv {n : Int} {nm : ByteArray} {qs : List Int} (h1 : n ≤ 64) (h : GateOk nm qs n) : InvP (byS nm qs) (byS (backS nm).1 qs) n := by
  obtain ⟨e, e1, e2⟩ := cliff_kOf h.cliff
  obtain ⟨e3, rfl⟩ := kOf_mem2 e1
  have hl := h.len
  unfold arityS at hl
  rw [e1] at hl
  simp only at hl
  have hbk : (backS e.name).1 = e.back := by unfold backS; rw [e1]
  rw [hbk]
  have hr := h.rng
  have hd := h.nd
  clear h e1 hbk
  have key1 : e.arity = 1 → ∃ a : Nat, qs = [(a : Int)] ∧ (a : Int) < n := fun h => by
    match qs, hl with
    | [a], _ => have := hr a (by simp); exact ⟨a.toNat, by rw [show ((a.toNat : Nat) : Int) = a by omega], by omega⟩
    | [], hl => simp only [List.length_nil] at hl; omega
    | a :: b :: c, hl => simp only [List.length_cons] at hl; omega
  have key2 : e.arity = 2 → ∃ a b : Nat, qs = [(a : Int), (b : Int)] ∧ (a : Int) < n ∧ (b : Int) < n ∧ a ≠ b := fun h => by
    match qs, hl with
    | [a, b], _ =>
      have h1 := hr a (by simp)
      have h2 := hr b (by simp)
      exact ⟨a.toNat, b.toNat, by rw [show ((a.toNat : Nat) : Int) = a by omega, show ((b.toNat : Nat) : Int) = b by omega], by omega, by omega, fun hab => by
        have : a = b := by omega
        simp [this] at hd⟩
    | [], hl => simp only [List.length_nil] at hl; omega
    | [a], hl => simp only [List.length_cons, List.length_nil] at hl; omega
    | a :: b :: c :: d, hl => simp only [List.length_cons] at hl; omega
  clear hl hr hd
  simp only [KT, List.mem_cons, List.not_mem_nil, or_false] at e3
  rcases e3 with rfl | rfl | rfl | rfl | rfl | rfl | rfl | rfl | rfl | rfl | rfl | rfl | rfl | rfl | rfl | rfl | rfl | rfl | rfl | rfl | rfl | rfl | rfl | rfl | rfl
  · obtain ⟨a, rfl, ha⟩ := key1 rfl; exact InvP.id n
  · obtain ⟨a, rfl, ha⟩ := key1 rfl; exact inv_x
  · obtain ⟨a, rfl, ha⟩ := key1 rfl; exact inv_y
  · obtain ⟨a, rfl, ha⟩ := key1 rfl; exact inv_z
  · obtain ⟨a, rfl, ha⟩ := key1 rfl; exact inv_h h1 ha
  · obtain ⟨a, rfl, ha⟩ := key1 rfl; exact inv_s h1 ha false
  · obtain ⟨a, rfl, ha⟩ := key1 rfl; exact inv_s h1 ha true
  · cases e2
  · cases e2
  · obtain ⟨a, rfl, ha⟩ := key1 rfl; exact inv_v h1 ha false
  · obtain ⟨a, rfl, ha⟩ := key1 rfl; exact inv_v h1 ha true
  · obtain ⟨a, rfl, ha⟩ := key1 rfl; exact InvP.id n
  · obtain ⟨a, rfl, ha⟩ := key1 rfl; exact InvP.id n
  · obtain ⟨a, b, rfl, ha, hb, hab⟩ := key2 rfl; exact inv_cx h1 ha hb hab
  · obtain ⟨a, b, rfl, ha, hb, hab⟩ := key2 rfl
    have hc := hom_cx h1 ha hb hab
    exact (inv_s h1 hb false).comp ((inv_cx h1 ha hb hab).comp (inv_s h1 hb true) (hom_s h1 hb true)) (hc.comp (hom_s h1 hb true))
  · obtain ⟨a, b, rfl, ha, hb, hab⟩ := key2 rfl
    have hc := hom_cx h1 ha hb hab
    exact (inv_h h1 hb).comp ((inv_cx h1 ha hb hab).comp (inv_h h1 hb) (hom_h h1 hb)) (hc.comp (hom_h h1 hb))
  · cases e2
  · cases e2
  · cases e2
  · obtain ⟨a, b, rfl, ha, hb, hab⟩ := key2 rfl
    have hc := hom_cx h1 ha hb hab
    have hc' := hom_cx h1 hb ha (Ne.symm hab)
    exact (inv_cx h1 ha hb hab).comp ((inv_cx h1 hb ha (Ne.symm hab)).comp (inv_cx h1 ha hb hab) hc) (hc'.comp hc)
  · obtain ⟨a, b, rfl, ha, hb, hab⟩ := key2 rfl
    have cab := hom_cx h1 ha hb hab
    have cba := hom_cx h1 hb ha (Ne.symm hab)
    have iab := inv_cx h1 ha hb hab
    have iba := inv_cx h1 hb ha (Ne.symm hab)
    have c1 := hom_s h1 ha false
    have c2 := (hom_s h1 hb false).comp c1
    have c3 := (hom_h h1 ha).comp c2
    have c4 := cab.comp c3
    have c5 := cba.comp c4
    exact (inv_h h1 hb).comp (iba.comp (iab.comp ((inv_h h1 ha).comp ((inv_s h1 hb false).comp (inv_s h1 ha false) c1) c2) c3) c4) c5
  · obtain ⟨a, b, rfl, ha, hb, hab⟩ := key2 rfl
    have cab := hom_cx h1 ha hb hab
    have cba := hom_cx h1 hb ha (Ne.symm hab)
    have iab := inv_cx h1 ha hb hab
    have iba := inv_cx h1 hb ha (Ne.symm hab)
    have c1 := hom_h h1 hb
    have c2 := cba.comp c1
    have c3 := cab.comp c2
    have c4 := (hom_h h1 ha).comp c3
    have c5 := (hom_s h1 hb true).comp c4
    exact (inv_s h1 ha true).comp ((inv_s h1 hb true).comp ((inv_h h1 ha).comp (iab.comp (iba.comp (inv_h h1 hb) c1) c2) c3) c4) c5
  · cases e2
  · cases e2
  · cases e2
/-- a turn that can be taken back keeps how strings stand to each other -/
theorem hom_ac {F G : PauD → PauD} {n : Int} (h : Homs F n) (i : InvP F G n) {p q : PauD} (hp : PauV p) (hq : PauV q) (hpn : p.n = n) (hqn : q.n = n) : acP (F p) (F q) = acP p q := by
  obtain ⟨vp, np⟩ := h.v p hp hpn
  obtain ⟨vq, nq⟩ := h.v q hq hqn
  have e1 := h.mul p q hp hq hpn hqn
  have e2 := h.mul q p hq hp hqn hpn
  have key : commP (F p) (F q) = commP p q := by
    rw [Bool.eq_iff_iff]
    constructor
    · intro hc
      have e3 := mulP_comm (by rw [np, nq]) hc
      rw [← e1, ← e2] at e3
      have e4 : mulP p q = mulP q p := by
        have := congrArg G e3
        rwa [i _ (mul_v hp hq (by rw [hpn, hqn])) hpn, i _ (mul_v hq hp (by rw [hpn, hqn])) hqn] at this
      exact (mphS_comm p q).1 (congrArg PauD.ph e4)
    · intro hc
      have e3 := mulP_comm (by rw [hpn, hqn]) hc
      have e4 : mulP (F p) (F q) = mulP (F q) (F p) := by rw [← e1, ← e2, e3]
      exact (mphS_comm _ _).1 (congrArg PauD.ph e4)
  unfold acP
  rw [key]
theorem hom_even {F : PauD → PauD} {n : Int} (h : Homs F n) (h0 : 0 ≤ n) (h1 : n ≤ 64) {p : PauD} (hp : PauV p) (hpn : p.n = n) (he : p.ph % 2 = 0) : (F p).ph % 2 = 0 := by
  have e1 := h.mul p p hp hp hpn hpn
  rw [mulP_self he, hpn, h.eye h0 h1] at e1
  have e2 := congrArg PauD.ph e1
  have e3 : (mulP (F p) (F p)).ph = mphS (F p) (F p) := rfl
  rw [e3] at e2
  have h00 : pcS 0 = 0 := by decide +kernel
  unfold mphS at e2
  rw [Nat.xor_self, Nat.xor_self, Nat.zero_and, h00, Nat.and_comm (F p).z (F p).x] at e2
  have e2 : 0 = ((F p).ph + (pcS ((F p).x &&& (F p).z) : Int) + (F p).ph + (pcS ((F p).x &&& (F p).z) : Int) + 2 * (pcS ((F p).x &&& (F p).z) : Int) - ((0 : Nat) : Int)) % 4 := e2
  omega
theorem rowAt_map {t : TabD} {F : PauD → PauD} {i : Nat} (hi : i < t.rows.length) : rowAt ⟨t.n, t.rows.map F⟩ i = F (rowAt t i) := by
  obtain ⟨p, hp⟩ : ∃ p, t.rows[i]? = some p := ⟨_, List.getElem?_eq_getElem hi⟩
  rw [rowAt_get hp]
  refine rowAt_get ?_
  show (t.rows.map F)[i]? = _
  rw [List.getElem?_map, hp]; rfl
theorem hom_check {t : TabD} {F G : PauD → PauD} (hw : TabW t) (hck : checkTab t = 0) (h : Homs F t.n) (i : InvP F G t.n) : TabW ⟨t.n, t.rows.map F⟩ ∧ checkTab ⟨t.n, t.rows.map F⟩ = 0 := by
  have g := TabG.of hw hck
  have n0 := g.n0
  have n1 := g.n1
  have nl := g.nl
  have hr : ∀ k, k < t.rows.length → PauV (rowAt ⟨t.n, t.rows.map F⟩ k) ∧ (rowAt ⟨t.n, t.rows.map F⟩ k).n = t.n ∧ (rowAt ⟨t.n, t.rows.map F⟩ k).ph % 2 = 0 := by
    intro k hk
    obtain ⟨_, v, m⟩ := g.at_ hk
    rw [rowAt_map hk]
    obtain ⟨a, b⟩ := h.v _ v m
    exact ⟨a, b, hom_even h n0 n1 v m (row_even hck hk)⟩
  have hl : (⟨t.n, t.rows.map F⟩ : TabD).rows.length = t.rows.length := by simp
  refine ⟨TabW_of fun k hk => (hr k (by omega)).1, checkTab_of n0 n1 (by rw [hl]; exact nl) (fun k hk => hr k (by omega)) fun k l hlk hk => ?_⟩
  rw [hl] at hk
  obtain ⟨_, v1, m1⟩ := g.at_ hk
  obtain ⟨_, v2, m2⟩ := g.at_ (by omega : l < t.rows.length)
  rw [rowAt_map hk, rowAt_map (by omega), hom_ac h i v1 v2 m1 m2, rows_ac hw hck hk (by omega)]
  show _ = decide (k = l + t.n.toNat)
  exact decide_eq_decide.2 (by omega)
theorem map_back {t : TabD} {F G : PauD → PauD} (g : TabG t) (i : InvP F G t.n) : (t.rows.map F).map G = t.rows := by
  rw [List.map_map]
  conv => rhs; rw [← List.map_id t.rows]
  refine List.map_congr_left fun p hp => ?_
  obtain ⟨v, n⟩ := g.hv p hp
  exact i p v n
theorem back_kept {nm : ByteArray} (h : cliffS nm = true) : arityS (backS nm).1 = arityS nm ∧ cliffS (backS nm).1 = true ∧ (backS nm).2 = 0 := by
  obtain ⟨e, e1, e2⟩ := cliff_kOf h
  obtain ⟨e3, rfl⟩ := kOf_mem2 e1
  have hall : ∀ e ∈ KT, e.cliff = true → arityS (backS e.name).1 = arityS e.name ∧ cliffS (backS e.name).1 = true ∧ (backS e.name).2 = 0 := by decide +kernel
  exact hall e e3 e2
theorem gfS_back {n : Int} {nm : ByteArray} {qs : List Int} (h : gfS n nm qs = 0) : gfS n (backS nm).1 qs = 0 ∧ (backS nm).2 = 0 := by
  have hc := (gfS_ok h).cliff
  obtain ⟨h1, h2, h3⟩ := back_kept hc
  refine ⟨?_, h3⟩
  unfold gfS at h ⊢
  rw [h1, h2]
  rw [hc] at h
  exact h
/-! ### A string with the other sign -/
theorem allComm_congr {t : TabD} {x y : PauD} (hx : x.x = y.x) (hz : x.z = y.z) : ∀ k, allComm t x k = allComm t y k := by
  intro k
  rw [Bool.eq_iff_iff, allComm_iff, allComm_iff]
  have : ∀ r, commP x r = commP y r := fun r => by unfold commP; rw [hx, hz]
  simp only [this]
theorem value_neg {t : TabD} (hw : TabW t) (hck : checkTab t = 0) {p p' : PauD} (hp : PauV p) (hn : p.n = t.n) (he : p.ph % 2 = 0) (hn' : p'.n = t.n) (hx : p'.x = p.x) (hz : p'.z = p.z) (hph : p'.ph = (p.ph + 2) % 4) : valueS t p' = -valueS t p := by
  have g := TabG.of hw hck
  unfold valueS
  rw [allComm_congr hx hz, groupK_congr hx hz]
  by_cases ha : allComm t p t.n.toNat = true
  · rw [if_pos ha, if_pos ha]
    obtain ⟨vg, ng⟩ := groupK_v g p t.n.toNat (Nat.le_refl _)
    obtain ⟨e1, e2⟩ := group_xz hw hck hp hn ha
    have e3 := groupK_even hw hck p t.n.toNat (Nat.le_refl _)
    rw [pauEq_xz (q := groupK t p t.n.toNat) (p := p) (by rw [ng, hn]) e1 e2, pauEq_xz (q := groupK t p t.n.toNat) (p := p') (by rw [ng, hn']) (by rw [e1, hx]) (by rw [e2, hz])]
    obtain ⟨_, _, a3, a4, _⟩ := pauV_iff.1 hp
    obtain ⟨_, _, b3, b4, _⟩ := pauV_iff.1 vg
    simp only [decide_eq_true_eq]
    by_cases h1 : (groupK t p t.n.toNat).ph = p.ph
    · rw [if_pos h1, if_neg (by omega)]
    · rw [if_neg h1, if_pos (by omega)]; rfl
  · rw [if_neg ha, if_neg ha]; rfl
/-! ### What is found behind a measurement -/
theorem proj_cert {t : TabD} {i q : Nat} {b : Int} (hw : TabW t) (hck : checkTab t = 0) (hq : (q : Int) < t.n) (hi : i < t.n.toNat) (hx : xAt q (rowAt t (t.n.toNat + i)) = true) (hb : 0 ≤ b ∧ b ≤ 1) : certS (projD t i q b) q = (b, true) := by
  obtain ⟨hw', hck'⟩ := proj_ok hw hck hq hi hx hb
  have g := TabG.of hw hck
  have g' := TabG.of hw' hck'
  have n0 := g.n0
  have n1 := g.n1
  have nl := g.nl
  have hl : ¬ 0 ≤ looseS (projD t i q b) q := by
    intro h
    obtain ⟨j, _, h2, h3, _⟩ := loose_spec g' q h
    have h2 : j < t.n.toNat := h2
    have hn : (projD t i q b).n = t.n := rfl
    rw [hn, proj_at (by omega) hi] at h3
    by_cases hj : j = i
    · rw [if_pos (by omega), xAt_bit] at h3
      simp [oneZ] at h3
    · rw [if_neg (by omega), if_neg (by omega), prow_x hw hck hq hi hx (by omega) (by omega)] at h3
      cases h3
  unfold certS
  rw [if_neg hl]
  have hst : valueS (projD t i q b) (oneZ t.n q b) = 1 := by
    refine (value_one hw' hck' (oneZ_vb n0 n1 hq hb) rfl).2 ?_
    have := InG.stab hw' hck' (j := i) hi
    have hn : (projD t i q b).n = t.n := rfl
    rwa [hn, proj_at (by omega) hi, if_pos rfl] at this
  show ((1 - valueS (projD t i q b) (oneZ t.n q 0)).tdiv 2, true) = (b, true)
  obtain h | h : b = 0 ∨ b = 1 := by omega
  · subst h; rw [hst]; rfl
  · subst h
    have := value_neg hw' hck' (p := oneZ t.n q 0) (p' := oneZ t.n q 1) (oneZ_v n0 n1 hq) rfl rfl rfl rfl rfl rfl
    rw [hst] at this
    have h2 : valueS (projD t i q 1) (oneZ t.n q 0) = -1 := by omega
    rw [h2]; rfl
end Go.Ideal

-- Zd
set_option linter.unusedSimpArgs false
set_option linter.unusedVariables false
namespace Go.Ideal
open Go Go.Proofs Go.RowKit
/-! ### The reference's Project; the law TableauProjects -/
theorem projC_ok {t : TabD} {q b : Int} (hw : TabW t) (h : (projC t q b).2 = 0) : checkTab t = 0 ∧ (0 ≤ q ∧ q < t.n) ∧ (0 ≤ b ∧ b ≤ 1) ∧ (projC t q b).1.n = t.n ∧ (projC t q b).1.rows.length = t.rows.length := by
  unfold projC at h ⊢
  split at h
  · split at h
    · split at h
      · split at h
        · split at h
          · rename_i h1 h2 h3 h4 h5
            rw [if_pos h1, if_pos h2, if_pos h3, if_pos h4, if_pos h5]
            exact ⟨h1, h2, h3, rfl, rfl⟩
          · cases h
        · rename_i h1 h2 h3 h4
          rw [if_pos h1, if_pos h2, if_pos h3, if_neg h4]
          exact ⟨h1, h2, h3, rfl, projRows_len _ _ _ _⟩
      · cases h
    · cases h
  · cases h
theorem projC_no {t : TabD} {q b : Int} (h : ¬ (projC t q b).2 = 0) : (projC t q b).1 = noTab := by
  unfold projC at h ⊢
  split
  · rename_i h1
    rw [if_pos h1] at h
    split
    · rename_i h2
      rw [if_pos h2] at h
      split
      · rename_i h3
        rw [if_pos h3] at h
        split
        · rename_i h4
          rw [if_pos h4] at h
          split
          · rename_i h5; rw [if_pos h5] at h; exact absurd rfl h
          · rfl
        · rename_i h4; rw [if_neg h4] at h; exact absurd rfl h
      · rfl
    · rfl
  · rfl
theorem projO_frz {t : TabD} {q b : Int} (hw : TabW t) (r : Tr) (B : Boxes) (h : ProjO t q b r B) : ∃ t', (∀ F G h, ThawOk F G B h → ∀ v, Rep F r v → Rep G t' v) ∧ t' = .tup [tabT (projC t q b).1, intT (projC t q b).2] := by
  unfold ProjO at h
  by_cases h0 : (projC t q b).2 = 0
  · rw [if_pos h0] at h
    obtain ⟨pb, rfl, rfl⟩ := h
    obtain ⟨h1, h2, h3, h4, h5⟩ := projC_ok hw h0
    have g := TabG.of hw h1
    have nl := g.nl
    have n1 := g.n1
    have : LenT (pauRows (projC t q b).1.rows) t.rows.length := ⟨by simp [pauRows, h5]⟩
    have : Sm63 t.rows.length := ⟨by omega⟩
    have : RealX (pauRows (projC t q b).1.rows) false := ⟨fun h => by
      have : (projC t q b).1.rows.length = 0 := by simpa [pauRows] using congrArg List.length h
      omega⟩
    have fz : Frz [(pb, .arr 4 (pauRows (projC t q b).1.rows) 27 false)] (.tup [.agg [intT t.n, .v (.slice (some (ad pb 0)) t.rows.length t.rows.length)], intT 0]) (.tup [.agg [intT t.n, .sl 4 (pauRows (projC t q b).1.rows)], intT 0]) := inferInstance
    refine ⟨_, fz.eq, ?_⟩
    rw [h0, ← h4]
  · rw [if_neg h0] at h
    obtain ⟨rfl, rfl⟩ := h
    have cv : Cv (.tup [.agg [intT 0, .v (.slice none 0 0)], intT (projC t q b).2]) (.tup [.agg [intT 0, .sl 4 []], intT (projC t q b).2]) := ⟨fun F v hv => by
      simp only [Rep] at hv ⊢
      obtain ⟨vs, rfl, h1⟩ := hv
      exact ⟨vs, rfl, CvL.eq F vs h1⟩⟩
    refine ⟨_, fun F G h o v hv => cv.eq G v (hv.sub o.sub), ?_⟩
    rw [projC_no h0]; rfl
theorem projectT {t : TabD} {q b : Int} (hw : TabW t) : Fn Try.prog 28 [tabT t, intT q, intT b] (fun r => r = .tup [tabT (projC t q b).1, intT (projC t q b).2]) :=
  (projectO hw).frz (projO_frz hw)
instance : CallIs Try.prog 28 := .of Try.func28 rfl rfl
instance : CallIs Try.prog 27 := .of Try.func27 rfl rfl
/-! ### The law TableauProjects -/
end Go.Ideal

-- Ze
set_option linter.unusedSimpArgs false
set_option linter.unusedVariables false
namespace Go.Ideal
open Go Go.Proofs Go.RowKit
/-! ### The law TableauBack -/
theorem tap_back {t : TabD} {nm : ByteArray} {qs : List Int} (hw : TabW t) (h : (tapS t nm qs).2 = 0) : TabW (tapS t nm qs).1 ∧ checkTab (tapS t nm qs).1 = 0 ∧ (backS nm).2 = 0 ∧ tapS (tapS t nm qs).1 (backS nm).1 qs = (t, 0) := by
  have h1 : checkTab t = 0 := by
    by_cases h1 : checkTab t = 0
    · exact h1
    · unfold tapS at h; rw [if_neg h1] at h; cases h
  have h2 : gfS t.n nm qs = 0 := by
    by_cases h2 : gfS t.n nm qs = 0
    · exact h2
    · unfold tapS at h; rw [if_pos h1, if_neg h2] at h; exact absurd h h2
  have g := TabG.of hw h1
  have gk := gfS_ok h2
  have ho := byS_hom nm g.n1 gk.rng gk.nd
  have iv := byS_inv g.n1 gk
  have e : tapS t nm qs = (⟨t.n, t.rows.map (byS nm qs)⟩, 0) := by unfold tapS; rw [if_pos h1, if_pos h2]
  obtain ⟨h3, h4⟩ := gfS_back h2
  obtain ⟨h5, h6⟩ := hom_check hw h1 ho iv
  rw [e]
  refine ⟨h5, h6, h4, ?_⟩
  unfold tapS
  rw [if_pos h6, if_pos h3]
  show (TabD.mk t.n ((t.rows.map (byS nm qs)).map (byS (backS nm).1 qs)), (0 : Int)) = (t, 0)
  rw [map_back g iv]
theorem certC_err (t : TabD) (q : Int) : decide ((certC t q).2.2 = 0) = decide (checkTab t = 0 ∧ 0 ≤ q ∧ q < t.n) := by
  unfold certC
  split
  · rename_i h1
    split
    · rename_i h2; rw [decide_eq_true (show checkTab t = 0 ∧ 0 ≤ q ∧ q < t.n from ⟨h1, h2⟩)]; rfl
    · rename_i h2; rw [decide_eq_false (show ¬ (checkTab t = 0 ∧ 0 ≤ q ∧ q < t.n) from fun h => h2 h.2)]; rfl
  · rename_i h1; rw [decide_eq_false (show ¬ (checkTab t = 0 ∧ 0 ≤ q ∧ q < t.n) from fun h => h1 h.1)]; exact decide_eq_false h1
set_option synthInstance.maxSize 4000 in
set_option synthInstance.maxHeartbeats 400000 in
set_option maxHeartbeats 4000000 in
theorem tableauBackT {t : TabD} {nm : ByteArray} {qs : List Int} {q b : Int} (hw : TabW t) (hbd : -2 ^ 63 ≤ b ∧ b < 2 ^ 63) : Fn Try.prog 7 [tabT t, strT nm, .sl 1 (intRows qs), intT q, intT b] (fun r => r = boolT true) := by
  refine Fn_of Try.func7 rfl (Nat.le_of_ble_eq_true rfl) (fun X => ?_)
  repeat (first | refine StepC.go ?_ | intro _)
  rename_i pt
  refine TS_callE awake18T ?_
  repeat (first | refine StepC.go ?_ | refine TV_cond_f (by first | rfl | assumption) ?_)
  refine TS_call (tabApplyT hw) ?_
  rintro _ rfl
  generalize hU : (tapS t nm qs).1 = U
  repeat (first | refine StepC.go ?_ | intro _)
  rename_i pu
  refine TV_cut (fun σ B => TGet σ 3 (intT q) ∧ TGet σ 4 (intT b) ∧ TGet σ 5 (ptrT pt) ∧ TGet σ 11 (ptrT pu) ∧ SubP B [(pt, .cells (tabCs t) 24 true), (pu, .cells (tabCs U) 24 true)]) ?_ ?_
  · refine TV_cond ?_ ?_ <;> intro hc
    · have h0 : (tapS t nm qs).2 = 0 := of_decide_eq_true hc
      obtain ⟨h1, h2, h3, h4⟩ := tap_back hw h0
      rw [hU] at h1 h2 h4
      repeat (refine StepC.go ?_)
      refine TS_call (backT nm) ?_
      rintro _ rfl
      rw [h3]
      repeat (refine StepC.go ?_)
      refine TS_call (tabApplyT h1) ?_
      rintro _ rfl
      rw [h4]
      repeat (first | refine StepC.go ?_ | intro _ | refine TS_on rfl (by first | rfl | assumption) ?_)
      refine TS_callE tabEqualT ?_
      repeat (first | refine StepC.go ?_ | refine TS_on rfl (by first | rfl | assumption) ?_)
      refine TS_callE (tabCheckRT h1) ?_
      rw [h2]
      repeat (first | refine StepC.go ?_ | refine TS_on rfl (by first | rfl | assumption) ?_ | refine TV_cond_f (by first | rfl | assumption) ?_)
      exact ⟨inferInstance, inferInstance, inferInstance, inferInstance, inferInstance⟩
    · repeat (refine StepC.go ?_)
      exact ⟨inferInstance, inferInstance, inferInstance, inferInstance, inferInstance⟩
  rintro σ B ⟨g3, g4, g5, g11, hB⟩
  refine TV_keep _ (p := hB) ?_
  clear hB
  repeat (refine StepC.go ?_)
  refine TS_call (certainT hw) ?_
  rintro _ rfl
  repeat (refine StepC.go ?_)
  refine TS_call (projectT hw) ?_
  rintro _ rfl
  have hce := certC_err t q
  have hre : Bool.not (decide ((certC t q).2.2 = 0)) = !decide (checkTab t = 0 ∧ 0 ≤ q ∧ q < t.n) := by rw [hce]
  generalize hC2 : (certC t q).2.1 = c2
  generalize hC1 : (certC t q).1 = c1
  generalize hC3 : (certC t q).2.2 = c3 at hre hce
  repeat (refine StepC.go ?_)
  by_cases hall : checkTab t = 0 ∧ (0 ≤ q ∧ q < t.n) ∧ (0 ≤ b ∧ b ≤ 1)
  case neg =>
    have hno : ¬ (projC t q b).2 = 0 := fun h => by
      obtain ⟨a1, a2, a3, _⟩ := projC_ok hw h
      exact hall ⟨a1, a2, a3⟩
    refine TS_cut (fun σ B => TGet σ 90 (boolT true) ∧ TGet σ 19 (intT (projC t q b).2) ∧ SubP B []) ?_ ?_
    · repeat' (first | refine StepC.go ?_ | refine TS_on rfl (by first | rfl | assumption) ?_ | refine TS_off rfl (by first | rfl | assumption) ?_ | refine TS_puw (Pu.pick_t (by first | rfl | assumption)) ?_ | (refine TS_guard rfl ?_ ?_ <;> intro hg))
      all_goals refine ⟨tget_as (congrArg (fun b => boolT b) ?_), inferInstance, inferInstance⟩
      all_goals first
        | rfl
        | (rw [hre] at hg ⊢; by_cases a1 : checkTab t = 0 ∧ 0 ≤ q ∧ q < t.n <;> simp [a1] at hg ⊢ <;> omega)
    rintro σ B ⟨g90, g19, hB⟩
    refine TV_keep _ (p := hB) ?_
    repeat (first | refine StepC.go ?_ | refine TV_cond_t (by first | rfl | assumption) ?_)
    refine retT_1 (.inr rfl) ?_
    simp only [tret]
    rw [decide_eq_false hno]; rfl
  obtain ⟨h1, hq, hb⟩ := hall
  obtain ⟨Q, rfl⟩ : ∃ Q : Nat, q = (Q : Int) := ⟨q.toNat, by omega⟩
  have hcc : certC t Q = ((certS t Q).1, (certS t Q).2, 0) := by unfold certC; rw [if_pos h1, if_pos hq, Int.toNat_natCast]
  rw [hcc] at hC1 hC2 hC3
  simp only at hC1 hC2 hC3
  subst hC1 hC2 hC3
  have g := TabG.of hw h1
  have hb1 : decide (b < 0) = false := decide_eq_false (by omega)
  have hb2 : decide (b > 1) = false := decide_eq_false (by omega)
  have n0 : (!decide ((0 : Int) = 0)) = false := rfl
  have n1 : (if (!decide ((0 : Int) = 0)) = true then true else decide (b < 0)) = false := by rw [hb1]; rfl
  have n2 : (if (if (!decide ((0 : Int) = 0)) = true then true else decide (b < 0)) = true then true else decide (1 < b)) = false := by rw [n1]; exact hb2
  cases hcs : (certS t Q).2 with
  | true =>
    by_cases hob : (certS t Q).1 = b
    · have e : projC t Q b = (t, 0) := by
        unfold projC; rw [if_pos h1, if_pos hq, if_pos hb, Int.toNat_natCast, if_pos hcs, if_pos hob]
      rw [e, hob]
      repeat (first | refine StepC.go ?_ | refine TS_on rfl (by first | rfl | assumption) ?_ | refine TV_cond_t (by first | rfl | assumption) ?_ | refine TV_cond_f (by first | rfl | assumption) ?_)
      refine TS_callE tabEqualT ?_
      repeat (first | refine StepC.go ?_ | refine TS_on rfl (by first | rfl | assumption) ?_)
      refine retT_1 (.inr rfl) ?_
      rfl
    · have e : projC t Q b = (noTab, 131) := by
        unfold projC; rw [if_pos h1, if_pos hq, if_pos hb, Int.toNat_natCast, if_pos hcs, if_neg hob]
      rw [e]
      have hx : (decide (((noTab, 131) : TabD × Int).2 = 0) == decide ((certS t Q).1 = b)) = true := by rw [decide_eq_false hob]; rfl
      repeat (first | refine StepC.go ?_ | refine TS_on rfl (by first | rfl | assumption) ?_ | refine TS_off rfl (by first | rfl | assumption) ?_ | refine TS_puw (Pu.pick_t (by first | rfl | assumption)) ?_ | refine TV_cond_t (by first | rfl | assumption) ?_ | refine TV_cond_f (by first | rfl | assumption) ?_)
      refine retT_1 (.inr rfl) ?_
      simp only [tret]
      rw [hx]; rfl
  | false =>
    have hl0 : 0 ≤ looseS t Q := by
      have := certS_loose t Q
      rw [hcs] at this; simpa using this
    obtain ⟨i, hi1, hi2, hi3, hi4⟩ := loose_spec g Q hl0
    have e : projC t Q b = (projD t i Q b, 0) := by
      unfold projC; rw [if_pos h1, if_pos hq, if_pos hb, Int.toNat_natCast, if_neg (by rw [hcs]; decide), hi1, Int.toNat_natCast]; rfl
    rw [e]
    obtain ⟨w1, w2⟩ := proj_ok hw h1 hq.2 hi2 hi3 hb
    have w3 := proj_cert hw h1 hq.2 hi2 hi3 hb
    have w4 : (projD t i Q b).n = t.n := rfl
    generalize projD t i Q b = D at w1 w2 w3 w4
    have hqD : 0 ≤ (Q : Int) ∧ (Q : Int) < D.n := by rw [w4]; exact hq
    have c1 : certC D Q = (b, true, 0) := by unfold certC; rw [if_pos w2, if_pos hqD, Int.toNat_natCast, w3]
    have c2 : projC D Q b = (D, 0) := by unfold projC; rw [if_pos w2, if_pos hqD, if_pos hb, Int.toNat_natCast, w3, if_pos rfl, if_pos rfl]
    have c3 : projC D Q (1 - b) = (noTab, 131) := by unfold projC; rw [if_pos w2, if_pos hqD, if_pos (by omega), Int.toNat_natCast, w3, if_pos rfl, if_neg (by show ¬ b = 1 - b; omega)]
    repeat (first | refine StepC.go ?_ | refine TS_on rfl (by first | rfl | assumption) ?_ | refine TV_cond_f (by first | rfl | assumption) ?_)
    refine TS_callE (tabCheckRT w1) ?_
    rw [w2]
    repeat (first | refine StepC.go ?_ | refine TS_on rfl (by first | rfl | assumption) ?_ | refine TV_cond_f (by first | rfl | assumption) ?_)
    refine TS_call (certainT w1) ?_
    rintro _ rfl
    rw [c1]
    repeat (refine StepC.go ?_)
    refine TS_call (projectT w1) ?_
    rintro _ rfl
    rw [c2]
    repeat (first | refine StepC.go ?_ | intro _ | refine TS_puw (Pu.subi (by omega)) ?_)
    refine TS_call (projectT w1) ?_
    rintro _ rfl
    rw [c3]
    repeat (first | refine StepC.go ?_ | intro _ | refine TS_on rfl (by first | rfl | assumption) ?_)
    refine TS_callE tabEqualT ?_
    repeat (first | refine StepC.go ?_ | refine TS_on rfl (by first | rfl | assumption) ?_)
    refine retT_1 (.inr rfl) ?_
    rfl
theorem tableauBackW {h : IHp} {v1 v3 : Value} {nm : ByteArray} {q b : Int} {t : TabD} {qs : List Int} (m1 : Rep h.cell? (tabT t) v1) (hw : TabW t) (m3 : Rep h.cell? (.sl 1 (intRows qs)) v3) (hb : -2 ^ 63 ≤ b ∧ b < 2 ^ 63) : EvX Try.prog 7 #[v1, .string nm, v3, .int .i64 q, .int .i64 b] h (fun v _ => v = .bool true) :=
  EvX_of_Fn (tableauBackT hw hb) (RepL.cons m1 (RepL.cons (rep_v _) (RepL.cons m3 (RepL.cons (rep_v _) (RepL.cons (rep_v _) RepL.nil)))))
end Go.Ideal
