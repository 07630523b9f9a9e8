/- Part 7 of what the proof stands on: an interpreter over an ideal memory that is proved sound, steps over it, and contracts of the functions that are called. No condition: no law is claimed here. -/
import Derived.Test.YteloepinfffmgaaC6
-- Yh
set_option linter.unusedSimpArgs false
set_option linter.unusedVariables false
namespace Go.Ideal
open Go Go.Proofs Go.RowKit
/-! ### Same, of both -/
def stabsIn (a b : TabD) : Bool := (b.rows.drop b.n.toNat).all (fun p => decide (valueS a p = 1))
def sameC (a b : TabD) : Bool × Int := if checkTab a = 0 ∧ checkTab b = 0 then (if a.n = b.n then (stabsIn a b, 0) else (false, 0)) else (false, 180)
theorem stabsIn_iff {a b : TabD} (gb : TabG b) : stabsIn a b = true ↔ ∀ i, i < b.n.toNat → valueS a (rowAt b (b.n.toNat + i)) = 1 := by
  have n0 := gb.n0
  have nl := gb.nl
  unfold stabsIn
  rw [List.all_eq_true]
  constructor
  · intro h i hi
    obtain ⟨hr, _, _⟩ := gb.at_ (i := b.n.toNat + i) (by omega)
    exact of_decide_eq_true (h _ (List.mem_of_getElem? (i := i) (by rw [List.getElem?_drop]; exact hr)))
  · intro h p hp
    obtain ⟨i, hi⟩ := List.getElem?_of_mem hp
    rw [List.getElem?_drop] at hi
    have hil := (List.getElem?_eq_some_iff.1 hi).1
    have := h i (by omega)
    rw [rowAt_get hi] at this
    exact decide_eq_true this
theorem anyPT {ps : List PauD} {f : Nat} {a b : List Tr} [c : CallIs Try.prog f] {p : PauD → Bool} (hp : ∀ o ∈ ps, Fn Try.prog f ((a ++ [pauT o]) ++ b) (fun r => r = boolT (p o))) : Fn Try.prog 52 [.sl 4 (pauRows ps), .fn f a b] (fun r => r = boolT (ps.any p)) := by
  refine Fn_of Try.func52 rfl (Nat.le_of_ble_eq_true rfl) (fun X => ?_)
  repeat (refine StepC.go ?_)
  refine TS_call (indexPT hp) ?_
  rintro _ rfl
  repeat (refine StepC.go ?_)
  refine retT_1 (.inr rfl) ?_
  simp only [tret]
  rw [idxF_any]
instance : CallIs Try.prog 52 := .of Try.func52 rfl rfl
theorem same1T {a : TabD} {p : PauD} (g : TabG a) (hp : PauV p) (hn : p.n = a.n) : Fn Try.prog 53 [pauT p, .pf (tabCs a)] (fun r => r = boolT (!decide (valueS a p = 1))) := by
  refine Fn_of Try.func53 rfl (Nat.le_of_ble_eq_true rfl) (fun X => ?_)
  repeat (first | refine StepC.go ?_ | intro _)
  refine TS_callE (tabValT g hp hn) ?_
  repeat (refine StepC.go ?_)
  exact retT_1 (.inr rfl) rfl
instance : CallIs Try.prog 53 := .of Try.func53 rfl rfl
set_option synthInstance.maxSize 4000 in
set_option synthInstance.maxHeartbeats 400000 in
set_option maxHeartbeats 4000000 in
theorem tabSameT {a b : TabD} (hwa : TabW a) (hwb : TabW b) : Fn Try.prog 19 [tabT a, tabT b] (fun r => r = .tup [boolT (sameC a b).1, intT (sameC a b).2]) := by
  refine Fn_of Try.func19 rfl (Nat.le_of_ble_eq_true rfl) (fun X => ?_)
  repeat (first | refine StepC.go ?_ | intro _)
  rename_i pa pb bs
  refine TV_loop (fun d σ B => ∃ (i : Nat), d = 2 - i ∧ i ≤ 2 ∧ TGet σ 13 (intT (i : Int)) ∧ TGet σ 12 (intT 2) ∧ TGet σ 11 (.v (.slice (some (ad bs 0)) 2 2)) ∧ TGet σ 2 (ptrT pa) ∧ TGet σ 3 (ptrT pb) ∧ (0 < i → checkTab a = 0) ∧ (1 < i → checkTab b = 0) ∧
      SubP B [(bs, .arr 2 [tabCs a, tabCs b] 24 true), (pb, .cells (tabCs b) 24 true), (pa, .cells (tabCs a) 24 true)]) 2
    ⟨0, by omega, by omega, tget_as rfl, inferInstance, inferInstance, inferInstance, inferInstance, (fun h => by omega), (fun h => by omega), inferInstance⟩ ?_
  rintro d σ B ⟨i, rfl, hi, g13, g12, g11, g2, g3, ca, cb, hB⟩
  refine TV_keep _ (p := hB) ?_
  repeat (refine StepC.go ?_)
  refine TV_cond ?_ ?_ <;> intro hc
  · have hil : i < 2 := by have := of_decide_eq_true hc; omega
    obtain ⟨x, hx, hwx, hx2⟩ : ∃ x : TabD, [tabCs a, tabCs b][i]? = some (tabCs x) ∧ TabW x ∧ (x = a ∧ i = 0 ∨ x = b ∧ i = 1) := by
      obtain rfl | rfl : i = 0 ∨ i = 1 := by omega
      · exact ⟨a, rfl, hwa, .inl ⟨rfl, rfl⟩⟩
      · exact ⟨b, rfl, hwb, .inr ⟨rfl, rfl⟩⟩
    have ng : NthG [tabCs a, tabCs b] i (tabCs x) := ⟨hx⟩
    repeat (first | refine StepC.go ?_ | intro _)
    refine TS_callE (tabCheckT hwx) ?_
    repeat (refine StepC.go ?_)
    refine TV_cond ?_ ?_ <;> intro hc2
    · have h0 : ¬ checkTab x = 0 := by simpa using hc2
      repeat (refine StepC.go ?_)
      refine retT_2 (.inr rfl) ?_
      simp only [tret, sameC]
      rw [if_neg (by rcases hx2 with ⟨rfl, _⟩ | ⟨rfl, _⟩ <;> simp [h0]), (checkTab_or x).resolve_left h0]
    · have h0 : checkTab x = 0 := by simpa using hc2
      repeat (first | refine StepC.go ?_ | refine TS_puw (Pu.addi (by omega)) ?_)
      refine ⟨_, ?_, i + 1, rfl, by omega, tget_as rfl, inferInstance, inferInstance, inferInstance, inferInstance, ?_, ?_, inferInstance⟩
      · omega
      · intro _
        rcases hx2 with ⟨rfl, h3⟩ | ⟨_, h3⟩
        · exact h0
        · exact ca (by omega)
      · intro h4
        rcases hx2 with ⟨_, h3⟩ | ⟨rfl, h3⟩
        · omega
        · exact h0
  have hil : i = 2 := by have := of_decide_eq_false hc; omega
  have ha := ca (by omega)
  have hb := cb (by omega)
  have ga := TabG.of hwa ha
  have gb := TabG.of hwb hb
  repeat (refine StepC.go ?_)
  refine TV_cond ?_ ?_ <;> intro hc2
  · repeat (refine StepC.go ?_)
    refine retT_2 (.inr rfl) ?_
    simp only [tret, sameC]
    rw [if_pos ⟨ha, hb⟩, if_neg (by simpa using hc2)]
  have hn : a.n = b.n := by simpa using hc2
  have hL : (pauRows b.rows).length = b.rows.length := by simp [pauRows]
  obtain ⟨N, hN⟩ : ∃ N : Nat, b.n = (N : Int) := ⟨b.n.toNat, by have := gb.n0; omega⟩
  have hNt : b.n.toNat = N := by omega
  have nl := gb.nl
  have : AsNat b.n N := ⟨hN⟩
  repeat (refine StepC.go ?_)
  refine TS_puw (Pu.slice_lo' (by rw [hL]; omega)) ?_
  have hd : (pauRows b.rows).drop N = pauRows (b.rows.drop N) := by simp [pauRows, List.map_drop]
  rw [hd]
  repeat (refine StepC.go ?_)
  refine TS_callE (anyPT (p := fun p => !decide (valueS a p = 1)) (fun o ho => by
    obtain ⟨v, n⟩ := gb.hv o (List.mem_of_mem_drop ho)
    exact same1T ga v (by rw [n, hn]))) ?_
  repeat (refine StepC.go ?_)
  refine retT_2 (.inr rfl) ?_
  simp only [tret, sameC]
  rw [if_pos ⟨ha, hb⟩, if_pos hn]
  have e : (!(b.rows.drop N).any fun p => !decide (valueS a p = 1)) = stabsIn a b := by
    unfold stabsIn; rw [hNt, List.any_eq_not_all_not]; simp
  rw [e]
instance : CallIs Try.prog 19 := .of Try.func19 rfl rfl
end Go.Ideal

-- Yi
set_option linter.unusedSimpArgs false
set_option linter.unusedVariables false
namespace Go.Ideal
open Go Go.Proofs Go.RowKit
/-! ### The reference's Same; the law TableauAsks -/
instance : CallIs Try.prog 15 := .of Try.func15 rfl rfl
end Go.Ideal

-- Yj
set_option linter.unusedSimpArgs false
set_option linter.unusedVariables false
namespace Go.Ideal
open Go Go.Proofs Go.RowKit
/-! ### The law TableauAsks -/
set_option maxRecDepth 100000 in
theorem pau_tree {h : IHp} {n : Nat} {cs : List Value} (hd : IRd Try.prog h (n + 2) 27 cs) : ∃ p : PauD, Rep h.cell? (pauT p) (.agg cs.toArray) ∧ PauW p := by
  obtain ⟨p, rfl, w⟩ := pau_of hd
  refine ⟨p, ?_, w⟩
  rw [Rep]
  exact ⟨_, rfl, RepL.cons (rep_v _) (RepL.cons (rep_v _) (RepL.cons (rep_v _) (RepL.cons (rep_v _) RepL.nil)))⟩
end Go.Ideal

-- Za
set_option linter.unusedSimpArgs false
set_option linter.unusedVariables false
namespace Go.Ideal
open Go Go.Proofs Go.RowKit
/-! ### Behind a measurement -/
instance : CallIs Try.prog 60 := .of Try.func60 rfl rfl
set_option synthInstance.maxSize 4000 in
theorem tcopyO {t : TabD} (hl : t.rows.length ≤ 2 ^ 30) : FnO Try.prog 26 [tabT t] (fun r B => ∃ b, r = .agg [intT t.n, .v (.slice (some (ad b 0)) t.rows.length t.rows.length)] ∧ B = [(b, .arr 4 (pauRows t.rows) 27 t.rows.isEmpty)]) := by
  refine FnO_of Try.func26 rfl (Nat.le_of_ble_eq_true rfl) (fun X => ?_)
  have hL : (pauRows t.rows).length = t.rows.length := by simp [pauRows]
  have hl' : t.rows.length < 2 ^ 31 := by omega
  have : Sm63 (0 + t.rows.length) := ⟨by omega⟩
  repeat (first | refine StepC.go ?_ | intro _ | (refine TS_append_own ?_ (fun _ => ?_); · omega) | refine TD_take rfl rfl ?_ | refine TD_load rfl rfl ?_ | refine TD_one rfl ?_ | refine FiltT_nil ?_ | refine FiltT_drop rfl ?_ | refine FiltT_keep rfl ?_ | refine TV_draw (id := 1) (plan := [.take 0, .take 1, .take 3, .take 4, .one 2, .one 5, .take 6, .one 7]) (by kernel_rfl) ?_)
  rename_i bp br bs bx
  have e3 : ((pauRows t.rows).isEmpty && true) = t.rows.isEmpty := by
    cases t.rows with
    | nil => rfl
    | cons a l => rfl
  simp only [Nat.zero_add, List.nil_append, e3]
  refine retO_1 [(bx, .arr 4 (pauRows t.rows) 27 t.rows.isEmpty)] (.inr rfl) (fun p hp => ?_) ⟨bx, rfl, rfl⟩
  rw [List.mem_singleton.1 hp]
  intro h1
  simpa [pauRows] using h1
instance : CallIs Try.prog 26 := .of Try.func26 rfl rfl
instance {ps : List PauD} : RealX (pauRows ps) ps.isEmpty := ⟨fun h => by simpa [pauRows] using h⟩
end Go.Ideal

-- Zb
set_option linter.unusedSimpArgs false
set_option linter.unusedVariables false
namespace Go.Ideal
open Go Go.Proofs Go.RowKit
/-! ### What makes a tableau; behind a measurement it is one: the plain law -/
theorem checkTab_of {t : TabD} (n0 : 0 ≤ t.n) (n1 : t.n ≤ 64) (nl : (t.rows.length : Int) = 2 * t.n) (hr : ∀ i, i < t.rows.length → PauV (rowAt t i) ∧ (rowAt t i).n = t.n ∧ (rowAt t i).ph % 2 = 0)
    (hc : ∀ i j, j < i → i < t.rows.length → acP (rowAt t i) (rowAt t j) = decide (i = j + t.n.toNat)) : checkTab t = 0 := by
  have hp : ∀ i, i < t.rows.length → ∀ k, k ≤ i → pairsB t i k = true := by
    intro i hi k
    induction k with
    | zero => intro _; rfl
    | succ k ih =>
      intro hk
      rw [pairsB, ih (by omega), Bool.true_and]
      have h1 := hc i k (by omega) hi
      unfold acP at h1
      have h2 : commP (rowAt t i) (rowAt t k) = !decide (i = k + t.n.toNat) := by rw [← h1, Bool.not_not]
      rw [h2]
      have h3 : decide (i = k + t.n.toNat) = decide ((i : Int) = (k : Int) + t.n) := decide_eq_decide.2 (by omega)
      rw [h3]
      cases decide ((i : Int) = (k : Int) + t.n) <;> rfl
  have hb : ∀ k, k ≤ t.rows.length → rowsB t k = true := by
    intro k
    induction k with
    | zero => intro _; rfl
    | succ k ih =>
      intro hk
      obtain ⟨v, n, e⟩ := hr k (by omega)
      rw [rowsB, ih (by omega), hp k (by omega) k (Nat.le_refl _)]
      have h1 : rowOk t (rowAt t k) = true := by
        unfold rowOk
        rw [decide_eq_true v.2, decide_eq_true n, decide_eq_true (Int.tmod_eq_zero_of_dvd (Int.dvd_of_emod_eq_zero e))]
        rfl
      rw [h1]; rfl
  unfold checkTab
  rw [if_pos]
  refine ⟨?_, hb _ (Nat.le_refl _)⟩
  unfold tabR
  rw [decide_eq_true n0, decide_eq_true n1, decide_eq_true nl]; rfl
theorem TabW_of {t : TabD} (h : ∀ i, i < t.rows.length → PauV (rowAt t i)) : TabW t := by
  intro p hp
  obtain ⟨i, hi⟩ := List.getElem?_of_mem hp
  have := h i (List.getElem?_eq_some_iff.1 hi).1
  rw [rowAt_get hi] at this
  exact this.1
theorem acP_mul (p q r : PauD) : acP (mulP p q) r = (acP p r ^^ acP q r) := acP_xor rfl rfl
theorem acP_mulr (p q r : PauD) : acP r (mulP p q) = (acP r p ^^ acP r q) := by rw [acP_symm, acP_mul, acP_symm p, acP_symm q]
end Go.Ideal

-- Zc
set_option linter.unusedSimpArgs false
set_option linter.unusedVariables false
namespace Go.Ideal
open Go Go.Proofs Go.RowKit
/-! ### There and back: the plain law -/
def InvP (F G : PauD → PauD) (n : Int) : Prop := ∀ p, PauV p → p.n = n → G (F p) = p
def InvL (f g : Loc → Loc) : Prop := ∀ a b c d : Bool, (g (f ⟨0, a, b, c, d⟩)).ph % 4 = 0 ∧ (g (f ⟨0, a, b, c, d⟩)).xa = a ∧ (g (f ⟨0, a, b, c, d⟩)).za = b ∧ (g (f ⟨0, a, b, c, d⟩)).xb = c ∧ (g (f ⟨0, a, b, c, d⟩)).zb = d
theorem InvP.of {F G : PauD → PauD} {f g : Loc → Loc} {n : Int} {a b : Nat}
    (vF : ∀ p o j L, p.n = n → PauV p → View p a b o j L → View p a b (F o) j (f L)) (vG : ∀ p o j L, p.n = n → PauV p → View p a b o j L → View p a b (G o) j (g L)) (hl : InvL f g) : InvP F G n := fun p hp hn => by
  have v1 := vG p _ _ _ hn hp (vF p _ _ _ hn hp (View.self hp (a := a) (b := b)))
  obtain ⟨h1, h2, h3, h4, h5⟩ := hl (p.x.testBit a) (p.z.testBit a) (p.x.testBit b) (p.z.testBit b)
  refine v1.same (View.self hp) ⟨?_, h2, h3, h4, h5⟩
  exact h1
theorem InvP.id (n : Int) : InvP (fun p => p) (fun p => p) n := fun _ _ _ => rfl
section
variable {n : Int} {a b : Nat}
end
/-! ### A string with the other sign -/
theorem allComm_congr {t : TabD} {x y : PauD} (hx : x.x = y.x) (hz : x.z = y.z) : ∀ k, allComm t x k = allComm t y k := by
  intro k
  rw [Bool.eq_iff_iff, allComm_iff, allComm_iff]
  have : ∀ r, commP x r = commP y r := fun r => by unfold commP; rw [hx, hz]
  simp only [this]
theorem value_neg {t : TabD} (hw : TabW t) (hck : checkTab t = 0) {p p' : PauD} (hp : PauV p) (hn : p.n = t.n) (he : p.ph % 2 = 0) (hn' : p'.n = t.n) (hx : p'.x = p.x) (hz : p'.z = p.z) (hph : p'.ph = (p.ph + 2) % 4) : valueS t p' = -valueS t p := by
  have g := TabG.of hw hck
  unfold valueS
  rw [allComm_congr hx hz, groupK_congr hx hz]
  by_cases ha : allComm t p t.n.toNat = true
  · rw [if_pos ha, if_pos ha]
    obtain ⟨vg, ng⟩ := groupK_v g p t.n.toNat (Nat.le_refl _)
    obtain ⟨e1, e2⟩ := group_xz hw hck hp hn ha
    have e3 := groupK_even hw hck p t.n.toNat (Nat.le_refl _)
    rw [pauEq_xz (q := groupK t p t.n.toNat) (p := p) (by rw [ng, hn]) e1 e2, pauEq_xz (q := groupK t p t.n.toNat) (p := p') (by rw [ng, hn']) (by rw [e1, hx]) (by rw [e2, hz])]
    obtain ⟨_, _, a3, a4, _⟩ := pauV_iff.1 hp
    obtain ⟨_, _, b3, b4, _⟩ := pauV_iff.1 vg
    simp only [decide_eq_true_eq]
    by_cases h1 : (groupK t p t.n.toNat).ph = p.ph
    · rw [if_pos h1, if_neg (by omega)]
    · rw [if_neg h1, if_pos (by omega)]; rfl
  · rw [if_neg ha, if_neg ha]; rfl
/-! ### What is found behind a measurement -/
end Go.Ideal

-- Zd
set_option linter.unusedSimpArgs false
set_option linter.unusedVariables false
namespace Go.Ideal
open Go Go.Proofs Go.RowKit
/-! ### The reference's Project; the law TableauProjects -/
instance : CallIs Try.prog 28 := .of Try.func28 rfl rfl
instance : CallIs Try.prog 27 := .of Try.func27 rfl rfl
/-! ### The law TableauProjects -/
end Go.Ideal

-- Zf
set_option linter.unusedSimpArgs false
set_option linter.unusedVariables false
namespace Go.Ideal
open Go Go.Proofs Go.RowKit
/-! ### Rows mixed: the plain law -/
def mixD (t : TabD) (i k : Nat) : TabD := ⟨t.n, (t.rows.set (t.n.toNat + i) (mulP (rowAt t (t.n.toNat + i)) (rowAt t (t.n.toNat + k)))).set k (mulP (rowAt t k) (rowAt t i))⟩
theorem mix_len (t : TabD) (i k : Nat) : (mixD t i k).rows.length = t.rows.length := by simp [mixD]
theorem mix_at {t : TabD} {i k j : Nat} (hj : j < t.rows.length) : rowAt (mixD t i k) j = if j = k then mulP (rowAt t k) (rowAt t i) else if j = t.n.toNat + i then mulP (rowAt t (t.n.toNat + i)) (rowAt t (t.n.toNat + k)) else rowAt t j := by
  refine rowAt_get ?_
  show ((t.rows.set (t.n.toNat + i) (mulP (rowAt t (t.n.toNat + i)) (rowAt t (t.n.toNat + k)))).set k (mulP (rowAt t k) (rowAt t i)))[j]? = _
  rw [List.getElem?_set, List.getElem?_set, List.length_set]
  by_cases h1 : j = k
  · subst h1; simp [hj]
  · rw [if_neg (by omega), if_neg h1]
    by_cases h2 : j = t.n.toNat + i
    · subst h2; simp [hj]
    · rw [if_neg (by omega), if_neg h2]
      obtain ⟨p, hp⟩ : ∃ p, t.rows[j]? = some p := ⟨_, List.getElem?_eq_getElem hj⟩
      rw [hp, rowAt_get hp]
theorem mix_s {t : TabD} {i k : Nat} (hw : TabW t) (hck : checkTab t = 0) (hi : i < t.n.toNat) (hk : k < t.n.toNat) : PauV (mulP (rowAt t (t.n.toNat + i)) (rowAt t (t.n.toNat + k))) ∧ (mulP (rowAt t (t.n.toNat + i)) (rowAt t (t.n.toNat + k))).n = t.n ∧ (mulP (rowAt t (t.n.toNat + i)) (rowAt t (t.n.toNat + k))).ph % 2 = 0 := by
  have g := TabG.of hw hck
  have n0 := g.n0
  have nl := g.nl
  obtain ⟨_, v1, m1⟩ := g.at_ (i := t.n.toNat + i) (by omega)
  obtain ⟨_, v2, m2⟩ := g.at_ (i := t.n.toNat + k) (by omega)
  have hc : acP (rowAt t (t.n.toNat + i)) (rowAt t (t.n.toNat + k)) = false := by
    rw [rows_ac hw hck (by omega) (by omega)]; exact decide_eq_false (by omega)
  refine ⟨mul_v v1 v2 (by rw [m1, m2]), m1, mul_even (row_even hck (by omega)) (row_even hck (by omega)) ?_⟩
  unfold acP at hc; simpa using hc
theorem mix_d {t : TabD} {i k : Nat} (hw : TabW t) (hck : checkTab t = 0) (hi : i < t.n.toNat) (hk : k < t.n.toNat) : PauV (mulP (rowAt t k) (rowAt t i)) ∧ (mulP (rowAt t k) (rowAt t i)).n = t.n ∧ (mulP (rowAt t k) (rowAt t i)).ph % 2 = 0 := by
  have g := TabG.of hw hck
  have n0 := g.n0
  have nl := g.nl
  obtain ⟨_, v1, m1⟩ := g.at_ (i := k) (by omega)
  obtain ⟨_, v2, m2⟩ := g.at_ (i := i) (by omega)
  have hc : acP (rowAt t k) (rowAt t i) = false := by
    rw [rows_ac hw hck (by omega) (by omega)]; exact decide_eq_false (by omega)
  refine ⟨mul_v v1 v2 (by rw [m1, m2]), m1, mul_even (row_even hck (by omega)) (row_even hck (by omega)) ?_⟩
  unfold acP at hc; simpa using hc
theorem mix_ok {t : TabD} {i k : Nat} (hw : TabW t) (hck : checkTab t = 0) (hi : i < t.n.toNat) (hk : k < t.n.toNat) (hik : i ≠ k) : TabW (mixD t i k) ∧ checkTab (mixD t i k) = 0 := by
  have g := TabG.of hw hck
  have n0 := g.n0
  have n1 := g.n1
  have nl := g.nl
  have hlen := mix_len t i k
  have hn : (mixD t i k).n = t.n := rfl
  have hr : ∀ j, j < t.rows.length → PauV (rowAt (mixD t i k) j) ∧ (rowAt (mixD t i k) j).n = t.n ∧ (rowAt (mixD t i k) j).ph % 2 = 0 := by
    intro j hj
    rw [mix_at hj]
    split
    · exact mix_d hw hck hi hk
    · split
      · exact mix_s hw hck hi hk
      · obtain ⟨_, v, m⟩ := g.at_ hj
        exact ⟨v, m, row_even hck hj⟩
  have ms : ∀ l, l < t.rows.length → acP (mulP (rowAt t (t.n.toNat + i)) (rowAt t (t.n.toNat + k))) (rowAt t l) = decide (l = i ∨ l = k) := by
    intro l hl
    rw [acP_mul, rows_ac hw hck (by omega) hl, rows_ac hw hck (by omega) hl]
    by_cases h1 : l = i
    · rw [decide_eq_true (by omega), decide_eq_false (by omega), decide_eq_true (by omega)]; rfl
    · by_cases h2 : l = k
      · rw [decide_eq_false (by omega), decide_eq_true (by omega), decide_eq_true (by omega)]; rfl
      · rw [decide_eq_false (by omega), decide_eq_false (by omega), decide_eq_false (by omega)]; rfl
  have md : ∀ l, l < t.rows.length → acP (mulP (rowAt t k) (rowAt t i)) (rowAt t l) = decide (l = t.n.toNat + k ∨ l = t.n.toNat + i) := by
    intro l hl
    rw [acP_mul, rows_ac hw hck (by omega) hl, rows_ac hw hck (by omega) hl]
    by_cases h1 : l = t.n.toNat + k
    · rw [decide_eq_true (by omega), decide_eq_false (by omega), decide_eq_true (by omega)]; rfl
    · by_cases h2 : l = t.n.toNat + i
      · rw [decide_eq_false (by omega), decide_eq_true (by omega), decide_eq_true (by omega)]; rfl
      · rw [decide_eq_false (by omega), decide_eq_false (by omega), decide_eq_false (by omega)]; rfl
  have msd : acP (mulP (rowAt t (t.n.toNat + i)) (rowAt t (t.n.toNat + k))) (mulP (rowAt t k) (rowAt t i)) = false := by
    rw [acP_mulr, ms k (by omega), ms i (by omega), decide_eq_true (by omega), decide_eq_true (by omega)]; rfl
  refine ⟨TabW_of fun j hj => (hr j (by omega)).1, checkTab_of n0 n1 (by rw [hlen]; exact nl) (fun j hj => hr j (by omega)) fun a b hab ha => ?_⟩
  rw [hlen] at ha
  rw [mix_at ha, mix_at (by omega : b < t.rows.length), hn]
  by_cases h1 : a = k
  · rw [if_pos h1, if_neg (by omega), if_neg (by omega), md b (by omega)]
    exact decide_eq_decide.2 (by omega)
  · rw [if_neg h1]
    by_cases h2 : a = t.n.toNat + i
    · rw [if_pos h2]
      by_cases h3 : b = k
      · rw [if_pos h3, msd]; exact (decide_eq_false (by omega)).symm
      · rw [if_neg h3, if_neg (by omega), ms b (by omega)]
        exact decide_eq_decide.2 (by omega)
    · rw [if_neg h2]
      by_cases h3 : b = k
      · rw [if_pos h3, acP_symm, md a ha]
        exact decide_eq_decide.2 (by omega)
      · rw [if_neg h3]
        by_cases h4 : b = t.n.toNat + i
        · rw [if_pos h4, acP_symm, ms a ha]
          exact decide_eq_decide.2 (by omega)
        · rw [if_neg h4, rows_ac hw hck ha (by omega)]
          exact decide_eq_decide.2 (by omega)
theorem mix_in {t : TabD} {i k : Nat} (hw : TabW t) (hck : checkTab t = 0) (hi : i < t.n.toNat) (hk : k < t.n.toNat) : InG t (mulP (rowAt t (t.n.toNat + i)) (rowAt t (t.n.toNat + k))) := InG.mul hw hck (InG.stab hw hck hi) (InG.stab hw hck hk)
theorem mix_same {t : TabD} {i k : Nat} (hw : TabW t) (hck : checkTab t = 0) (hi : i < t.n.toNat) (hk : k < t.n.toNat) (hik : i ≠ k) : sameC t (mixD t i k) = (true, 0) := by
  have g := TabG.of hw hck
  have n0 := g.n0
  have nl := g.nl
  obtain ⟨hw', hck'⟩ := mix_ok hw hck hi hk hik
  have g' := TabG.of hw' hck'
  unfold sameC
  rw [if_pos ⟨hck, hck'⟩, if_pos (show t.n = (mixD t i k).n from rfl)]
  have : stabsIn t (mixD t i k) = true := by
    refine (stabsIn_iff g').2 fun j hj => ?_
    have hj : j < t.n.toNat := hj
    show valueS t (rowAt (mixD t i k) (t.n.toNat + j)) = 1
    rw [mix_at (by omega), if_neg (by omega)]
    by_cases h : j = i
    · rw [if_pos (by omega)]
      obtain ⟨v, m, _⟩ := mix_s hw hck hi hk
      exact (value_one hw hck v m).2 (mix_in hw hck hi hk)
    · rw [if_neg (by omega)]
      obtain ⟨_, v, m⟩ := g.at_ (i := t.n.toNat + j) (by omega)
      exact (value_one hw hck v m).2 (InG.stab hw hck hj)
  rw [this]
theorem same_self {t : TabD} (hw : TabW t) (hck : checkTab t = 0) : sameC t t = (true, 0) := by
  have g := TabG.of hw hck
  have n0 := g.n0
  have nl := g.nl
  unfold sameC
  rw [if_pos ⟨hck, hck⟩, if_pos rfl]
  have : stabsIn t t = true := by
    refine (stabsIn_iff g).2 fun j hj => ?_
    obtain ⟨_, v, m⟩ := g.at_ (i := t.n.toNat + j) (by omega)
    exact (value_one hw hck v m).2 (InG.stab hw hck hj)
  rw [this]
theorem valC_in {t : TabD} {p : PauD} (hw : TabW t) (hck : checkTab t = 0) (h : InG t p) (he : p.ph % 2 = 0) : valC t p = (1, 0) := by
  have h' := h
  obtain ⟨v, m, _⟩ := h'
  unfold valC
  rw [if_pos hck, if_pos v.2, if_pos ⟨m, Int.tmod_eq_zero_of_dvd (Int.dvd_of_emod_eq_zero he)⟩, (value_one hw hck v m).2 h]
theorem valC_ok {t : TabD} {p : PauD} (h : (valC t p).2 = 0) : checkP p = 0 ∧ p.n = t.n ∧ p.ph.tmod 2 = 0 ∧ valC t p = (valueS t p, 0) := by
  unfold valC at h ⊢
  split at h
  · rename_i h1
    rw [if_pos h1]
    split at h
    · rename_i h2
      rw [if_pos h2]
      split at h
      · rename_i h3
        rw [if_pos h3]
        exact ⟨h2, h3.1, h3.2, rfl⟩
      · cases h
    · rename_i h2; exact absurd h h2
  · rename_i h1; exact absurd h h1
theorem value_zero (t : TabD) (p : PauD) : decide (valueS t p = 0) = !allComm t p t.n.toNat := by
  unfold valueS
  cases allComm t p t.n.toNat with
  | false => rfl
  | true => rw [if_pos rfl]; split <;> rfl
def negP (p : PauD) : PauD := ⟨p.n, p.x, p.z, (p.ph + 2).tmod 4⟩
theorem valC_neg {t : TabD} {p : PauD} (hw : TabW t) (hck : checkTab t = 0) (hp : PauW p) (h : (valC t p).2 = 0) : PauW (negP p) ∧ valC t (negP p) = (-valueS t p, 0) := by
  obtain ⟨h1, h2, h3, _⟩ := valC_ok h
  have hv : PauV p := ⟨hp, h1⟩
  obtain ⟨a1, a2, a3, a4, a5⟩ := pauV_iff.1 hv
  have e1 : (p.ph + 2).tmod 4 = (p.ph + 2) % 4 := Int.tmod_eq_emod_of_nonneg (by omega)
  have e2 : p.ph % 2 = 0 := Int.emod_eq_zero_of_dvd (Int.dvd_of_tmod_eq_zero h3)
  have hv' : PauV (negP p) := pauV_iff.2 ⟨a1, a2, by show 0 ≤ (p.ph + 2).tmod 4; rw [e1]; omega, by show (p.ph + 2).tmod 4 ≤ 3; rw [e1]; omega, a5⟩
  refine ⟨hv'.1, ?_⟩
  unfold valC
  rw [if_pos hck, if_pos hv'.2, if_pos ⟨h2, by show ((p.ph + 2).tmod 4).tmod 2 = 0; rw [e1, Int.tmod_eq_emod_of_nonneg (by omega)]; omega⟩, value_neg hw hck hv h2 e2 (p' := negP p) h2 rfl rfl e1]
/-! ### The law TableauValues -/
theorem placeT {i n : Int} (hi : -9223372036854775808 ≤ i ∧ i ≤ 9223372036854775807) (hn : 0 < n) : Fn Try.prog 23 [intT i, intT n] (fun r => ∃ I : Nat, r = intT (I : Int) ∧ (I : Int) < n) := by
  refine Fn_of Try.func23 rfl (Nat.le_of_ble_eq_true rfl) (fun X => ?_)
  repeat (refine StepC.go ?_)
  refine TV_cut (fun σ B => ∃ j : Int, TGet σ 0 (intT j) ∧ TGet σ 1 (intT n) ∧ 0 ≤ j ∧ j ≤ 9223372036854775807) ?_ ?_
  · refine TV_cond ?_ ?_ <;> intro hc
    · have := of_decide_eq_true hc
      have e : IntKind.i64.wrap (0 - (i + 1)) = -(i + 1) := by rw [IntKind.wrap_i64]; omega
      repeat (first | refine StepC.go ?_ | (refine TS_puw (Pu.addi ?_) ?_; · omega))
      rw [e]
      exact ⟨-(i + 1), inferInstance, inferInstance, by omega, by omega⟩
    · have := of_decide_eq_false hc
      repeat (refine StepC.go ?_)
      exact ⟨i, inferInstance, inferInstance, by omega, by omega⟩
  rintro σ B ⟨j, g0, g1, j0, j1⟩
  have hdv : idivs .rem .i64 j n = some (j.tmod n) := rfl
  have hlt := Int.tmod_lt_of_pos j hn
  have h0 := Int.tmod_nonneg n j0
  repeat (refine StepC.go ?_)
  refine TS_puw (Pu.divw (r := j.tmod n) (by omega) hdv) ?_
  repeat (refine StepC.go ?_)
  refine retT_1 (.inr rfl) ⟨(j.tmod n).toNat, ?_, by omega⟩
  simp only [tret]
  rw [show (((j.tmod n).toNat : Nat) : Int) = j.tmod n by omega]
instance : CallIs Try.prog 23 := .of Try.func23 rfl rfl
set_option synthInstance.maxSize 4000 in
set_option synthInstance.maxHeartbeats 400000 in
set_option maxHeartbeats 4000000 in
theorem tableauValuesT {t : TabD} {p : PauD} {i k : Int} (hw : TabW t) (hp : PauW p) (hi : -9223372036854775808 ≤ i ∧ i ≤ 9223372036854775807) (hk : -9223372036854775808 ≤ k ∧ k ≤ 9223372036854775807) : Fn Try.prog 4 [tabT t, pauT p, intT i, intT k] (fun r => r = boolT true) := by
  refine Fn_of Try.func4 rfl (Nat.le_of_ble_eq_true rfl) (fun X => ?_)
  repeat (first | refine StepC.go ?_ | intro _)
  rename_i pt pp
  refine TS_callE awake18T ?_
  repeat (first | refine StepC.go ?_ | (refine TV_cond_f ?_ ?_; · first | rfl | assumption))
  refine TS_callE (tabCheckRT hw) ?_
  by_cases h1 : checkTab t = 0
  case neg =>
    have d1 : (!decide (checkTab t = 0)) = true := by rw [decide_eq_false h1]; rfl
    have d2 : (if (!decide (checkTab t = 0)) = true then true else decide (t.n = 0)) = true := by rw [d1]; rfl
    repeat (first | refine StepC.go ?_ | (refine TS_off rfl ?_ ?_; · first | rfl | assumption) | (refine TS_puw (Pu.pick_t ?_) ?_; · first | rfl | assumption) | (refine TV_cond_t ?_ ?_; · first | rfl | assumption))
    exact retT_1 (.inr rfl) rfl
  have d1 : (!decide (checkTab t = 0)) = false := by rw [decide_eq_true h1]; rfl
  by_cases h0 : t.n = 0
  case pos =>
    have d2 : (if (!decide (checkTab t = 0)) = true then true else decide (t.n = 0)) = true := by rw [d1, decide_eq_true h0]; rfl
    repeat (first | refine StepC.go ?_ | (refine TS_on rfl ?_ ?_; · first | rfl | assumption) | (refine TV_cond_t ?_ ?_; · first | rfl | assumption))
    exact retT_1 (.inr rfl) rfl
  have d2 : (if (!decide (checkTab t = 0)) = true then true else decide (t.n = 0)) = false := by rw [d1, decide_eq_false h0]; rfl
  have g := TabG.of hw h1
  have n0 := g.n0
  have n1 := g.n1
  have nl := g.nl
  repeat (first | refine StepC.go ?_ | (refine TS_on rfl ?_ ?_; · first | rfl | assumption) | refine TD_take rfl rfl ?_ | refine TD_load rfl rfl ?_ | refine TD_one rfl ?_ | refine FiltT_nil ?_ | refine FiltT_drop rfl ?_ | refine FiltT_keep rfl ?_ | refine TV_draw (id := 5) (plan := [.take 0, .take 1, .take 2, .take 4, .take 5, .take 6, .one 3, .one 7, .take 8, .take 9]) (by kernel_rfl) ?_ | (refine TV_cond_f ?_ ?_; · first | rfl | assumption))
  refine TS_call (placeT hi (by omega)) ?_
  rintro _ ⟨I, rfl, hI⟩
  repeat (first | refine StepC.go ?_ | refine TD_one rfl ?_ | refine FiltT_nil ?_ | refine FiltT_drop rfl ?_)
  refine TS_call (placeT hk (by omega)) ?_
  rintro _ ⟨K, rfl, hK⟩
  obtain ⟨N, hN⟩ : ∃ N : Nat, t.n = (N : Int) := ⟨t.n.toNat, by omega⟩
  have hNt : t.n.toNat = N := by omega
  have hrow : ∀ k, k < t.rows.length → NthG (pauRows t.rows) k (pauCs (rowAt t k)) ∧ PauV (rowAt t k) ∧ (rowAt t k).n = t.n := fun k hk => by
    obtain ⟨a, b, c⟩ := g.at_ hk
    exact ⟨.map pauCs a, b, c⟩
  obtain ⟨ngi, vi, mi⟩ := hrow (N + I) (by omega)
  obtain ⟨ngk, vk, mk⟩ := hrow (N + K) (by omega)
  obtain ⟨ngdi, vdi, mdi⟩ := hrow I (by omega)
  obtain ⟨ngdk, vdk, mdk⟩ := hrow K (by omega)
  have ani : AsNat (t.n + (I : Int)) (N + I) := ⟨by rw [hN]; omega⟩
  have ank : AsNat (t.n + (K : Int)) (N + K) := ⟨by rw [hN]; omega⟩
  obtain ⟨vm, mm, em⟩ := mix_s hw h1 (i := I) (k := K) (by omega) (by omega)
  have hmin := mix_in hw h1 (i := I) (k := K) (by omega) (by omega)
  rw [hNt] at vm mm em hmin
  have hv1 : valC t (rowAt t (N + I)) = (1, 0) := by
    have := InG.stab hw h1 (j := I) (by omega)
    rw [hNt] at this
    exact valC_in hw h1 this (row_even h1 (by omega))
  have hv2 : valC t (mulP (rowAt t (N + I)) (rowAt t (N + K))) = (1, 0) := valC_in hw h1 hmin em
  repeat (first | refine StepC.go ?_ | intro _ | refine TD_take rfl rfl ?_ | refine TD_load rfl rfl ?_ | refine TD_one rfl ?_ | refine FiltT_nil ?_ | refine FiltT_drop rfl ?_ | refine FiltT_keep rfl ?_ | (refine TD_takew rfl rfl (Pu.addi ?_) ?_; · omega) | refine TD_virt rfl rfl rfl (fun _ => ?_) | refine TV_draw (id := 6) (plan := [.take 0, .take 1, .take 2, .take 3, .take 4, .take 5, .take 6, .take 7, .take 8, .take 9, .take 10, .take 11, .take 12, .take 13, .take 14, .take 15, .virt 16, .one 17, .one 18, .one 19]) (by kernel_rfl) ?_)
  rename_i pa pb
  refine TS_call (valueT hw vi.1) ?_
  rintro _ rfl
  rw [hv1]
  repeat (refine StepC.go ?_)
  refine TS_call (mulT vi.1 vk.1) ?_
  rintro _ rfl
  rw [mulC_v vi vk (by rw [mi, mk])]
  repeat (first | refine StepC.go ?_ | intro _)
  rename_i pm
  refine TS_call (valueT hw vm.1) ?_
  rintro _ rfl
  rw [hv2]
  repeat (first | refine StepC.go ?_ | (refine TS_on rfl ?_ ?_; · first | rfl | assumption) | (refine TV_cond_f ?_ ?_; · first | rfl | assumption))
  refine TS_call (valueT hw hp) ?_
  rintro _ rfl
  generalize hM : mulP (rowAt t (N + I)) (rowAt t (N + K)) = M at vm mm em hmin hv2
  refine TS_cut (fun σ B => TGet σ 2 (intT (I : Int)) ∧ TGet σ 3 (intT (K : Int)) ∧ TGet σ 4 (ptrT pt) ∧ TGet σ 5 (ptrT pp) ∧ TGet σ 13 (ptrT pm) ∧ TGet σ 17 (intT (valC t p).1) ∧ TGet σ 18 (intT (valC t p).2) ∧ SubP B [(pp, .cells (pauCs p) 27 true), (pm, .cells (pauCs M) 27 true), (pt, .cells (tabCs t) 24 true)]) ?_ ?_
  · repeat (refine StepC.go ?_)
    exact ⟨inferInstance, inferInstance, inferInstance, inferInstance, inferInstance, inferInstance, inferInstance, inferInstance⟩
  rintro σ B ⟨g2, g3, g4, g5, g13, g17, g18, hB⟩
  refine TV_keep _ (p := hB) ?_
  clear hB
  repeat (refine StepC.go ?_)
  refine TV_cutN (fun σ B => TGet σ 2 (intT (I : Int)) ∧ TGet σ 3 (intT (K : Int)) ∧ TGet σ 4 (ptrT pt) ∧ TGet σ 13 (ptrT pm) ∧ SubP B [(pm, .cells (pauCs M) 27 true), (pt, .cells (tabCs t) 24 true)]) ?_ ?_
  · refine TV_cond ?_ ?_ <;> intro hc
    case refine_2 =>
      repeat (refine StepC.go ?_)
      exact ⟨inferInstance, inferInstance, inferInstance, inferInstance, inferInstance⟩
    have hok : (valC t p).2 = 0 := of_decide_eq_true hc
    obtain ⟨o1, o2, o3, o4⟩ := valC_ok hok
    have vp : PauV p := ⟨hp, o1⟩
    obtain ⟨w1, w2⟩ := valC_neg hw h1 hp hok
    rw [o4] at g17
    repeat (refine StepC.go ?_)
    refine TV_loop (fun d σ B => ∃ (j : Nat), d = N - j ∧ j ≤ N ∧ TGet σ 20 (intT (j : Int)) ∧ TGet σ 19 (boolT (!allComm t p j)) ∧ TGet σ 17 (intT (valueS t p)) ∧ TGet σ 2 (intT (I : Int)) ∧ TGet σ 3 (intT (K : Int)) ∧ TGet σ 4 (ptrT pt) ∧ TGet σ 5 (ptrT pp) ∧ TGet σ 13 (ptrT pm) ∧ SubP B [(pp, .cells (pauCs p) 27 true), (pm, .cells (pauCs M) 27 true), (pt, .cells (tabCs t) 24 true)]) N
      ⟨0, by omega, Nat.zero_le _, tget_as rfl, tget_as rfl, inferInstance, inferInstance, inferInstance, inferInstance, inferInstance, inferInstance, inferInstance⟩ ?_
    rintro d σ B ⟨j, rfl, hj, g20, g19, g17, g2, g3, g4, g5, g13, hB⟩
    refine TV_keep _ (p := hB) ?_
    repeat (refine StepC.go ?_)
    refine TV_cond ?_ ?_ <;> intro hc2
    · have hjl : j < N := by have := of_decide_eq_true hc2; omega
      obtain ⟨ngj, vj, mj⟩ := hrow (N + j) (by omega)
      have anj : AsNat (t.n + (j : Int)) (N + j) := ⟨by rw [hN]; omega⟩
      have e : allComm t p (j + 1) = (allComm t p j && commP (rowAt t (N + j)) p) := by rw [allComm, hNt, commP_symm]
      repeat (first | refine StepC.go ?_ | refine TD_take rfl rfl ?_ | refine TD_load rfl rfl ?_ | refine TD_one rfl ?_ | refine FiltT_nil ?_ | refine FiltT_drop rfl ?_ | refine FiltT_keep rfl ?_ | (refine TD_takew rfl rfl (Pu.addi ?_) ?_; · omega) | refine TV_draw (id := 18) (plan := [.take 0, .take 1, .take 2, .take 3, .take 4, .take 5, .take 6, .take 7, .take 8, .one 9, .take 10, .take 11, .take 12, .take 13, .take 14]) (by kernel_rfl) ?_)
      refine TS_callE (commuteRT vj vp (by rw [mj, o2])) ?_
      generalize allComm t p j = A at g19 e
      generalize commP (rowAt t (N + j)) p = C at e
      cases A <;> cases C
      all_goals repeat (first | refine StepC.go ?_ | (refine TS_on rfl ?_ ?_; · first | rfl | assumption) | (refine TS_off rfl ?_ ?_; · first | rfl | assumption) | refine TS_off_undef rfl ?_ | (refine TS_puw (Pu.pick_t ?_) ?_; · first | rfl | assumption) | (refine TS_puw (Pu.addi ?_) ?_; · omega) | refine TD_take rfl rfl ?_)
      all_goals refine ⟨_, ?_, j + 1, rfl, by omega, tget_as rfl, ?_, inferInstance, inferInstance, inferInstance, inferInstance, inferInstance, inferInstance, inferInstance⟩
      all_goals first
        | omega
        | exact tget_as (by rw [e]; rfl)
    · have hjl : j = N := by have := of_decide_eq_false hc2; omega
      subst hjl
      have hz := value_zero t p
      rw [hNt] at hz
      obtain ⟨hb1, hb2⟩ := valueS_b t p
      generalize allComm t p j = A at *
      generalize hX : valueS t p = V at *
      have hz1 : (!(decide (V = 0) == !A)) = false := by rw [hz]; cases A <;> rfl
      have hz2 : decide (V < -1) = false := decide_eq_false (by omega)
      have hz3 : decide (1 < V) = false := decide_eq_false (by omega)
      have hz4 : (if (!(decide (V = 0) == !A)) = true then true else decide (V < -1)) = false := by rw [hz1]; exact hz2
      have hz5 : (if (if (!(decide (V = 0) == !A)) = true then true else decide (V < -1)) = true then true else decide (1 < V)) = false := by rw [hz4]; exact hz3
      obtain ⟨a1, a2, a3, a4, a5⟩ := pauV_iff.1 vp
      repeat (first | refine StepC.go ?_ | (refine TS_on rfl ?_ ?_; · first | rfl | assumption) | (refine TS_puw (Pu.addi ?_) ?_; · omega) | (refine TV_cond_f ?_ ?_; · first | rfl | assumption))
      refine TS_puw (Pu.divw (r := (p.ph + 2).tmod 4) (by decide) (by rfl)) ?_
      repeat (refine StepC.go ?_)
      refine TS_call (valueT (p := negP p) hw w1) ?_
      rintro _ rfl
      rw [w2]
      have hwr : IntKind.i64.wrap (0 - V) = -V := by rw [IntKind.wrap_i64]; omega
      have hf1 : (!decide (-V = IntKind.i64.wrap (0 - V))) = false := by rw [hwr]; simp
      have hf2 : (if (!decide ((0 : Int) = 0)) = true then true else !decide (-V = IntKind.i64.wrap (0 - V))) = false := by rw [hf1]; rfl
      repeat (first | refine StepC.go ?_ | (refine TS_on rfl ?_ ?_; · first | rfl | assumption) | (refine TV_cond_f ?_ ?_; · first | rfl | assumption))
      exact ⟨inferInstance, inferInstance, inferInstance, inferInstance, inferInstance⟩
  rintro σ B ⟨g2, g3, g4, g13, hB⟩
  refine TV_keep _ (p := hB) ?_
  clear hB
  have hemp : t.rows.isEmpty = false := by
    cases h : t.rows with
    | nil => rw [h] at nl; simp at nl; omega
    | cons a l => rfl
  have hsm : Sm63 t.rows.length := ⟨by omega⟩
  repeat (refine StepC.go ?_)
  refine TS_callO (tcopyO (by omega)) ?_
  rintro _ _ ⟨pb, rfl, rfl⟩
  simp only [List.singleton_append, hemp]
  have hreal : ∀ ps : List PauD, ps.length = t.rows.length → RealX (pauRows ps) false := fun ps h1 => ⟨fun h2 => by
    have : ps.length = 0 := by simpa [pauRows] using congrArg List.length h2
    omega⟩
  have rxt := hreal t.rows rfl
  repeat (first | refine StepC.go ?_ | intro _)
  rename_i px
  refine TV_cutN (fun σ B => ∃ U : TabD, TabW U ∧ U.n = t.n ∧ U.rows.length = t.rows.length ∧ sameC t U = (true, 0) ∧ TGet σ 4 (ptrT pt) ∧ TGet σ 25 (ptrT px) ∧ SubP B [(px, .cells [intT t.n, .v (.slice (some (ad pb 0)) t.rows.length t.rows.length)] 24 true), (pb, .arr 4 (pauRows U.rows) 27 false), (pt, .cells (tabCs t) 24 true)]) ?_ ?_
  · refine TV_cond ?_ ?_ <;> intro hc
    case refine_2 =>
      repeat (refine StepC.go ?_)
      exact ⟨t, hw, rfl, rfl, same_self hw h1, inferInstance, inferInstance, inferInstance⟩
    have hIK : I ≠ K := fun h => by subst h; simp at hc
    have hs := mix_same hw h1 (i := I) (k := K) (by omega) (by omega) hIK
    obtain ⟨hwU, _⟩ := mix_ok hw h1 (i := I) (k := K) (by omega) (by omega) hIK
    obtain ⟨vd, md, ed⟩ := mix_d hw h1 (i := I) (k := K) (by omega) (by omega)
    have hU : (mixD t I K).rows = (t.rows.set (N + I) M).set K (mulP (rowAt t K) (rowAt t I)) := by unfold mixD; rw [hNt, hM]
    have hlM : LenT (pauRows (t.rows.set (N + I) M)) t.rows.length := ⟨by simp [pauRows]⟩
    have ngK2 : NthG (pauRows (t.rows.set (N + I) M)) K (pauCs (rowAt t K)) := .map pauCs (by rw [List.getElem?_set_ne (by omega)]; exact (g.at_ (i := K) (by omega)).1)
    have hev : (mulP (rowAt t K) (rowAt t I)).ph.tmod 2 = 0 := Int.tmod_eq_zero_of_dvd (Int.dvd_of_emod_eq_zero ed)
    repeat (first | refine StepC.go ?_ | (refine TS_puw (Pu.addi ?_) ?_; · omega) | refine TD_take rfl rfl ?_ | refine TD_load rfl rfl ?_ | refine TD_one rfl ?_ | refine FiltT_nil ?_ | refine FiltT_keep rfl ?_ | refine TD_virt rfl rfl rfl (fun _ => ?_) | refine TV_draw (id := 29) (plan := [.take 0, .take 1, .take 2, .take 3, .take 4, .take 5, .take 6, .take 7, .take 8, .take 9, .virt 14, .one 10, .take 11, .take 12, .take 13, .one 15, .take 16]) (by kernel_rfl) ?_)
    refine TS_call (mulT vdk.1 vdi.1) ?_
    rintro _ rfl
    rw [mulC_v vdk vdi (by rw [mdk, mdi])]
    repeat (first | refine StepC.go ?_ | refine TD_take rfl rfl ?_ | refine TD_one rfl ?_ | refine FiltT_nil ?_ | refine FiltT_drop rfl ?_ | (refine TV_cond_f ?_ ?_; · first | rfl | assumption))
    refine TS_puw (Pu.divw (r := 0) (by decide) (by show some _ = some _; rw [show (mulP (rowAt t K) (rowAt t I)).ph.tmod 2 = 0 from hev])) ?_
    repeat (first | refine StepC.go ?_ | (refine TV_cond_f ?_ ?_; · first | rfl | assumption))
    exact ⟨mixD t I K, hwU, rfl, mix_len t I K, hs, inferInstance, inferInstance, by rw [hU]; infer_instance⟩
  rintro σ B ⟨U, wU, nU, lU, sU, g4, g25, hB⟩
  refine TV_keep _ (p := hB) ?_
  have hlU : LenT (pauRows U.rows) t.rows.length := ⟨by simp [pauRows, lU]⟩
  have rxU := hreal U.rows lU
  have hTU : tabT U = .agg [intT t.n, .sl 4 (pauRows U.rows)] := by rw [← nU]
  have fS := tabSameT hw wU
  rw [sU, hTU] at fS
  have fT := tabSameT hw hw
  rw [same_self hw h1] at fT
  repeat (refine StepC.go ?_)
  refine TS_callE fS ?_
  repeat (refine StepC.go ?_)
  refine TS_callE fT ?_
  repeat (first | refine StepC.go ?_ | (refine TS_on rfl ?_ ?_; · first | rfl | assumption))
  exact retT_1 (.inr rfl) rfl
theorem tableauValuesW {h : IHp} {v1 v2 : Value} {i k : Int} {t : TabD} {p : PauD} (m1 : Rep h.cell? (tabT t) v1) (hw : TabW t) (m2 : Rep h.cell? (pauT p) v2) (hp : PauW p) (hi : -9223372036854775808 ≤ i ∧ i ≤ 9223372036854775807) (hk : -9223372036854775808 ≤ k ∧ k ≤ 9223372036854775807) : EvX Try.prog 4 #[v1, v2, .int .i64 i, .int .i64 k] h (fun v _ => v = .bool true) :=
  EvX_of_Fn (tableauValuesT hw hp hi hk) (RepL.cons m1 (RepL.cons m2 (RepL.cons (rep_v _) (RepL.cons (rep_v _) RepL.nil))))
end Go.Ideal
