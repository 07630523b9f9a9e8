/- Part 7 of what the proof stands on: an interpreter over an ideal memory that is proved sound, steps over it, and contracts of the functions that are called. No condition: no law is claimed here. -/
import Derived.Test.YteloepinfffmgaaC6
-- Ya
set_option linter.unusedSimpArgs false
set_option linter.unusedVariables false
namespace Go.Ideal
open Go Go.Proofs Go.RowKit
/-! ### The rows of a tableau span all strings: the plain law -/
theorem cover_len : ∀ (M : Nat) (l : List Nat), (∀ b, b < M → b ∈ l) → M ≤ l.length := by
  intro M
  induction M with
  | zero => intro l _; exact Nat.zero_le _
  | succ M ih =>
    intro l h
    have hm := h M (by omega)
    have h1 := ih (l.erase M) (fun b hb => (List.mem_erase_of_ne (by omega)).2 (h b (by omega)))
    rw [List.length_erase_of_mem hm] at h1
    have := List.length_pos_of_mem hm
    omega
theorem surj_inj {M : Nat} {f : Nat → Nat} (hs : ∀ b, b < M → ∃ a, a < M ∧ f a = b) {a a' : Nat} (ha : a < M) (ha' : a' < M) (h : f a = f a') : a = a' := by
  apply Decidable.byContradiction
  intro hne
  have h1 := cover_len M (((List.range M).erase a).map f) (fun b hb => by
    obtain ⟨c, hc, hb⟩ := hs b hb
    by_cases h2 : c = a
    · exact List.mem_map.2 ⟨a', (List.mem_erase_of_ne (Ne.symm hne)).2 (List.mem_range.2 ha'), by rw [← h, ← h2, hb]⟩
    · exact List.mem_map.2 ⟨c, (List.mem_erase_of_ne h2).2 (List.mem_range.2 hc), hb⟩)
  rw [List.length_map, List.length_erase_of_mem (List.mem_range.2 ha), List.length_range] at h1
  omega
theorem pcK_xor (f g : Nat → Bool) : ∀ k, pcK (fun i => f i ^^ g i) k % 2 = (pcK f k + pcK g k) % 2 := by
  intro k
  induction k with
  | zero => rfl
  | succ k ih =>
    simp only [pcK]
    cases f k <;> cases g k <;> simp <;> omega
theorem pcS_xor (a b c : Nat) : pcS ((a ^^^ b) &&& c) % 2 = (pcS (a &&& c) + pcS (b &&& c)) % 2 := by
  unfold pcS
  rw [← pcK_xor]
  congr 1
  refine pcK_congr 64 fun j _ => ?_
  rw [Nat.testBit_and, Nat.testBit_xor, Nat.testBit_and, Nat.testBit_and]
  cases a.testBit j <;> cases b.testBit j <;> cases c.testBit j <;> rfl
def acP (p q : PauD) : Bool := !commP p q
theorem acP_eq (p q : PauD) : acP p q = decide ((pcS (p.x &&& q.z) + pcS (p.z &&& q.x)) % 2 = 1) := by
  unfold acP commP
  rw [Bool.eq_iff_iff]
  simp only [Bool.not_eq_true', decide_eq_false_iff_not, decide_eq_true_eq]
  omega
theorem acP_xor {p p' q r : PauD} (hx : r.x = p.x ^^^ p'.x) (hz : r.z = p.z ^^^ p'.z) : acP r q = (acP p q ^^ acP p' q) := by
  rw [acP_eq, acP_eq, acP_eq, hx, hz]
  have h1 := pcS_xor p.x p'.x q.z
  have h2 := pcS_xor p.z p'.z q.x
  by_cases hA : (pcS (p.x &&& q.z) + pcS (p.z &&& q.x)) % 2 = 1
  · by_cases hB : (pcS (p'.x &&& q.z) + pcS (p'.z &&& q.x)) % 2 = 1
    · rw [decide_eq_true hA, decide_eq_true hB]; exact decide_eq_false (by omega)
    · rw [decide_eq_true hA, decide_eq_false hB]; exact decide_eq_true (by omega)
  · by_cases hB : (pcS (p'.x &&& q.z) + pcS (p'.z &&& q.x)) % 2 = 1
    · rw [decide_eq_false hA, decide_eq_true hB]; exact decide_eq_true (by omega)
    · rw [decide_eq_false hA, decide_eq_false hB]; exact decide_eq_false (by omega)
theorem acP_symm (p q : PauD) : acP p q = acP q p := by unfold acP; rw [commP_symm]
theorem acP_self (p : PauD) : acP p p = false := by
  unfold acP commP
  rw [Nat.and_comm p.z p.x]; simp
theorem acP_eye {p q : PauD} (hx : p.x = 0) (hz : p.z = 0) : acP p q = false := by
  rw [acP_eq, hx, hz, Nat.zero_and, Nat.zero_and]; rfl
/-- how the rows of a tableau stand to each other -/
theorem rows_ac {t : TabD} (hw : TabW t) (h : checkTab t = 0) {i j : Nat} (hi : i < t.rows.length) (hj : j < t.rows.length) : acP (rowAt t i) (rowAt t j) = decide (i = j + t.n.toNat ∨ j = i + t.n.toNat) := by
  have g := TabG.of hw h
  have n0 := g.n0
  have nl := g.nl
  have hrb : rowsB t t.rows.length = true := by
    unfold checkTab at h
    split at h
    · rename_i h1; exact h1.2
    · cases h
  have key : ∀ i, i < t.rows.length → ∀ k, pairsB t i k = true → ∀ j, j < k → acP (rowAt t i) (rowAt t j) = decide ((i : Int) = (j : Int) + t.n) := by
    intro i hi k
    induction k with
    | zero => intro _ j hj; omega
    | succ k ih =>
      intro hp j hj
      simp only [pairsB, Bool.and_eq_true, beq_iff_eq] at hp
      by_cases h1 : j = k
      · subst h1; unfold acP; rw [hp.2, Bool.not_not]
      · exact ih hp.1 j (by omega)
  rcases Nat.lt_trichotomy i j with h1 | h1 | h1
  · rw [acP_symm, key j hj j (rowsB_ok hrb j hj).2 i h1]
    exact decide_eq_decide.2 (by omega)
  · subst h1
    rw [acP_self]
    symm
    refine decide_eq_false fun h2 => ?_
    omega
  · rw [key i hi i (rowsB_ok hrb i hi).2 j h1]
    exact decide_eq_decide.2 (by omega)
/-- the letters of the rows whose bit stands in s, added up (each row's partner) -/
def cmb (t : TabD) (N s : Nat) : Nat → PauD
  | 0 => ⟨t.n, 0, 0, 0⟩
  | i + 1 => if s.testBit i then ⟨t.n, (cmb t N s i).x ^^^ (rowAt t (if i < N then i + N else i - N)).x, (cmb t N s i).z ^^^ (rowAt t (if i < N then i + N else i - N)).z, 0⟩ else cmb t N s i
theorem cmb_ac {t : TabD} (hw : TabW t) (h : checkTab t = 0) {N : Nat} (hN : t.n.toNat = N) (s : Nat) {j : Nat} (hj : j < 2 * N) : ∀ k, k ≤ 2 * N → acP (cmb t N s k) (rowAt t j) = (decide (j < k) && s.testBit j) := by
  have g := TabG.of hw h
  have n0 := g.n0
  have nl := g.nl
  intro k
  induction k with
  | zero => intro _; rw [cmb, acP_eye rfl rfl]; simp
  | succ k ih =>
    intro hk
    have ih := ih (by omega)
    rw [cmb]
    have hp : acP (rowAt t (if k < N then k + N else k - N)) (rowAt t j) = decide (j = k) := by
      rw [rows_ac hw h (by split <;> omega) (by omega), hN]
      refine decide_eq_decide.2 ?_
      split <;> omega
    cases hb : s.testBit k with
    | false =>
      rw [if_neg (by decide), ih]
      by_cases h1 : j = k
      · subst h1; rw [hb]; simp
      · have : decide (j < k) = decide (j < k + 1) := decide_eq_decide.2 (by omega)
        rw [this]
    | true =>
      rw [if_pos rfl, acP_xor (p := cmb t N s k) (p' := rowAt t (if k < N then k + N else k - N)) rfl rfl, ih, hp]
      by_cases h1 : j = k
      · subst h1; rw [hb]; simp
      · have : decide (j < k) = decide (j < k + 1) := decide_eq_decide.2 (by omega)
        rw [this, decide_eq_false h1, Bool.xor_false]
theorem row_lt {t : TabD} (g : TabG t) {i : Nat} (hi : i < t.rows.length) : (rowAt t i).x < 2 ^ t.n.toNat ∧ (rowAt t i).z < 2 ^ t.n.toNat := by
  obtain ⟨_, v, n⟩ := g.at_ hi
  obtain ⟨_, _, _, _, e⟩ := pauV_iff.1 v
  rw [n] at e
  exact ⟨Nat.lt_pow_two_of_testBit _ (fun j hj => (e j hj).1), Nat.lt_pow_two_of_testBit _ (fun j hj => (e j hj).2)⟩
theorem cmb_lt {t : TabD} (g : TabG t) {N : Nat} (hN : t.n.toNat = N) (s : Nat) : ∀ k, k ≤ 2 * N → (cmb t N s k).x < 2 ^ N ∧ (cmb t N s k).z < 2 ^ N := by
  have n0 := g.n0
  have nl := g.nl
  intro k
  induction k with
  | zero => intro _; exact ⟨Nat.two_pow_pos N, Nat.two_pow_pos N⟩
  | succ k ih =>
    intro hk
    have ih := ih (by omega)
    rw [cmb]
    split
    · have := row_lt g (i := if k < N then k + N else k - N) (by split <;> omega)
      rw [hN] at this
      exact ⟨Nat.xor_lt_two_pow ih.1 this.1, Nat.xor_lt_two_pow ih.2 this.2⟩
    · exact ih
/-- with which rows a string does not commute, as a number -/
def synd (t : TabD) (p : PauD) : Nat → Nat
  | 0 => 0
  | i + 1 => synd t p i ||| (if acP p (rowAt t i) then 2 ^ i else 0)
theorem synd_bit (t : TabD) (p : PauD) : ∀ k j, (synd t p k).testBit j = (decide (j < k) && acP p (rowAt t j)) := by
  intro k
  induction k with
  | zero => intro j; simp [synd]
  | succ k ih =>
    intro j
    rw [synd, Nat.testBit_or, ih]
    by_cases h1 : j = k
    · subst h1
      cases hb : acP p (rowAt t j) <;> simp
    · have e : decide (j < k) = decide (j < k + 1) := decide_eq_decide.2 (by omega)
      rw [e]
      have e2 : (if acP p (rowAt t k) = true then 2 ^ k else 0).testBit j = false := by
        split
        · rw [Nat.testBit_two_pow]; exact decide_eq_false (by omega)
        · exact Nat.zero_testBit j
      rw [e2, Bool.or_false]
theorem nondeg {t : TabD} (hw : TabW t) (h : checkTab t = 0) {p : PauD} (hx : p.x < 2 ^ t.n.toNat) (hz : p.z < 2 ^ t.n.toNat) (hc : ∀ i, i < t.rows.length → acP p (rowAt t i) = false) : p.x = 0 ∧ p.z = 0 := by
  have g := TabG.of hw h
  have n0 := g.n0
  have nl := g.nl
  obtain ⟨N, hN⟩ : ∃ N : Nat, t.n.toNat = N := ⟨_, rfl⟩
  rw [hN] at hx hz
  let D : Nat → PauD := fun v => ⟨t.n, v % 2 ^ N, v / 2 ^ N, 0⟩
  have hpw : 2 ^ (2 * N) = 2 ^ N * 2 ^ N := by rw [Nat.two_mul, Nat.pow_add]
  have hpos : 0 < 2 ^ N := Nat.two_pow_pos N
  have enc : ∀ x z, x < 2 ^ N → z < 2 ^ N → x + 2 ^ N * z < 2 ^ (2 * N) ∧ (x + 2 ^ N * z) % 2 ^ N = x ∧ (x + 2 ^ N * z) / 2 ^ N = z := by
    intro x z h1 h2
    refine ⟨?_, ?_, ?_⟩
    · rw [hpw]
      have h3 : 2 ^ N * z + 2 ^ N ≤ 2 ^ N * 2 ^ N := by rw [← Nat.mul_succ]; exact Nat.mul_le_mul_left _ h2
      omega
    · rw [Nat.add_mul_mod_self_left, Nat.mod_eq_of_lt h1]
    · rw [Nat.add_mul_div_left _ _ hpos, Nat.div_eq_of_lt h1, Nat.zero_add]
  have acD : ∀ (q : PauD) (v i : Nat), v % 2 ^ N = q.x → v / 2 ^ N = q.z → acP (D v) (rowAt t i) = acP q (rowAt t i) := by
    intro q v i h1 h2
    rw [acP_eq, acP_eq]
    show decide ((pcS (v % 2 ^ N &&& _) + pcS (v / 2 ^ N &&& _)) % 2 = 1) = _
    rw [h1, h2]
  have hs : ∀ b, b < 2 ^ (2 * N) → ∃ a, a < 2 ^ (2 * N) ∧ synd t (D a) (2 * N) = b := by
    intro b hb
    obtain ⟨l1, l2⟩ := cmb_lt g hN b (2 * N) (Nat.le_refl _)
    obtain ⟨e1, e2, e3⟩ := enc _ _ l1 l2
    refine ⟨_, e1, Nat.eq_of_testBit_eq fun j => ?_⟩
    rw [synd_bit, acD (cmb t N b (2 * N)) _ j e2 e3]
    by_cases hj : j < 2 * N
    · rw [cmb_ac hw h hN b hj (2 * N) (Nat.le_refl _), decide_eq_true hj]; simp
    · rw [decide_eq_false hj, Bool.false_and]
      exact (Nat.testBit_lt_two_pow (Nat.lt_of_lt_of_le hb (Nat.pow_le_pow_right (by decide) (by omega)))).symm
  obtain ⟨e1, e2, e3⟩ := enc _ _ hx hz
  have h0 : (0 : Nat) < 2 ^ (2 * N) := Nat.two_pow_pos _
  have key := surj_inj hs e1 h0 (by
    refine Nat.eq_of_testBit_eq fun j => ?_
    rw [synd_bit, synd_bit, acD p _ j e2 e3, acP_eye (p := D 0) (Nat.zero_mod _) (Nat.zero_div _)]
    by_cases hj : j < 2 * N
    · rw [hc j (by omega)]
    · rw [decide_eq_false hj, Bool.false_and, Bool.false_and])
  have hx0 : p.x = 0 := by omega
  have hz0 : p.z = 0 := by
    rw [hx0, Nat.zero_add] at key
    rcases Nat.mul_eq_zero.1 key with h1 | h1
    · omega
    · exact h1
  exact ⟨hx0, hz0⟩
end Go.Ideal

-- Yb
set_option linter.unusedSimpArgs false
set_option linter.unusedVariables false
namespace Go.Ideal
open Go Go.Proofs Go.RowKit
/-! ### The product of stabilizers that a string is: the plain law -/
theorem groupK_ac {t : TabD} (hw : TabW t) (h : checkTab t = 0) (p : PauD) {j : Nat} (hj : j < t.rows.length) : ∀ k, k ≤ t.n.toNat → acP (groupK t p k) (rowAt t j) = (decide (j < k) && acP p (rowAt t j)) := by
  have g := TabG.of hw h
  have n0 := g.n0
  have nl := g.nl
  intro k
  induction k with
  | zero => intro _; rw [groupK, acP_eye rfl rfl]; simp
  | succ k ih =>
    intro hk
    have ih := ih (by omega)
    rw [groupK]
    by_cases hc : commP p (rowAt t k) = true
    · rw [if_pos hc, ih]
      by_cases h1 : j = k
      · subst h1
        have : acP p (rowAt t j) = false := by unfold acP; rw [hc]; rfl
        rw [this, Bool.and_false, Bool.and_false]
      · have : decide (j < k) = decide (j < k + 1) := decide_eq_decide.2 (by omega)
        rw [this]
    · rw [if_neg hc, acP_xor (p := groupK t p k) (p' := rowAt t (t.n.toNat + k)) rfl rfl, ih, rows_ac hw h (by omega) hj]
      have hc2 : acP p (rowAt t k) = true := by unfold acP; simpa using hc
      by_cases h1 : j = k
      · subst h1
        rw [hc2, decide_eq_false (Nat.lt_irrefl j), decide_eq_true (Nat.lt_succ_self j), decide_eq_true (Or.inl (Nat.add_comm _ _))]; rfl
      · have e : decide (j < k) = decide (j < k + 1) := decide_eq_decide.2 (by omega)
        have e2 : decide (t.n.toNat + k = j + t.n.toNat ∨ j = t.n.toNat + k + t.n.toNat) = false := decide_eq_false (by omega)
        rw [e, e2, Bool.xor_false]
theorem allComm_iff {t : TabD} {p : PauD} : ∀ {k : Nat}, allComm t p k = true ↔ ∀ i, i < k → commP p (rowAt t (t.n.toNat + i)) = true := by
  intro k
  induction k with
  | zero => exact ⟨fun _ i hi => by omega, fun _ => rfl⟩
  | succ k ih =>
    rw [allComm, Bool.and_eq_true, ih]
    constructor
    · rintro ⟨h1, h2⟩ i hi
      by_cases h3 : i = k
      · rw [h3]; exact h2
      · exact h1 i (by omega)
    · exact fun h => ⟨fun i hi => h i (by omega), h k (by omega)⟩
theorem xor_zero_eq {a b : Nat} (h : a ^^^ b = 0) : a = b := Nat.eq_of_testBit_eq fun i => by
  have : (a ^^^ b).testBit i = false := by rw [h]; exact Nat.zero_testBit i
  rw [Nat.testBit_xor] at this
  cases h1 : a.testBit i <;> cases h2 : b.testBit i <;> rw [h1, h2] at this <;> simp_all
/-- a string that commutes with all stabilizers is, up to its phase, the product of those that the group tells -/
theorem group_xz {t : TabD} (hw : TabW t) (h : checkTab t = 0) {p : PauD} (hp : PauV p) (hpn : p.n = t.n) (hc : allComm t p t.n.toNat = true) : (groupK t p t.n.toNat).x = p.x ∧ (groupK t p t.n.toNat).z = p.z := by
  have g := TabG.of hw h
  have n0 := g.n0
  have nl := g.nl
  obtain ⟨vg, ng⟩ := groupK_v g p t.n.toNat (Nat.le_refl _)
  obtain ⟨_, _, _, _, e1⟩ := pauV_iff.1 vg
  obtain ⟨_, _, _, _, e2⟩ := pauV_iff.1 hp
  rw [ng] at e1
  rw [hpn] at e2
  have lx : ∀ {q : PauD}, (∀ i, t.n.toNat ≤ i → q.x.testBit i = false ∧ q.z.testBit i = false) → q.x < 2 ^ t.n.toNat ∧ q.z < 2 ^ t.n.toNat := fun e => ⟨Nat.lt_pow_two_of_testBit _ (fun j hj => (e j hj).1), Nat.lt_pow_two_of_testBit _ (fun j hj => (e j hj).2)⟩
  obtain ⟨a1, a2⟩ := lx e1
  obtain ⟨b1, b2⟩ := lx e2
  obtain ⟨r1, r2⟩ := nondeg hw h (p := ⟨t.n, (groupK t p t.n.toNat).x ^^^ p.x, (groupK t p t.n.toNat).z ^^^ p.z, 0⟩) (Nat.xor_lt_two_pow a1 b1) (Nat.xor_lt_two_pow a2 b2) (fun i hi => by
    rw [acP_xor (p := groupK t p t.n.toNat) (p' := p) rfl rfl, groupK_ac hw h p hi _ (Nat.le_refl _)]
    by_cases h1 : i < t.n.toNat
    · rw [decide_eq_true h1, Bool.true_and, Bool.xor_self]
    · have := allComm_iff.1 hc (i - t.n.toNat) (by omega)
      rw [show t.n.toNat + (i - t.n.toNat) = i by omega] at this
      have e : acP p (rowAt t i) = false := by unfold acP; rw [this]; rfl
      rw [e, Bool.and_false]; rfl)
  exact ⟨xor_zero_eq r1, xor_zero_eq r2⟩
theorem mul_even {p q : PauD} (hp : p.ph % 2 = 0) (hq : q.ph % 2 = 0) (hc : commP p q = true) : (mulP p q).ph % 2 = 0 := by
  show mphS p q % 2 = 0
  unfold mphS
  have h1 := pcS_xor p.x q.x (p.z ^^^ q.z)
  have h2 := pcS_xor p.z q.z p.x
  have h3 := pcS_xor p.z q.z q.x
  rw [Nat.and_comm _ p.x, Nat.and_comm p.z p.x, Nat.and_comm q.z p.x] at h2
  rw [Nat.and_comm _ q.x, Nat.and_comm p.z q.x, Nat.and_comm q.z q.x] at h3
  unfold commP at hc
  have h4 := of_decide_eq_true hc
  rw [Nat.and_comm p.z q.x] at h4 ⊢
  omega
theorem groupK_even {t : TabD} (hw : TabW t) (h : checkTab t = 0) (p : PauD) : ∀ k, k ≤ t.n.toNat → (groupK t p k).ph % 2 = 0 := by
  have g := TabG.of hw h
  have n0 := g.n0
  have nl := g.nl
  have hrb : rowsB t t.rows.length = true := by
    unfold checkTab at h
    split at h
    · rename_i h1; exact h1.2
    · cases h
  intro k
  induction k with
  | zero => intro _; rfl
  | succ k ih =>
    intro hk
    have ih := ih (by omega)
    rw [groupK]
    split
    · exact ih
    · have hi : t.n.toNat + k < t.rows.length := by omega
      refine mul_even ih ?_ ?_
      · have h1 := (rowsB_ok hrb _ hi).1
        simp only [rowOk, Bool.and_eq_true, decide_eq_true_eq] at h1
        have h2 := h1.2
        exact Int.emod_eq_zero_of_dvd (Int.dvd_of_tmod_eq_zero h2)
      · have h1 := groupK_ac hw h p hi k (by omega)
        rw [decide_eq_false (by omega), Bool.false_and] at h1
        unfold acP at h1
        simpa using h1
end Go.Ideal

-- Yc
set_option linter.unusedSimpArgs false
set_option linter.unusedVariables false
namespace Go.Ideal
open Go Go.Proofs Go.RowKit
/-! ### The reference's view of the group -/
set_option synthInstance.maxSize 4000 in
set_option synthInstance.maxHeartbeats 400000 in
set_option maxHeartbeats 4000000 in
theorem inGroupT {t : TabD} {p : PauD} (hw : TabW t) (hck : checkTab t = 0) (hp : PauV p) (hpn : p.n = t.n) : Fn Try.prog 48 [tabT t, pauT p] (fun r => r = .tup [pauT (if allComm t p t.n.toNat = true then groupK t p t.n.toNat else ⟨0, 0, 0, 0⟩), boolT (allComm t p t.n.toNat)]) := by
  refine Fn_of Try.func48 rfl (Nat.le_of_ble_eq_true rfl) (fun X => ?_)
  have g := TabG.of hw hck
  have hL : (pauRows t.rows).length = t.rows.length := by simp [pauRows]
  obtain ⟨N, hN⟩ : ∃ N : Nat, t.n = (N : Int) := ⟨t.n.toNat, by have := g.n0; omega⟩
  have hNt : t.n.toNat = N := by omega
  have nl := g.nl
  have n1 := g.n1
  rw [hNt]
  repeat (first | refine StepC.go ?_ | intro _)
  rename_i pt pp pr pq
  refine TV_loop (fun d σ B => ∃ (i : Nat), d = N - i ∧ i ≤ N ∧ TGet σ 7 (intT (i : Int)) ∧ TGet σ 2 (ptrT pt) ∧ TGet σ 3 (ptrT pp) ∧ TGet σ 4 (ptrT pr) ∧ TGet σ 6 (ptrT pq) ∧
      SubP B [(pq, .cells (pauCs (groupK t p i)) 27 true), (pr, .cells [intT 0, .v (.int .u64 0), .v (.int .u64 0), intT 0] 27 true), (pp, .cells (pauCs p) 27 true), (pt, .cells (tabCs t) 24 true)] ∧ allComm t p i = true) N
    ⟨0, by omega, Nat.zero_le _, tget_as rfl, inferInstance, inferInstance, inferInstance, inferInstance, inferInstanceAs (SubP _ [(pq, .cells [intT t.n, .v (.int .u64 0), .v (.int .u64 0), intT 0] 27 true), (pr, .cells [intT 0, .v (.int .u64 0), .v (.int .u64 0), intT 0] 27 true), (pp, .cells (pauCs p) 27 true), (pt, .cells (tabCs t) 24 true)]), rfl⟩ ?_
  rintro d σ B ⟨i, rfl, hi, g7, g2, g3, g4, g6, hB, hal⟩
  refine TV_keep _ (p := hB) ?_
  repeat (refine StepC.go ?_)
  refine TV_cond ?_ ?_ <;> intro hc
  · have hil : i < N := by have := of_decide_eq_true hc; omega
    obtain ⟨h1, v1, m1⟩ := g.at_ (i := i) (by omega)
    obtain ⟨h2, v2, m2⟩ := g.at_ (i := N + i) (by omega)
    obtain ⟨vk, nk⟩ := groupK_v g p i (by omega)
    have ng1 : NthG (pauRows t.rows) i (pauCs (rowAt t i)) := .map pauCs h1
    have ng2 : NthG (pauRows t.rows) (N + i) (pauCs (rowAt t (N + i))) := .map pauCs h2
    have an : AsNat (t.n + (i : Int)) (N + i) := ⟨by rw [hN]; omega⟩
    repeat (first | refine StepC.go ?_ | refine TD_take rfl rfl ?_ | refine TD_load rfl rfl ?_ | refine TD_one rfl ?_ | refine FiltT_nil ?_ | refine FiltT_drop rfl ?_ | refine FiltT_keep rfl ?_ | refine TD_takew rfl rfl (Pu.addi (by omega)) ?_ | refine TV_draw (id := 5) (plan := [.take 0, .take 1, .take 2, .take 3, .take 4, .take 5, .take 6, .take 7, .take 8, .one 9, .take 10]) (by kernel_rfl) ?_)
    refine TS_callE (rcommT v2 hp (by rw [hpn, m2])) ?_
    repeat (first | refine StepC.go ?_ | refine TD_take rfl rfl ?_)
    refine TV_cond ?_ ?_ <;> intro hc2
    · have hcf : commP p (rowAt t (N + i)) = false := by rw [commP_symm]; simpa using hc2
      have e : allComm t p (i + 1) = false := by rw [allComm, hNt, hcf, Bool.and_false]
      repeat (refine StepC.go ?_)
      refine retT_2 (.inr rfl) ?_
      rw [allComm_false e _ hil]
      rfl
    have hct : commP p (rowAt t (N + i)) = true := by rw [commP_symm]; simpa using hc2
    have hal2 : allComm t p (i + 1) = true := by rw [allComm, hal, hNt, hct]; rfl
    repeat (first | refine StepC.go ?_ | refine TD_take rfl rfl ?_ | refine TD_load rfl rfl ?_ | refine TD_one rfl ?_ | refine FiltT_nil ?_ | refine FiltT_drop rfl ?_ | refine FiltT_keep rfl ?_ | refine TV_draw (id := 7) (plan := [.take 0, .take 1, .take 2, .take 3, .take 4, .take 5, .one 6, .take 7]) (by kernel_rfl) ?_)
    refine TS_callE (rcommT v1 hp (by rw [hpn, m1])) ?_
    repeat (first | refine StepC.go ?_ | refine TD_take rfl rfl ?_)
    refine TV_cond ?_ ?_ <;> intro hc3
    · have hcf : commP p (rowAt t i) = false := by rw [commP_symm]; simpa using hc3
      repeat (first | refine TD_take rfl rfl ?_ | refine TD_load rfl rfl ?_ | refine TD_one rfl ?_ | refine FiltT_nil ?_ | refine FiltT_drop rfl ?_ | refine FiltT_keep rfl ?_ | refine TD_takew rfl rfl (Pu.addi (by omega)) ?_ | refine TV_draw (id := 8) (plan := [.take 0, .take 1, .take 2, .take 3, .take 4, .take 5, .take 6, .take 7, .take 8, .one 9, .one 10]) (by kernel_rfl) ?_)
      refine TS_callE (mul18T vk v2 (by rw [nk, m2])) ?_
      repeat (first | refine StepC.go ?_ | refine TS_puw (Pu.addi (by omega)) ?_ | refine TD_one rfl ?_ | refine FiltT_nil ?_ | refine FiltT_drop rfl ?_)
      refine ⟨_, ?_, i + 1, rfl, by omega, tget_as rfl, inferInstance, inferInstance, inferInstance, inferInstance, ?_, hal2⟩
      · omega
      · rw [groupK, hcf, hNt]; simp only [Bool.false_eq_true, if_false]; infer_instance
    · have hct1 : commP p (rowAt t i) = true := by rw [commP_symm]; simpa using hc3
      repeat (first | refine StepC.go ?_ | refine TS_puw (Pu.addi (by omega)) ?_)
      refine ⟨_, ?_, i + 1, rfl, by omega, tget_as rfl, inferInstance, inferInstance, inferInstance, inferInstance, ?_, hal2⟩
      · omega
      · rw [groupK, if_pos hct1]; infer_instance
  · have hil : i = N := by have := of_decide_eq_false hc; omega
    rw [hil] at hal ⊢
    have hxz := group_xz hw hck hp hpn (by rw [hNt]; exact hal)
    rw [hNt] at hxz
    have hx : ((groupK t p N).x : Int) = (p.x : Int) := by rw [hxz.1]
    have hz : ((groupK t p N).z : Int) = (p.z : Int) := by rw [hxz.2]
    have dx : decide (((groupK t p N).x : Int) = (p.x : Int)) = true := decide_eq_true hx
    have dz : decide (((groupK t p N).z : Int) = (p.z : Int)) = true := decide_eq_true hz
    have e : (if decide (((groupK t p N).x : Int) = (p.x : Int)) = true then decide (((groupK t p N).z : Int) = (p.z : Int)) else false) = true := by rw [dx, dz]; rfl
    repeat (first | refine StepC.go ?_ | refine TD_take rfl rfl ?_ | refine TD_load rfl rfl ?_ | refine TD_one rfl ?_ | refine FiltT_nil ?_ | refine FiltT_drop rfl ?_ | refine FiltT_keep rfl ?_ | refine TD_take_on rfl rfl (by first | rfl | assumption) rfl ?_ | refine TD_load_on rfl rfl (by first | rfl | assumption) rfl ?_ | refine TV_draw (id := 9) (plan := [.take 0, .take 1, .take 2, .take 3, .take 4, .take 5, .take 6, .take 7, .take 8, .take 9, .take 10, .take 11, .take 12, .one 13, .take 14]) (by kernel_rfl) ?_)
    refine retT_2 (.inr rfl) ?_
    simp only [tret]
    rw [hal, e]
    rfl
instance : CallIs Try.prog 48 := .of Try.func48 rfl rfl
end Go.Ideal

-- Yd
set_option linter.unusedSimpArgs false
set_option linter.unusedVariables false
namespace Go.Ideal
open Go Go.Proofs Go.RowKit
/-! ### The two ways to what is certain are one: the plain law -/
theorem pcK_single (q : Nat) (b : Bool) : ∀ k, pcK (fun i => decide (i = q) && b) k = if q < k then b.toNat else 0 := by
  intro k
  induction k with
  | zero => rfl
  | succ k ih =>
    rw [pcK, ih]
    by_cases h1 : k = q
    · subst h1
      rw [if_neg (Nat.lt_irrefl k), if_pos (Nat.lt_succ_self k)]
      simp
    · by_cases h2 : q < k
      · rw [if_pos h2, if_pos (by omega), decide_eq_false h1]; simp
      · rw [if_neg h2, if_neg (by omega), decide_eq_false h1]; simp
theorem pcS_bit {q : Nat} (hq : q < 64) (x : Nat) : pcS (bitN (q : Int) &&& x) = (x.testBit q).toNat := by
  unfold pcS
  have := pcK_congr (f := fun i => (bitN (q : Int) &&& x).testBit i) (g := fun i => decide (i = q) && x.testBit q) 64 (fun j _ => by
    rw [Nat.testBit_and, bitN_bit hq]
    by_cases h : j = q
    · subst h; rfl
    · rw [decide_eq_false h]; simp)
  rw [this, pcK_single, if_pos hq]
theorem bitN_shl (q : Nat) : bitN (q : Int) = (1 <<< q) % 18446744073709551616 := by unfold bitN; rw [Int.toNat_natCast]
theorem oneZ_comm {n : Int} {q : Nat} (hq : q < 64) (r : PauD) : commP (oneZ n q 0) r = !r.x.testBit q := by
  unfold commP
  show decide ((pcS (0 &&& r.z) : Int) % 2 = (pcS ((1 <<< q) % 18446744073709551616 &&& r.x) : Int) % 2) = _
  rw [← bitN_shl, pcS_bit hq, Nat.zero_and]
  have h0 : pcS 0 = 0 := by decide +kernel
  rw [h0]
  cases r.x.testBit q <;> rfl
theorem xAt_bit (q : Nat) (r : PauD) : xAt q r = r.x.testBit q := by
  unfold xAt
  rw [Nat.testBit, Nat.and_one_is_mod, Nat.one_and_eq_mod_two]
  rw [Bool.eq_iff_iff]
  simp only [decide_eq_true_eq, bne_iff_ne, ne_eq]
  omega
theorem loose_comm {t : TabD} (g : TabG t) {q : Nat} (hq : (q : Int) < t.n) : (0 ≤ looseS t q) ↔ allComm t (oneZ t.n q 0) t.n.toNat = false := by
  have n0 := g.n0
  have n1 := g.n1
  have nl := g.nl
  have h1 := idxF_any (xAt q) (t.rows.drop t.n.toNat) 0
  have h2 : (0 ≤ looseS t q) ↔ (t.rows.drop t.n.toNat).any (xAt q) = true := by
    rw [← h1]; unfold looseS; exact decide_eq_true_iff.symm
  rw [h2]
  constructor
  · intro h
    obtain ⟨r, hr, hx⟩ := List.any_eq_true.1 h
    obtain ⟨i, hi⟩ := List.getElem?_of_mem hr
    rw [List.getElem?_drop] at hi
    have hil := (List.getElem?_eq_some_iff.1 hi).1
    rw [Bool.eq_false_iff]
    intro h3
    have h4 := allComm_iff.1 h3 i (by omega)
    rw [rowAt_get hi, oneZ_comm (by omega), ← xAt_bit, hx] at h4
    cases h4
  · intro h
    apply Decidable.byContradiction
    intro h3
    have h5 : allComm t (oneZ t.n q 0) t.n.toNat = true := allComm_iff.2 fun i hi => by
      obtain ⟨hr, _, _⟩ := g.at_ (i := t.n.toNat + i) (by omega)
      rw [oneZ_comm (by omega), ← xAt_bit]
      have h6 := List.any_eq_false.1 (Bool.eq_false_iff.2 h3) (rowAt t (t.n.toNat + i)) (List.mem_of_getElem? (i := i) (by rw [List.getElem?_drop]; exact hr))
      cases hx : xAt q (rowAt t (t.n.toNat + i)) with
      | false => rfl
      | true => exact absurd hx h6
    rw [h5] at h
    cases h
theorem pauEq_xz' {q p : PauD} (hn : q.n = p.n) (hx : q.x = p.x) (hz : q.z = p.z) : pauEqB q p = decide (q.ph = p.ph) := by
  unfold pauEqB
  rw [hn, hx, hz]
  rw [Bool.eq_iff_iff]; simp
theorem cert_eq {t : TabD} (hw : TabW t) (hck : checkTab t = 0) {q : Nat} (hq : (q : Int) < t.n) :
    certS t q = if allComm t (oneZ t.n q 0) t.n.toNat = true then ((groupK t (oneZ t.n q 0) t.n.toNat).ph.tdiv 2, true) else (0, false) := by
  have g := TabG.of hw hck
  have hv := oneZ_v g.n0 g.n1 hq
  have hl := loose_comm g hq
  unfold certS
  cases ha : allComm t (oneZ t.n q 0) t.n.toNat with
  | false => rw [if_pos (hl.2 ha), if_neg (by decide)]
  | true =>
    rw [if_neg (fun h => by rw [hl.1 h] at ha; cases ha), if_pos rfl]
    obtain ⟨e1, e2⟩ := group_xz hw hck hv rfl ha
    obtain ⟨vg, ng⟩ := groupK_v g (oneZ t.n q 0) t.n.toNat (Nat.le_refl _)
    have he := groupK_even hw hck (oneZ t.n q 0) t.n.toNat (Nat.le_refl _)
    obtain ⟨_, _, p0, p1, _⟩ := pauV_iff.1 vg
    have hph : (oneZ t.n q 0).ph = 0 := rfl
    unfold valueS
    rw [if_pos ha, pauEq_xz' ng e1 e2, hph]
    obtain h | h : (groupK t (oneZ t.n q 0) t.n.toNat).ph = 0 ∨ (groupK t (oneZ t.n q 0) t.n.toNat).ph = 2 := by omega
    · rw [h]; rfl
    · rw [h]; rfl
end Go.Ideal

-- Ye
set_option linter.unusedSimpArgs false
set_option linter.unusedVariables false
namespace Go.Ideal
open Go Go.Proofs Go.RowKit
/-! ### The group of a tableau: the plain law -/
theorem mulP_comm {p q : PauD} (hn : p.n = q.n) (hc : commP p q = true) : mulP p q = mulP q p := by
  have h := (mphS_comm p q).2 hc
  show PauD.mk p.n (p.x ^^^ q.x) (p.z ^^^ q.z) (mphS p q) = PauD.mk q.n (q.x ^^^ p.x) (q.z ^^^ p.z) (mphS q p)
  rw [h, hn, Nat.xor_comm p.x, Nat.xor_comm p.z]
theorem mulP_self {p : PauD} (he : p.ph % 2 = 0) : mulP p p = ⟨p.n, 0, 0, 0⟩ := by
  show PauD.mk p.n (p.x ^^^ p.x) (p.z ^^^ p.z) (mphS p p) = _
  have h0 : pcS 0 = 0 := by decide +kernel
  have : mphS p p = 0 := by
    unfold mphS
    rw [Nat.xor_self, Nat.xor_self, Nat.zero_and, h0, Nat.and_comm p.z p.x]
    omega
  rw [this, Nat.xor_self, Nat.xor_self]
theorem row_even {t : TabD} (h : checkTab t = 0) {i : Nat} (hi : i < t.rows.length) : (rowAt t i).ph % 2 = 0 := by
  have hrb : rowsB t t.rows.length = true := by
    unfold checkTab at h
    split at h
    · rename_i h1; exact h1.2
    · cases h
  have h1 := (rowsB_ok hrb _ hi).1
  simp only [rowOk, Bool.and_eq_true, decide_eq_true_eq] at h1
  exact Int.emod_eq_zero_of_dvd (Int.dvd_of_tmod_eq_zero h1.2)
theorem groupK_stab {t : TabD} (hw : TabW t) (h : checkTab t = 0) (p : PauD) {k : Nat} (hk : k ≤ t.n.toNat) {j : Nat} (hj : j < t.n.toNat) : commP (groupK t p k) (rowAt t (t.n.toNat + j)) = true := by
  have g := TabG.of hw h
  have n0 := g.n0
  have nl := g.nl
  have h1 := groupK_ac hw h p (j := t.n.toNat + j) (by omega) k hk
  rw [decide_eq_false (by omega), Bool.false_and] at h1
  unfold acP at h1
  simpa using h1
theorem groupK_mul {t : TabD} (hw : TabW t) (h : checkTab t = 0) (x y : PauD) : ∀ k, k ≤ t.n.toNat → groupK t (mulP x y) k = mulP (groupK t x k) (groupK t y k) := by
  have g := TabG.of hw h
  have n0 := g.n0
  have nl := g.nl
  intro k
  induction k with
  | zero => intro _; exact ((mul_eye (eye_v g.n0 g.n1)).1).symm
  | succ k ih =>
    intro hk
    have ih := ih (by omega)
    have hi : t.n.toNat + k < t.rows.length := by omega
    obtain ⟨_, vS, nS⟩ := g.at_ hi
    obtain ⟨vG, nG⟩ := groupK_v g x k (by omega)
    obtain ⟨vH, nH⟩ := groupK_v g y k (by omega)
    have hcH := groupK_stab hw h y (k := k) (by omega) (j := k) (by omega)
    have eS := row_even h hi
    have hac : acP (mulP x y) (rowAt t k) = (acP x (rowAt t k) ^^ acP y (rowAt t k)) := acP_xor rfl rfl
    rw [groupK, groupK, groupK, ih]
    generalize rowAt t (t.n.toNat + k) = S at *
    generalize groupK t x k = G at *
    generalize groupK t y k = H at *
    unfold acP at hac
    cases c1 : commP x (rowAt t k) <;> cases c2 : commP y (rowAt t k) <;> rw [c1, c2] at hac
    · have c3 : commP (mulP x y) (rowAt t k) = true := by simpa using hac
      rw [if_pos c3, if_neg (by decide), if_neg (by decide)]
      have vHS := mul_v vH vS (by rw [nH, nS])
      rw [mul_assoc vG vS vHS (by rw [nG, nS]) (by rw [nS]; exact nH.symm), ← mul_assoc vS vH vS (by rw [nS, nH]) (by rw [nH, nS]), ← mulP_comm (by rw [nH, nS]) hcH, mul_assoc vH vS vS (by rw [nH, nS]) rfl, mulP_self eS]
      have e := (mul_eye vH).1
      rw [show S.n = H.n by rw [nS, nH], e]
    · have c3 : ¬ commP (mulP x y) (rowAt t k) = true := by simpa using hac
      rw [if_neg c3, if_neg (by decide), if_pos rfl]
      rw [mul_assoc vG vH vS (by rw [nG, nH]) (by rw [nH, nS]), mul_assoc vG vS vH (by rw [nG, nS]) (by rw [nS, nH]), mulP_comm (by rw [nH, nS]) hcH]
    · have c3 : ¬ commP (mulP x y) (rowAt t k) = true := by simpa using hac
      rw [if_neg c3, if_pos rfl, if_neg (by decide)]
      exact mul_assoc vG vH vS (by rw [nG, nH]) (by rw [nH, nS])
    · have c3 : commP (mulP x y) (rowAt t k) = true := by simpa using hac
      rw [if_pos c3, if_pos rfl, if_pos rfl]
def InG (t : TabD) (x : PauD) : Prop := PauV x ∧ x.n = t.n ∧ groupK t x t.n.toNat = x
theorem InG.mul {t : TabD} (hw : TabW t) (h : checkTab t = 0) {x y : PauD} (hx : InG t x) (hy : InG t y) : InG t (mulP x y) :=
  ⟨mul_v hx.1 hy.1 (by rw [hx.2.1, hy.2.1]), hx.2.1, by rw [groupK_mul hw h x y _ (Nat.le_refl _), hx.2.2, hy.2.2]⟩
theorem InG.eye {t : TabD} (hw : TabW t) (h : checkTab t = 0) : InG t ⟨t.n, 0, 0, 0⟩ := by
  have g := TabG.of hw h
  refine ⟨eye_v g.n0 g.n1, rfl, ?_⟩
  have : ∀ k, groupK t ⟨t.n, 0, 0, 0⟩ k = ⟨t.n, 0, 0, 0⟩ := by
    intro k
    induction k with
    | zero => rfl
    | succ k ih =>
      have : commP ⟨t.n, 0, 0, 0⟩ (rowAt t k) = true := by
        have := acP_eye (p := ⟨t.n, 0, 0, 0⟩) (q := rowAt t k) rfl rfl
        unfold acP at this
        simpa using this
      rw [groupK, if_pos this, ih]
  exact this _
end Go.Ideal

-- Yf
set_option linter.unusedSimpArgs false
set_option linter.unusedVariables false
namespace Go.Ideal
open Go Go.Proofs Go.RowKit
/-! ### The reference's Certain and Value -/
theorem onS_oneZ (n : Int) (q : Nat) : onS n (q : Int) 90 0 = oneZ n q 0 := by
  unfold onS oneZ bitN; rw [Int.toNat_natCast]; rfl
set_option synthInstance.maxSize 4000 in
set_option synthInstance.maxHeartbeats 400000 in
set_option maxHeartbeats 4000000 in
theorem rcertT {t : TabD} {q : Nat} (hw : TabW t) (hck : checkTab t = 0) (hq : (q : Int) < t.n) : Fn Try.prog 46 [tabT t, intT (q : Int)] (fun r => r = .tup [intT (certS t q).1, boolT (certS t q).2]) := by
  refine Fn_of Try.func46 rfl (Nat.le_of_ble_eq_true rfl) (fun X => ?_)
  have g := TabG.of hw hck
  have hv := oneZ_v g.n0 g.n1 hq
  obtain ⟨vg, ng⟩ := groupK_v g (oneZ t.n q 0) t.n.toNat (Nat.le_refl _)
  obtain ⟨_, _, p0, p1, _⟩ := pauV_iff.1 vg
  rw [cert_eq hw hck hq]
  repeat (first | refine StepC.go ?_ | intro _ | refine TD_take rfl rfl ?_ | refine TD_load rfl rfl ?_ | refine TD_one rfl ?_ | refine FiltT_nil ?_ | refine FiltT_drop rfl ?_ | refine FiltT_keep rfl ?_ | refine TD_virt rfl rfl rfl (fun _ => ?_) | refine TV_draw (id := 1) (plan := [.take 0, .take 1, .take 2, .take 3, .virt 9, .one 4, .one 5, .take 6, .take 7, .take 8, .one 10, .take 11]) (by kernel_rfl) ?_)
  refine TS_callE (onT (n := t.n) (q := (q : Int)) (k := 90) (ph := 0) g.n1 (by omega) hq (.inr (.inr rfl))) ?_
  rw [onS_oneZ]
  repeat (first | refine StepC.go ?_ | refine TD_one rfl ?_ | refine FiltT_nil ?_ | refine FiltT_drop rfl ?_ | refine FiltT_keep rfl ?_)
  refine TS_call (inGroupT hw hck hv rfl) ?_
  rintro _ rfl
  cases ha : allComm t (oneZ t.n q 0) t.n.toNat with
  | false =>
    repeat (first | refine StepC.go ?_ | refine TD_take rfl rfl ?_ | refine TD_one rfl ?_ | refine FiltT_nil ?_ | refine FiltT_drop rfl ?_ | refine TV_cond_t (by first | rfl | assumption) ?_)
    refine retT_2 (.inr rfl) ?_
    rfl
  | true =>
    rw [if_pos rfl, if_pos rfl]
    generalize groupK t (oneZ t.n q 0) t.n.toNat = G at *
    have hdv : idivs .quo .i64 G.ph 2 = some (G.ph.tdiv 2) := by
      obtain h | h | h | h : G.ph = 0 ∨ G.ph = 1 ∨ G.ph = 2 ∨ G.ph = 3 := by omega
      all_goals rw [h]; decide
    repeat (first | refine StepC.go ?_ | refine TD_take rfl rfl ?_ | refine TD_one rfl ?_ | refine FiltT_nil ?_ | refine FiltT_drop rfl ?_ | refine TV_cond_f (by first | rfl | assumption) ?_)
    refine TS_puw (Pu.divw (r := G.ph.tdiv 2) (by decide) hdv) ?_
    repeat (refine StepC.go ?_)
    refine retT_2 (.inr rfl) ?_
    rfl
instance : CallIs Try.prog 46 := .of Try.func46 rfl rfl
instance : CallIs Try.prog 13 := .of Try.func13 rfl rfl
instance : CallIs Try.prog 14 := .of Try.func14 rfl rfl
end Go.Ideal

-- Yg
set_option linter.unusedSimpArgs false
set_option linter.unusedVariables false
namespace Go.Ideal
open Go Go.Proofs Go.RowKit
/-! ### The reference's Zero -/
theorem zFill_all (n : Int) (N : Nat) : zFill n N N = (List.range N).map (zX n) ++ (List.range N).map (zZ n) := by
  unfold zFill
  congr 1
  · exact List.map_congr_left fun j hj => by rw [if_pos (List.mem_range.1 hj)]
  · exact List.map_congr_left fun j hj => by rw [if_pos (List.mem_range.1 hj)]
theorem onS_x (n : Int) (i : Nat) : onS n (i : Int) 88 0 = zX n i := by
  unfold onS zX bitN; rw [Int.toNat_natCast]; rfl
theorem onS_z (n : Int) (i : Nat) : onS n (i : Int) 90 0 = zZ n i := by
  unfold onS zZ bitN; rw [Int.toNat_natCast]; rfl
set_option synthInstance.maxSize 4000 in
set_option synthInstance.maxHeartbeats 400000 in
set_option maxHeartbeats 4000000 in
theorem zeroRT {n : Int} : Fn Try.prog 12 [intT n] (fun r => r = .tup [tabT (zeroC n).1, intT (zeroC n).2]) := by
  refine Fn_of Try.func12 rfl (Nat.le_of_ble_eq_true rfl) (fun X => ?_)
  repeat (first | refine StepC.go ?_ | intro _)
  rename_i pr
  refine TS_cut (fun σ B => TGet σ 12 (boolT (!(decide (0 ≤ n) && decide (n ≤ 64)))) ∧ TGet σ 0 (intT n) ∧ TGet σ 2 (ptrT pr) ∧ SubP B [(pr, .cells [intT 0, .v (.slice none 0 0)] 24 true)]) ?_ ?_
  · repeat' (first | refine StepC.go ?_ | refine TS_on rfl (by first | rfl | assumption) ?_ | refine TS_off rfl (by first | rfl | assumption) ?_ | refine TS_puw (Pu.pick_t (by first | rfl | assumption)) ?_ | (refine TS_guard rfl ?_ ?_ <;> intro hg))
    all_goals refine ⟨tget_as (congrArg (fun b => boolT b) ?_), inferInstance, inferInstance, inferInstance⟩
    all_goals (rw [Bool.eq_iff_iff]; simp only [Bool.if_true_left, Bool.if_false_right, Bool.and_eq_true, Bool.and_eq_false_iff, Bool.not_eq_true', Bool.or_eq_true, Bool.or_eq_false_iff, decide_eq_true_eq, decide_eq_false_iff_not, Bool.not_eq_false', Bool.not_false, Bool.not_true, true_iff, false_iff, Bool.decide_eq_true] at * <;> grind)
  rintro σ B ⟨g12, g0, g2, hB⟩
  refine TV_keep _ (p := hB) ?_
  refine TV_cond ?_ ?_ <;> intro hc
  · repeat (refine StepC.go ?_)
    refine retT_2c [.agg [intT 0, .sl 4 []], intT 2] (.inr rfl) ?_
    simp only [tret, zeroC]; rw [if_neg (by simp at hc; omega)]; rfl
  have hr : 0 ≤ n ∧ n ≤ 64 := by simp at hc; omega
  obtain ⟨N, rfl⟩ : ∃ N : Nat, n = (N : Int) := ⟨n.toNat, by omega⟩
  repeat (first | refine StepC.go ?_ | intro _)
  rename_i po
  refine TV_ghost 4 27 ?_
  intro b0
  refine TV_loop (fun d σ B => ∃ (i b : Nat), d = N - i ∧ i ≤ N ∧ TGet σ 5 (intT (i : Int)) ∧ TGet σ 4 (ptrT po) ∧ TGet σ 2 (ptrT pr) ∧ TGet σ 0 (intT (N : Int)) ∧
      SubP B [(po, .cells [intT (N : Int), .v (gsv b i)] 24 true), (pr, .cells [intT 0, .v (.slice none 0 0)] 24 true), (b, .arr 4 (pauRows ((List.range i).map (zX N))) 27 false)]) N
    ⟨0, b0, by omega, Nat.zero_le _, tget_as rfl, inferInstance, inferInstance, inferInstance, inferInstanceAs (SubP _ [(po, .cells [intT (N : Int), .v (.slice none 0 0)] 24 true), (pr, .cells [intT 0, .v (.slice none 0 0)] 24 true), (b0, .arr 4 [] 27 false)])⟩ ?_
  clear hB g12 g0 g2
  rintro d σ B ⟨i, b, rfl, hi, g5, g4, g2, g0, hB⟩
  refine TV_keep _ (p := hB) ?_
  have hlF : LenT (pauRows ((List.range i).map (zX N))) i := ⟨by simp [pauRows]⟩
  repeat (refine StepC.go ?_)
  refine TV_cond ?_ ?_ <;> intro hc3
  · have hil : i < N := by have := of_decide_eq_true hc3; omega
    repeat (first | refine StepC.go ?_ | refine TD_take rfl rfl ?_ | refine TD_load rfl rfl ?_ | refine TD_one rfl ?_ | refine FiltT_nil ?_ | refine FiltT_keep rfl ?_ | refine TV_draw (id := 7) (plan := [.take 0, .take 1, .take 2, .take 3, .one 4, .one 5, .one 6, .take 7, .one 8]) (by kernel_rfl) ?_)
    refine TS_callE (onT (n := (N : Int)) (q := (i : Int)) (k := 88) (ph := 0) hr.2 (by omega) (by omega) (.inl rfl)) ?_
    rw [onS_x]
    repeat (first | refine StepC.go ?_ | intro _ | refine TS_puw (Pu.addi (by omega)) ?_ | refine TS_append (by omega) (fun _ => ?_) | refine TD_take rfl rfl ?_ | refine TD_one rfl ?_ | refine FiltT_nil ?_ | refine FiltT_drop rfl ?_ | refine FiltT_keep rfl ?_)
    rename_i b2
    have hd : pauRows ((List.range (i + 1)).map (zX N)) = pauRows ((List.range i).map (zX N)) ++ [pauCs (zX N i)] := by
      rw [List.range_succ, List.map_append, pauRows_app]; rfl
    refine ⟨_, ?_, i + 1, b2, rfl, by omega, tget_as rfl, inferInstance, inferInstance, inferInstance, ?_⟩
    · omega
    · rw [hd]; infer_instance
  have hil : i = N := by have := of_decide_eq_false hc3; omega
  subst hil
  repeat (refine StepC.go ?_)
  refine TV_loop (fun d σ B => ∃ (j b : Nat), d = i - j ∧ j ≤ i ∧ TGet σ 6 (intT (j : Int)) ∧ TGet σ 4 (ptrT po) ∧ TGet σ 2 (ptrT pr) ∧ TGet σ 0 (intT (i : Int)) ∧
      SubP B [(po, .cells [intT (i : Int), .v (gsv b (i + j))] 24 true), (pr, .cells [intT 0, .v (.slice none 0 0)] 24 true), (b, .arr 4 (pauRows ((List.range i).map (zX i) ++ (List.range j).map (zZ i))) 27 false)]) i
    ⟨0, b, by omega, Nat.zero_le _, tget_as rfl, inferInstance, inferInstance, inferInstance, by rw [List.range_zero, List.map_nil, List.append_nil, Nat.add_zero]; infer_instance⟩ ?_
  clear hB g5 g4 g2 g0 hlF
  clear b
  rintro d σ B ⟨j, b, rfl, hj, g6, g4, g2, g0, hB⟩
  refine TV_keep _ (p := hB) ?_
  have hlG : LenT (pauRows ((List.range i).map (zX i) ++ (List.range j).map (zZ i))) (i + j) := ⟨by simp [pauRows]⟩
  repeat (refine StepC.go ?_)
  refine TV_cond ?_ ?_ <;> intro hc4
  · have hji : j < i := by have := of_decide_eq_true hc4; omega
    repeat (first | refine StepC.go ?_ | refine TD_take rfl rfl ?_ | refine TD_load rfl rfl ?_ | refine TD_one rfl ?_ | refine FiltT_nil ?_ | refine FiltT_keep rfl ?_ | refine TV_draw (id := 11) (plan := [.take 0, .take 1, .take 2, .take 3, .one 4, .one 5, .one 6, .take 7, .one 8]) (by kernel_rfl) ?_)
    refine TS_callE (onT (n := (i : Int)) (q := (j : Int)) (k := 90) (ph := 0) hr.2 (by omega) (by omega) (.inr (.inr rfl))) ?_
    rw [onS_z]
    repeat (first | refine StepC.go ?_ | intro _ | refine TS_puw (Pu.addi (by omega)) ?_ | refine TS_append (by omega) (fun _ => ?_) | refine TD_take rfl rfl ?_ | refine TD_one rfl ?_ | refine FiltT_nil ?_ | refine FiltT_drop rfl ?_ | refine FiltT_keep rfl ?_)
    rename_i b2
    have hd : pauRows ((List.range i).map (zX i) ++ (List.range (j + 1)).map (zZ i)) = pauRows ((List.range i).map (zX i) ++ (List.range j).map (zZ i)) ++ [pauCs (zZ i j)] := by
      rw [List.range_succ, List.map_append, ← List.append_assoc, pauRows_app (_ ++ _)]; rfl
    refine ⟨_, ?_, j + 1, b2, rfl, by omega, tget_as rfl, inferInstance, inferInstance, inferInstance, ?_⟩
    · omega
    · rw [hd]; infer_instance
  · have hji : j = i := by have := of_decide_eq_false hc4; omega
    subst hji
    rw [← zFill_all] at *
    have hlH : LenT (pauRows (zFill (j : Int) j j)) (j + j) := hlG
    have : Sm63 (j + j) := ⟨by omega⟩
    repeat (refine StepC.go ?_)
    refine retT_2 (.inr rfl) ?_
    simp only [tret, zeroC]
    rw [if_pos hr, Int.toNat_natCast]
instance : CallIs Try.prog 12 := .of Try.func12 rfl rfl
end Go.Ideal

-- Yh
set_option linter.unusedSimpArgs false
set_option linter.unusedVariables false
namespace Go.Ideal
open Go Go.Proofs Go.RowKit
/-! ### Same, of both -/
instance : CallIs Try.prog 52 := .of Try.func52 rfl rfl
instance : CallIs Try.prog 53 := .of Try.func53 rfl rfl
instance : CallIs Try.prog 19 := .of Try.func19 rfl rfl
end Go.Ideal

-- Yi
set_option linter.unusedSimpArgs false
set_option linter.unusedVariables false
namespace Go.Ideal
open Go Go.Proofs Go.RowKit
/-! ### The reference's Same; the law TableauAsks -/
instance : CallIs Try.prog 15 := .of Try.func15 rfl rfl
end Go.Ideal

-- Yj
set_option linter.unusedSimpArgs false
set_option linter.unusedVariables false
namespace Go.Ideal
open Go Go.Proofs Go.RowKit
/-! ### The law TableauAsks -/
end Go.Ideal

-- Za
set_option linter.unusedSimpArgs false
set_option linter.unusedVariables false
namespace Go.Ideal
open Go Go.Proofs Go.RowKit
/-! ### Behind a measurement -/
theorem PauD.eq_of {p q : PauD} (h : pauEqB p q = true) : p = q := by
  obtain ⟨a, b, c, d⟩ := p
  obtain ⟨a', b', c', d'⟩ := q
  simp only [pauEqB, Bool.and_eq_true, beq_iff_eq, Bool.and_true] at h
  obtain ⟨h1, h2, h3, h4⟩ := h
  subst h1 h4
  have h2 : b = b' := by omega
  have h3 : c = c' := by omega
  subst h2 h3
  rfl
theorem pauEqB_self (p : PauD) : pauEqB p p = true := by simp [pauEqB]
theorem rows_ne {t : TabD} (hw : TabW t) (h : checkTab t = 0) {k i : Nat} (hi : i < t.n.toNat) (hk : k < t.rows.length) : pauEqB (rowAt t k) (rowAt t (t.n.toNat + i)) = decide (k = t.n.toNat + i) := by
  have g := TabG.of hw h
  have n0 := g.n0
  have nl := g.nl
  rw [Bool.eq_iff_iff, decide_eq_true_eq]
  constructor
  · intro he
    have e := PauD.eq_of he
    have h1 := rows_ac hw h (i := t.n.toNat + i) (j := i) (by omega) (by omega)
    rw [decide_eq_true (.inl (by omega)), ← e, rows_ac hw h hk (by omega)] at h1
    have := of_decide_eq_true h1
    omega
  · rintro rfl
    exact pauEqB_self _
def prow (t : TabD) (i q : Nat) (k : Nat) : PauD := if k ≠ i ∧ k ≠ t.n.toNat + i ∧ xAt q (rowAt t k) = true then mulP (rowAt t (t.n.toNat + i)) (rowAt t k) else rowAt t k
def pfill (t : TabD) (i q m : Nat) : List PauD := (List.range t.rows.length).map fun k => if k < m then prow t i q k else rowAt t k
theorem pfill_0 (t : TabD) (i q : Nat) : pfill t i q 0 = t.rows := by
  refine List.ext_getElem? fun k => ?_
  unfold pfill
  rw [List.getElem?_map]
  by_cases h : k < t.rows.length
  · rw [List.getElem?_range h]
    obtain ⟨p, hp⟩ : ∃ p, t.rows[k]? = some p := ⟨_, List.getElem?_eq_getElem h⟩
    simp [hp, rowAt_get hp]
  · rw [List.getElem?_eq_none (by simp; omega), List.getElem?_eq_none (by omega)]; rfl
theorem pfill_len (t : TabD) (i q m : Nat) : (pfill t i q m).length = t.rows.length := by simp [pfill]
theorem pfill_at {t : TabD} {i q m : Nat} (h : m < t.rows.length) : (pfill t i q m)[m]? = some (rowAt t m) := by
  unfold pfill
  rw [List.getElem?_map, List.getElem?_range h]; simp
theorem pfill_set (t : TabD) (i q m : Nat) : (pfill t i q m).set m (prow t i q m) = pfill t i q (m + 1) := by
  have e : prow t i q m = (fun k => if k < m + 1 then prow t i q k else rowAt t k) m := by simp
  unfold pfill
  conv => lhs; rw [e]
  refine map_set (N := t.rows.length) (i := m) (f := fun k => if k < m then prow t i q k else rowAt t k) (g := fun k => if k < m + 1 then prow t i q k else rowAt t k) fun j hj hne => ?_
  by_cases h1 : j < m
  · simp only [h1, if_true]; rw [if_pos (by omega)]
  · simp only [h1, if_false]; rw [if_neg (by omega)]
theorem pfill_skip {t : TabD} {i q m : Nat} (h : prow t i q m = rowAt t m) : pfill t i q (m + 1) = pfill t i q m := by
  unfold pfill
  refine List.map_congr_left fun k _ => ?_
  by_cases h1 : k < m
  · rw [if_pos h1, if_pos (by omega)]
  · rw [if_neg h1]
    by_cases h2 : k = m
    · rw [if_pos (by omega), h2, h]
    · rw [if_neg (by omega)]
def projRows (t : TabD) (i q : Nat) (b : Int) : List PauD := ((pfill t i q t.rows.length).set i (rowAt t (t.n.toNat + i))).set (t.n.toNat + i) (oneZ t.n q b)
def projC (t : TabD) (q b : Int) : TabD × Int :=
  if checkTab t = 0 then (if 0 ≤ q ∧ q < t.n then (if 0 ≤ b ∧ b ≤ 1 then (if (certS t q.toNat).2 = true then (if (certS t q.toNat).1 = b then (t, 0) else (noTab, 131)) else (⟨t.n, projRows t (looseS t q.toNat).toNat q.toNat b⟩, 0)) else (noTab, 2)) else (noTab, 112)) else (noTab, 180)
theorem certS_loose (t : TabD) (q : Nat) : (certS t q).2 = !decide (0 ≤ looseS t q) := by
  unfold certS; split <;> simp_all
theorem idxF_spec {α : Type} (p : α → Bool) : ∀ (l : List α) (k : Nat), (idxF p l k = -1 ∧ ∀ x ∈ l, p x = false) ∨ ∃ i x, idxF p l k = ((k + i : Nat) : Int) ∧ l[i]? = some x ∧ p x = true ∧ ∀ j, j < i → ∀ y, l[j]? = some y → p y = false := by
  intro l
  induction l with
  | nil => intro k; exact .inl ⟨rfl, by simp⟩
  | cons a l ih =>
    intro k
    rw [idxF]
    by_cases h : p a = true
    · rw [if_pos h]
      exact .inr ⟨0, a, by simp, rfl, h, fun j hj => by omega⟩
    · rw [if_neg h]
      rcases ih (k + 1) with ⟨h1, h2⟩ | ⟨i, x, h1, h2, h3, h4⟩
      · refine .inl ⟨h1, fun x hx => ?_⟩
        rcases List.mem_cons.1 hx with h5 | h5
        · rw [h5]; simpa using h
        · exact h2 x h5
      · refine .inr ⟨i + 1, x, ?_, h2, h3, fun j hj y hy => ?_⟩
        · rw [h1]; congr 1; omega
        · cases j with
          | zero => simp at hy; subst hy; simpa using h
          | succ j => exact h4 j (by omega) y (by simpa using hy)
theorem loose_spec {t : TabD} (g : TabG t) (q : Nat) (h : 0 ≤ looseS t q) : ∃ i : Nat, looseS t q = (i : Int) ∧ i < t.n.toNat ∧ xAt q (rowAt t (t.n.toNat + i)) = true ∧ ∀ j, j < i → xAt q (rowAt t (t.n.toNat + j)) = false := by
  have n0 := g.n0
  have nl := g.nl
  unfold looseS at *
  rcases idxF_spec (xAt q) (t.rows.drop t.n.toNat) 0 with ⟨h1, _⟩ | ⟨i, x, h1, h2, h3, h4⟩
  · omega
  · rw [List.getElem?_drop] at h2
    have hl := (List.getElem?_eq_some_iff.1 h2).1
    refine ⟨i, by rw [h1]; congr 1; omega, by omega, by rw [rowAt_get h2]; exact h3, fun j hj => ?_⟩
    obtain ⟨y, hy⟩ : ∃ y, t.rows[t.n.toNat + j]? = some y := ⟨_, List.getElem?_eq_getElem (by omega)⟩
    rw [rowAt_get hy]
    exact h4 j hj y (by rw [List.getElem?_drop]; exact hy)
set_option synthInstance.maxSize 4000 in
theorem clonePO {ps : List PauD} (hne : ps ≠ []) (hl : ps.length ≤ 2 ^ 30) : FnO Try.prog 60 [.sl 4 (pauRows ps)] (fun r B => ∃ b, r = .v (.slice (some (ad b 0)) ps.length ps.length) ∧ B = [(b, .arr 4 (pauRows ps) 27 false)]) := by
  refine FnO_of Try.func60 rfl (Nat.le_of_ble_eq_true rfl) (fun X => ?_)
  have hL : (pauRows ps).length = ps.length := by simp [pauRows]
  have hl' : ps.length < 2 ^ 31 := by omega
  repeat (refine StepC.go ?_)
  refine TS_isnil ?_
  intro b hb
  have hbf : b = false := by
    cases b with
    | false => rfl
    | true => have := hb rfl; exact absurd (by simpa [pauRows] using this) hne
  subst hbf
  repeat (first | refine StepC.go ?_ | intro _ | (refine TS_append_own ?_ (fun _ => ?_); · omega) | (refine TV_cond_f ?_ ?_; · first | rfl | assumption))
  have : Sm63 (0 + ps.length) := ⟨by omega⟩
  skip
  rename_i bs bx
  have e3 : ((pauRows ps).isEmpty && true) = false := by
    cases ps with
    | nil => exact absurd rfl hne
    | cons a l => rfl
  simp only [Nat.zero_add, List.nil_append, e3]
  refine retO_1 [(bx, .arr 4 (pauRows ps) 27 false)] (.inr rfl) (fun p hp => ?_) ⟨bx, rfl, rfl⟩
  rw [List.mem_singleton.1 hp]
  intro h1
  exact absurd (by simpa [pauRows] using h1) hne
instance : CallIs Try.prog 60 := .of Try.func60 rfl rfl
set_option synthInstance.maxSize 4000 in
theorem tcopyO {t : TabD} (hl : t.rows.length ≤ 2 ^ 30) : FnO Try.prog 26 [tabT t] (fun r B => ∃ b, r = .agg [intT t.n, .v (.slice (some (ad b 0)) t.rows.length t.rows.length)] ∧ B = [(b, .arr 4 (pauRows t.rows) 27 t.rows.isEmpty)]) := by
  refine FnO_of Try.func26 rfl (Nat.le_of_ble_eq_true rfl) (fun X => ?_)
  have hL : (pauRows t.rows).length = t.rows.length := by simp [pauRows]
  have hl' : t.rows.length < 2 ^ 31 := by omega
  have : Sm63 (0 + t.rows.length) := ⟨by omega⟩
  repeat (first | refine StepC.go ?_ | intro _ | (refine TS_append_own ?_ (fun _ => ?_); · omega) | refine TD_take rfl rfl ?_ | refine TD_load rfl rfl ?_ | refine TD_one rfl ?_ | refine FiltT_nil ?_ | refine FiltT_drop rfl ?_ | refine FiltT_keep rfl ?_ | refine TV_draw (id := 1) (plan := [.take 0, .take 1, .take 3, .take 4, .one 2, .one 5, .take 6, .one 7]) (by kernel_rfl) ?_)
  rename_i bp br bs bx
  have e3 : ((pauRows t.rows).isEmpty && true) = t.rows.isEmpty := by
    cases t.rows with
    | nil => rfl
    | cons a l => rfl
  simp only [Nat.zero_add, List.nil_append, e3]
  refine retO_1 [(bx, .arr 4 (pauRows t.rows) 27 t.rows.isEmpty)] (.inr rfl) (fun p hp => ?_) ⟨bx, rfl, rfl⟩
  rw [List.mem_singleton.1 hp]
  intro h1
  simpa [pauRows] using h1
instance : CallIs Try.prog 26 := .of Try.func26 rfl rfl
instance {ps : List PauD} : RealX (pauRows ps) ps.isEmpty := ⟨fun h => by simpa [pauRows] using h⟩
theorem pgetD_at {l : List PauD} {i : Nat} (h : i < l.length) : l[i]? = some (l.getD i noPau) := by simp [List.getD, h]
theorem chgA (k i N : Nat) (y : Bool) : (if (if (!decide ((k : Int) = (i : Int))) = true then !decide (k = N + i) else false) = true then y else false) = decide (k ≠ i ∧ k ≠ N + i ∧ y = true) := by
  have q0 : ((k : Int) = (i : Int)) ↔ k = i := by omega
  simp only [q0]
  by_cases q1 : k = i <;> by_cases q2 : k = N + i <;> cases y <;> simp [q1, q2]
theorem chgB (k i N : Nat) (y : Bool) (hg : (if (!decide ((k : Int) = (i : Int))) = true then !decide (k = N + i) else false) = !true) : false = decide (k ≠ i ∧ k ≠ N + i ∧ y = true) := by
  rw [← chgA, hg]; rfl
theorem chgC (k i N : Nat) (y : Bool) (hg : (!decide ((k : Int) = (i : Int))) = !true) : false = decide (k ≠ i ∧ k ≠ N + i ∧ y = true) := by
  rw [← chgA, hg]; rfl
/-- the answer of Project: own memory, or nothing -/
def ProjO (t : TabD) (q b : Int) (r : Tr) (B : Boxes) : Prop :=
  if (projC t q b).2 = 0 then ∃ pb, r = .tup [.agg [intT t.n, .v (.slice (some (ad pb 0)) t.rows.length t.rows.length)], intT 0] ∧ B = [(pb, .arr 4 (pauRows (projC t q b).1.rows) 27 false)]
  else r = .tup [.agg [intT 0, .v (.slice none 0 0)], intT (projC t q b).2] ∧ B = []
set_option synthInstance.maxSize 4000 in
set_option synthInstance.maxHeartbeats 400000 in
set_option maxHeartbeats 4000000 in
theorem projectO {t : TabD} {q b : Int} (hw : TabW t) : FnO Try.prog 28 [tabT t, intT q, intT b] (ProjO t q b) := by
  refine FnO_of Try.func28 rfl (Nat.le_of_ble_eq_true rfl) (fun X => ?_)
  repeat (first | refine StepC.go ?_ | intro _)
  rename_i pt pr
  refine TS_callE (tabCheckT hw) ?_
  repeat (refine StepC.go ?_)
  refine TV_cond ?_ ?_ <;> intro hc
  · have h0 : ¬ checkTab t = 0 := by simpa using hc
    have e : projC t q b = (noTab, 180) := by unfold projC; rw [if_neg h0]
    repeat (refine StepC.go ?_)
    refine retO_2 [] (.inr rfl) (by simp) ?_
    unfold ProjO
    rw [e, if_neg (by decide), (checkTab_or t).resolve_left h0]
    exact ⟨rfl, rfl⟩
  have h1 : checkTab t = 0 := by simpa using hc
  have g := TabG.of hw h1
  repeat (refine StepC.go ?_)
  refine TS_cut (fun σ B => TGet σ 23 (boolT (outS t.n q)) ∧ TGet σ 1 (intT q) ∧ TGet σ 2 (intT b) ∧ TGet σ 3 (ptrT pt) ∧ TGet σ 6 (ptrT pr) ∧ SubP B [(pt, .cells (tabCs t) 24 true), (pr, .cells [intT 0, .v (.slice none 0 0)] 24 true)]) ?_ ?_
  · repeat' (first | refine StepC.go ?_ | (refine TS_on rfl ?_ ?_; · first | rfl | assumption) | (refine TS_off rfl ?_ ?_; · first | rfl | assumption) | (refine TS_puw (Pu.pick_t ?_) ?_; · first | rfl | assumption) | (refine TS_guard rfl ?_ ?_ <;> intro hg))
    all_goals exact ⟨tget_as (by simp_all [outS]), inferInstance, inferInstance, inferInstance, inferInstance, inferInstance⟩
  rintro σ B ⟨g23, g1, g2, g3, g6, hB⟩
  refine TV_keep _ (p := hB) ?_
  refine TV_cond ?_ ?_ <;> intro hc2
  · have e : projC t q b = (noTab, 112) := by unfold projC; rw [if_pos h1, if_neg (by simp [outS] at hc2; omega)]
    repeat (refine StepC.go ?_)
    refine retO_2 [] (.inr rfl) (by simp) ?_
    unfold ProjO
    rw [e, if_neg (by decide)]
    exact ⟨rfl, rfl⟩
  have hq : 0 ≤ q ∧ q < t.n := by simp [outS] at hc2; omega
  clear hB hc hc2
  obtain ⟨Q, rfl⟩ : ∃ Q : Nat, q = (Q : Int) := ⟨q.toNat, by omega⟩
  have nl := g.nl
  have n1 := g.n1
  obtain ⟨N, hN⟩ : ∃ N : Nat, t.n = (N : Int) := ⟨t.n.toNat, by omega⟩
  have hNt : t.n.toNat = N := by omega
  have hne : t.rows ≠ [] := fun h => by rw [h] at nl; simp at nl; omega
  have hL : (pauRows t.rows).length = t.rows.length := by simp [pauRows]
  repeat (refine StepC.go ?_)
  refine TS_cut (fun σ B => TGet σ 33 (boolT (!(decide (0 ≤ b) && decide (b ≤ 1)))) ∧ TGet σ 1 (intT (Q : Int)) ∧ TGet σ 2 (intT b) ∧ TGet σ 3 (ptrT pt) ∧ TGet σ 6 (ptrT pr) ∧ SubP B [(pt, .cells (tabCs t) 24 true), (pr, .cells [intT 0, .v (.slice none 0 0)] 24 true)]) ?_ ?_
  · repeat' (first | refine StepC.go ?_ | (refine TS_on rfl ?_ ?_; · first | rfl | assumption) | (refine TS_off rfl ?_ ?_; · first | rfl | assumption) | (refine TS_puw (Pu.pick_t ?_) ?_; · first | rfl | assumption) | (refine TS_guard rfl ?_ ?_ <;> intro hg))
    all_goals refine ⟨tget_as (congrArg (fun b => boolT b) ?_), inferInstance, inferInstance, inferInstance, inferInstance, inferInstance⟩
    all_goals (rw [Bool.eq_iff_iff]; simp only [Bool.if_true_left, Bool.if_false_right, Bool.and_eq_true, Bool.and_eq_false_iff, Bool.not_eq_true', Bool.or_eq_true, Bool.or_eq_false_iff, decide_eq_true_eq, decide_eq_false_iff_not, Bool.not_eq_false', Bool.not_false, Bool.not_true, true_iff, false_iff, Bool.decide_eq_true] at * <;> grind)
  rintro σ B ⟨g33, g1, g2, g3, g6, hB⟩
  refine TV_keep _ (p := hB) ?_
  refine TV_cond ?_ ?_ <;> intro hc3
  · have e : projC t Q b = (noTab, 2) := by unfold projC; rw [if_pos h1, if_pos hq, if_neg (by simp at hc3; omega)]
    repeat (refine StepC.go ?_)
    refine retO_2 [] (.inr rfl) (by simp) ?_
    unfold ProjO
    rw [e, if_neg (by decide)]
    exact ⟨rfl, rfl⟩
  have hb : 0 ≤ b ∧ b ≤ 1 := by simp at hc3; omega
  clear hB hc3
  repeat (first | refine StepC.go ?_ | refine TD_take rfl rfl ?_ | refine TD_load rfl rfl ?_ | refine TD_one rfl ?_ | refine FiltT_nil ?_ | refine FiltT_drop rfl ?_ | refine FiltT_keep rfl ?_ | refine TD_virt rfl rfl rfl (fun _ => ?_) | refine TV_draw (id := 8) (plan := [.take 0, .take 1, .take 2, .take 3, .virt 6, .one 4, .take 5, .one 7]) (by kernel_rfl) ?_)
  refine TS_callO (clonePO hne (by omega)) ?_
  rintro _ _ ⟨pb, rfl, rfl⟩
  simp only [List.singleton_append]
  repeat (first | refine StepC.go ?_ | refine TD_take rfl rfl ?_ | refine TD_one rfl ?_ | refine FiltT_nil ?_ | refine FiltT_drop rfl ?_)
  rename_i px
  refine TS_callE (tabCertT g hq.2) ?_
  have hreal : ∀ ps : List PauD, ps.length = t.rows.length → pauRows ps = [] → False := fun ps h1 h2 => hne (List.eq_nil_of_length_eq_zero (by rw [← h1]; simpa [pauRows] using congrArg List.length h2))
  cases hcs : (certS t Q).2 with
  | true =>
    repeat (first | refine StepC.go ?_ | (refine TV_cond_t ?_ ?_; · first | rfl | assumption))
    refine TV_cond ?_ ?_ <;> intro hc4
    · have e : projC t Q b = (noTab, 131) := by
        unfold projC; rw [if_pos h1, if_pos hq, if_pos hb, Int.toNat_natCast, if_pos hcs, if_neg (by simpa using hc4)]
      repeat (refine StepC.go ?_)
      refine retO_2 [] (.inr rfl) (by simp) ?_
      unfold ProjO
      rw [e, if_neg (by decide)]
      exact ⟨rfl, rfl⟩
    · have e : projC t Q b = (t, 0) := by
        unfold projC; rw [if_pos h1, if_pos hq, if_pos hb, Int.toNat_natCast, if_pos hcs, if_pos (by simpa using hc4)]
      repeat (refine StepC.go ?_)
      refine retO_2 [(pb, .arr 4 (pauRows t.rows) 27 false)] (.inr rfl) (fun p hp => ?_) ?_
      · rw [List.mem_singleton.1 hp]; exact fun h => (hreal _ rfl h).elim
      · unfold ProjO
        rw [e, if_pos rfl]
        exact ⟨pb, rfl, rfl⟩
  | false =>
    have hl0 : 0 ≤ looseS t Q := by
      have := certS_loose t Q
      rw [hcs] at this; simpa using this
    obtain ⟨i, hi1, hi2, hi3, hi4⟩ := loose_spec g Q hl0
    have e : projC t Q b = (⟨t.n, projRows t i Q b⟩, 0) := by
      unfold projC; rw [if_pos h1, if_pos hq, if_pos hb, Int.toNat_natCast, if_neg (by rw [hcs]; decide), hi1, Int.toNat_natCast]
    repeat (first | refine StepC.go ?_ | (refine TV_cond_f ?_ ?_; · first | rfl | assumption))
    refine TS_callE (looseT g (by omega) (by omega)) ?_
    rw [hi1]
    obtain ⟨hs2, vs, ms⟩ := g.at_ (i := N + i) (by omega)
    have ngs : NthG (pauRows t.rows) (N + i) (pauCs (rowAt t (N + i))) := .map pauCs hs2
    have an : AsNat (t.n + (i : Int)) (N + i) := ⟨by rw [hN]; omega⟩
    repeat (first | refine StepC.go ?_ | intro _ | (refine TS_puw (Pu.addi ?_) ?_; · omega))
    rename_i ps
    rw [hL]
    have e0 := pfill_0 t i Q
    refine TV_loop (fun d σ B => ∃ (k : Nat), d = t.rows.length - k ∧ k ≤ t.rows.length ∧ TGet σ 73 (intT (k : Int)) ∧ TGet σ 72 (intT (t.rows.length : Int)) ∧ TGet σ 71 (.sl 4 (pauRows t.rows)) ∧ TGet σ 12 (intT (i : Int)) ∧ TGet σ 13 (ptrT ps) ∧ TGet σ 9 (ptrT px) ∧ TGet σ 6 (ptrT pr) ∧ TGet σ 3 (ptrT pt) ∧ TGet σ 1 (intT (Q : Int)) ∧ TGet σ 2 (intT b) ∧
        SubP B [(ps, .cells (pauCs (rowAt t (N + i))) 27 true), (pb, .arr 4 (pauRows (pfill t i Q k)) 27 false), (px, .cells [intT t.n, .v (.slice (some (ad pb 0)) t.rows.length t.rows.length)] 24 true), (pt, .cells (tabCs t) 24 true), (pr, .cells [intT 0, .v (.slice none 0 0)] 24 true)]) t.rows.length
      ⟨0, by omega, Nat.zero_le _, tget_as rfl, inferInstance, inferInstance, inferInstance, inferInstance, inferInstance, inferInstance, inferInstance, inferInstance, inferInstance, by rw [e0]; infer_instance⟩ ?_
    clear g1 g2 g3 g6 g33
    rintro d σ B ⟨k, rfl, hk, g73, g72, g71, g12, g13, g9, g6, g3, g1, g2, hB⟩
    refine TV_keep _ (p := hB) ?_
    have hlF : LenT (pauRows (pfill t i Q k)) t.rows.length := ⟨by rw [pauRows, List.length_map, pfill_len]⟩
    repeat (refine StepC.go ?_)
    refine TV_cond ?_ ?_ <;> intro hc5
    · have hkl : k < t.rows.length := by have := of_decide_eq_true hc5; omega
      obtain ⟨hk2, vk, mk⟩ := g.at_ hkl
      have ngk : NthG (pauRows t.rows) k (pauCs (rowAt t k)) := .map pauCs hk2
      have ngf : NthG (pauRows (pfill t i Q k)) k (pauCs (rowAt t k)) := .map pauCs (pfill_at hkl)
      have h64 : Lt64 (rowAt t k).x := ⟨vk.1.1⟩
      have h65 : Lt64 ((rowAt t k).x >>> Q) := ⟨Nat.lt_of_le_of_lt (Nat.shiftRight_le _ _) vk.1.1⟩
      have hne2 := rows_ne hw h1 (k := k) (i := i) hi2 hkl
      rw [hNt] at hne2
      unfold pauEqB at hne2
      repeat (first | refine StepC.go ?_ | intro _)
      rename_i pk
      refine TS_cut (fun σ B => TGet σ 93 (boolT (decide (k ≠ i ∧ k ≠ N + i ∧ xAt Q (rowAt t k) = true))) ∧ TGet σ 73 (intT (k : Int)) ∧ TGet σ 72 (intT (t.rows.length : Int)) ∧ TGet σ 71 (.sl 4 (pauRows t.rows)) ∧ TGet σ 14 (intT (k : Int)) ∧ TGet σ 15 (ptrT pk) ∧ TGet σ 12 (intT (i : Int)) ∧ TGet σ 13 (ptrT ps) ∧ TGet σ 9 (ptrT px) ∧ TGet σ 6 (ptrT pr) ∧ TGet σ 3 (ptrT pt) ∧ TGet σ 1 (intT (Q : Int)) ∧ TGet σ 2 (intT b) ∧
        SubP B [(pk, .cells (pauCs (rowAt t k)) 27 true), (ps, .cells (pauCs (rowAt t (N + i))) 27 true), (pb, .arr 4 (pauRows (pfill t i Q k)) 27 false), (px, .cells [intT t.n, .v (.slice (some (ad pb 0)) t.rows.length t.rows.length)] 24 true), (pt, .cells (tabCs t) 24 true), (pr, .cells [intT 0, .v (.slice none 0 0)] 24 true)]) ?_ ?_
      · repeat' (first | refine StepC.go ?_ | (refine TS_on rfl ?_ ?_; · first | rfl | assumption) | (refine TS_off rfl ?_ ?_; · first | rfl | assumption) | (refine TS_puw (Pu.pick_f ?_) ?_; · first | rfl | assumption) | (refine TS_guard rfl ?_ ?_ <;> intro hg))
        all_goals refine ⟨tget_as (congrArg (fun b => boolT b) ?_), inferInstance, inferInstance, inferInstance, inferInstance, inferInstance, inferInstance, inferInstance, inferInstance, inferInstance, inferInstance, inferInstance, inferInstance, inferInstance⟩
        all_goals simp only [hne2] at *
        all_goals try rw [show decide ((((rowAt t k).x >>> Q &&& 1 : Nat) : Int) = 1) = xAt Q (rowAt t k) from rfl]
        all_goals generalize xAt Q (rowAt t k) = y
        all_goals first
          | exact chgA k i N _
          | exact chgB k i N _ hg
          | exact chgC k i N _ hg
      rintro σ B ⟨g93, g73, g72, g71, g14, g15, g12, g13, g9, g6, g3, g1, g2, hB⟩
      refine TV_keep _ (p := hB) ?_
      have hst := pfill_set t i Q k
      refine TV_cond ?_ ?_ <;> intro hc6
      · have hch := of_decide_eq_true hc6
        have hpr : prow t i Q k = mulP (rowAt t (N + i)) (rowAt t k) := by unfold prow; rw [hNt, if_pos hch]
        rw [hpr] at hst
        repeat (first | refine TD_take rfl rfl ?_ | refine TD_load rfl rfl ?_ | refine TD_one rfl ?_ | refine FiltT_nil ?_ | refine FiltT_drop rfl ?_ | refine FiltT_keep rfl ?_ | refine TV_draw (id := 20) (plan := [.take 0, .take 1, .take 2, .take 3, .take 4, .one 5, .take 6, .take 7, .take 8, .take 9, .one 10]) (by kernel_rfl) ?_)
        refine TS_call (mulT vs.1 vk.1) ?_
        rintro _ rfl
        rw [mulC_v vs vk (by rw [ms, mk])]
        repeat (first | refine StepC.go ?_ | (refine TS_puw (Pu.addi ?_) ?_; · omega) | refine TD_take rfl rfl ?_ | refine TD_one rfl ?_ | refine FiltT_nil ?_ | refine FiltT_drop rfl ?_)
        refine ⟨_, ?_, k + 1, rfl, by omega, tget_as rfl, inferInstance, inferInstance, inferInstance, inferInstance, inferInstance, inferInstance, inferInstance, inferInstance, inferInstance, ?_⟩
        · omega
        · rw [← hst]; infer_instance
      · have hch := of_decide_eq_false hc6
        have hpr : prow t i Q k = rowAt t k := by unfold prow; rw [hNt, if_neg hch]
        repeat (first | refine StepC.go ?_ | (refine TS_puw (Pu.addi ?_) ?_; · omega))
        refine ⟨_, ?_, k + 1, rfl, by omega, tget_as rfl, inferInstance, inferInstance, inferInstance, inferInstance, inferInstance, inferInstance, inferInstance, inferInstance, inferInstance, ?_⟩
        · omega
        · rw [pfill_skip hpr]; infer_instance
    · have hkl : k = t.rows.length := by have := of_decide_eq_false hc5; omega
      subst hkl
      have hs1 : NthG (pauRows (pfill t i Q t.rows.length)) i (pauCs ((pfill t i Q t.rows.length).getD i noPau)) := .map pauCs (pgetD_at (by rw [pfill_len]; omega))
      have hs3 : NthG (pauRows ((pfill t i Q t.rows.length).set i (rowAt t (N + i)))) (N + i) (pauCs ((pfill t i Q t.rows.length).getD (N + i) noPau)) := .map pauCs (by rw [List.getElem?_set_ne (by omega)]; exact pgetD_at (by rw [pfill_len]; omega))
      have hlG : LenT (pauRows ((pfill t i Q t.rows.length).set i (rowAt t (N + i)))) t.rows.length := ⟨by rw [pauRows, List.length_map, List.length_set, pfill_len]⟩
      repeat (first | refine StepC.go ?_ | refine TD_take rfl rfl ?_ | refine TD_load rfl rfl ?_ | refine TD_one rfl ?_ | refine FiltT_nil ?_ | refine FiltT_drop rfl ?_ | refine FiltT_keep rfl ?_ | (refine TD_takew rfl rfl (Pu.addi ?_) ?_; · omega) | refine TV_draw (id := 22) (plan := [.take 0, .take 1, .take 2, .take 3, .take 4, .take 5, .take 6, .take 7, .take 8, .take 9, .take 10, .take 11, .take 12, .take 13, .one 14, .take 15, .one 16, .take 17, .one 18]) (by kernel_rfl) ?_)
      refine TS_callE (tabOneT hb) ?_
      repeat (first | refine StepC.go ?_ | refine TD_take rfl rfl ?_ | refine TD_one rfl ?_ | refine FiltT_nil ?_ | refine FiltT_drop rfl ?_ | refine FiltT_keep rfl ?_)
      refine retO_2 [(pb, .arr 4 (pauRows (projRows t i Q b)) 27 false)] (sp := by unfold projRows; rw [hNt]; infer_instance) (.inr rfl) (fun p hp => ?_) ?_
      · rw [List.mem_singleton.1 hp]; exact fun h => (hreal _ (by unfold projRows; simp [pfill_len]) h).elim
      · unfold ProjO
        rw [e, if_pos rfl]
        exact ⟨pb, rfl, rfl⟩
end Go.Ideal

-- Zb
set_option linter.unusedSimpArgs false
set_option linter.unusedVariables false
namespace Go.Ideal
open Go Go.Proofs Go.RowKit
/-! ### What makes a tableau; behind a measurement it is one: the plain law -/
theorem checkTab_of {t : TabD} (n0 : 0 ≤ t.n) (n1 : t.n ≤ 64) (nl : (t.rows.length : Int) = 2 * t.n) (hr : ∀ i, i < t.rows.length → PauV (rowAt t i) ∧ (rowAt t i).n = t.n ∧ (rowAt t i).ph % 2 = 0)
    (hc : ∀ i j, j < i → i < t.rows.length → acP (rowAt t i) (rowAt t j) = decide (i = j + t.n.toNat)) : checkTab t = 0 := by
  have hp : ∀ i, i < t.rows.length → ∀ k, k ≤ i → pairsB t i k = true := by
    intro i hi k
    induction k with
    | zero => intro _; rfl
    | succ k ih =>
      intro hk
      rw [pairsB, ih (by omega), Bool.true_and]
      have h1 := hc i k (by omega) hi
      unfold acP at h1
      have h2 : commP (rowAt t i) (rowAt t k) = !decide (i = k + t.n.toNat) := by rw [← h1, Bool.not_not]
      rw [h2]
      have h3 : decide (i = k + t.n.toNat) = decide ((i : Int) = (k : Int) + t.n) := decide_eq_decide.2 (by omega)
      rw [h3]
      cases decide ((i : Int) = (k : Int) + t.n) <;> rfl
  have hb : ∀ k, k ≤ t.rows.length → rowsB t k = true := by
    intro k
    induction k with
    | zero => intro _; rfl
    | succ k ih =>
      intro hk
      obtain ⟨v, n, e⟩ := hr k (by omega)
      rw [rowsB, ih (by omega), hp k (by omega) k (Nat.le_refl _)]
      have h1 : rowOk t (rowAt t k) = true := by
        unfold rowOk
        rw [decide_eq_true v.2, decide_eq_true n, decide_eq_true (Int.tmod_eq_zero_of_dvd (Int.dvd_of_emod_eq_zero e))]
        rfl
      rw [h1]; rfl
  unfold checkTab
  rw [if_pos]
  refine ⟨?_, hb _ (Nat.le_refl _)⟩
  unfold tabR
  rw [decide_eq_true n0, decide_eq_true n1, decide_eq_true nl]; rfl
theorem TabW_of {t : TabD} (h : ∀ i, i < t.rows.length → PauV (rowAt t i)) : TabW t := by
  intro p hp
  obtain ⟨i, hi⟩ := List.getElem?_of_mem hp
  have := h i (List.getElem?_eq_some_iff.1 hi).1
  rw [rowAt_get hi] at this
  exact this.1
theorem mulP_x (p q : PauD) : (mulP p q).x = p.x ^^^ q.x := rfl
theorem acP_mul (p q r : PauD) : acP (mulP p q) r = (acP p r ^^ acP q r) := acP_xor rfl rfl
theorem acP_mulr (p q r : PauD) : acP r (mulP p q) = (acP r p ^^ acP r q) := by rw [acP_symm, acP_mul, acP_symm p, acP_symm q]
theorem acP_oneZ {n : Int} {q : Nat} (hq : q < 64) (b : Int) (r : PauD) : acP (oneZ n q b) r = xAt q r := by
  have : commP (oneZ n q b) r = commP (oneZ n q 0) r := rfl
  unfold acP
  rw [this, oneZ_comm hq, xAt_bit, Bool.not_not]
theorem oneZ_vb {n b : Int} {q : Nat} (h0 : 0 ≤ n) (h1 : n ≤ 64) (hq : (q : Int) < n) (hb : 0 ≤ b ∧ b ≤ 1) : PauV (oneZ n q b) := by
  have h := oneZ_v h0 h1 hq
  rw [pauV_iff] at h ⊢
  obtain ⟨a1, a2, a3, a4, a5⟩ := h
  exact ⟨a1, a2, by show 0 ≤ 2 * b; omega, by show 2 * b ≤ 3; omega, a5⟩
theorem projRows_len (t : TabD) (i q : Nat) (b : Int) : (projRows t i q b).length = t.rows.length := by unfold projRows; simp [pfill_len]
def projD (t : TabD) (i q : Nat) (b : Int) : TabD := ⟨t.n, projRows t i q b⟩
theorem proj_at {t : TabD} {i q : Nat} {b : Int} {k : Nat} (hk : k < t.rows.length) (hi : i < t.n.toNat) : rowAt (projD t i q b) k = if k = t.n.toNat + i then oneZ t.n q b else if k = i then rowAt t (t.n.toNat + i) else prow t i q k := by
  have hp : (pfill t i q t.rows.length)[k]? = some (prow t i q k) := by
    unfold pfill
    rw [List.getElem?_map, List.getElem?_range hk]; simp [hk]
  refine rowAt_get ?_
  show (projRows t i q b)[k]? = _
  unfold projRows
  rw [List.getElem?_set, List.getElem?_set, List.length_set, pfill_len]
  by_cases h1 : k = t.n.toNat + i
  · subst h1; simp [hk]
  · rw [if_neg (by omega), if_neg h1]
    by_cases h2 : k = i
    · subst h2; simp [hk]
    · rw [if_neg (by omega), if_neg h2]; exact hp
theorem prow_v {t : TabD} {i q : Nat} (hw : TabW t) (hck : checkTab t = 0) (hq : (q : Int) < t.n) (hi : i < t.n.toNat) (hx : xAt q (rowAt t (t.n.toNat + i)) = true) {k : Nat} (hk : k < t.rows.length) (hki : k ≠ i) : PauV (prow t i q k) ∧ (prow t i q k).n = t.n ∧ (prow t i q k).ph % 2 = 0 := by
  have g := TabG.of hw hck
  have n0 := g.n0
  have nl := g.nl
  obtain ⟨_, v1, m1⟩ := g.at_ hk
  obtain ⟨_, v2, m2⟩ := g.at_ (i := t.n.toNat + i) (by omega)
  unfold prow
  split
  · rename_i h
    have hc : acP (rowAt t (t.n.toNat + i)) (rowAt t k) = false := by
      rw [rows_ac hw hck (by omega) hk]; exact decide_eq_false (by omega)
    refine ⟨mul_v v2 v1 (by rw [m1, m2]), m2, mul_even (row_even hck (by omega)) (row_even hck hk) ?_⟩
    unfold acP at hc; simpa using hc
  · exact ⟨v1, m1, row_even hck hk⟩
theorem prow_x {t : TabD} {i q : Nat} (hw : TabW t) (hck : checkTab t = 0) (hq : (q : Int) < t.n) (hi : i < t.n.toNat) (hx : xAt q (rowAt t (t.n.toNat + i)) = true) {k : Nat} (hki : k ≠ i) (hkn : k ≠ t.n.toNat + i) : xAt q (prow t i q k) = false := by
  unfold prow
  cases h : xAt q (rowAt t k) with
  | true =>
    rw [if_pos ⟨hki, hkn, rfl⟩, xAt_bit, mulP_x, Nat.testBit_xor, ← xAt_bit, ← xAt_bit, hx, h]; rfl
  | false => rw [if_neg (by simp), h]
theorem prow_ac1 {t : TabD} {i q : Nat} (hw : TabW t) (hck : checkTab t = 0) (hq : (q : Int) < t.n) (hi : i < t.n.toNat) (hx : xAt q (rowAt t (t.n.toNat + i)) = true) {k l : Nat} (hk : k < t.rows.length) (hki : k ≠ i) (hl : l < t.rows.length) (hli : l ≠ i) : acP (prow t i q k) (rowAt t l) = acP (rowAt t k) (rowAt t l) := by
  have g := TabG.of hw hck
  have n0 := g.n0
  have nl := g.nl
  unfold prow
  split
  · rw [acP_mul, rows_ac hw hck (i := t.n.toNat + i) (by omega) hl, decide_eq_false (by omega), Bool.false_xor]
  · rfl
theorem prow_ac2 {t : TabD} {i q : Nat} (hw : TabW t) (hck : checkTab t = 0) (hq : (q : Int) < t.n) (hi : i < t.n.toNat) (hx : xAt q (rowAt t (t.n.toNat + i)) = true) {k l : Nat} (hk : k < t.rows.length) (hki : k ≠ i) (hl : l < t.rows.length) (hli : l ≠ i) : acP (prow t i q k) (prow t i q l) = acP (rowAt t k) (rowAt t l) := by
  have g := TabG.of hw hck
  have n0 := g.n0
  have nl := g.nl
  conv => lhs; rw [show prow t i q l = if l ≠ i ∧ l ≠ t.n.toNat + i ∧ xAt q (rowAt t l) = true then mulP (rowAt t (t.n.toNat + i)) (rowAt t l) else rowAt t l from rfl]
  split
  · rw [acP_mulr, prow_ac1 hw hck hq hi hx hk hki (by omega) (by omega), prow_ac1 hw hck hq hi hx hk hki hl hli, rows_ac hw hck hk (j := t.n.toNat + i) (by omega), decide_eq_false (by omega), Bool.false_xor]
  · exact prow_ac1 hw hck hq hi hx hk hki hl hli
theorem proj_ok {t : TabD} {i q : Nat} {b : Int} (hw : TabW t) (hck : checkTab t = 0) (hq : (q : Int) < t.n) (hi : i < t.n.toNat) (hx : xAt q (rowAt t (t.n.toNat + i)) = true) (hb : 0 ≤ b ∧ b ≤ 1) : TabW (projD t i q b) ∧ checkTab (projD t i q b) = 0 := by
  have g := TabG.of hw hck
  have n0 := g.n0
  have n1 := g.n1
  have nl := g.nl
  have hlen : (projD t i q b).rows.length = t.rows.length := projRows_len t i q b
  have hn : (projD t i q b).n = t.n := rfl
  obtain ⟨_, vs, ms⟩ := g.at_ (i := t.n.toNat + i) (by omega)
  have hr : ∀ k, k < t.rows.length → PauV (rowAt (projD t i q b) k) ∧ (rowAt (projD t i q b) k).n = t.n ∧ (rowAt (projD t i q b) k).ph % 2 = 0 := by
    intro k hk
    rw [proj_at hk hi]
    split
    · exact ⟨oneZ_vb n0 n1 hq hb, rfl, by show (2 * b) % 2 = 0; omega⟩
    · split
      · exact ⟨vs, ms, row_even hck (by omega)⟩
      · rename_i h1 h2
        exact prow_v hw hck hq hi hx hk h2
  have hsa : ∀ k, k < t.rows.length → k ≠ i → acP (rowAt t (t.n.toNat + i)) (prow t i q k) = false := by
    intro k hk hki
    rw [acP_symm, prow_ac1 hw hck hq hi hx hk hki (by omega) (by omega), rows_ac hw hck hk (by omega)]
    exact decide_eq_false (by omega)
  have hza : ∀ k, k < t.rows.length → k ≠ i → k ≠ t.n.toNat + i → acP (oneZ t.n q b) (prow t i q k) = false := by
    intro k hk hki hkn
    rw [acP_oneZ (by omega)]
    exact prow_x hw hck hq hi hx hki hkn
  refine ⟨TabW_of fun k hk => (hr k (by omega)).1, checkTab_of n0 n1 (by rw [hlen]; exact nl) (fun k hk => hr k (by omega)) fun k l hlk hk => ?_⟩
  rw [hlen] at hk
  rw [proj_at hk hi, proj_at (by omega : l < t.rows.length) hi, hn]
  by_cases h1 : k = t.n.toNat + i
  · rw [if_pos h1, if_neg (by omega)]
    by_cases h2 : l = i
    · rw [if_pos h2, acP_oneZ (by omega), hx]; exact (decide_eq_true (by omega)).symm
    · rw [if_neg h2, hza l (by omega) h2 (by omega)]; exact (decide_eq_false (by omega)).symm
  · rw [if_neg h1]
    by_cases h2 : k = i
    · rw [if_pos h2, if_neg (by omega), if_neg (by omega), hsa l (by omega) (by omega)]; exact (decide_eq_false (by omega)).symm
    · rw [if_neg h2]
      by_cases h3 : l = t.n.toNat + i
      · rw [if_pos h3, acP_symm, hza k hk h2 h1]; exact (decide_eq_false (by omega)).symm
      · rw [if_neg h3]
        by_cases h4 : l = i
        · rw [if_pos h4, acP_symm, hsa k hk h2]; exact (decide_eq_false (by omega)).symm
        · rw [if_neg h4, prow_ac2 hw hck hq hi hx hk h2 (by omega) h4, rows_ac hw hck hk (by omega)]
          exact decide_eq_decide.2 (by omega)
end Go.Ideal

-- Zc
set_option linter.unusedSimpArgs false
set_option linter.unusedVariables false
namespace Go.Ideal
open Go Go.Proofs Go.RowKit
/-! ### There and back: the plain law -/
def InvP (F G : PauD → PauD) (n : Int) : Prop := ∀ p, PauV p → p.n = n → G (F p) = p
def InvL (f g : Loc → Loc) : Prop := ∀ a b c d : Bool, (g (f ⟨0, a, b, c, d⟩)).ph % 4 = 0 ∧ (g (f ⟨0, a, b, c, d⟩)).xa = a ∧ (g (f ⟨0, a, b, c, d⟩)).za = b ∧ (g (f ⟨0, a, b, c, d⟩)).xb = c ∧ (g (f ⟨0, a, b, c, d⟩)).zb = d
theorem InvP.of {F G : PauD → PauD} {f g : Loc → Loc} {n : Int} {a b : Nat}
    (vF : ∀ p o j L, p.n = n → PauV p → View p a b o j L → View p a b (F o) j (f L)) (vG : ∀ p o j L, p.n = n → PauV p → View p a b o j L → View p a b (G o) j (g L)) (hl : InvL f g) : InvP F G n := fun p hp hn => by
  have v1 := vG p _ _ _ hn hp (vF p _ _ _ hn hp (View.self hp (a := a) (b := b)))
  obtain ⟨h1, h2, h3, h4, h5⟩ := hl (p.x.testBit a) (p.z.testBit a) (p.x.testBit b) (p.z.testBit b)
  refine v1.same (View.self hp) ⟨?_, h2, h3, h4, h5⟩
  exact h1
theorem InvP.comp {F1 G1 F2 G2 : PauD → PauD} {n : Int} (a : InvP F1 G1 n) (b : InvP F2 G2 n) (h : Homs F2 n) : InvP (fun p => F1 (F2 p)) (fun p => G2 (G1 p)) n := fun p hp hn => by
  obtain ⟨v, m⟩ := h.v p hp hn
  show G2 (G1 (F1 (F2 p))) = p
  rw [a _ v m, b p hp hn]
theorem InvP.id (n : Int) : InvP (fun p => p) (fun p => p) n := fun _ _ _ => rfl
section
variable {n : Int} {a b : Nat}
theorem inv_x : InvP (fun p => minusS p (btS p.z (a : Int))) (fun p => minusS p (btS p.z (a : Int))) n :=
  InvP.of (f := fun L => minLoc L L.za) (g := fun L => minLoc L L.za) (a := a) (b := a + 1) (fun p o j L hn hp v => by rw [v.za]; exact v.minus _) (fun p o j L hn hp v => by rw [v.za]; exact v.minus _) (by unfold InvL; decide)
theorem inv_z : InvP (fun p => minusS p (btS p.x (a : Int))) (fun p => minusS p (btS p.x (a : Int))) n :=
  InvP.of (f := fun L => minLoc L L.xa) (g := fun L => minLoc L L.xa) (a := a) (b := a + 1) (fun p o j L hn hp v => by rw [v.xa]; exact v.minus _) (fun p o j L hn hp v => by rw [v.xa]; exact v.minus _) (by unfold InvL; decide)
theorem inv_y : InvP (fun p => minusS p (btS p.x (a : Int) != btS p.z (a : Int))) (fun p => minusS p (btS p.x (a : Int) != btS p.z (a : Int))) n :=
  InvP.of (f := fun L => minLoc L (L.xa != L.za)) (g := fun L => minLoc L (L.xa != L.za)) (a := a) (b := a + 1) (fun p o j L hn hp v => by rw [v.xa, v.za]; exact v.minus _) (fun p o j L hn hp v => by rw [v.xa, v.za]; exact v.minus _) (by unfold InvL; decide)
theorem inv_h (h1 : n ≤ 64) (ha : (a : Int) < n) : InvP (fun p => hS p (a : Int)) (fun p => hS p (a : Int)) n :=
  InvP.of (f := hLoc) (g := hLoc) (a := a) (b := a + 1) (fun p o j L hn hp v => v.h (by omega)) (fun p o j L hn hp v => v.h (by omega)) (by unfold InvL; decide)
theorem inv_s (h1 : n ≤ 64) (ha : (a : Int) < n) (y : Bool) : InvP (fun p => sS p (a : Int) y) (fun p => sS p (a : Int) (!y)) n :=
  InvP.of (f := fun L => sLoc L y) (g := fun L => sLoc L (!y)) (a := a) (b := a + 1) (fun p o j L hn hp v => v.s (by omega) y) (fun p o j L hn hp v => v.s (by omega) (!y)) (by unfold InvL; cases y <;> decide)
theorem inv_v (h1 : n ≤ 64) (ha : (a : Int) < n) (y : Bool) : InvP (fun p => vS p (a : Int) y) (fun p => vS p (a : Int) (!y)) n :=
  InvP.of (f := fun L => vLoc L y) (g := fun L => vLoc L (!y)) (a := a) (b := a + 1) (fun p o j L hn hp v => v.v (by omega) y) (fun p o j L hn hp v => v.v (by omega) (!y)) (by unfold InvL; cases y <;> decide)
theorem inv_cx (h1 : n ≤ 64) (ha : (a : Int) < n) (hb : (b : Int) < n) (hab : a ≠ b) : InvP (fun p => cxS p (a : Int) (b : Int)) (fun p => cxS p (a : Int) (b : Int)) n :=
  InvP.of (f := cxLoc) (g := cxLoc) (a := a) (b := b) (fun p o j L hn hp v => v.cx hab (by omega) (by omega)) (fun p o j L hn hp v => v.cx hab (by omega) (by omega)) (by unfold InvL; decide)
end
set_option maxHeartbeats 4000000 in
theorem byS_inv {n : Int} {nm : ByteArray} {qs : List Int} (h1 : n ≤ 64) (h : GateOk nm qs n) : InvP (byS nm qs) (byS (backS nm).1 qs) n := by
  obtain ⟨e, e1, e2⟩ := cliff_kOf h.cliff
  obtain ⟨e3, rfl⟩ := kOf_mem2 e1
  have hl := h.len
  unfold arityS at hl
  rw [e1] at hl
  simp only at hl
  have hbk : (backS e.name).1 = e.back := by unfold backS; rw [e1]
  rw [hbk]
  have hr := h.rng
  have hd := h.nd
  clear h e1 hbk
  have key1 : e.arity = 1 → ∃ a : Nat, qs = [(a : Int)] ∧ (a : Int) < n := fun h => by
    match qs, hl with
    | [a], _ => have := hr a (by simp); exact ⟨a.toNat, by rw [show ((a.toNat : Nat) : Int) = a by omega], by omega⟩
    | [], hl => simp only [List.length_nil] at hl; omega
    | a :: b :: c, hl => simp only [List.length_cons] at hl; omega
  have key2 : e.arity = 2 → ∃ a b : Nat, qs = [(a : Int), (b : Int)] ∧ (a : Int) < n ∧ (b : Int) < n ∧ a ≠ b := fun h => by
    match qs, hl with
    | [a, b], _ =>
      have h1 := hr a (by simp)
      have h2 := hr b (by simp)
      exact ⟨a.toNat, b.toNat, by rw [show ((a.toNat : Nat) : Int) = a by omega, show ((b.toNat : Nat) : Int) = b by omega], by omega, by omega, fun hab => by
        have : a = b := by omega
        simp [this] at hd⟩
    | [], hl => simp only [List.length_nil] at hl; omega
    | [a], hl => simp only [List.length_cons, List.length_nil] at hl; omega
    | a :: b :: c :: d, hl => simp only [List.length_cons] at hl; omega
  clear hl hr hd
  simp only [KT, List.mem_cons, List.not_mem_nil, or_false] at e3
  rcases e3 with rfl | rfl | rfl | rfl | rfl | rfl | rfl | rfl | rfl | rfl | rfl | rfl | rfl | rfl | rfl | rfl | rfl | rfl | rfl | rfl | rfl | rfl | rfl | rfl | rfl
  · obtain ⟨a, rfl, ha⟩ := key1 rfl; exact InvP.id n
  · obtain ⟨a, rfl, ha⟩ := key1 rfl; exact inv_x
  · obtain ⟨a, rfl, ha⟩ := key1 rfl; exact inv_y
  · obtain ⟨a, rfl, ha⟩ := key1 rfl; exact inv_z
  · obtain ⟨a, rfl, ha⟩ := key1 rfl; exact inv_h h1 ha
  · obtain ⟨a, rfl, ha⟩ := key1 rfl; exact inv_s h1 ha false
  · obtain ⟨a, rfl, ha⟩ := key1 rfl; exact inv_s h1 ha true
  · cases e2
  · cases e2
  · obtain ⟨a, rfl, ha⟩ := key1 rfl; exact inv_v h1 ha false
  · obtain ⟨a, rfl, ha⟩ := key1 rfl; exact inv_v h1 ha true
  · obtain ⟨a, rfl, ha⟩ := key1 rfl; exact InvP.id n
  · obtain ⟨a, rfl, ha⟩ := key1 rfl; exact InvP.id n
  · obtain ⟨a, b, rfl, ha, hb, hab⟩ := key2 rfl; exact inv_cx h1 ha hb hab
  · obtain ⟨a, b, rfl, ha, hb, hab⟩ := key2 rfl
    have hc := hom_cx h1 ha hb hab
    exact (inv_s h1 hb false).comp ((inv_cx h1 ha hb hab).comp (inv_s h1 hb true) (hom_s h1 hb true)) (hc.comp (hom_s h1 hb true))
  · obtain ⟨a, b, rfl, ha, hb, hab⟩ := key2 rfl
    have hc := hom_cx h1 ha hb hab
    exact (inv_h h1 hb).comp ((inv_cx h1 ha hb hab).comp (inv_h h1 hb) (hom_h h1 hb)) (hc.comp (hom_h h1 hb))
  · cases e2
  · cases e2
  · cases e2
  · obtain ⟨a, b, rfl, ha, hb, hab⟩ := key2 rfl
    have hc := hom_cx h1 ha hb hab
    have hc' := hom_cx h1 hb ha (Ne.symm hab)
    exact (inv_cx h1 ha hb hab).comp ((inv_cx h1 hb ha (Ne.symm hab)).comp (inv_cx h1 ha hb hab) hc) (hc'.comp hc)
  · obtain ⟨a, b, rfl, ha, hb, hab⟩ := key2 rfl
    have cab := hom_cx h1 ha hb hab
    have cba := hom_cx h1 hb ha (Ne.symm hab)
    have iab := inv_cx h1 ha hb hab
    have iba := inv_cx h1 hb ha (Ne.symm hab)
    have c1 := hom_s h1 ha false
    have c2 := (hom_s h1 hb false).comp c1
    have c3 := (hom_h h1 ha).comp c2
    have c4 := cab.comp c3
    have c5 := cba.comp c4
    exact (inv_h h1 hb).comp (iba.comp (iab.comp ((inv_h h1 ha).comp ((inv_s h1 hb false).comp (inv_s h1 ha false) c1) c2) c3) c4) c5
  · obtain ⟨a, b, rfl, ha, hb, hab⟩ := key2 rfl
    have cab := hom_cx h1 ha hb hab
    have cba := hom_cx h1 hb ha (Ne.symm hab)
    have iab := inv_cx h1 ha hb hab
    have iba := inv_cx h1 hb ha (Ne.symm hab)
    have c1 := hom_h h1 hb
    have c2 := cba.comp c1
    have c3 := cab.comp c2
    have c4 := (hom_h h1 ha).comp c3
    have c5 := (hom_s h1 hb true).comp c4
    exact (inv_s h1 ha true).comp ((inv_s h1 hb true).comp ((inv_h h1 ha).comp (iab.comp (iba.comp (inv_h h1 hb) c1) c2) c3) c4) c5
  · cases e2
  · cases e2
  · cases e2
/-- a turn that can be taken back keeps how strings stand to each other -/
theorem hom_ac {F G : PauD → PauD} {n : Int} (h : Homs F n) (i : InvP F G n) {p q : PauD} (hp : PauV p) (hq : PauV q) (hpn : p.n = n) (hqn : q.n = n) : acP (F p) (F q) = acP p q := by
  obtain ⟨vp, np⟩ := h.v p hp hpn
  obtain ⟨vq, nq⟩ := h.v q hq hqn
  have e1 := h.mul p q hp hq hpn hqn
  have e2 := h.mul q p hq hp hqn hpn
  have key : commP (F p) (F q) = commP p q := by
    rw [Bool.eq_iff_iff]
    constructor
    · intro hc
      have e3 := mulP_comm (by rw [np, nq]) hc
      rw [← e1, ← e2] at e3
      have e4 : mulP p q = mulP q p := by
        have := congrArg G e3
        rwa [i _ (mul_v hp hq (by rw [hpn, hqn])) hpn, i _ (mul_v hq hp (by rw [hpn, hqn])) hqn] at this
      exact (mphS_comm p q).1 (congrArg PauD.ph e4)
    · intro hc
      have e3 := mulP_comm (by rw [hpn, hqn]) hc
      have e4 : mulP (F p) (F q) = mulP (F q) (F p) := by rw [← e1, ← e2, e3]
      exact (mphS_comm _ _).1 (congrArg PauD.ph e4)
  unfold acP
  rw [key]
theorem hom_even {F : PauD → PauD} {n : Int} (h : Homs F n) (h0 : 0 ≤ n) (h1 : n ≤ 64) {p : PauD} (hp : PauV p) (hpn : p.n = n) (he : p.ph % 2 = 0) : (F p).ph % 2 = 0 := by
  have e1 := h.mul p p hp hp hpn hpn
  rw [mulP_self he, hpn, h.eye h0 h1] at e1
  have e2 := congrArg PauD.ph e1
  have e3 : (mulP (F p) (F p)).ph = mphS (F p) (F p) := rfl
  rw [e3] at e2
  have h00 : pcS 0 = 0 := by decide +kernel
  unfold mphS at e2
  rw [Nat.xor_self, Nat.xor_self, Nat.zero_and, h00, Nat.and_comm (F p).z (F p).x] at e2
  have e2 : 0 = ((F p).ph + (pcS ((F p).x &&& (F p).z) : Int) + (F p).ph + (pcS ((F p).x &&& (F p).z) : Int) + 2 * (pcS ((F p).x &&& (F p).z) : Int) - ((0 : Nat) : Int)) % 4 := e2
  omega
theorem rowAt_map {t : TabD} {F : PauD → PauD} {i : Nat} (hi : i < t.rows.length) : rowAt ⟨t.n, t.rows.map F⟩ i = F (rowAt t i) := by
  obtain ⟨p, hp⟩ : ∃ p, t.rows[i]? = some p := ⟨_, List.getElem?_eq_getElem hi⟩
  rw [rowAt_get hp]
  refine rowAt_get ?_
  show (t.rows.map F)[i]? = _
  rw [List.getElem?_map, hp]; rfl
theorem hom_check {t : TabD} {F G : PauD → PauD} (hw : TabW t) (hck : checkTab t = 0) (h : Homs F t.n) (i : InvP F G t.n) : TabW ⟨t.n, t.rows.map F⟩ ∧ checkTab ⟨t.n, t.rows.map F⟩ = 0 := by
  have g := TabG.of hw hck
  have n0 := g.n0
  have n1 := g.n1
  have nl := g.nl
  have hr : ∀ k, k < t.rows.length → PauV (rowAt ⟨t.n, t.rows.map F⟩ k) ∧ (rowAt ⟨t.n, t.rows.map F⟩ k).n = t.n ∧ (rowAt ⟨t.n, t.rows.map F⟩ k).ph % 2 = 0 := by
    intro k hk
    obtain ⟨_, v, m⟩ := g.at_ hk
    rw [rowAt_map hk]
    obtain ⟨a, b⟩ := h.v _ v m
    exact ⟨a, b, hom_even h n0 n1 v m (row_even hck hk)⟩
  have hl : (⟨t.n, t.rows.map F⟩ : TabD).rows.length = t.rows.length := by simp
  refine ⟨TabW_of fun k hk => (hr k (by omega)).1, checkTab_of n0 n1 (by rw [hl]; exact nl) (fun k hk => hr k (by omega)) fun k l hlk hk => ?_⟩
  rw [hl] at hk
  obtain ⟨_, v1, m1⟩ := g.at_ hk
  obtain ⟨_, v2, m2⟩ := g.at_ (by omega : l < t.rows.length)
  rw [rowAt_map hk, rowAt_map (by omega), hom_ac h i v1 v2 m1 m2, rows_ac hw hck hk (by omega)]
  show _ = decide (k = l + t.n.toNat)
  exact decide_eq_decide.2 (by omega)
theorem map_back {t : TabD} {F G : PauD → PauD} (g : TabG t) (i : InvP F G t.n) : (t.rows.map F).map G = t.rows := by
  rw [List.map_map]
  conv => rhs; rw [← List.map_id t.rows]
  refine List.map_congr_left fun p hp => ?_
  obtain ⟨v, n⟩ := g.hv p hp
  exact i p v n
theorem back_kept {nm : ByteArray} (h : cliffS nm = true) : arityS (backS nm).1 = arityS nm ∧ cliffS (backS nm).1 = true ∧ (backS nm).2 = 0 := by
  obtain ⟨e, e1, e2⟩ := cliff_kOf h
  obtain ⟨e3, rfl⟩ := kOf_mem2 e1
  have hall : ∀ e ∈ KT, e.cliff = true → arityS (backS e.name).1 = arityS e.name ∧ cliffS (backS e.name).1 = true ∧ (backS e.name).2 = 0 := by decide +kernel
  exact hall e e3 e2
theorem gfS_back {n : Int} {nm : ByteArray} {qs : List Int} (h : gfS n nm qs = 0) : gfS n (backS nm).1 qs = 0 ∧ (backS nm).2 = 0 := by
  have hc := (gfS_ok h).cliff
  obtain ⟨h1, h2, h3⟩ := back_kept hc
  refine ⟨?_, h3⟩
  unfold gfS at h ⊢
  rw [h1, h2]
  rw [hc] at h
  exact h
/-! ### A string with the other sign -/
/-! ### What is found behind a measurement -/
end Go.Ideal

-- Zd
set_option linter.unusedSimpArgs false
set_option linter.unusedVariables false
namespace Go.Ideal
open Go Go.Proofs Go.RowKit
/-! ### The reference's Project; the law TableauProjects -/
theorem projC_ok {t : TabD} {q b : Int} (hw : TabW t) (h : (projC t q b).2 = 0) : checkTab t = 0 ∧ (0 ≤ q ∧ q < t.n) ∧ (0 ≤ b ∧ b ≤ 1) ∧ (projC t q b).1.n = t.n ∧ (projC t q b).1.rows.length = t.rows.length := by
  unfold projC at h ⊢
  split at h
  · split at h
    · split at h
      · split at h
        · split at h
          · rename_i h1 h2 h3 h4 h5
            rw [if_pos h1, if_pos h2, if_pos h3, if_pos h4, if_pos h5]
            exact ⟨h1, h2, h3, rfl, rfl⟩
          · cases h
        · rename_i h1 h2 h3 h4
          rw [if_pos h1, if_pos h2, if_pos h3, if_neg h4]
          exact ⟨h1, h2, h3, rfl, projRows_len _ _ _ _⟩
      · cases h
    · cases h
  · cases h
theorem projC_no {t : TabD} {q b : Int} (h : ¬ (projC t q b).2 = 0) : (projC t q b).1 = noTab := by
  unfold projC at h ⊢
  split
  · rename_i h1
    rw [if_pos h1] at h
    split
    · rename_i h2
      rw [if_pos h2] at h
      split
      · rename_i h3
        rw [if_pos h3] at h
        split
        · rename_i h4
          rw [if_pos h4] at h
          split
          · rename_i h5; rw [if_pos h5] at h; exact absurd rfl h
          · rfl
        · rename_i h4; rw [if_neg h4] at h; exact absurd rfl h
      · rfl
    · rfl
  · rfl
theorem projO_frz {t : TabD} {q b : Int} (hw : TabW t) (r : Tr) (B : Boxes) (h : ProjO t q b r B) : ∃ t', (∀ F G h, ThawOk F G B h → ∀ v, Rep F r v → Rep G t' v) ∧ t' = .tup [tabT (projC t q b).1, intT (projC t q b).2] := by
  unfold ProjO at h
  by_cases h0 : (projC t q b).2 = 0
  · rw [if_pos h0] at h
    obtain ⟨pb, rfl, rfl⟩ := h
    obtain ⟨h1, h2, h3, h4, h5⟩ := projC_ok hw h0
    have g := TabG.of hw h1
    have nl := g.nl
    have n1 := g.n1
    have : LenT (pauRows (projC t q b).1.rows) t.rows.length := ⟨by simp [pauRows, h5]⟩
    have : Sm63 t.rows.length := ⟨by omega⟩
    have : RealX (pauRows (projC t q b).1.rows) false := ⟨fun h => by
      have : (projC t q b).1.rows.length = 0 := by simpa [pauRows] using congrArg List.length h
      omega⟩
    have fz : Frz [(pb, .arr 4 (pauRows (projC t q b).1.rows) 27 false)] (.tup [.agg [intT t.n, .v (.slice (some (ad pb 0)) t.rows.length t.rows.length)], intT 0]) (.tup [.agg [intT t.n, .sl 4 (pauRows (projC t q b).1.rows)], intT 0]) := inferInstance
    refine ⟨_, fz.eq, ?_⟩
    rw [h0, ← h4]
  · rw [if_neg h0] at h
    obtain ⟨rfl, rfl⟩ := h
    have cv : Cv (.tup [.agg [intT 0, .v (.slice none 0 0)], intT (projC t q b).2]) (.tup [.agg [intT 0, .sl 4 []], intT (projC t q b).2]) := ⟨fun F v hv => by
      simp only [Rep] at hv ⊢
      obtain ⟨vs, rfl, h1⟩ := hv
      exact ⟨vs, rfl, CvL.eq F vs h1⟩⟩
    refine ⟨_, fun F G h o v hv => cv.eq G v (hv.sub o.sub), ?_⟩
    rw [projC_no h0]; rfl
theorem projectT {t : TabD} {q b : Int} (hw : TabW t) : Fn Try.prog 28 [tabT t, intT q, intT b] (fun r => r = .tup [tabT (projC t q b).1, intT (projC t q b).2]) :=
  (projectO hw).frz (projO_frz hw)
instance : CallIs Try.prog 28 := .of Try.func28 rfl rfl
theorem onS_oneZb (n : Int) (q : Nat) (b : Int) : onS n (q : Int) 90 (2 * b) = oneZ n q b := by
  unfold onS oneZ bitN; rw [Int.toNat_natCast]; rfl
set_option synthInstance.maxSize 4000 in
set_option synthInstance.maxHeartbeats 400000 in
set_option maxHeartbeats 4000000 in
theorem projectRT {t : TabD} {q b : Int} (hw : TabW t) : Fn Try.prog 27 [tabT t, intT q, intT b] (fun r => r = .tup [tabT (projC t q b).1, intT (projC t q b).2]) := by
  refine Fn_of Try.func27 rfl (Nat.le_of_ble_eq_true rfl) (fun X => ?_)
  repeat (first | refine StepC.go ?_ | intro _)
  rename_i pt pr
  refine TS_callE (tabCheckRT hw) ?_
  repeat (refine StepC.go ?_)
  refine TV_cond ?_ ?_ <;> intro hc
  · have h0 : ¬ checkTab t = 0 := by simpa using hc
    have e : projC t q b = (noTab, 180) := by unfold projC; rw [if_neg h0]
    repeat (refine StepC.go ?_)
    refine retT_2c [.agg [intT 0, .sl 4 []], intT 180] (.inr rfl) ?_
    simp only [tret]; rw [e]; rfl
  have h1 : checkTab t = 0 := by simpa using hc
  have g := TabG.of hw h1
  repeat (refine StepC.go ?_)
  refine TS_cut (fun σ B => TGet σ 25 (boolT (outS t.n q)) ∧ TGet σ 1 (intT q) ∧ TGet σ 2 (intT b) ∧ TGet σ 3 (ptrT pt) ∧ TGet σ 6 (ptrT pr) ∧ SubP B [(pt, .cells (tabCs t) 24 true), (pr, .cells [intT 0, .v (.slice none 0 0)] 24 true)]) ?_ ?_
  · repeat' (first | refine StepC.go ?_ | (refine TS_on rfl ?_ ?_; · first | rfl | assumption) | (refine TS_off rfl ?_ ?_; · first | rfl | assumption) | (refine TS_puw (Pu.pick_t ?_) ?_; · first | rfl | assumption) | (refine TS_guard rfl ?_ ?_ <;> intro hg))
    all_goals exact ⟨tget_as (by simp_all [outS]), inferInstance, inferInstance, inferInstance, inferInstance, inferInstance⟩
  rintro σ B ⟨g25, g1, g2, g3, g6, hB⟩
  refine TV_keep _ (p := hB) ?_
  refine TV_cond ?_ ?_ <;> intro hc2
  · have e : projC t q b = (noTab, 112) := by unfold projC; rw [if_pos h1, if_neg (by simp [outS] at hc2; omega)]
    repeat (refine StepC.go ?_)
    refine retT_2c [.agg [intT 0, .sl 4 []], intT 112] (.inr rfl) ?_
    simp only [tret]; rw [e]; rfl
  have hq : 0 ≤ q ∧ q < t.n := by simp [outS] at hc2; omega
  clear hB hc hc2
  obtain ⟨Q, rfl⟩ : ∃ Q : Nat, q = (Q : Int) := ⟨q.toNat, by omega⟩
  have nl := g.nl
  have n1 := g.n1
  obtain ⟨N, hN⟩ : ∃ N : Nat, t.n = (N : Int) := ⟨t.n.toNat, by omega⟩
  have hNt : t.n.toNat = N := by omega
  have hne : t.rows ≠ [] := fun h => by rw [h] at nl; simp at nl; omega
  have hL : (pauRows t.rows).length = t.rows.length := by simp [pauRows]
  repeat (refine StepC.go ?_)
  refine TS_cut (fun σ B => TGet σ 32 (boolT (!(decide (0 ≤ b) && decide (b ≤ 1)))) ∧ TGet σ 1 (intT (Q : Int)) ∧ TGet σ 2 (intT b) ∧ TGet σ 3 (ptrT pt) ∧ TGet σ 6 (ptrT pr) ∧ SubP B [(pt, .cells (tabCs t) 24 true), (pr, .cells [intT 0, .v (.slice none 0 0)] 24 true)]) ?_ ?_
  · repeat' (first | refine StepC.go ?_ | (refine TS_on rfl ?_ ?_; · first | rfl | assumption) | (refine TS_off rfl ?_ ?_; · first | rfl | assumption) | (refine TS_puw (Pu.pick_t ?_) ?_; · first | rfl | assumption) | (refine TS_guard rfl ?_ ?_ <;> intro hg))
    all_goals refine ⟨tget_as (congrArg (fun b => boolT b) ?_), inferInstance, inferInstance, inferInstance, inferInstance, inferInstance⟩
    all_goals (rw [Bool.eq_iff_iff]; simp only [Bool.if_true_left, Bool.if_false_right, Bool.and_eq_true, Bool.and_eq_false_iff, Bool.not_eq_true', Bool.or_eq_true, Bool.or_eq_false_iff, decide_eq_true_eq, decide_eq_false_iff_not, Bool.not_eq_false', Bool.not_false, Bool.not_true, true_iff, false_iff, Bool.decide_eq_true] at * <;> grind)
  rintro σ B ⟨g32, g1, g2, g3, g6, hB⟩
  refine TV_keep _ (p := hB) ?_
  refine TV_cond ?_ ?_ <;> intro hc3
  · have e : projC t Q b = (noTab, 2) := by unfold projC; rw [if_pos h1, if_pos hq, if_neg (by simp at hc3; omega)]
    repeat (refine StepC.go ?_)
    refine retT_2c [.agg [intT 0, .sl 4 []], intT 2] (.inr rfl) ?_
    simp only [tret]; rw [e]; rfl
  have hb : 0 ≤ b ∧ b ≤ 1 := by simp at hc3; omega
  clear hB hc3
  have hreal : ∀ ps : List PauD, ps.length = t.rows.length → pauRows ps = [] → False := fun ps h1 h2 => hne (List.eq_nil_of_length_eq_zero (by rw [← h1]; simpa [pauRows] using congrArg List.length h2))
  have hemp : t.rows.isEmpty = false := by
    cases h : t.rows with
    | nil => exact absurd h hne
    | cons a l => rfl
  repeat (refine StepC.go ?_)
  refine TS_callO (tcopyO (by omega)) ?_
  rintro _ _ ⟨pb, rfl, rfl⟩
  simp only [List.singleton_append, hemp]
  repeat (first | refine StepC.go ?_ | intro _)
  rename_i px
  refine TS_callE (rcertT hw h1 hq.2) ?_
  have hsm : Sm63 t.rows.length := ⟨by omega⟩
  cases hcs : (certS t Q).2 with
  | true =>
    repeat (first | refine StepC.go ?_ | (refine TV_cond_t ?_ ?_; · first | rfl | assumption))
    refine TV_cond ?_ ?_ <;> intro hc4
    · have e : projC t Q b = (noTab, 131) := by
        unfold projC; rw [if_pos h1, if_pos hq, if_pos hb, Int.toNat_natCast, if_pos hcs, if_neg (by simpa using hc4)]
      repeat (refine StepC.go ?_)
      refine retT_2c [.agg [intT 0, .sl 4 []], intT 131] (.inr rfl) ?_
      simp only [tret]; rw [e]; rfl
    · have e : projC t Q b = (t, 0) := by
        unfold projC; rw [if_pos h1, if_pos hq, if_pos hb, Int.toNat_natCast, if_pos hcs, if_pos (by simpa using hc4)]
      have rx : RealX (pauRows t.rows) false := ⟨fun h => (hreal _ rfl h).elim⟩
      repeat (refine StepC.go ?_)
      refine retT_2 (.inr rfl) ?_
      simp only [tret]; rw [e]
  | false =>
    have hl0 : 0 ≤ looseS t Q := by
      have := certS_loose t Q
      rw [hcs] at this; simpa using this
    obtain ⟨i, hi1, hi2, hi3, hi4⟩ := loose_spec g Q hl0
    have e : projC t Q b = (⟨t.n, projRows t i Q b⟩, 0) := by
      unfold projC; rw [if_pos h1, if_pos hq, if_pos hb, Int.toNat_natCast, if_neg (by rw [hcs]; decide), hi1, Int.toNat_natCast]
    have hrow : ∀ k, k < t.rows.length → NthG (pauRows t.rows) k (pauCs (rowAt t k)) ∧ PauV (rowAt t k) ∧ (rowAt t k).n = t.n := fun k hk => by
      obtain ⟨a, b, c⟩ := g.at_ hk
      exact ⟨.map pauCs a, b, c⟩
    have hbit : ∀ p : PauD, xAt Q p = decide (((p.x >>> Q &&& 1 : Nat) : Int) = 1) := fun p => rfl
    have hb01 : ∀ p : PauD, ((p.x >>> Q &&& 1 : Nat) : Int) = 0 ∨ ((p.x >>> Q &&& 1 : Nat) : Int) = 1 := fun p => by rw [Nat.and_one_is_mod]; omega
    repeat (first | refine StepC.go ?_ | (refine TV_cond_f ?_ ?_; · first | rfl | assumption))
    refine TV_loop (fun d σ B => ∃ (j : Nat), d = i - j ∧ j ≤ i ∧ TGet σ 11 (intT (j : Int)) ∧ TGet σ 8 (ptrT px) ∧ TGet σ 6 (ptrT pr) ∧ TGet σ 3 (ptrT pt) ∧ TGet σ 1 (intT (Q : Int)) ∧ TGet σ 2 (intT b) ∧
        SubP B [(px, .cells [intT t.n, .v (.slice (some (ad pb 0)) t.rows.length t.rows.length)] 24 true), (pb, .arr 4 (pauRows t.rows) 27 false), (pt, .cells (tabCs t) 24 true), (pr, .cells [intT 0, .v (.slice none 0 0)] 24 true)]) i
      ⟨0, by omega, Nat.zero_le _, tget_as rfl, inferInstance, inferInstance, inferInstance, inferInstance, inferInstance, inferInstance⟩ ?_
    clear g1 g2 g3 g6 g32
    rintro d σ B ⟨j, rfl, hj, g11, g8, g6, g3, g1, g2, hB⟩
    refine TV_keep _ (p := hB) ?_
    obtain ⟨ngj, vj, mj⟩ := hrow (N + j) (by omega)
    have anj : AsNat (t.n + (j : Int)) (N + j) := ⟨by rw [hN]; omega⟩
    have h64 : Lt64 (rowAt t (N + j)).x := ⟨vj.1.1⟩
    have h65 : Lt64 ((rowAt t (N + j)).x >>> Q) := ⟨Nat.lt_of_le_of_lt (Nat.shiftRight_le _ _) vj.1.1⟩
    have hQ : Lt64 Q := ⟨by omega⟩
    repeat (first | refine StepC.go ?_ | (refine TS_puw (Pu.addi ?_) ?_; · omega))
    refine TV_cond ?_ ?_ <;> intro hcj
    · have hne3 : j ≠ i := fun h => by
        subst h
        rw [hNt] at hi3
        rw [hbit, decide_eq_true_eq] at hi3
        have := of_decide_eq_true hcj
        omega
      repeat (first | refine StepC.go ?_ | (refine TS_puw (Pu.addi ?_) ?_; · omega))
      refine ⟨_, ?_, j + 1, rfl, by omega, tget_as rfl, inferInstance, inferInstance, inferInstance, inferInstance, inferInstance, inferInstance⟩
      omega
    have hji : j = i := by
      by_cases h : j = i
      · exact h
      · have h2 := hi4 j (by omega)
        rw [hNt, hbit, decide_eq_false_iff_not] at h2
        have h3 := of_decide_eq_false hcj
        rcases hb01 (rowAt t (N + j)) with h4 | h4 <;> omega
    subst hji
    repeat (first | refine StepC.go ?_ | intro _ | (refine TS_puw (Pu.addi ?_) ?_; · omega))
    rename_i ps
    have e0 := pfill_0 t j Q
    refine TV_loop (fun d σ B => ∃ (k : Nat), d = t.rows.length - k ∧ k ≤ t.rows.length ∧ TGet σ 13 (intT (k : Int)) ∧ TGet σ 11 (intT (j : Int)) ∧ TGet σ 12 (ptrT ps) ∧ TGet σ 8 (ptrT px) ∧ TGet σ 6 (ptrT pr) ∧ TGet σ 3 (ptrT pt) ∧ TGet σ 1 (intT (Q : Int)) ∧ TGet σ 2 (intT b) ∧
        SubP B [(ps, .cells (pauCs (rowAt t (N + j))) 27 true), (px, .cells [intT t.n, .v (.slice (some (ad pb 0)) t.rows.length t.rows.length)] 24 true), (pb, .arr 4 (pauRows (pfill t j Q k)) 27 false), (pt, .cells (tabCs t) 24 true), (pr, .cells [intT 0, .v (.slice none 0 0)] 24 true)]) t.rows.length
      ⟨0, by omega, Nat.zero_le _, tget_as rfl, inferInstance, inferInstance, inferInstance, inferInstance, inferInstance, inferInstance, inferInstance, by rw [e0]; infer_instance⟩ ?_
    clear g1 g2 g3 g6 g8 g11 hB
    rintro d σ B ⟨k, rfl, hk, g13, g11, g12, g8, g6, g3, g1, g2, hB⟩
    refine TV_keep _ (p := hB) ?_
    have hlF : LenT (pauRows (pfill t j Q k)) t.rows.length := ⟨by rw [pauRows, List.length_map, pfill_len]⟩
    have vs := vj
    have ms := mj
    repeat (refine StepC.go ?_)
    refine TV_cond ?_ ?_ <;> intro hc5
    · have hkl : k < t.rows.length := by have := of_decide_eq_true hc5; omega
      obtain ⟨ngk, vk, mk⟩ := hrow k hkl
      have ngf : NthG (pauRows (pfill t j Q k)) k (pauCs (rowAt t k)) := .map pauCs (pfill_at hkl)
      have h66 : Lt64 (rowAt t k).x := ⟨vk.1.1⟩
      have h67 : Lt64 ((rowAt t k).x >>> Q) := ⟨Nat.lt_of_le_of_lt (Nat.shiftRight_le _ _) vk.1.1⟩
      repeat (refine StepC.go ?_)
      refine TS_cut (fun σ B => TGet σ 102 (boolT (decide (k ≠ j ∧ k ≠ N + j ∧ xAt Q (rowAt t k) = true))) ∧ TGet σ 13 (intT (k : Int)) ∧ TGet σ 11 (intT (j : Int)) ∧ TGet σ 12 (ptrT ps) ∧ TGet σ 8 (ptrT px) ∧ TGet σ 6 (ptrT pr) ∧ TGet σ 3 (ptrT pt) ∧ TGet σ 1 (intT (Q : Int)) ∧ TGet σ 2 (intT b) ∧
        SubP B [(ps, .cells (pauCs (rowAt t (N + j))) 27 true), (px, .cells [intT t.n, .v (.slice (some (ad pb 0)) t.rows.length t.rows.length)] 24 true), (pb, .arr 4 (pauRows (pfill t j Q k)) 27 false), (pt, .cells (tabCs t) 24 true), (pr, .cells [intT 0, .v (.slice none 0 0)] 24 true)]) ?_ ?_
      · repeat' (first | refine StepC.go ?_ | (refine TS_on rfl ?_ ?_; · first | rfl | assumption) | (refine TS_off rfl ?_ ?_; · first | rfl | assumption) | (refine TS_puw (Pu.pick_f ?_) ?_; · first | rfl | assumption) | (refine TS_puw (Pu.addi ?_) ?_; · omega) | (refine TS_guard rfl ?_ ?_ <;> intro hg))
        all_goals refine ⟨tget_as (congrArg (fun b => boolT b) ?_), inferInstance, inferInstance, inferInstance, inferInstance, inferInstance, inferInstance, inferInstance, inferInstance, inferInstance⟩
        all_goals try rw [show decide ((((rowAt t k).x >>> Q &&& 1 : Nat) : Int) = 1) = xAt Q (rowAt t k) from rfl]
        all_goals have q0 : decide ((k : Int) = t.n + (j : Int)) = decide (k = N + j) := decide_eq_decide.2 (by omega)
        all_goals try rw [q0] at hg
        all_goals try rw [q0]
        all_goals first
          | exact chgA k j N _
          | exact chgB k j N _ hg
          | exact chgC k j N _ hg
      rintro σ B ⟨g102, g13, g11, g12, g8, g6, g3, g1, g2, hB⟩
      refine TV_keep _ (p := hB) ?_
      have hst := pfill_set t j Q k
      refine TV_cond ?_ ?_ <;> intro hc6
      · have hch := of_decide_eq_true hc6
        have hpr : prow t j Q k = mulP (rowAt t (N + j)) (rowAt t k) := by unfold prow; rw [hNt, if_pos hch]
        rw [hpr] at hst
        repeat (first | refine TD_take rfl rfl ?_ | refine TD_load rfl rfl ?_ | refine TD_one rfl ?_ | refine FiltT_nil ?_ | refine FiltT_drop rfl ?_ | refine FiltT_keep rfl ?_ | refine TV_draw (id := 21) (plan := [.take 0, .take 1, .take 2, .take 3, .take 4, .take 5, .take 6, .take 7, .take 8, .one 9, .take 10, .one 11]) (by kernel_rfl) ?_)
        refine TS_callE (mul18T vs vk (by rw [ms, mk])) ?_
        repeat (first | refine StepC.go ?_ | (refine TS_puw (Pu.addi ?_) ?_; · omega) | refine TD_take rfl rfl ?_ | refine TD_one rfl ?_ | refine FiltT_nil ?_ | refine FiltT_drop rfl ?_)
        refine ⟨_, ?_, k + 1, rfl, by omega, tget_as rfl, inferInstance, inferInstance, inferInstance, inferInstance, inferInstance, inferInstance, inferInstance, ?_⟩
        · omega
        · rw [← hst]; infer_instance
      · have hch := of_decide_eq_false hc6
        have hpr : prow t j Q k = rowAt t k := by unfold prow; rw [hNt, if_neg hch]
        repeat (first | refine StepC.go ?_ | (refine TS_puw (Pu.addi ?_) ?_; · omega))
        refine ⟨_, ?_, k + 1, rfl, by omega, tget_as rfl, inferInstance, inferInstance, inferInstance, inferInstance, inferInstance, inferInstance, inferInstance, ?_⟩
        · omega
        · rw [pfill_skip hpr]; infer_instance
    · have hkl : k = t.rows.length := by have := of_decide_eq_false hc5; omega
      subst hkl
      have hs1 : NthG (pauRows (pfill t j Q t.rows.length)) j (pauCs ((pfill t j Q t.rows.length).getD j noPau)) := .map pauCs (pgetD_at (by rw [pfill_len]; omega))
      have hs3 : NthG (pauRows ((pfill t j Q t.rows.length).set j (rowAt t (N + j)))) (N + j) (pauCs ((pfill t j Q t.rows.length).getD (N + j) noPau)) := .map pauCs (by rw [List.getElem?_set_ne (by omega)]; exact pgetD_at (by rw [pfill_len]; omega))
      have hlG : LenT (pauRows ((pfill t j Q t.rows.length).set j (rowAt t (N + j)))) t.rows.length := ⟨by rw [pauRows, List.length_map, List.length_set, pfill_len]⟩
      repeat (first | refine StepC.go ?_ | refine TD_take rfl rfl ?_ | refine TD_load rfl rfl ?_ | refine TD_one rfl ?_ | refine FiltT_nil ?_ | refine FiltT_drop rfl ?_ | refine FiltT_keep rfl ?_ | (refine TD_takew rfl rfl (Pu.addi ?_) ?_; · omega) | refine TV_draw (id := 23) (plan := [.take 0, .take 1, .take 2, .take 3, .take 4, .take 5, .take 6, .take 7, .take 8, .take 9, .take 10, .one 11, .take 12, .one 13]) (by kernel_rfl) ?_)
      rw [wrap_small (by omega) (by omega)]
      refine TS_callE (onT (n := t.n) (q := (Q : Int)) (k := 90) (ph := 2 * b) n1 (by omega) hq.2 (.inr (.inr rfl))) ?_
      rw [onS_oneZb]
      repeat (first | refine StepC.go ?_ | refine TD_take rfl rfl ?_ | refine TD_one rfl ?_ | refine FiltT_nil ?_ | refine FiltT_drop rfl ?_)
      have hlH : LenT (pauRows (((pfill t j Q t.rows.length).set j (rowAt t (N + j))).set (N + j) (oneZ t.n Q b))) t.rows.length := ⟨by rw [pauRows, List.length_map, List.length_set, List.length_set, pfill_len]⟩
      have rx : RealX (pauRows (((pfill t j Q t.rows.length).set j (rowAt t (N + j))).set (N + j) (oneZ t.n Q b))) false := ⟨fun h => (hreal _ (by rw [List.length_set, List.length_set, pfill_len]) h).elim⟩
      refine retT_2 (.inr rfl) ?_
      simp only [tret]; rw [e]
      unfold projRows; rw [hNt]
instance : CallIs Try.prog 27 := .of Try.func27 rfl rfl
/-! ### The law TableauProjects -/
end Go.Ideal

-- Ze
set_option linter.unusedSimpArgs false
set_option linter.unusedVariables false
namespace Go.Ideal
open Go Go.Proofs Go.RowKit
/-! ### The law TableauBack -/
theorem tap_back {t : TabD} {nm : ByteArray} {qs : List Int} (hw : TabW t) (h : (tapS t nm qs).2 = 0) : TabW (tapS t nm qs).1 ∧ checkTab (tapS t nm qs).1 = 0 ∧ (backS nm).2 = 0 ∧ tapS (tapS t nm qs).1 (backS nm).1 qs = (t, 0) := by
  have h1 : checkTab t = 0 := by
    by_cases h1 : checkTab t = 0
    · exact h1
    · unfold tapS at h; rw [if_neg h1] at h; cases h
  have h2 : gfS t.n nm qs = 0 := by
    by_cases h2 : gfS t.n nm qs = 0
    · exact h2
    · unfold tapS at h; rw [if_pos h1, if_neg h2] at h; exact absurd h h2
  have g := TabG.of hw h1
  have gk := gfS_ok h2
  have ho := byS_hom nm g.n1 gk.rng gk.nd
  have iv := byS_inv g.n1 gk
  have e : tapS t nm qs = (⟨t.n, t.rows.map (byS nm qs)⟩, 0) := by unfold tapS; rw [if_pos h1, if_pos h2]
  obtain ⟨h3, h4⟩ := gfS_back h2
  obtain ⟨h5, h6⟩ := hom_check hw h1 ho iv
  rw [e]
  refine ⟨h5, h6, h4, ?_⟩
  unfold tapS
  rw [if_pos h6, if_pos h3]
  show (TabD.mk t.n ((t.rows.map (byS nm qs)).map (byS (backS nm).1 qs)), (0 : Int)) = (t, 0)
  rw [map_back g iv]
end Go.Ideal

-- Zg
set_option linter.unusedSimpArgs false
set_option linter.unusedVariables false
namespace Go.Ideal
open Go Go.Proofs Go.RowKit
/-! ### Answers that are new memory -/
theorem flat_pau : ∀ ps : List PauD, FlatL (pauRows ps).flatten := fun ps => FlatL.rows fun row hr => by
  obtain ⟨p, _, rfl⟩ := List.mem_map.1 hr
  exact inferInstanceAs (FlatL [intT p.n, u64T p.x, u64T p.z, intT p.ph])
end Go.Ideal

-- Zi
set_option linter.unusedSimpArgs false
set_option linter.unusedVariables false
namespace Go.Ideal
open Go Go.Proofs Go.RowKit
/-! ### What Zero answers is a tableau: the plain law -/
theorem zX_v {n : Int} {i : Nat} (h0 : 0 ≤ n) (h1 : n ≤ 64) (hi : (i : Int) < n) : PauV (zX n i) := by
  refine pauV_iff.2 ⟨h0, h1, by show (0 : Int) ≤ 0; omega, by show (0 : Int) ≤ 3; omega, fun j hj => ⟨?_, by show (0 : Nat).testBit j = false; simp⟩⟩
  have hj : n.toNat ≤ j := hj
  show ((1 <<< i) % 18446744073709551616).testBit j = false
  rw [← bitN_shl, bitN_bit (by omega)]
  exact decide_eq_false (by omega)
theorem zero_len (n : Int) (N : Nat) : (zFill n N N).length = 2 * N := zFill_len n N N
theorem zero_at {N i : Nat} (n : Int) (hi : i < 2 * N) : rowAt ⟨n, zFill n N N⟩ i = if i < N then zX n i else zZ n (i - N) := by
  refine rowAt_get ?_
  show (zFill n N N)[i]? = _
  rw [zFill_all]
  by_cases h : i < N
  · rw [List.getElem?_append_left (by simpa using h), List.getElem?_map, List.getElem?_range h, if_pos h]; rfl
  · rw [List.getElem?_append_right (by simpa using h), List.getElem?_map, if_neg h]
    simp only [List.length_map, List.length_range]
    rw [List.getElem?_range (by omega)]; rfl
theorem acP_zZ (n : Int) {i : Nat} (hi : i < 64) (r : PauD) : acP (zZ n i) r = xAt i r := acP_oneZ (n := n) hi 0 r
theorem zero_ok {n : Int} (h0 : 0 ≤ n) (h1 : n ≤ 64) : TabW (zeroC n).1 ∧ checkTab (zeroC n).1 = 0 ∧ (zeroC n).2 = 0 := by
  have e : zeroC n = (⟨n, zFill n n.toNat n.toNat⟩, 0) := by unfold zeroC; rw [if_pos ⟨h0, h1⟩]
  rw [e]
  have hl : (zFill n n.toNat n.toNat).length = 2 * n.toNat := zero_len _ _
  have hr : ∀ i, i < 2 * n.toNat → PauV (rowAt ⟨n, zFill n n.toNat n.toNat⟩ i) ∧ (rowAt ⟨n, zFill n n.toNat n.toNat⟩ i).n = n ∧ (rowAt ⟨n, zFill n n.toNat n.toNat⟩ i).ph % 2 = 0 := by
    intro i hi
    rw [zero_at n hi]
    split
    · exact ⟨zX_v h0 h1 (by omega), rfl, rfl⟩
    · exact ⟨oneZ_v (q := i - n.toNat) h0 h1 (by omega), rfl, rfl⟩
  refine ⟨TabW_of fun i hi => (hr i (by rw [← hl]; exact hi)).1, checkTab_of h0 h1 (by show ((zFill n n.toNat n.toNat).length : Int) = 2 * n; omega) (fun i hi => hr i (by rw [← hl]; exact hi)) (fun i j hj hi => ?_), rfl⟩
  have hi : i < 2 * n.toNat := by rw [← hl]; exact hi
  rw [zero_at n hi, zero_at n (by omega : j < 2 * n.toNat)]
  show _ = decide (i = j + n.toNat)
  have h00 : pcS 0 = 0 := by decide +kernel
  by_cases a : i < n.toNat
  · rw [if_pos a, if_pos (by omega), acP_eq]
    show decide ((pcS ((zX n i).x &&& 0) + pcS (0 &&& (zX n j).x)) % 2 = 1) = _
    rw [Nat.and_zero, Nat.zero_and, h00]
    exact decide_eq_decide.2 (by omega)
  · rw [if_neg a, acP_zZ n (by omega), xAt_bit]
    by_cases b : j < n.toNat
    · rw [if_pos b]
      show ((1 <<< j) % 18446744073709551616).testBit (i - n.toNat) = _
      rw [← bitN_shl, bitN_bit (by omega)]
      exact decide_eq_decide.2 (by omega)
    · rw [if_neg b]
      show (0 : Nat).testBit _ = _
      rw [Nat.zero_testBit]
      exact (decide_eq_false (by omega)).symm
/-- what becomes of a tableau: the answer's, if there is no fault -/
def stepT (t : TabD) (U : TabD × Int) : TabD := if U.2 = 0 then U.1 else t
theorem step_proj {t : TabD} {q b : Int} (hw : TabW t) (hck : checkTab t = 0) : TabW (stepT t (projC t q b)) ∧ checkTab (stepT t (projC t q b)) = 0 := by
  unfold stepT
  split
  · rename_i h
    obtain ⟨h1, h2, h3, _, _⟩ := projC_ok hw h
    unfold projC at h ⊢
    rw [if_pos h1, if_pos h2, if_pos h3] at h ⊢
    split
    · split
      · exact ⟨hw, hck⟩
      · rename_i h4 h5; rw [if_pos h4, if_neg h5] at h; cases h
    · rename_i h4
      have hl0 : 0 ≤ looseS t q.toNat := by
        have := certS_loose t q.toNat
        rw [Bool.eq_false_iff.2 h4] at this; simpa using this
      obtain ⟨i, hi1, hi2, hi3, _⟩ := loose_spec (TabG.of hw hck) q.toNat hl0
      rw [hi1, Int.toNat_natCast]
      exact proj_ok hw hck (by omega) hi2 hi3 h3
  · exact ⟨hw, hck⟩
end Go.Ideal

-- Zj
set_option linter.unusedSimpArgs false
set_option linter.unusedVariables false
namespace Go.Ideal
open Go Go.Proofs Go.RowKit
/-! ### The engine's methods -/
theorem step_apply {t : TabD} {nm : ByteArray} {qs : List Int} (hw : TabW t) (hck : checkTab t = 0) : TabW (stepT t (tapS t nm qs)) ∧ checkTab (stepT t (tapS t nm qs)) = 0 := by
  unfold stepT
  split
  · rename_i h
    obtain ⟨h1, h2, _⟩ := tap_back hw h
    exact ⟨h1, h2⟩
  · exact ⟨hw, hck⟩
theorem engApplyNil {nm : ByteArray} {tr : Tr} : Fn Try.prog 33 [.v (.pointer none), strT nm, tr] (fun r => r = intT 2) := by
  refine Fn_of Try.func33 rfl (Nat.le_of_ble_eq_true rfl) (fun X => ?_)
  repeat (first | refine StepC.go ?_ | (refine TV_cond_t ?_ ?_; · first | rfl | assumption))
  exact retT_1 (.inr rfl) rfl
theorem engProjectNil {q b : Int} : Fn Try.prog 34 [.v (.pointer none), intT q, intT b] (fun r => r = intT 2) := by
  refine Fn_of Try.func34 rfl (Nat.le_of_ble_eq_true rfl) (fun X => ?_)
  repeat (first | refine StepC.go ?_ | (refine TV_cond_t ?_ ?_; · first | rfl | assumption))
  exact retT_1 (.inr rfl) rfl
theorem engTableauNil : Fn Try.prog 35 [.v (.pointer none)] (fun r => r = .agg [intT 0, .v (.slice none 0 0)]) := by
  refine Fn_of Try.func35 rfl (Nat.le_of_ble_eq_true rfl) (fun X => ?_)
  repeat (first | refine StepC.go ?_ | intro _ | (refine TV_cond_t ?_ ?_; · first | rfl | assumption))
  exact retT_1 (.inr rfl) rfl
@[reducible] def rootT (a : Int × Int × Int) : Tr := .agg [intT a.1, intT a.2.1, intT a.2.2]
theorem engWeightsNil {q : Int} : Fn Try.prog 32 [.v (.pointer none), intT q] (fun r => r = .tup [rootT (0, 0, 0), rootT (0, 0, 0), intT 2]) := by
  refine Fn_of Try.func32 rfl (Nat.le_of_ble_eq_true rfl) (fun X => ?_)
  repeat (first | refine StepC.go ?_ | intro _ | refine TD_take rfl rfl ?_ | refine TD_load rfl rfl ?_ | refine TD_one rfl ?_ | refine FiltT_nil ?_ | refine FiltT_drop rfl ?_ | refine FiltT_keep rfl ?_ | refine TV_draw (id := 2) (plan := [.take 0, .take 1, .one 2, .one 3, .take 4]) (by kernel_rfl) ?_ | (refine TV_cond_t ?_ ?_; · first | rfl | assumption))
  exact retT_3 (.inr rfl) rfl
def weiC (t : TabD) (q : Int) : (Int × Int × Int) × (Int × Int × Int) × Int :=
  if 0 ≤ q ∧ q < t.n then (if (certS t q.toNat).2 = true then (((certS t q.toNat).1, 0, 0), (1, 0, 0), 0) else ((1, 0, 1), (1, 0, 0), 0)) else ((0, 0, 0), (0, 0, 0), 112)
set_option synthInstance.maxSize 4000 in
theorem engWeightsT {t : TabD} {q : Int} (hw : TabW t) (hck : checkTab t = 0) : Fn Try.prog 32 [.pf (tabCs t), intT q] (fun r => r = .tup [rootT (weiC t q).1, rootT (weiC t q).2.1, intT (weiC t q).2.2]) := by
  refine Fn_of Try.func32 rfl (Nat.le_of_ble_eq_true rfl) (fun X => ?_)
  repeat (first | refine StepC.go ?_ | intro _ | (refine TV_cond_f ?_ ?_; · first | rfl | assumption))
  refine TS_call (certainT hw) ?_
  rintro _ rfl
  by_cases hq : 0 ≤ q ∧ q < t.n
  · have e : certC t q = ((certS t q.toNat).1, (certS t q.toNat).2, 0) := by unfold certC; rw [if_pos hck, if_pos hq]
    rw [e]
    cases hc : (certS t q.toNat).2 with
    | true =>
      repeat (first | refine StepC.go ?_ | (refine TV_cond_f ?_ ?_; · first | rfl | assumption))
      refine retT_3 (.inr rfl) ?_
      simp only [tret, weiC]; rw [if_pos hq, if_pos hc]
    | false =>
      repeat (first | refine StepC.go ?_ | (refine TV_cond_t ?_ ?_; · first | rfl | assumption) | (refine TV_cond_f ?_ ?_; · first | rfl | assumption))
      refine retT_3 (.inr rfl) ?_
      simp only [tret, weiC]; rw [if_pos hq, if_neg (by rw [hc]; decide)]
  · have e : certC t q = (0, false, 112) := by unfold certC; rw [if_pos hck, if_neg hq]
    rw [e]
    repeat (first | refine StepC.go ?_ | refine TD_take rfl rfl ?_ | refine TD_load rfl rfl ?_ | refine TD_one rfl ?_ | refine FiltT_nil ?_ | refine FiltT_drop rfl ?_ | refine FiltT_keep rfl ?_ | refine TV_draw (id := 5) (plan := [.take 0, .take 1, .take 2, .one 3, .one 4, .take 5]) (by kernel_rfl) ?_ | (refine TV_cond_t ?_ ?_; · first | rfl | assumption))
    refine retT_3 (.inr rfl) ?_
    simp only [tret, weiC]; rw [if_neg hq]
instance : CallIs Try.prog 32 := .of Try.func32 rfl rfl
instance : CallIs Try.prog 33 := .of Try.func33 rfl rfl
instance : CallIs Try.prog 34 := .of Try.func34 rfl rfl
instance : CallIs Try.prog 35 := .of Try.func35 rfl rfl
set_option synthInstance.maxSize 4000 in
theorem refWeightsT {t : TabD} {q : Int} (hw : TabW t) (hck : checkTab t = 0) : Fn Try.prog 37 [tabT t, intT q] (fun r => r = .tup [rootT (weiC t q).1, rootT (weiC t q).2.1, intT (weiC t q).2.2]) := by
  refine Fn_of Try.func37 rfl (Nat.le_of_ble_eq_true rfl) (fun X => ?_)
  repeat (first | refine StepC.go ?_ | intro _)
  rename_i pt p1 p2
  refine TS_cut (fun σ B => TGet σ 17 (boolT (outS t.n q)) ∧ TGet σ 1 (intT q) ∧ TGet σ 2 (ptrT pt) ∧ TGet σ 4 (ptrT p1) ∧ TGet σ 5 (ptrT p2) ∧ SubP B [(pt, .cells (tabCs t) 24 true), (p1, .cells [intT 0, intT 0, intT 0] 68 true), (p2, .cells [intT 0, intT 0, intT 0] 68 true)]) ?_ ?_
  · repeat' (first | refine StepC.go ?_ | (refine TS_on rfl ?_ ?_; · first | rfl | assumption) | (refine TS_off rfl ?_ ?_; · first | rfl | assumption) | (refine TS_puw (Pu.pick_t ?_) ?_; · first | rfl | assumption) | (refine TS_guard rfl ?_ ?_ <;> intro hg))
    all_goals exact ⟨tget_as (by simp_all [outS]), inferInstance, inferInstance, inferInstance, inferInstance, inferInstance⟩
  rintro σ B ⟨g17, g1, g2, g4, g5, hB⟩
  refine TV_keep _ (p := hB) ?_
  refine TV_cond ?_ ?_ <;> intro hc2
  · repeat (refine StepC.go ?_)
    refine retT_3 (.inr rfl) ?_
    simp only [tret, weiC]; rw [if_neg (by simp [outS] at hc2; omega)]
  have hq : 0 ≤ q ∧ q < t.n := by simp [outS] at hc2; omega
  obtain ⟨Q, rfl⟩ : ∃ Q : Nat, q = (Q : Int) := ⟨q.toNat, by omega⟩
  repeat (first | refine StepC.go ?_ | intro _)
  refine TS_callE (rcertT hw hck hq.2) ?_
  cases hc : (certS t Q).2 with
  | true =>
    repeat (first | refine StepC.go ?_ | refine TD_take rfl rfl ?_ | refine TD_load rfl rfl ?_ | refine TD_one rfl ?_ | refine FiltT_nil ?_ | refine FiltT_drop rfl ?_ | refine FiltT_keep rfl ?_ | refine TV_draw (id := 7) (plan := [.take 0, .take 1, .take 2, .one 3, .one 4, .take 5]) (by kernel_rfl) ?_ | (refine TV_cond_f ?_ ?_; · first | rfl | assumption))
    refine retT_3 (.inr rfl) ?_
    simp only [tret, weiC]; rw [if_pos hq, Int.toNat_natCast, if_pos hc]
  | false =>
    repeat (first | refine StepC.go ?_ | refine TD_take rfl rfl ?_ | refine TD_load rfl rfl ?_ | refine TD_one rfl ?_ | refine FiltT_nil ?_ | refine FiltT_drop rfl ?_ | refine FiltT_keep rfl ?_ | refine TV_draw (id := 6) (plan := [.take 0, .take 1, .one 2, .one 3, .take 4]) (by kernel_rfl) ?_ | (refine TV_cond_t ?_ ?_; · first | rfl | assumption))
    refine retT_3 (.inr rfl) ?_
    simp only [tret, weiC]; rw [if_pos hq, Int.toNat_natCast, if_neg (by rw [hc]; decide)]
instance : CallIs Try.prog 37 := .of Try.func37 rfl rfl
set_option synthInstance.maxSize 4000 in
theorem engApplyB {t : TabD} {nm : ByteArray} {qs : List Int} {px : Nat} (hw : TabW t) : FnB Try.prog 33 [.v (.pointer (some (ad px 0))), strT nm, .sl 1 (intRows qs)] [(px, .cells (tabCs t) 130 true)] (fun r B1 => r = intT (tapS t nm qs).2 ∧ B1 = [(px, .cells (tabCs (stepT t (tapS t nm qs))) 130 true)]) := by
  refine FnM_of Try.func33 rfl (Nat.le_of_ble_eq_true rfl) (fun X C => ?_)
  repeat (first | refine StepC.go ?_ | (refine TV_cond_f ?_ ?_; · first | rfl | assumption))
  refine TS_call (tabApplyT hw) ?_
  rintro _ rfl
  generalize tapS t nm qs = U
  repeat (first | refine StepC.go ?_ | intro _)
  refine TV_cond ?_ ?_ <;> intro hc
  · have e : stepT t U = U.1 := by unfold stepT; rw [if_pos (of_decide_eq_true hc)]
    repeat (refine StepC.go ?_)
    exact retB_1 [(px, .cells (tabCs (stepT t U)) 130 true)] (by rw [e]; exact inferInstanceAs (SubP _ ((px, .cells (tabCs U.1) 130 true) :: C))) (.inr rfl) ⟨rfl, rfl⟩
  · have e : stepT t U = t := by unfold stepT; rw [if_neg (of_decide_eq_false hc)]
    repeat (refine StepC.go ?_)
    exact retB_1 [(px, .cells (tabCs (stepT t U)) 130 true)] (by rw [e]; exact inferInstanceAs (SubP _ ((px, .cells (tabCs t) 130 true) :: C))) (.inr rfl) ⟨rfl, rfl⟩
set_option synthInstance.maxSize 4000 in
theorem engProjectB {t : TabD} {q b : Int} {px : Nat} (hw : TabW t) : FnB Try.prog 34 [.v (.pointer (some (ad px 0))), intT q, intT b] [(px, .cells (tabCs t) 130 true)] (fun r B1 => r = intT (projC t q b).2 ∧ B1 = [(px, .cells (tabCs (stepT t (projC t q b))) 130 true)]) := by
  refine FnM_of Try.func34 rfl (Nat.le_of_ble_eq_true rfl) (fun X C => ?_)
  repeat (first | refine StepC.go ?_ | (refine TV_cond_f ?_ ?_; · first | rfl | assumption))
  refine TS_call (projectT hw) ?_
  rintro _ rfl
  generalize projC t q b = U
  repeat (first | refine StepC.go ?_ | intro _)
  refine TV_cond ?_ ?_ <;> intro hc
  · have e : stepT t U = U.1 := by unfold stepT; rw [if_pos (of_decide_eq_true hc)]
    repeat (refine StepC.go ?_)
    exact retB_1 [(px, .cells (tabCs (stepT t U)) 130 true)] (by rw [e]; exact inferInstanceAs (SubP _ ((px, .cells (tabCs U.1) 130 true) :: C))) (.inr rfl) ⟨rfl, rfl⟩
  · have e : stepT t U = t := by unfold stepT; rw [if_neg (of_decide_eq_false hc)]
    repeat (refine StepC.go ?_)
    exact retB_1 [(px, .cells (tabCs (stepT t U)) 130 true)] (by rw [e]; exact inferInstanceAs (SubP _ ((px, .cells (tabCs t) 130 true) :: C))) (.inr rfl) ⟨rfl, rfl⟩
/-- a copy of rows: nothing, or own memory -/
theorem clonePO2 {ps : List PauD} (hl : ps.length ≤ 2 ^ 30) : FnO Try.prog 60 [.sl 4 (pauRows ps)] (fun r B => (r = .v (.slice none 0 0) ∧ ps = [] ∧ B = []) ∨ ∃ b, r = .v (.slice (some (ad b 0)) ps.length ps.length) ∧ B = [(b, .arr 4 (pauRows ps) 27 ps.isEmpty)]) := by
  refine FnO_of Try.func60 rfl (Nat.le_of_ble_eq_true rfl) (fun X => ?_)
  have hL : (pauRows ps).length = ps.length := by simp [pauRows]
  have hl' : ps.length < 2 ^ 31 := by omega
  have : Sm63 (0 + ps.length) := ⟨by omega⟩
  repeat (refine StepC.go ?_)
  refine TS_isnil ?_
  intro b hb
  cases b with
  | true =>
    repeat (first | refine StepC.go ?_ | (refine TV_cond_t ?_ ?_; · first | rfl | assumption))
    exact retO_1 [] (.inr rfl) (by simp) (.inl ⟨rfl, by simpa [pauRows] using hb rfl, rfl⟩)
  | false =>
    repeat (first | refine StepC.go ?_ | intro _ | (refine TS_append_own ?_ (fun _ => ?_); · omega) | (refine TV_cond_f ?_ ?_; · first | rfl | assumption))
    rename_i bs bx
    have e3 : ((pauRows ps).isEmpty && true) = ps.isEmpty := by
      cases ps with
      | nil => rfl
      | cons a l => rfl
    simp only [Nat.zero_add, List.nil_append, e3]
    refine retO_1 [(bx, .arr 4 (pauRows ps) 27 ps.isEmpty)] (.inr rfl) (fun p hp => ?_) (.inr ⟨bx, rfl, rfl⟩)
    rw [List.mem_singleton.1 hp]
    intro h1
    simpa [pauRows] using h1
set_option synthInstance.maxSize 4000 in
theorem engTableauO {t : TabD} (hl : t.rows.length ≤ 2 ^ 30) : FnO Try.prog 35 [.pf (tabCs t)] (fun r B => (r = .agg [intT t.n, .v (.slice none 0 0)] ∧ t.rows = [] ∧ B = []) ∨ ∃ b, r = .agg [intT t.n, .v (.slice (some (ad b 0)) t.rows.length t.rows.length)] ∧ B = [(b, .arr 4 (pauRows t.rows) 27 t.rows.isEmpty)]) := by
  refine FnO_of Try.func35 rfl (Nat.le_of_ble_eq_true rfl) (fun X => ?_)
  repeat (first | refine StepC.go ?_ | intro _ | refine TD_take rfl rfl ?_ | refine TD_load rfl rfl ?_ | refine TD_one rfl ?_ | refine FiltT_nil ?_ | refine TV_draw (id := 3) (plan := [.take 0, .take 1, .take 2, .take 3, .take 4, .take 5, .take 6, .take 7, .take 8, .take 9, .one 10, .take 11, .one 12]) (by kernel_rfl) ?_ | (refine TV_cond_f ?_ ?_; · first | rfl | assumption))
  refine TS_callO (clonePO2 hl) ?_
  rintro _ _ (⟨rfl, h0, rfl⟩ | ⟨b, rfl, rfl⟩)
  · simp only [List.nil_append]
    repeat (first | refine StepC.go ?_ | refine TD_take rfl rfl ?_ | refine TD_one rfl ?_ | refine FiltT_nil ?_)
    exact retO_1 [] (.inr rfl) (by simp) (.inl ⟨rfl, h0, rfl⟩)
  · simp only [List.singleton_append]
    repeat (first | refine StepC.go ?_ | refine TD_take rfl rfl ?_ | refine TD_one rfl ?_ | refine FiltT_nil ?_)
    refine retO_1 [(b, .arr 4 (pauRows t.rows) 27 t.rows.isEmpty)] (.inr rfl) (fun p hp => ?_) (.inr ⟨b, rfl, rfl⟩)
    rw [List.mem_singleton.1 hp]
    intro h1
    simpa [pauRows] using h1
set_option synthInstance.maxSize 4000 in
theorem engNewO {n : Int} : FnO Try.prog 36 [intT n] (fun r B => if (zeroC n).2 = 0 then ∃ b, r = .tup [.v (.pointer (some (ad b 0))), intT 0] ∧ B = [(b, .cells (tabCs (zeroC n).1) 130 true)] else r = .tup [.v (.pointer none), intT (zeroC n).2] ∧ B = []) := by
  refine FnO_of Try.func36 rfl (Nat.le_of_ble_eq_true rfl) (fun X => ?_)
  repeat (refine StepC.go ?_)
  refine TS_call zeroT ?_
  rintro _ rfl
  generalize zeroC n = Z
  repeat (first | refine StepC.go ?_ | intro _)
  refine TV_cond ?_ ?_ <;> intro hc
  · have h0 : ¬ Z.2 = 0 := by simpa using hc
    repeat (refine StepC.go ?_)
    refine retO_2 [] (.inr rfl) (by simp) ?_
    rw [if_neg h0]
    exact ⟨rfl, rfl⟩
  · have h0 : Z.2 = 0 := by simpa using hc
    repeat (first | refine StepC.go ?_ | intro _)
    rename_i b1 b2
    refine retO_2 [(b2, .cells (tabCs Z.1) 130 true)] (.inr rfl) (fun p hp => ?_) ?_
    · rw [List.mem_singleton.1 hp]; trivial
    · rw [if_pos h0]; exact ⟨b2, rfl, rfl⟩
instance : CallIs Try.prog 36 := .of Try.func36 rfl rfl
end Go.Ideal

-- Zk
set_option linter.unusedSimpArgs false
set_option linter.unusedVariables false
namespace Go.Ideal
open Go Go.Proofs Go.RowKit
/-! ### The law TableauEngine -/
structure StpD where
  kind : Int
  name : ByteArray
  qs : List Int
  q : Int
  b : Int
@[reducible] def stpCs (s : StpD) : List Tr := [intT s.kind, strT s.name, .sl 1 (intRows s.qs), intT s.q, intT s.b]
def stpRows (ss : List StpD) : List (List Tr) := ss.map stpCs
instance {ss : List StpD} : LenO (stpRows ss) ss.length := ⟨by simp [stpRows]⟩
theorem root_held : Try.prog.stoodInHeld 68 = false := by kernel_rfl
theorem root_guard : Try.prog.eqGuardType Try.prog.depth 68 = false := by kernel_rfl
section
variable {σ : Nat → Tr} {B : Boxes} {x y : Operand} {yt : TypeId} {a b c : Int}
theorem root_eqF {a b c a' b' c' : Int} : EqF Try.prog [⟨"P", 2, 0, false, "", "", 0⟩, ⟨"Q", 2, 1, false, "", "", 8⟩, ⟨"K", 3, 2, false, "", "", 16⟩] #[.int .i64 a, .int .i64 b, .int .i64 c] #[.int .i64 a', .int .i64 b', .int .i64 c'] (a == a' && (b == b' && (c == c' && true))) :=
  .cons (f := ⟨"P", 2, 0, false, "", "", 0⟩) (by decide) (UnderIs.eq : Try.prog.underlying 2 = _) rfl rfl (.cons (f := ⟨"Q", 2, 1, false, "", "", 8⟩) (by decide) (UnderIs.eq : Try.prog.underlying 2 = _) rfl rfl
    (.cons (f := ⟨"K", 3, 2, false, "", "", 16⟩) (by decide) (UnderIs.eq : Try.prog.underlying 3 = _) rfl rfl .nil))
instance (priority := 2000) Pu.root_ne_same [e1 : TEval σ x (.agg [.v (.int .i64 a), .v (.int .i64 b), .v (.int .i64 c)])] [e2 : TEval σ y (.agg [.v (.int .i64 a), .v (.int .i64 b), .v (.int .i64 c)])] : Pu Try.prog σ B (.binOp .neq 68 x y yt) (.v (.bool false)) := by
  have h := Pu.neStruct (σ := σ) (B := B) (x := x) (y := y) (yt := yt) (P := Try.prog) (t := 68) (r := (a == a && (b == b && (c == c && true)))) [.int .i64 a, .int .i64 b, .int .i64 c] [.int .i64 a, .int .i64 b, .int .i64 c] rfl rfl Try.underlying68 root_held root_guard rfl rfl root_eqF
  simpa using h
end
def EngTab (t : TabD) (r : Tr) (B : Boxes) : Prop := (r = .agg [intT t.n, .v (.slice none 0 0)] ∧ t.rows = [] ∧ B = []) ∨ ∃ b, r = .agg [intT t.n, .v (.slice (some (ad b 0)) t.rows.length t.rows.length)] ∧ B = [(b, .arr 4 (pauRows t.rows) 27 t.rows.isEmpty)]
theorem engTab_flat {t : TabD} (r : Tr) (B : Boxes) (h : EngTab t r B) : FlatT r ∧ ∀ p ∈ B, FlatB p.2 := by
  rcases h with ⟨rfl, _, rfl⟩ | ⟨b, rfl, rfl⟩
  · exact ⟨inferInstance, fun p hp => by cases hp⟩
  · exact ⟨inferInstance, fun p hp => by rw [List.mem_singleton.1 hp]; exact flat_pau _⟩
theorem equalNil {t : TabD} (h : t.rows = []) : Fn Try.prog 22 [.agg [intT t.n, .v (.slice none 0 0)], tabT t] (fun r => r = boolT true) := by
  have x := tabEqualT (t := t)
  have : CvL [.agg [intT t.n, .v (.slice none 0 0)], tabT t] [tabT t, tabT t] := by
    rw [show tabT t = .agg [intT t.n, .sl 4 (pauRows t.rows)] from rfl, h]
    exact inferInstanceAs (CvL [.agg [intT t.n, .v (.slice none 0 0)], .agg [intT t.n, .sl 4 []]] [.agg [intT t.n, .sl 4 []], .agg [intT t.n, .sl 4 []]])
  exact Fn_cv' x
set_option synthInstance.maxSize 4000 in
set_option synthInstance.maxHeartbeats 400000 in
set_option maxHeartbeats 4000000 in
set_option maxRecDepth 100000 in
theorem tableauEngineT {n : Int} {ss : List StpD} : Fn Try.prog 8 [intT n, .sl 5 (stpRows ss)] (fun r => r = boolT true) := by
  refine Fn_of Try.func8 rfl (Nat.le_of_ble_eq_true rfl) (fun X => ?_)
  refine TV_fact 1 (fun F v h => rep_small h) fun hsm => ?_
  have hL : (stpRows ss).length = ss.length := by simp [stpRows]
  rw [hL] at hsm
  repeat (refine StepC.go ?_)
  refine TS_callE awake18T ?_
  repeat (first | refine StepC.go ?_ | (refine TV_cond_f ?_ ?_; · first | rfl | assumption))
  refine TS_callE engWeightsNil ?_
  repeat (first | refine StepC.go ?_ | intro _)
  refine TS_callE engApplyNil ?_
  repeat (first | refine StepC.go ?_ | (refine TS_on rfl ?_ ?_; · first | rfl | assumption))
  refine TS_callE engProjectNil ?_
  repeat (first | refine StepC.go ?_ | (refine TS_on rfl ?_ ?_; · first | rfl | assumption))
  refine TS_callE engTableauNil ?_
  repeat (first | refine StepC.go ?_ | (refine TS_on rfl ?_ ?_; · first | rfl | assumption) | (refine TV_cond_f ?_ ?_; · first | rfl | assumption))
  refine TS_call zeroRT ?_
  rintro _ rfl
  repeat (first | refine StepC.go ?_ | intro _)
  refine TS_callO engNewO ?_
  rintro _ _ hN
  by_cases h0 : (zeroC n).2 = 0
  case neg =>
    rw [if_neg h0] at hN
    obtain ⟨rfl, rfl⟩ := hN
    simp only [List.nil_append]
    have d0 : (!decide ((zeroC n).2 = 0)) = true := by rw [decide_eq_false h0]; rfl
    have d2 : (!((none : Option Addr).isNone == !decide ((zeroC n).2 = 0))) = false := by rw [decide_eq_false h0]; rfl
    repeat (first | refine StepC.go ?_ | (refine TS_on rfl ?_ ?_; · first | rfl | assumption) | (refine TV_cond_t ?_ ?_; · first | rfl | assumption) | (refine TV_cond_f ?_ ?_; · first | rfl | assumption))
    exact retT_1 (.inr rfl) rfl
  rw [if_pos h0] at hN
  obtain ⟨px, rfl, rfl⟩ := hN
  simp only [List.singleton_append]
  have hr : 0 ≤ n ∧ n ≤ 64 := by
    by_cases h : 0 ≤ n ∧ n ≤ 64
    · exact h
    · unfold zeroC at h0; rw [if_neg h] at h0; cases h0
  obtain ⟨hw0, hck0, hz0⟩ := zero_ok hr.1 hr.2
  rw [h0]
  generalize (zeroC n).1 = Z at hw0 hck0
  repeat (first | refine StepC.go ?_ | (refine TS_on rfl ?_ ?_; · first | rfl | assumption) | (refine TV_cond_f ?_ ?_; · first | rfl | assumption))
  rename_i b1 b2 b3 pt
  refine TV_loop (fun d σ B => ∃ (i : Nat) (T : TabD), d = ss.length - i ∧ i ≤ ss.length ∧ TabW T ∧ checkTab T = 0 ∧ TGet σ 12 (intT (i : Int)) ∧ TGet σ 1 (.sl 5 (stpRows ss)) ∧ TGet σ 9 (ptrT pt) ∧ TGet σ 11 (ptrT px) ∧
      SubP B [(px, .cells (tabCs T) 130 true), (pt, .cells (tabCs T) 24 true)]) ss.length
    ⟨0, Z, by omega, Nat.zero_le _, hw0, hck0, tget_as rfl, inferInstance, inferInstance, inferInstance, inferInstance⟩ ?_
  rintro d σ B ⟨i, T, rfl, hi, hw, hck, g12, g1, g9, g11, hB⟩
  refine TV_keep _ (p := hB) ?_
  clear hB
  have g := TabG.of hw hck
  have n1 := g.n1
  have nl := g.nl
  have hTl : T.rows.length ≤ 2 ^ 30 := by omega
  have hTs : Sm63 T.rows.length := ⟨by omega⟩
  have hTL : (pauRows T.rows).length = T.rows.length := by simp [pauRows]
  by_cases hgo : i < ss.length ∧ i < 300
  case neg =>
    have hcd : (if decide ((i : Int) < ((stpRows ss).length : Int)) = true then decide ((i : Int) < 300) else false) = false := by
      by_cases h : i < ss.length
      · rw [decide_eq_true (by omega : (i : Int) < ((stpRows ss).length : Int)), if_pos rfl]; exact decide_eq_false (by omega)
      · rw [decide_eq_false (by omega : ¬ (i : Int) < ((stpRows ss).length : Int))]; rfl
    have hc12 : decide ((i : Int) < ((stpRows ss).length : Int)) = true ∨ decide ((i : Int) < ((stpRows ss).length : Int)) = false := by
      cases decide ((i : Int) < ((stpRows ss).length : Int)) <;> simp
    rcases hc12 with hc1 | hc1
    all_goals repeat (first | refine StepC.go ?_ | (refine TS_on rfl ?_ ?_; · first | rfl | assumption) | (refine TS_off rfl ?_ ?_; · first | rfl | assumption) | (refine TS_puw (Pu.pick_f ?_) ?_; · first | rfl | assumption) | refine TD_take rfl rfl ?_ | refine TD_load rfl rfl ?_ | refine TD_one rfl ?_ | refine FiltT_nil ?_ | refine FiltT_keep rfl ?_ | refine TV_draw (id := 43) (plan := [.take 0, .take 2, .one 1, .one 3, .take 4]) (by kernel_rfl) ?_ | (refine TV_cond_f ?_ ?_; · first | rfl | assumption))
    all_goals refine TS_callOE (Φ := EngTab T) (engTableauO hTl) engTab_flat ?_
    all_goals rintro _ _ (⟨rfl, hz, rfl⟩ | ⟨b, rfl, rfl⟩)
    all_goals simp only [List.nil_append, List.singleton_append]
    all_goals repeat (first | refine StepC.go ?_ | refine TD_one rfl ?_ | refine FiltT_nil ?_ | refine FiltT_drop rfl ?_)
    all_goals first
      | refine TS_callE (equalNil hz) ?_
      | refine TS_callE tabEqualT ?_
    all_goals repeat (first | refine StepC.go ?_ | refine TD_take rfl rfl ?_)
    all_goals exact retT_1 (.inr rfl) rfl
  obtain ⟨hil, hi3⟩ := hgo
  have hc1 : decide ((i : Int) < ((stpRows ss).length : Int)) = true := decide_eq_true (by omega)
  have hc2 : decide ((i : Int) < 300) = true := decide_eq_true (by omega)
  have hc3 : (if decide ((i : Int) < ((stpRows ss).length : Int)) = true then decide ((i : Int) < 300) else false) = true := by rw [hc1, hc2]; rfl
  obtain ⟨s, hs⟩ : ∃ s, ss[i]? = some s := ⟨_, List.getElem?_eq_getElem hil⟩
  have ngs : NthG (stpRows ss) i (stpCs s) := .map stpCs hs
  repeat (first | refine StepC.go ?_ | intro _ | (refine TS_on rfl ?_ ?_; · first | rfl | assumption) | (refine TV_cond_t ?_ ?_; · first | rfl | assumption))
  rename_i ps
  refine TV_cond ?_ ?_ <;> intro hk0
  · repeat (refine StepC.go ?_)
    refine TS_call (tabApplyRT hw) ?_
    rintro _ rfl
    repeat (first | refine StepC.go ?_ | intro _)
    refine TS_callM (engApplyB hw) ?_
    obtain ⟨hw', hck'⟩ := step_apply (nm := s.name) (qs := s.qs) hw hck
    generalize tapS T s.name s.qs = U at hw' hck'
    repeat (first | refine StepC.go ?_ | (refine TV_cond_f ?_ ?_; · first | rfl | assumption))
    refine TV_cond ?_ ?_ <;> intro hz
    · have e : stepT T U = U.1 := by unfold stepT; rw [if_pos (of_decide_eq_true hz)]
      rw [e] at hw' hck' ⊢
      repeat (first | refine StepC.go ?_ | (refine TS_puw (Pu.addi ?_) ?_; · omega))
      refine ⟨_, ?_, i + 1, U.1, rfl, by omega, hw', hck', tget_as rfl, inferInstance, inferInstance, inferInstance, inferInstance⟩
      omega
    · have e : stepT T U = T := by unfold stepT; rw [if_neg (of_decide_eq_false hz)]
      rw [e]
      repeat (first | refine StepC.go ?_ | (refine TS_puw (Pu.addi ?_) ?_; · omega))
      refine ⟨_, ?_, i + 1, T, rfl, by omega, hw, hck, tget_as rfl, inferInstance, inferInstance, inferInstance, inferInstance⟩
      omega
  repeat (refine StepC.go ?_)
  refine TV_cond ?_ ?_ <;> intro hk1
  · repeat (refine StepC.go ?_)
    refine TS_call (projectRT hw) ?_
    rintro _ rfl
    repeat (first | refine StepC.go ?_ | intro _)
    refine TS_callM (engProjectB hw) ?_
    obtain ⟨hw', hck'⟩ := step_proj (q := s.q) (b := s.b) hw hck
    generalize projC T s.q s.b = U at hw' hck'
    repeat (first | refine StepC.go ?_ | (refine TV_cond_f ?_ ?_; · first | rfl | assumption))
    refine TV_cond ?_ ?_ <;> intro hz
    · have e : stepT T U = U.1 := by unfold stepT; rw [if_pos (of_decide_eq_true hz)]
      rw [e] at hw' hck' ⊢
      repeat (first | refine StepC.go ?_ | (refine TS_puw (Pu.addi ?_) ?_; · omega))
      refine ⟨_, ?_, i + 1, U.1, rfl, by omega, hw', hck', tget_as rfl, inferInstance, inferInstance, inferInstance, inferInstance⟩
      omega
    · have e : stepT T U = T := by unfold stepT; rw [if_neg (of_decide_eq_false hz)]
      rw [e]
      repeat (first | refine StepC.go ?_ | (refine TS_puw (Pu.addi ?_) ?_; · omega))
      refine ⟨_, ?_, i + 1, T, rfl, by omega, hw, hck, tget_as rfl, inferInstance, inferInstance, inferInstance, inferInstance⟩
      omega
  repeat (refine StepC.go ?_)
  refine TV_cond ?_ ?_ <;> intro hk2
  · repeat (refine StepC.go ?_)
    refine TS_call (refWeightsT hw hck) ?_
    rintro _ rfl
    repeat (first | refine StepC.go ?_ | intro _)
    refine TS_callE (engWeightsT hw hck) ?_
    generalize weiC T s.q = W
    repeat (first | refine StepC.go ?_ | intro _ | (refine TS_on rfl ?_ ?_; · first | rfl | assumption) | (refine TS_puw (Pu.addi ?_) ?_; · omega) | (refine TV_cond_f ?_ ?_; · first | rfl | assumption))
    refine ⟨_, ?_, i + 1, T, rfl, by omega, hw, hck, tget_as rfl, inferInstance, inferInstance, inferInstance, inferInstance⟩
    omega
  repeat (refine StepC.go ?_)
  refine TV_cond ?_ ?_ <;> intro hk3
  · repeat (refine StepC.go ?_)
    refine TS_callOE (Φ := EngTab T) (engTableauO hTl) engTab_flat ?_
    rintro _ _ (⟨rfl, hz, rfl⟩ | ⟨b, rfl, rfl⟩)
    · simp only [List.nil_append]
      repeat (first | refine StepC.go ?_ | intro _)
      rename_i pu
      refine TS_callE (equalNil hz) ?_
      repeat (first | refine StepC.go ?_ | (refine TV_cond_f ?_ ?_; · first | rfl | assumption))
      refine TV_loop (fun d σ B => d = 0 ∧ TGet σ 25 (intT 0) ∧ TGet σ 24 (ptrT pu) ∧ TGet σ 12 (intT (i : Int)) ∧ TGet σ 1 (.sl 5 (stpRows ss)) ∧ TGet σ 9 (ptrT pt) ∧ TGet σ 11 (ptrT px) ∧
        SubP B [(pu, .cells [intT T.n, .v (.slice none 0 0)] 24 true), (px, .cells (tabCs T) 130 true), (pt, .cells (tabCs T) 24 true)]) 0
        ⟨rfl, tget_as rfl, inferInstance, inferInstance, inferInstance, inferInstance, inferInstance, inferInstance⟩ ?_
      clear g12 g1 g9 g11
      rintro d σ B ⟨rfl, g25, g24, g12, g1, g9, g11, hB⟩
      refine TV_keep _ (p := hB) ?_
      clear hB
      repeat (first | refine StepC.go ?_ | (refine TS_puw (Pu.addi ?_) ?_; · omega) | (refine TV_cond_f ?_ ?_; · first | rfl | assumption))
      refine ⟨_, ?_, i + 1, T, rfl, by omega, hw, hck, tget_as rfl, inferInstance, inferInstance, inferInstance, inferInstance⟩
      omega
    · simp only [List.singleton_append]
      repeat (first | refine StepC.go ?_ | intro _)
      rename_i pu
      refine TS_callE tabEqualT ?_
      repeat (first | refine StepC.go ?_ | (refine TV_cond_f ?_ ?_; · first | rfl | assumption))
      refine TV_loop (fun d σ B => ∃ (j : Nat) (rs : List PauD), d = T.rows.length - j ∧ j ≤ T.rows.length ∧ rs.length = T.rows.length ∧ TGet σ 25 (intT (j : Int)) ∧ TGet σ 24 (ptrT pu) ∧ TGet σ 12 (intT (i : Int)) ∧ TGet σ 1 (.sl 5 (stpRows ss)) ∧ TGet σ 9 (ptrT pt) ∧ TGet σ 11 (ptrT px) ∧
        SubP B [(b, .arr 4 (pauRows rs) 27 T.rows.isEmpty), (pu, .cells [intT T.n, .v (.slice (some (ad b 0)) T.rows.length T.rows.length)] 24 true), (px, .cells (tabCs T) 130 true), (pt, .cells (tabCs T) 24 true)]) T.rows.length
        ⟨0, T.rows, by omega, Nat.zero_le _, rfl, tget_as rfl, inferInstance, inferInstance, inferInstance, inferInstance, inferInstance, inferInstance⟩ ?_
      clear g12 g1 g9 g11
      rintro d σ B ⟨j, rs, rfl, hj, hrs, g25, g24, g12, g1, g9, g11, hB⟩
      refine TV_keep _ (p := hB) ?_
      clear hB
      have hlp : LenT (pauRows rs) T.rows.length := ⟨by simp [pauRows, hrs]⟩
      repeat (refine StepC.go ?_)
      refine TV_cond ?_ ?_ <;> intro hcj
      · have hjl : j < T.rows.length := by have := of_decide_eq_true hcj; omega
        have ngp : NthG (pauRows rs) j (pauCs (rs.getD j noPau)) := .map pauCs (pgetD_at (by omega))
        have s9 : SetR (pauRows rs) j [Tr.v (.int .i64 9), Tr.v (.int .u64 0), Tr.v (.int .u64 0), Tr.v (.int .i64 0)] (pauRows (rs.set j ⟨9, 0, 0, 0⟩)) := ⟨by rw [pauRows, pauRows, List.map_set]; rfl⟩
        repeat (first | refine StepC.go ?_ | (refine TS_puw (Pu.addi ?_) ?_; · omega))
        refine ⟨_, ?_, j + 1, rs.set j ⟨9, 0, 0, 0⟩, rfl, by omega, by simp [hrs], tget_as rfl, inferInstance, inferInstance, inferInstance, inferInstance, inferInstance, inferInstance⟩
        omega
      repeat (first | refine StepC.go ?_ | (refine TS_puw (Pu.addi ?_) ?_; · omega))
      refine ⟨_, ?_, i + 1, T, rfl, by omega, hw, hck, tget_as rfl, inferInstance, inferInstance, inferInstance, inferInstance⟩
      omega
  · repeat (first | refine StepC.go ?_ | (refine TS_puw (Pu.addi ?_) ?_; · omega))
    refine ⟨_, ?_, i + 1, T, rfl, by omega, hw, hck, tget_as rfl, inferInstance, inferInstance, inferInstance, inferInstance⟩
    omega
end Go.Ideal

-- Zl
set_option linter.unusedSimpArgs false
set_option linter.unusedVariables false
namespace Go.Ideal
open Go Go.Proofs Go.RowKit
/-! ### Steps among the arguments -/
/-- a slice of structs, read -/
theorem rows_tree {α : Type} {P : Program} {h : IHp} {n m : Nat} {t e : TypeId} {v : Value} (D : α → List Tr) (W : α → Prop) (hu : P.underlying t = some (.slice e)) (cc : P.cellsOf e = m) (hD : ∀ a, (D a).length = m) (key : ∀ row, IRd P h n e row → ∃ a, RepL h.cell? (D a) row ∧ W a) (hd : IRd P h (n + 1) t [v]) : ∃ xs : List α, Rep h.cell? (.sl m (xs.map D)) v ∧ ∀ a ∈ xs, W a := by
  rw [IRd, hu] at hd
  rcases hd with h1 | ⟨a, l, c, h1, h2, h3, h5, h4⟩
  · cases h1
    refine ⟨[], ?_, fun p hp => by cases hp⟩
    rw [Rep]
    exact ⟨none, 0, 0, rfl, rfl, Nat.le_refl _, by decide, (fun d hd => by cases hd), rfl⟩
  · cases h1
    have key2 : ∀ i, i < c → ∃ x row, h.row a.block (a.off + i * m) m = some row ∧ RepL h.cell? (D x) row ∧ W x := by
      intro i hi
      obtain ⟨row, g1, g2⟩ := h4 i hi
      rw [cc] at g1
      obtain ⟨x, r, w⟩ := key row g2
      exact ⟨x, row, g1, r, w⟩
    by_cases hl : l = 0
    · subst hl
      refine ⟨[], ?_, fun p hp => by cases hp⟩
      rw [Rep]
      exact ⟨some a, 0, c, rfl, rfl, Nat.zero_le _, by unfold maxLen at h3; omega, (fun d hd => by cases hd; exact h5), by simp only [List.map_nil, RepR]⟩
    obtain ⟨x0, _⟩ := key2 0 (by omega)
    have hex : ∃ f : Nat → α, ∀ i, i < l → ∃ row, h.row a.block (a.off + i * m) m = some row ∧ RepL h.cell? (D (f i)) row ∧ W (f i) :=
      ⟨fun i => if hi : i < c then Classical.choose (key2 i hi) else x0, fun i hi => by
        have hic : i < c := by omega
        simp only [hic, dif_pos]
        exact Classical.choose_spec (key2 i hic)⟩
    obtain ⟨f, hf⟩ := hex
    refine ⟨(List.range l).map f, ?_, fun p hp => ?_⟩
    · rw [Rep]
      refine ⟨some a, l, c, rfl, by simp, h2, by unfold maxLen at h3; omega, fun d hd => by cases hd; exact h5, ?_⟩
      simp only
      refine repR_of fun i row hr => ?_
      simp only [List.getElem?_map, Option.map_eq_some_iff] at hr
      obtain ⟨o, ⟨k, hk, rfl⟩, rfl⟩ := hr
      obtain ⟨hk1, rfl⟩ := List.getElem?_eq_some_iff.1 hk
      simp only [List.length_range] at hk1
      simp only [List.getElem_range]
      obtain ⟨row, r1, r2, _⟩ := hf i hk1
      exact ⟨row, by rw [← row_rowM]; exact r1, r2⟩
    · obtain ⟨i, hi, rfl⟩ := List.mem_map.1 hp
      obtain ⟨_, _, _, w⟩ := hf i (List.mem_range.1 hi)
      exact w
set_option maxRecDepth 100000 in
theorem stp_of {h : IHp} {n : Nat} {cs : List Value} (hd : IRd Try.prog h (n + 3) 77 cs) : ∃ s, RepL h.cell? (stpCs s) cs := by
  have hu : ∃ f0 f1 f2 f3 f4, Try.prog.underlying 77 = some (.struct #[f0, f1, f2, f3, f4]) ∧ (f0.type = 3 ∧ f0.offset = 0) ∧ (f1.type = 9 ∧ f1.offset = 1) ∧ (f2.type = 59 ∧ f2.offset = 2) ∧ (f3.type = 3 ∧ f3.offset = 3) ∧ (f4.type = 3 ∧ f4.offset = 4) :=
    ⟨_, _, _, _, _, Try.underlying77, ⟨rfl, rfl⟩, ⟨rfl, rfl⟩, ⟨rfl, rfl⟩, ⟨rfl, rfl⟩, ⟨rfl, rfl⟩⟩
  obtain ⟨f0, f1, f2, f3, f4, hu, ⟨t0, o0⟩, ⟨t1, o1⟩, ⟨t2, o2⟩, ⟨t3, o3⟩, ⟨t4, o4⟩⟩ := hu
  have ci : Try.prog.cellsOf 3 = 1 := by kernel_rfl
  have cst : Try.prog.cellsOf 9 = 1 := by kernel_rfl
  have csl : Try.prog.cellsOf 59 = 1 := by kernel_rfl
  have co : Try.prog.cellsOf 77 = 5 := by kernel_rfl
  rw [IRd, hu] at hd
  obtain ⟨hl, hf⟩ := hd
  rw [co] at hl
  match cs, hl with
  | [v0, v1, v2, v3, v4], _ =>
    have h0 := hf 0 f0 rfl
    have h1 := hf 1 f1 rfl
    have h2 := hf 2 f2 rfl
    have h3 := hf 3 f3 rfl
    have h4 := hf 4 f4 rfl
    clear hf
    rw [t0, o0, ci] at h0
    rw [t1, o1, cst] at h1
    rw [t2, o2, csl] at h2
    rw [t3, o3, ci] at h3
    rw [t4, o4, ci] at h4
    simp only [List.drop_zero, List.take_succ_cons, List.take_zero, List.drop_succ_cons] at h0 h1 h2 h3 h4
    rw [IRd, (UnderIs.eq : Try.prog.underlying 3 = _)] at h0 h3 h4
    rw [IRd, (UnderIs.eq : Try.prog.underlying 9 = _)] at h1
    obtain ⟨kd, e0, _⟩ := h0
    obtain ⟨nm, e1, _⟩ := h1
    obtain ⟨q, e3, _⟩ := h3
    obtain ⟨b, e4, _⟩ := h4
    cases e0; cases e1; cases e3; cases e4
    obtain ⟨xs, r⟩ := ints_tree h2
    exact ⟨⟨kd, nm, xs, q, b⟩, RepL.cons (rep_v _) (RepL.cons (rep_v _) (RepL.cons r (RepL.cons (rep_v _) (RepL.cons (rep_v _) RepL.nil))))⟩
set_option maxRecDepth 100000 in
theorem steps_tree {h : IHp} {n : Nat} {v : Value} (hd : IRd Try.prog h (n + 4) 65 [v]) : ∃ ss : List StpD, Rep h.cell? (.sl 5 (stpRows ss)) v := by
  obtain ⟨xs, r, _⟩ := rows_tree (α := StpD) (n := n + 3) (m := 5) stpCs (fun _ => True) (UnderIs.eq : Try.prog.underlying 65 = _) (by kernel_rfl) (fun _ => rfl) (fun row hr => by
    obtain ⟨s, r⟩ := stp_of hr
    exact ⟨s, r, trivial⟩) hd
  exact ⟨xs, r⟩
theorem tableauEngineW {h : IHp} {v2 : Value} {n : Int} {ss : List StpD} (m2 : Rep h.cell? (.sl 5 (stpRows ss)) v2) : EvX Try.prog 8 #[.int .i64 n, v2] h (fun v _ => v = .bool true) :=
  EvX_of_Fn (tableauEngineT) (RepL.cons (rep_v _) (RepL.cons m2 RepL.nil))
end Go.Ideal
