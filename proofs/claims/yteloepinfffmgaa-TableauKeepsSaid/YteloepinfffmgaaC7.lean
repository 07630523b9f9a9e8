/- Part 7 of what the proof stands on: an interpreter over an ideal memory that is proved sound, steps over it, and contracts of the functions that are called. No condition: no law is claimed here. -/
import Derived.Test.YteloepinfffmgaaC6
-- Ya
set_option linter.unusedSimpArgs false
set_option linter.unusedVariables false
namespace Go.Ideal
open Go Go.Proofs Go.RowKit
/-! ### The rows of a tableau span all strings: the plain law -/
theorem cover_len : ∀ (M : Nat) (l : List Nat), (∀ b, b < M → b ∈ l) → M ≤ l.length := by
  intro M
  induction M with
  | zero => intro l _; exact Nat.zero_le _
  | succ M ih =>
    intro l h
    have hm := h M (by omega)
    have h1 := ih (l.erase M) (fun b hb => (List.mem_erase_of_ne (by omega)).2 (h b (by omega)))
    rw [List.length_erase_of_mem hm] at h1
    have := List.length_pos_of_mem hm
    omega
theorem surj_inj {M : Nat} {f : Nat → Nat} (hs : ∀ b, b < M → ∃ a, a < M ∧ f a = b) {a a' : Nat} (ha : a < M) (ha' : a' < M) (h : f a = f a') : a = a' := by
  apply Decidable.byContradiction
  intro hne
  have h1 := cover_len M (((List.range M).erase a).map f) (fun b hb => by
    obtain ⟨c, hc, hb⟩ := hs b hb
    by_cases h2 : c = a
    · exact List.mem_map.2 ⟨a', (List.mem_erase_of_ne (Ne.symm hne)).2 (List.mem_range.2 ha'), by rw [← h, ← h2, hb]⟩
    · exact List.mem_map.2 ⟨c, (List.mem_erase_of_ne h2).2 (List.mem_range.2 hc), hb⟩)
  rw [List.length_map, List.length_erase_of_mem (List.mem_range.2 ha), List.length_range] at h1
  omega
theorem pcK_xor (f g : Nat → Bool) : ∀ k, pcK (fun i => f i ^^ g i) k % 2 = (pcK f k + pcK g k) % 2 := by
  intro k
  induction k with
  | zero => rfl
  | succ k ih =>
    simp only [pcK]
    cases f k <;> cases g k <;> simp <;> omega
theorem pcS_xor (a b c : Nat) : pcS ((a ^^^ b) &&& c) % 2 = (pcS (a &&& c) + pcS (b &&& c)) % 2 := by
  unfold pcS
  rw [← pcK_xor]
  congr 1
  refine pcK_congr 64 fun j _ => ?_
  rw [Nat.testBit_and, Nat.testBit_xor, Nat.testBit_and, Nat.testBit_and]
  cases a.testBit j <;> cases b.testBit j <;> cases c.testBit j <;> rfl
def acP (p q : PauD) : Bool := !commP p q
theorem acP_eq (p q : PauD) : acP p q = decide ((pcS (p.x &&& q.z) + pcS (p.z &&& q.x)) % 2 = 1) := by
  unfold acP commP
  rw [Bool.eq_iff_iff]
  simp only [Bool.not_eq_true', decide_eq_false_iff_not, decide_eq_true_eq]
  omega
theorem acP_xor {p p' q r : PauD} (hx : r.x = p.x ^^^ p'.x) (hz : r.z = p.z ^^^ p'.z) : acP r q = (acP p q ^^ acP p' q) := by
  rw [acP_eq, acP_eq, acP_eq, hx, hz]
  have h1 := pcS_xor p.x p'.x q.z
  have h2 := pcS_xor p.z p'.z q.x
  by_cases hA : (pcS (p.x &&& q.z) + pcS (p.z &&& q.x)) % 2 = 1
  · by_cases hB : (pcS (p'.x &&& q.z) + pcS (p'.z &&& q.x)) % 2 = 1
    · rw [decide_eq_true hA, decide_eq_true hB]; exact decide_eq_false (by omega)
    · rw [decide_eq_true hA, decide_eq_false hB]; exact decide_eq_true (by omega)
  · by_cases hB : (pcS (p'.x &&& q.z) + pcS (p'.z &&& q.x)) % 2 = 1
    · rw [decide_eq_false hA, decide_eq_true hB]; exact decide_eq_true (by omega)
    · rw [decide_eq_false hA, decide_eq_false hB]; exact decide_eq_false (by omega)
theorem acP_symm (p q : PauD) : acP p q = acP q p := by unfold acP; rw [commP_symm]
theorem acP_self (p : PauD) : acP p p = false := by
  unfold acP commP
  rw [Nat.and_comm p.z p.x]; simp
theorem acP_eye {p q : PauD} (hx : p.x = 0) (hz : p.z = 0) : acP p q = false := by
  rw [acP_eq, hx, hz, Nat.zero_and, Nat.zero_and]; rfl
/-- how the rows of a tableau stand to each other -/
theorem rows_ac {t : TabD} (hw : TabW t) (h : checkTab t = 0) {i j : Nat} (hi : i < t.rows.length) (hj : j < t.rows.length) : acP (rowAt t i) (rowAt t j) = decide (i = j + t.n.toNat ∨ j = i + t.n.toNat) := by
  have g := TabG.of hw h
  have n0 := g.n0
  have nl := g.nl
  have hrb : rowsB t t.rows.length = true := by
    unfold checkTab at h
    split at h
    · rename_i h1; exact h1.2
    · cases h
  have key : ∀ i, i < t.rows.length → ∀ k, pairsB t i k = true → ∀ j, j < k → acP (rowAt t i) (rowAt t j) = decide ((i : Int) = (j : Int) + t.n) := by
    intro i hi k
    induction k with
    | zero => intro _ j hj; omega
    | succ k ih =>
      intro hp j hj
      simp only [pairsB, Bool.and_eq_true, beq_iff_eq] at hp
      by_cases h1 : j = k
      · subst h1; unfold acP; rw [hp.2, Bool.not_not]
      · exact ih hp.1 j (by omega)
  rcases Nat.lt_trichotomy i j with h1 | h1 | h1
  · rw [acP_symm, key j hj j (rowsB_ok hrb j hj).2 i h1]
    exact decide_eq_decide.2 (by omega)
  · subst h1
    rw [acP_self]
    symm
    refine decide_eq_false fun h2 => ?_
    omega
  · rw [key i hi i (rowsB_ok hrb i hi).2 j h1]
    exact decide_eq_decide.2 (by omega)
/-- the letters of the rows whose bit stands in s, added up (each row's partner) -/
def cmb (t : TabD) (N s : Nat) : Nat → PauD
  | 0 => ⟨t.n, 0, 0, 0⟩
  | i + 1 => if s.testBit i then ⟨t.n, (cmb t N s i).x ^^^ (rowAt t (if i < N then i + N else i - N)).x, (cmb t N s i).z ^^^ (rowAt t (if i < N then i + N else i - N)).z, 0⟩ else cmb t N s i
theorem cmb_ac {t : TabD} (hw : TabW t) (h : checkTab t = 0) {N : Nat} (hN : t.n.toNat = N) (s : Nat) {j : Nat} (hj : j < 2 * N) : ∀ k, k ≤ 2 * N → acP (cmb t N s k) (rowAt t j) = (decide (j < k) && s.testBit j) := by
  have g := TabG.of hw h
  have n0 := g.n0
  have nl := g.nl
  intro k
  induction k with
  | zero => intro _; rw [cmb, acP_eye rfl rfl]; simp
  | succ k ih =>
    intro hk
    have ih := ih (by omega)
    rw [cmb]
    have hp : acP (rowAt t (if k < N then k + N else k - N)) (rowAt t j) = decide (j = k) := by
      rw [rows_ac hw h (by split <;> omega) (by omega), hN]
      refine decide_eq_decide.2 ?_
      split <;> omega
    cases hb : s.testBit k with
    | false =>
      rw [if_neg (by decide), ih]
      by_cases h1 : j = k
      · subst h1; rw [hb]; simp
      · have : decide (j < k) = decide (j < k + 1) := decide_eq_decide.2 (by omega)
        rw [this]
    | true =>
      rw [if_pos rfl, acP_xor (p := cmb t N s k) (p' := rowAt t (if k < N then k + N else k - N)) rfl rfl, ih, hp]
      by_cases h1 : j = k
      · subst h1; rw [hb]; simp
      · have : decide (j < k) = decide (j < k + 1) := decide_eq_decide.2 (by omega)
        rw [this, decide_eq_false h1, Bool.xor_false]
theorem row_lt {t : TabD} (g : TabG t) {i : Nat} (hi : i < t.rows.length) : (rowAt t i).x < 2 ^ t.n.toNat ∧ (rowAt t i).z < 2 ^ t.n.toNat := by
  obtain ⟨_, v, n⟩ := g.at_ hi
  obtain ⟨_, _, _, _, e⟩ := pauV_iff.1 v
  rw [n] at e
  exact ⟨Nat.lt_pow_two_of_testBit _ (fun j hj => (e j hj).1), Nat.lt_pow_two_of_testBit _ (fun j hj => (e j hj).2)⟩
theorem cmb_lt {t : TabD} (g : TabG t) {N : Nat} (hN : t.n.toNat = N) (s : Nat) : ∀ k, k ≤ 2 * N → (cmb t N s k).x < 2 ^ N ∧ (cmb t N s k).z < 2 ^ N := by
  have n0 := g.n0
  have nl := g.nl
  intro k
  induction k with
  | zero => intro _; exact ⟨Nat.two_pow_pos N, Nat.two_pow_pos N⟩
  | succ k ih =>
    intro hk
    have ih := ih (by omega)
    rw [cmb]
    split
    · have := row_lt g (i := if k < N then k + N else k - N) (by split <;> omega)
      rw [hN] at this
      exact ⟨Nat.xor_lt_two_pow ih.1 this.1, Nat.xor_lt_two_pow ih.2 this.2⟩
    · exact ih
/-- with which rows a string does not commute, as a number -/
def synd (t : TabD) (p : PauD) : Nat → Nat
  | 0 => 0
  | i + 1 => synd t p i ||| (if acP p (rowAt t i) then 2 ^ i else 0)
theorem synd_bit (t : TabD) (p : PauD) : ∀ k j, (synd t p k).testBit j = (decide (j < k) && acP p (rowAt t j)) := by
  intro k
  induction k with
  | zero => intro j; simp [synd]
  | succ k ih =>
    intro j
    rw [synd, Nat.testBit_or, ih]
    by_cases h1 : j = k
    · subst h1
      cases hb : acP p (rowAt t j) <;> simp
    · have e : decide (j < k) = decide (j < k + 1) := decide_eq_decide.2 (by omega)
      rw [e]
      have e2 : (if acP p (rowAt t k) = true then 2 ^ k else 0).testBit j = false := by
        split
        · rw [Nat.testBit_two_pow]; exact decide_eq_false (by omega)
        · exact Nat.zero_testBit j
      rw [e2, Bool.or_false]
theorem nondeg {t : TabD} (hw : TabW t) (h : checkTab t = 0) {p : PauD} (hx : p.x < 2 ^ t.n.toNat) (hz : p.z < 2 ^ t.n.toNat) (hc : ∀ i, i < t.rows.length → acP p (rowAt t i) = false) : p.x = 0 ∧ p.z = 0 := by
  have g := TabG.of hw h
  have n0 := g.n0
  have nl := g.nl
  obtain ⟨N, hN⟩ : ∃ N : Nat, t.n.toNat = N := ⟨_, rfl⟩
  rw [hN] at hx hz
  let D : Nat → PauD := fun v => ⟨t.n, v % 2 ^ N, v / 2 ^ N, 0⟩
  have hpw : 2 ^ (2 * N) = 2 ^ N * 2 ^ N := by rw [Nat.two_mul, Nat.pow_add]
  have hpos : 0 < 2 ^ N := Nat.two_pow_pos N
  have enc : ∀ x z, x < 2 ^ N → z < 2 ^ N → x + 2 ^ N * z < 2 ^ (2 * N) ∧ (x + 2 ^ N * z) % 2 ^ N = x ∧ (x + 2 ^ N * z) / 2 ^ N = z := by
    intro x z h1 h2
    refine ⟨?_, ?_, ?_⟩
    · rw [hpw]
      have h3 : 2 ^ N * z + 2 ^ N ≤ 2 ^ N * 2 ^ N := by rw [← Nat.mul_succ]; exact Nat.mul_le_mul_left _ h2
      omega
    · rw [Nat.add_mul_mod_self_left, Nat.mod_eq_of_lt h1]
    · rw [Nat.add_mul_div_left _ _ hpos, Nat.div_eq_of_lt h1, Nat.zero_add]
  have acD : ∀ (q : PauD) (v i : Nat), v % 2 ^ N = q.x → v / 2 ^ N = q.z → acP (D v) (rowAt t i) = acP q (rowAt t i) := by
    intro q v i h1 h2
    rw [acP_eq, acP_eq]
    show decide ((pcS (v % 2 ^ N &&& _) + pcS (v / 2 ^ N &&& _)) % 2 = 1) = _
    rw [h1, h2]
  have hs : ∀ b, b < 2 ^ (2 * N) → ∃ a, a < 2 ^ (2 * N) ∧ synd t (D a) (2 * N) = b := by
    intro b hb
    obtain ⟨l1, l2⟩ := cmb_lt g hN b (2 * N) (Nat.le_refl _)
    obtain ⟨e1, e2, e3⟩ := enc _ _ l1 l2
    refine ⟨_, e1, Nat.eq_of_testBit_eq fun j => ?_⟩
    rw [synd_bit, acD (cmb t N b (2 * N)) _ j e2 e3]
    by_cases hj : j < 2 * N
    · rw [cmb_ac hw h hN b hj (2 * N) (Nat.le_refl _), decide_eq_true hj]; simp
    · rw [decide_eq_false hj, Bool.false_and]
      exact (Nat.testBit_lt_two_pow (Nat.lt_of_lt_of_le hb (Nat.pow_le_pow_right (by decide) (by omega)))).symm
  obtain ⟨e1, e2, e3⟩ := enc _ _ hx hz
  have h0 : (0 : Nat) < 2 ^ (2 * N) := Nat.two_pow_pos _
  have key := surj_inj hs e1 h0 (by
    refine Nat.eq_of_testBit_eq fun j => ?_
    rw [synd_bit, synd_bit, acD p _ j e2 e3, acP_eye (p := D 0) (Nat.zero_mod _) (Nat.zero_div _)]
    by_cases hj : j < 2 * N
    · rw [hc j (by omega)]
    · rw [decide_eq_false hj, Bool.false_and, Bool.false_and])
  have hx0 : p.x = 0 := by omega
  have hz0 : p.z = 0 := by
    rw [hx0, Nat.zero_add] at key
    rcases Nat.mul_eq_zero.1 key with h1 | h1
    · omega
    · exact h1
  exact ⟨hx0, hz0⟩
end Go.Ideal

-- Yb
set_option linter.unusedSimpArgs false
set_option linter.unusedVariables false
namespace Go.Ideal
open Go Go.Proofs Go.RowKit
/-! ### The product of stabilizers that a string is: the plain law -/
theorem groupK_ac {t : TabD} (hw : TabW t) (h : checkTab t = 0) (p : PauD) {j : Nat} (hj : j < t.rows.length) : ∀ k, k ≤ t.n.toNat → acP (groupK t p k) (rowAt t j) = (decide (j < k) && acP p (rowAt t j)) := by
  have g := TabG.of hw h
  have n0 := g.n0
  have nl := g.nl
  intro k
  induction k with
  | zero => intro _; rw [groupK, acP_eye rfl rfl]; simp
  | succ k ih =>
    intro hk
    have ih := ih (by omega)
    rw [groupK]
    by_cases hc : commP p (rowAt t k) = true
    · rw [if_pos hc, ih]
      by_cases h1 : j = k
      · subst h1
        have : acP p (rowAt t j) = false := by unfold acP; rw [hc]; rfl
        rw [this, Bool.and_false, Bool.and_false]
      · have : decide (j < k) = decide (j < k + 1) := decide_eq_decide.2 (by omega)
        rw [this]
    · rw [if_neg hc, acP_xor (p := groupK t p k) (p' := rowAt t (t.n.toNat + k)) rfl rfl, ih, rows_ac hw h (by omega) hj]
      have hc2 : acP p (rowAt t k) = true := by unfold acP; simpa using hc
      by_cases h1 : j = k
      · subst h1
        rw [hc2, decide_eq_false (Nat.lt_irrefl j), decide_eq_true (Nat.lt_succ_self j), decide_eq_true (Or.inl (Nat.add_comm _ _))]; rfl
      · have e : decide (j < k) = decide (j < k + 1) := decide_eq_decide.2 (by omega)
        have e2 : decide (t.n.toNat + k = j + t.n.toNat ∨ j = t.n.toNat + k + t.n.toNat) = false := decide_eq_false (by omega)
        rw [e, e2, Bool.xor_false]
theorem allComm_iff {t : TabD} {p : PauD} : ∀ {k : Nat}, allComm t p k = true ↔ ∀ i, i < k → commP p (rowAt t (t.n.toNat + i)) = true := by
  intro k
  induction k with
  | zero => exact ⟨fun _ i hi => by omega, fun _ => rfl⟩
  | succ k ih =>
    rw [allComm, Bool.and_eq_true, ih]
    constructor
    · rintro ⟨h1, h2⟩ i hi
      by_cases h3 : i = k
      · rw [h3]; exact h2
      · exact h1 i (by omega)
    · exact fun h => ⟨fun i hi => h i (by omega), h k (by omega)⟩
theorem xor_zero_eq {a b : Nat} (h : a ^^^ b = 0) : a = b := Nat.eq_of_testBit_eq fun i => by
  have : (a ^^^ b).testBit i = false := by rw [h]; exact Nat.zero_testBit i
  rw [Nat.testBit_xor] at this
  cases h1 : a.testBit i <;> cases h2 : b.testBit i <;> rw [h1, h2] at this <;> simp_all
/-- a string that commutes with all stabilizers is, up to its phase, the product of those that the group tells -/
theorem group_xz {t : TabD} (hw : TabW t) (h : checkTab t = 0) {p : PauD} (hp : PauV p) (hpn : p.n = t.n) (hc : allComm t p t.n.toNat = true) : (groupK t p t.n.toNat).x = p.x ∧ (groupK t p t.n.toNat).z = p.z := by
  have g := TabG.of hw h
  have n0 := g.n0
  have nl := g.nl
  obtain ⟨vg, ng⟩ := groupK_v g p t.n.toNat (Nat.le_refl _)
  obtain ⟨_, _, _, _, e1⟩ := pauV_iff.1 vg
  obtain ⟨_, _, _, _, e2⟩ := pauV_iff.1 hp
  rw [ng] at e1
  rw [hpn] at e2
  have lx : ∀ {q : PauD}, (∀ i, t.n.toNat ≤ i → q.x.testBit i = false ∧ q.z.testBit i = false) → q.x < 2 ^ t.n.toNat ∧ q.z < 2 ^ t.n.toNat := fun e => ⟨Nat.lt_pow_two_of_testBit _ (fun j hj => (e j hj).1), Nat.lt_pow_two_of_testBit _ (fun j hj => (e j hj).2)⟩
  obtain ⟨a1, a2⟩ := lx e1
  obtain ⟨b1, b2⟩ := lx e2
  obtain ⟨r1, r2⟩ := nondeg hw h (p := ⟨t.n, (groupK t p t.n.toNat).x ^^^ p.x, (groupK t p t.n.toNat).z ^^^ p.z, 0⟩) (Nat.xor_lt_two_pow a1 b1) (Nat.xor_lt_two_pow a2 b2) (fun i hi => by
    rw [acP_xor (p := groupK t p t.n.toNat) (p' := p) rfl rfl, groupK_ac hw h p hi _ (Nat.le_refl _)]
    by_cases h1 : i < t.n.toNat
    · rw [decide_eq_true h1, Bool.true_and, Bool.xor_self]
    · have := allComm_iff.1 hc (i - t.n.toNat) (by omega)
      rw [show t.n.toNat + (i - t.n.toNat) = i by omega] at this
      have e : acP p (rowAt t i) = false := by unfold acP; rw [this]; rfl
      rw [e, Bool.and_false]; rfl)
  exact ⟨xor_zero_eq r1, xor_zero_eq r2⟩
theorem mul_even {p q : PauD} (hp : p.ph % 2 = 0) (hq : q.ph % 2 = 0) (hc : commP p q = true) : (mulP p q).ph % 2 = 0 := by
  show mphS p q % 2 = 0
  unfold mphS
  have h1 := pcS_xor p.x q.x (p.z ^^^ q.z)
  have h2 := pcS_xor p.z q.z p.x
  have h3 := pcS_xor p.z q.z q.x
  rw [Nat.and_comm _ p.x, Nat.and_comm p.z p.x, Nat.and_comm q.z p.x] at h2
  rw [Nat.and_comm _ q.x, Nat.and_comm p.z q.x, Nat.and_comm q.z q.x] at h3
  unfold commP at hc
  have h4 := of_decide_eq_true hc
  rw [Nat.and_comm p.z q.x] at h4 ⊢
  omega
theorem groupK_even {t : TabD} (hw : TabW t) (h : checkTab t = 0) (p : PauD) : ∀ k, k ≤ t.n.toNat → (groupK t p k).ph % 2 = 0 := by
  have g := TabG.of hw h
  have n0 := g.n0
  have nl := g.nl
  have hrb : rowsB t t.rows.length = true := by
    unfold checkTab at h
    split at h
    · rename_i h1; exact h1.2
    · cases h
  intro k
  induction k with
  | zero => intro _; rfl
  | succ k ih =>
    intro hk
    have ih := ih (by omega)
    rw [groupK]
    split
    · exact ih
    · have hi : t.n.toNat + k < t.rows.length := by omega
      refine mul_even ih ?_ ?_
      · have h1 := (rowsB_ok hrb _ hi).1
        simp only [rowOk, Bool.and_eq_true, decide_eq_true_eq] at h1
        have h2 := h1.2
        exact Int.emod_eq_zero_of_dvd (Int.dvd_of_tmod_eq_zero h2)
      · have h1 := groupK_ac hw h p hi k (by omega)
        rw [decide_eq_false (by omega), Bool.false_and] at h1
        unfold acP at h1
        simpa using h1
end Go.Ideal

-- Yc
set_option linter.unusedSimpArgs false
set_option linter.unusedVariables false
namespace Go.Ideal
open Go Go.Proofs Go.RowKit
/-! ### The reference's view of the group -/
set_option synthInstance.maxSize 4000 in
set_option synthInstance.maxHeartbeats 400000 in
set_option maxHeartbeats 4000000 in
theorem inGroupT {t : TabD} {p : PauD} (hw : TabW t) (hck : checkTab t = 0) (hp : PauV p) (hpn : p.n = t.n) : Fn Try.prog 48 [tabT t, pauT p] (fun r => r = .tup [pauT (if allComm t p t.n.toNat = true then groupK t p t.n.toNat else ⟨0, 0, 0, 0⟩), boolT (allComm t p t.n.toNat)]) := by
  refine Fn_of Try.func48 rfl (Nat.le_of_ble_eq_true rfl) (fun X => ?_)
  have g := TabG.of hw hck
  have hL : (pauRows t.rows).length = t.rows.length := by simp [pauRows]
  obtain ⟨N, hN⟩ : ∃ N : Nat, t.n = (N : Int) := ⟨t.n.toNat, by have := g.n0; omega⟩
  have hNt : t.n.toNat = N := by omega
  have nl := g.nl
  have n1 := g.n1
  rw [hNt]
  repeat (first | refine StepC.go ?_ | intro _)
  rename_i pt pp pr pq
  refine TV_loop (fun d σ B => ∃ (i : Nat), d = N - i ∧ i ≤ N ∧ TGet σ 7 (intT (i : Int)) ∧ TGet σ 2 (ptrT pt) ∧ TGet σ 3 (ptrT pp) ∧ TGet σ 4 (ptrT pr) ∧ TGet σ 6 (ptrT pq) ∧
      SubP B [(pq, .cells (pauCs (groupK t p i)) 27 true), (pr, .cells [intT 0, .v (.int .u64 0), .v (.int .u64 0), intT 0] 27 true), (pp, .cells (pauCs p) 27 true), (pt, .cells (tabCs t) 24 true)] ∧ allComm t p i = true) N
    ⟨0, by omega, Nat.zero_le _, tget_as rfl, inferInstance, inferInstance, inferInstance, inferInstance, inferInstanceAs (SubP _ [(pq, .cells [intT t.n, .v (.int .u64 0), .v (.int .u64 0), intT 0] 27 true), (pr, .cells [intT 0, .v (.int .u64 0), .v (.int .u64 0), intT 0] 27 true), (pp, .cells (pauCs p) 27 true), (pt, .cells (tabCs t) 24 true)]), rfl⟩ ?_
  rintro d σ B ⟨i, rfl, hi, g7, g2, g3, g4, g6, hB, hal⟩
  refine TV_keep _ (p := hB) ?_
  repeat (refine StepC.go ?_)
  refine TV_cond ?_ ?_ <;> intro hc
  · have hil : i < N := by have := of_decide_eq_true hc; omega
    obtain ⟨h1, v1, m1⟩ := g.at_ (i := i) (by omega)
    obtain ⟨h2, v2, m2⟩ := g.at_ (i := N + i) (by omega)
    obtain ⟨vk, nk⟩ := groupK_v g p i (by omega)
    have ng1 : NthG (pauRows t.rows) i (pauCs (rowAt t i)) := .map pauCs h1
    have ng2 : NthG (pauRows t.rows) (N + i) (pauCs (rowAt t (N + i))) := .map pauCs h2
    have an : AsNat (t.n + (i : Int)) (N + i) := ⟨by rw [hN]; omega⟩
    repeat (first | refine StepC.go ?_ | refine TD_take rfl rfl ?_ | refine TD_load rfl rfl ?_ | refine TD_one rfl ?_ | refine FiltT_nil ?_ | refine FiltT_drop rfl ?_ | refine FiltT_keep rfl ?_ | refine TD_takew rfl rfl (Pu.addi (by omega)) ?_ | refine TV_draw (id := 5) (plan := [.take 0, .take 1, .take 2, .take 3, .take 4, .take 5, .take 6, .take 7, .take 8, .one 9, .take 10]) (by kernel_rfl) ?_)
    refine TS_callE (rcommT v2 hp (by rw [hpn, m2])) ?_
    repeat (first | refine StepC.go ?_ | refine TD_take rfl rfl ?_)
    refine TV_cond ?_ ?_ <;> intro hc2
    · have hcf : commP p (rowAt t (N + i)) = false := by rw [commP_symm]; simpa using hc2
      have e : allComm t p (i + 1) = false := by rw [allComm, hNt, hcf, Bool.and_false]
      repeat (refine StepC.go ?_)
      refine retT_2 (.inr rfl) ?_
      rw [allComm_false e _ hil]
      rfl
    have hct : commP p (rowAt t (N + i)) = true := by rw [commP_symm]; simpa using hc2
    have hal2 : allComm t p (i + 1) = true := by rw [allComm, hal, hNt, hct]; rfl
    repeat (first | refine StepC.go ?_ | refine TD_take rfl rfl ?_ | refine TD_load rfl rfl ?_ | refine TD_one rfl ?_ | refine FiltT_nil ?_ | refine FiltT_drop rfl ?_ | refine FiltT_keep rfl ?_ | refine TV_draw (id := 7) (plan := [.take 0, .take 1, .take 2, .take 3, .take 4, .take 5, .one 6, .take 7]) (by kernel_rfl) ?_)
    refine TS_callE (rcommT v1 hp (by rw [hpn, m1])) ?_
    repeat (first | refine StepC.go ?_ | refine TD_take rfl rfl ?_)
    refine TV_cond ?_ ?_ <;> intro hc3
    · have hcf : commP p (rowAt t i) = false := by rw [commP_symm]; simpa using hc3
      repeat (first | refine TD_take rfl rfl ?_ | refine TD_load rfl rfl ?_ | refine TD_one rfl ?_ | refine FiltT_nil ?_ | refine FiltT_drop rfl ?_ | refine FiltT_keep rfl ?_ | refine TD_takew rfl rfl (Pu.addi (by omega)) ?_ | refine TV_draw (id := 8) (plan := [.take 0, .take 1, .take 2, .take 3, .take 4, .take 5, .take 6, .take 7, .take 8, .one 9, .one 10]) (by kernel_rfl) ?_)
      refine TS_callE (mul18T vk v2 (by rw [nk, m2])) ?_
      repeat (first | refine StepC.go ?_ | refine TS_puw (Pu.addi (by omega)) ?_ | refine TD_one rfl ?_ | refine FiltT_nil ?_ | refine FiltT_drop rfl ?_)
      refine ⟨_, ?_, i + 1, rfl, by omega, tget_as rfl, inferInstance, inferInstance, inferInstance, inferInstance, ?_, hal2⟩
      · omega
      · rw [groupK, hcf, hNt]; simp only [Bool.false_eq_true, if_false]; infer_instance
    · have hct1 : commP p (rowAt t i) = true := by rw [commP_symm]; simpa using hc3
      repeat (first | refine StepC.go ?_ | refine TS_puw (Pu.addi (by omega)) ?_)
      refine ⟨_, ?_, i + 1, rfl, by omega, tget_as rfl, inferInstance, inferInstance, inferInstance, inferInstance, ?_, hal2⟩
      · omega
      · rw [groupK, if_pos hct1]; infer_instance
  · have hil : i = N := by have := of_decide_eq_false hc; omega
    rw [hil] at hal ⊢
    have hxz := group_xz hw hck hp hpn (by rw [hNt]; exact hal)
    rw [hNt] at hxz
    have hx : ((groupK t p N).x : Int) = (p.x : Int) := by rw [hxz.1]
    have hz : ((groupK t p N).z : Int) = (p.z : Int) := by rw [hxz.2]
    have dx : decide (((groupK t p N).x : Int) = (p.x : Int)) = true := decide_eq_true hx
    have dz : decide (((groupK t p N).z : Int) = (p.z : Int)) = true := decide_eq_true hz
    have e : (if decide (((groupK t p N).x : Int) = (p.x : Int)) = true then decide (((groupK t p N).z : Int) = (p.z : Int)) else false) = true := by rw [dx, dz]; rfl
    repeat (first | refine StepC.go ?_ | refine TD_take rfl rfl ?_ | refine TD_load rfl rfl ?_ | refine TD_one rfl ?_ | refine FiltT_nil ?_ | refine FiltT_drop rfl ?_ | refine FiltT_keep rfl ?_ | refine TD_take_on rfl rfl (by first | rfl | assumption) rfl ?_ | refine TD_load_on rfl rfl (by first | rfl | assumption) rfl ?_ | refine TV_draw (id := 9) (plan := [.take 0, .take 1, .take 2, .take 3, .take 4, .take 5, .take 6, .take 7, .take 8, .take 9, .take 10, .take 11, .take 12, .one 13, .take 14]) (by kernel_rfl) ?_)
    refine retT_2 (.inr rfl) ?_
    simp only [tret]
    rw [hal, e]
    rfl
instance : CallIs Try.prog 48 := .of Try.func48 rfl rfl
end Go.Ideal

-- Yd
set_option linter.unusedSimpArgs false
set_option linter.unusedVariables false
namespace Go.Ideal
open Go Go.Proofs Go.RowKit
/-! ### The two ways to what is certain are one: the plain law -/
theorem pcK_single (q : Nat) (b : Bool) : ∀ k, pcK (fun i => decide (i = q) && b) k = if q < k then b.toNat else 0 := by
  intro k
  induction k with
  | zero => rfl
  | succ k ih =>
    rw [pcK, ih]
    by_cases h1 : k = q
    · subst h1
      rw [if_neg (Nat.lt_irrefl k), if_pos (Nat.lt_succ_self k)]
      simp
    · by_cases h2 : q < k
      · rw [if_pos h2, if_pos (by omega), decide_eq_false h1]; simp
      · rw [if_neg h2, if_neg (by omega), decide_eq_false h1]; simp
theorem pcS_bit {q : Nat} (hq : q < 64) (x : Nat) : pcS (bitN (q : Int) &&& x) = (x.testBit q).toNat := by
  unfold pcS
  have := pcK_congr (f := fun i => (bitN (q : Int) &&& x).testBit i) (g := fun i => decide (i = q) && x.testBit q) 64 (fun j _ => by
    rw [Nat.testBit_and, bitN_bit hq]
    by_cases h : j = q
    · subst h; rfl
    · rw [decide_eq_false h]; simp)
  rw [this, pcK_single, if_pos hq]
theorem bitN_shl (q : Nat) : bitN (q : Int) = (1 <<< q) % 18446744073709551616 := by unfold bitN; rw [Int.toNat_natCast]
theorem oneZ_comm {n : Int} {q : Nat} (hq : q < 64) (r : PauD) : commP (oneZ n q 0) r = !r.x.testBit q := by
  unfold commP
  show decide ((pcS (0 &&& r.z) : Int) % 2 = (pcS ((1 <<< q) % 18446744073709551616 &&& r.x) : Int) % 2) = _
  rw [← bitN_shl, pcS_bit hq, Nat.zero_and]
  have h0 : pcS 0 = 0 := by decide +kernel
  rw [h0]
  cases r.x.testBit q <;> rfl
theorem xAt_bit (q : Nat) (r : PauD) : xAt q r = r.x.testBit q := by
  unfold xAt
  rw [Nat.testBit, Nat.and_one_is_mod, Nat.one_and_eq_mod_two]
  rw [Bool.eq_iff_iff]
  simp only [decide_eq_true_eq, bne_iff_ne, ne_eq]
  omega
theorem loose_comm {t : TabD} (g : TabG t) {q : Nat} (hq : (q : Int) < t.n) : (0 ≤ looseS t q) ↔ allComm t (oneZ t.n q 0) t.n.toNat = false := by
  have n0 := g.n0
  have n1 := g.n1
  have nl := g.nl
  have h1 := idxF_any (xAt q) (t.rows.drop t.n.toNat) 0
  have h2 : (0 ≤ looseS t q) ↔ (t.rows.drop t.n.toNat).any (xAt q) = true := by
    rw [← h1]; unfold looseS; exact decide_eq_true_iff.symm
  rw [h2]
  constructor
  · intro h
    obtain ⟨r, hr, hx⟩ := List.any_eq_true.1 h
    obtain ⟨i, hi⟩ := List.getElem?_of_mem hr
    rw [List.getElem?_drop] at hi
    have hil := (List.getElem?_eq_some_iff.1 hi).1
    rw [Bool.eq_false_iff]
    intro h3
    have h4 := allComm_iff.1 h3 i (by omega)
    rw [rowAt_get hi, oneZ_comm (by omega), ← xAt_bit, hx] at h4
    cases h4
  · intro h
    apply Decidable.byContradiction
    intro h3
    have h5 : allComm t (oneZ t.n q 0) t.n.toNat = true := allComm_iff.2 fun i hi => by
      obtain ⟨hr, _, _⟩ := g.at_ (i := t.n.toNat + i) (by omega)
      rw [oneZ_comm (by omega), ← xAt_bit]
      have h6 := List.any_eq_false.1 (Bool.eq_false_iff.2 h3) (rowAt t (t.n.toNat + i)) (List.mem_of_getElem? (i := i) (by rw [List.getElem?_drop]; exact hr))
      cases hx : xAt q (rowAt t (t.n.toNat + i)) with
      | false => rfl
      | true => exact absurd hx h6
    rw [h5] at h
    cases h
theorem pauEq_xz' {q p : PauD} (hn : q.n = p.n) (hx : q.x = p.x) (hz : q.z = p.z) : pauEqB q p = decide (q.ph = p.ph) := by
  unfold pauEqB
  rw [hn, hx, hz]
  rw [Bool.eq_iff_iff]; simp
theorem cert_eq {t : TabD} (hw : TabW t) (hck : checkTab t = 0) {q : Nat} (hq : (q : Int) < t.n) :
    certS t q = if allComm t (oneZ t.n q 0) t.n.toNat = true then ((groupK t (oneZ t.n q 0) t.n.toNat).ph.tdiv 2, true) else (0, false) := by
  have g := TabG.of hw hck
  have hv := oneZ_v g.n0 g.n1 hq
  have hl := loose_comm g hq
  unfold certS
  cases ha : allComm t (oneZ t.n q 0) t.n.toNat with
  | false => rw [if_pos (hl.2 ha), if_neg (by decide)]
  | true =>
    rw [if_neg (fun h => by rw [hl.1 h] at ha; cases ha), if_pos rfl]
    obtain ⟨e1, e2⟩ := group_xz hw hck hv rfl ha
    obtain ⟨vg, ng⟩ := groupK_v g (oneZ t.n q 0) t.n.toNat (Nat.le_refl _)
    have he := groupK_even hw hck (oneZ t.n q 0) t.n.toNat (Nat.le_refl _)
    obtain ⟨_, _, p0, p1, _⟩ := pauV_iff.1 vg
    have hph : (oneZ t.n q 0).ph = 0 := rfl
    unfold valueS
    rw [if_pos ha, pauEq_xz' ng e1 e2, hph]
    obtain h | h : (groupK t (oneZ t.n q 0) t.n.toNat).ph = 0 ∨ (groupK t (oneZ t.n q 0) t.n.toNat).ph = 2 := by omega
    · rw [h]; rfl
    · rw [h]; rfl
end Go.Ideal

-- Ye
set_option linter.unusedSimpArgs false
set_option linter.unusedVariables false
namespace Go.Ideal
open Go Go.Proofs Go.RowKit
/-! ### The group of a tableau: the plain law -/
theorem mulP_comm {p q : PauD} (hn : p.n = q.n) (hc : commP p q = true) : mulP p q = mulP q p := by
  have h := (mphS_comm p q).2 hc
  show PauD.mk p.n (p.x ^^^ q.x) (p.z ^^^ q.z) (mphS p q) = PauD.mk q.n (q.x ^^^ p.x) (q.z ^^^ p.z) (mphS q p)
  rw [h, hn, Nat.xor_comm p.x, Nat.xor_comm p.z]
theorem mulP_self {p : PauD} (he : p.ph % 2 = 0) : mulP p p = ⟨p.n, 0, 0, 0⟩ := by
  show PauD.mk p.n (p.x ^^^ p.x) (p.z ^^^ p.z) (mphS p p) = _
  have h0 : pcS 0 = 0 := by decide +kernel
  have : mphS p p = 0 := by
    unfold mphS
    rw [Nat.xor_self, Nat.xor_self, Nat.zero_and, h0, Nat.and_comm p.z p.x]
    omega
  rw [this, Nat.xor_self, Nat.xor_self]
theorem row_even {t : TabD} (h : checkTab t = 0) {i : Nat} (hi : i < t.rows.length) : (rowAt t i).ph % 2 = 0 := by
  have hrb : rowsB t t.rows.length = true := by
    unfold checkTab at h
    split at h
    · rename_i h1; exact h1.2
    · cases h
  have h1 := (rowsB_ok hrb _ hi).1
  simp only [rowOk, Bool.and_eq_true, decide_eq_true_eq] at h1
  exact Int.emod_eq_zero_of_dvd (Int.dvd_of_tmod_eq_zero h1.2)
theorem groupK_stab {t : TabD} (hw : TabW t) (h : checkTab t = 0) (p : PauD) {k : Nat} (hk : k ≤ t.n.toNat) {j : Nat} (hj : j < t.n.toNat) : commP (groupK t p k) (rowAt t (t.n.toNat + j)) = true := by
  have g := TabG.of hw h
  have n0 := g.n0
  have nl := g.nl
  have h1 := groupK_ac hw h p (j := t.n.toNat + j) (by omega) k hk
  rw [decide_eq_false (by omega), Bool.false_and] at h1
  unfold acP at h1
  simpa using h1
theorem groupK_mul {t : TabD} (hw : TabW t) (h : checkTab t = 0) (x y : PauD) : ∀ k, k ≤ t.n.toNat → groupK t (mulP x y) k = mulP (groupK t x k) (groupK t y k) := by
  have g := TabG.of hw h
  have n0 := g.n0
  have nl := g.nl
  intro k
  induction k with
  | zero => intro _; exact ((mul_eye (eye_v g.n0 g.n1)).1).symm
  | succ k ih =>
    intro hk
    have ih := ih (by omega)
    have hi : t.n.toNat + k < t.rows.length := by omega
    obtain ⟨_, vS, nS⟩ := g.at_ hi
    obtain ⟨vG, nG⟩ := groupK_v g x k (by omega)
    obtain ⟨vH, nH⟩ := groupK_v g y k (by omega)
    have hcH := groupK_stab hw h y (k := k) (by omega) (j := k) (by omega)
    have eS := row_even h hi
    have hac : acP (mulP x y) (rowAt t k) = (acP x (rowAt t k) ^^ acP y (rowAt t k)) := acP_xor rfl rfl
    rw [groupK, groupK, groupK, ih]
    generalize rowAt t (t.n.toNat + k) = S at *
    generalize groupK t x k = G at *
    generalize groupK t y k = H at *
    unfold acP at hac
    cases c1 : commP x (rowAt t k) <;> cases c2 : commP y (rowAt t k) <;> rw [c1, c2] at hac
    · have c3 : commP (mulP x y) (rowAt t k) = true := by simpa using hac
      rw [if_pos c3, if_neg (by decide), if_neg (by decide)]
      have vHS := mul_v vH vS (by rw [nH, nS])
      rw [mul_assoc vG vS vHS (by rw [nG, nS]) (by rw [nS]; exact nH.symm), ← mul_assoc vS vH vS (by rw [nS, nH]) (by rw [nH, nS]), ← mulP_comm (by rw [nH, nS]) hcH, mul_assoc vH vS vS (by rw [nH, nS]) rfl, mulP_self eS]
      have e := (mul_eye vH).1
      rw [show S.n = H.n by rw [nS, nH], e]
    · have c3 : ¬ commP (mulP x y) (rowAt t k) = true := by simpa using hac
      rw [if_neg c3, if_neg (by decide), if_pos rfl]
      rw [mul_assoc vG vH vS (by rw [nG, nH]) (by rw [nH, nS]), mul_assoc vG vS vH (by rw [nG, nS]) (by rw [nS, nH]), mulP_comm (by rw [nH, nS]) hcH]
    · have c3 : ¬ commP (mulP x y) (rowAt t k) = true := by simpa using hac
      rw [if_neg c3, if_pos rfl, if_neg (by decide)]
      exact mul_assoc vG vH vS (by rw [nG, nH]) (by rw [nH, nS])
    · have c3 : commP (mulP x y) (rowAt t k) = true := by simpa using hac
      rw [if_pos c3, if_pos rfl, if_pos rfl]
def InG (t : TabD) (x : PauD) : Prop := PauV x ∧ x.n = t.n ∧ groupK t x t.n.toNat = x
theorem InG.mul {t : TabD} (hw : TabW t) (h : checkTab t = 0) {x y : PauD} (hx : InG t x) (hy : InG t y) : InG t (mulP x y) :=
  ⟨mul_v hx.1 hy.1 (by rw [hx.2.1, hy.2.1]), hx.2.1, by rw [groupK_mul hw h x y _ (Nat.le_refl _), hx.2.2, hy.2.2]⟩
theorem InG.eye {t : TabD} (hw : TabW t) (h : checkTab t = 0) : InG t ⟨t.n, 0, 0, 0⟩ := by
  have g := TabG.of hw h
  refine ⟨eye_v g.n0 g.n1, rfl, ?_⟩
  have : ∀ k, groupK t ⟨t.n, 0, 0, 0⟩ k = ⟨t.n, 0, 0, 0⟩ := by
    intro k
    induction k with
    | zero => rfl
    | succ k ih =>
      have : commP ⟨t.n, 0, 0, 0⟩ (rowAt t k) = true := by
        have := acP_eye (p := ⟨t.n, 0, 0, 0⟩) (q := rowAt t k) rfl rfl
        unfold acP at this
        simpa using this
      rw [groupK, if_pos this, ih]
  exact this _
end Go.Ideal

-- Yf
set_option linter.unusedSimpArgs false
set_option linter.unusedVariables false
namespace Go.Ideal
open Go Go.Proofs Go.RowKit
/-! ### The reference's Certain and Value -/
theorem onS_oneZ (n : Int) (q : Nat) : onS n (q : Int) 90 0 = oneZ n q 0 := by
  unfold onS oneZ bitN; rw [Int.toNat_natCast]; rfl
set_option synthInstance.maxSize 4000 in
set_option synthInstance.maxHeartbeats 400000 in
set_option maxHeartbeats 4000000 in
theorem rcertT {t : TabD} {q : Nat} (hw : TabW t) (hck : checkTab t = 0) (hq : (q : Int) < t.n) : Fn Try.prog 46 [tabT t, intT (q : Int)] (fun r => r = .tup [intT (certS t q).1, boolT (certS t q).2]) := by
  refine Fn_of Try.func46 rfl (Nat.le_of_ble_eq_true rfl) (fun X => ?_)
  have g := TabG.of hw hck
  have hv := oneZ_v g.n0 g.n1 hq
  obtain ⟨vg, ng⟩ := groupK_v g (oneZ t.n q 0) t.n.toNat (Nat.le_refl _)
  obtain ⟨_, _, p0, p1, _⟩ := pauV_iff.1 vg
  rw [cert_eq hw hck hq]
  repeat (first | refine StepC.go ?_ | intro _ | refine TD_take rfl rfl ?_ | refine TD_load rfl rfl ?_ | refine TD_one rfl ?_ | refine FiltT_nil ?_ | refine FiltT_drop rfl ?_ | refine FiltT_keep rfl ?_ | refine TD_virt rfl rfl rfl (fun _ => ?_) | refine TV_draw (id := 1) (plan := [.take 0, .take 1, .take 2, .take 3, .virt 9, .one 4, .one 5, .take 6, .take 7, .take 8, .one 10, .take 11]) (by kernel_rfl) ?_)
  refine TS_callE (onT (n := t.n) (q := (q : Int)) (k := 90) (ph := 0) g.n1 (by omega) hq (.inr (.inr rfl))) ?_
  rw [onS_oneZ]
  repeat (first | refine StepC.go ?_ | refine TD_one rfl ?_ | refine FiltT_nil ?_ | refine FiltT_drop rfl ?_ | refine FiltT_keep rfl ?_)
  refine TS_call (inGroupT hw hck hv rfl) ?_
  rintro _ rfl
  cases ha : allComm t (oneZ t.n q 0) t.n.toNat with
  | false =>
    repeat (first | refine StepC.go ?_ | refine TD_take rfl rfl ?_ | refine TD_one rfl ?_ | refine FiltT_nil ?_ | refine FiltT_drop rfl ?_ | refine TV_cond_t (by first | rfl | assumption) ?_)
    refine retT_2 (.inr rfl) ?_
    rfl
  | true =>
    rw [if_pos rfl, if_pos rfl]
    generalize groupK t (oneZ t.n q 0) t.n.toNat = G at *
    have hdv : idivs .quo .i64 G.ph 2 = some (G.ph.tdiv 2) := by
      obtain h | h | h | h : G.ph = 0 ∨ G.ph = 1 ∨ G.ph = 2 ∨ G.ph = 3 := by omega
      all_goals rw [h]; decide
    repeat (first | refine StepC.go ?_ | refine TD_take rfl rfl ?_ | refine TD_one rfl ?_ | refine FiltT_nil ?_ | refine FiltT_drop rfl ?_ | refine TV_cond_f (by first | rfl | assumption) ?_)
    refine TS_puw (Pu.divw (r := G.ph.tdiv 2) (by decide) hdv) ?_
    repeat (refine StepC.go ?_)
    refine retT_2 (.inr rfl) ?_
    rfl
instance : CallIs Try.prog 46 := .of Try.func46 rfl rfl
instance : CallIs Try.prog 13 := .of Try.func13 rfl rfl
instance : CallIs Try.prog 14 := .of Try.func14 rfl rfl
end Go.Ideal

-- Yg
set_option linter.unusedSimpArgs false
set_option linter.unusedVariables false
namespace Go.Ideal
open Go Go.Proofs Go.RowKit
/-! ### The reference's Zero -/
instance : CallIs Try.prog 12 := .of Try.func12 rfl rfl
end Go.Ideal

-- Yh
set_option linter.unusedSimpArgs false
set_option linter.unusedVariables false
namespace Go.Ideal
open Go Go.Proofs Go.RowKit
/-! ### Same, of both -/
instance : CallIs Try.prog 52 := .of Try.func52 rfl rfl
instance : CallIs Try.prog 53 := .of Try.func53 rfl rfl
instance : CallIs Try.prog 19 := .of Try.func19 rfl rfl
end Go.Ideal

-- Yi
set_option linter.unusedSimpArgs false
set_option linter.unusedVariables false
namespace Go.Ideal
open Go Go.Proofs Go.RowKit
/-! ### The reference's Same; the law TableauAsks -/
instance : CallIs Try.prog 15 := .of Try.func15 rfl rfl
end Go.Ideal

-- Yj
set_option linter.unusedSimpArgs false
set_option linter.unusedVariables false
namespace Go.Ideal
open Go Go.Proofs Go.RowKit
/-! ### The law TableauAsks -/
end Go.Ideal

-- Za
set_option linter.unusedSimpArgs false
set_option linter.unusedVariables false
namespace Go.Ideal
open Go Go.Proofs Go.RowKit
/-! ### Behind a measurement -/
theorem PauD.eq_of {p q : PauD} (h : pauEqB p q = true) : p = q := by
  obtain ⟨a, b, c, d⟩ := p
  obtain ⟨a', b', c', d'⟩ := q
  simp only [pauEqB, Bool.and_eq_true, beq_iff_eq, Bool.and_true] at h
  obtain ⟨h1, h2, h3, h4⟩ := h
  subst h1 h4
  have h2 : b = b' := by omega
  have h3 : c = c' := by omega
  subst h2 h3
  rfl
theorem pauEqB_self (p : PauD) : pauEqB p p = true := by simp [pauEqB]
theorem rows_ne {t : TabD} (hw : TabW t) (h : checkTab t = 0) {k i : Nat} (hi : i < t.n.toNat) (hk : k < t.rows.length) : pauEqB (rowAt t k) (rowAt t (t.n.toNat + i)) = decide (k = t.n.toNat + i) := by
  have g := TabG.of hw h
  have n0 := g.n0
  have nl := g.nl
  rw [Bool.eq_iff_iff, decide_eq_true_eq]
  constructor
  · intro he
    have e := PauD.eq_of he
    have h1 := rows_ac hw h (i := t.n.toNat + i) (j := i) (by omega) (by omega)
    rw [decide_eq_true (.inl (by omega)), ← e, rows_ac hw h hk (by omega)] at h1
    have := of_decide_eq_true h1
    omega
  · rintro rfl
    exact pauEqB_self _
def prow (t : TabD) (i q : Nat) (k : Nat) : PauD := if k ≠ i ∧ k ≠ t.n.toNat + i ∧ xAt q (rowAt t k) = true then mulP (rowAt t (t.n.toNat + i)) (rowAt t k) else rowAt t k
def pfill (t : TabD) (i q m : Nat) : List PauD := (List.range t.rows.length).map fun k => if k < m then prow t i q k else rowAt t k
theorem pfill_0 (t : TabD) (i q : Nat) : pfill t i q 0 = t.rows := by
  refine List.ext_getElem? fun k => ?_
  unfold pfill
  rw [List.getElem?_map]
  by_cases h : k < t.rows.length
  · rw [List.getElem?_range h]
    obtain ⟨p, hp⟩ : ∃ p, t.rows[k]? = some p := ⟨_, List.getElem?_eq_getElem h⟩
    simp [hp, rowAt_get hp]
  · rw [List.getElem?_eq_none (by simp; omega), List.getElem?_eq_none (by omega)]; rfl
theorem pfill_len (t : TabD) (i q m : Nat) : (pfill t i q m).length = t.rows.length := by simp [pfill]
theorem pfill_at {t : TabD} {i q m : Nat} (h : m < t.rows.length) : (pfill t i q m)[m]? = some (rowAt t m) := by
  unfold pfill
  rw [List.getElem?_map, List.getElem?_range h]; simp
theorem pfill_set (t : TabD) (i q m : Nat) : (pfill t i q m).set m (prow t i q m) = pfill t i q (m + 1) := by
  have e : prow t i q m = (fun k => if k < m + 1 then prow t i q k else rowAt t k) m := by simp
  unfold pfill
  conv => lhs; rw [e]
  refine map_set (N := t.rows.length) (i := m) (f := fun k => if k < m then prow t i q k else rowAt t k) (g := fun k => if k < m + 1 then prow t i q k else rowAt t k) fun j hj hne => ?_
  by_cases h1 : j < m
  · simp only [h1, if_true]; rw [if_pos (by omega)]
  · simp only [h1, if_false]; rw [if_neg (by omega)]
theorem pfill_skip {t : TabD} {i q m : Nat} (h : prow t i q m = rowAt t m) : pfill t i q (m + 1) = pfill t i q m := by
  unfold pfill
  refine List.map_congr_left fun k _ => ?_
  by_cases h1 : k < m
  · rw [if_pos h1, if_pos (by omega)]
  · rw [if_neg h1]
    by_cases h2 : k = m
    · rw [if_pos (by omega), h2, h]
    · rw [if_neg (by omega)]
def projRows (t : TabD) (i q : Nat) (b : Int) : List PauD := ((pfill t i q t.rows.length).set i (rowAt t (t.n.toNat + i))).set (t.n.toNat + i) (oneZ t.n q b)
def projC (t : TabD) (q b : Int) : TabD × Int :=
  if checkTab t = 0 then (if 0 ≤ q ∧ q < t.n then (if 0 ≤ b ∧ b ≤ 1 then (if (certS t q.toNat).2 = true then (if (certS t q.toNat).1 = b then (t, 0) else (noTab, 131)) else (⟨t.n, projRows t (looseS t q.toNat).toNat q.toNat b⟩, 0)) else (noTab, 2)) else (noTab, 112)) else (noTab, 180)
theorem certS_loose (t : TabD) (q : Nat) : (certS t q).2 = !decide (0 ≤ looseS t q) := by
  unfold certS; split <;> simp_all
theorem idxF_spec {α : Type} (p : α → Bool) : ∀ (l : List α) (k : Nat), (idxF p l k = -1 ∧ ∀ x ∈ l, p x = false) ∨ ∃ i x, idxF p l k = ((k + i : Nat) : Int) ∧ l[i]? = some x ∧ p x = true ∧ ∀ j, j < i → ∀ y, l[j]? = some y → p y = false := by
  intro l
  induction l with
  | nil => intro k; exact .inl ⟨rfl, by simp⟩
  | cons a l ih =>
    intro k
    rw [idxF]
    by_cases h : p a = true
    · rw [if_pos h]
      exact .inr ⟨0, a, by simp, rfl, h, fun j hj => by omega⟩
    · rw [if_neg h]
      rcases ih (k + 1) with ⟨h1, h2⟩ | ⟨i, x, h1, h2, h3, h4⟩
      · refine .inl ⟨h1, fun x hx => ?_⟩
        rcases List.mem_cons.1 hx with h5 | h5
        · rw [h5]; simpa using h
        · exact h2 x h5
      · refine .inr ⟨i + 1, x, ?_, h2, h3, fun j hj y hy => ?_⟩
        · rw [h1]; congr 1; omega
        · cases j with
          | zero => simp at hy; subst hy; simpa using h
          | succ j => exact h4 j (by omega) y (by simpa using hy)
theorem loose_spec {t : TabD} (g : TabG t) (q : Nat) (h : 0 ≤ looseS t q) : ∃ i : Nat, looseS t q = (i : Int) ∧ i < t.n.toNat ∧ xAt q (rowAt t (t.n.toNat + i)) = true ∧ ∀ j, j < i → xAt q (rowAt t (t.n.toNat + j)) = false := by
  have n0 := g.n0
  have nl := g.nl
  unfold looseS at *
  rcases idxF_spec (xAt q) (t.rows.drop t.n.toNat) 0 with ⟨h1, _⟩ | ⟨i, x, h1, h2, h3, h4⟩
  · omega
  · rw [List.getElem?_drop] at h2
    have hl := (List.getElem?_eq_some_iff.1 h2).1
    refine ⟨i, by rw [h1]; congr 1; omega, by omega, by rw [rowAt_get h2]; exact h3, fun j hj => ?_⟩
    obtain ⟨y, hy⟩ : ∃ y, t.rows[t.n.toNat + j]? = some y := ⟨_, List.getElem?_eq_getElem (by omega)⟩
    rw [rowAt_get hy]
    exact h4 j hj y (by rw [List.getElem?_drop]; exact hy)
set_option synthInstance.maxSize 4000 in
theorem clonePO {ps : List PauD} (hne : ps ≠ []) (hl : ps.length ≤ 2 ^ 30) : FnO Try.prog 60 [.sl 4 (pauRows ps)] (fun r B => ∃ b, r = .v (.slice (some (ad b 0)) ps.length ps.length) ∧ B = [(b, .arr 4 (pauRows ps) 27 false)]) := by
  refine FnO_of Try.func60 rfl (Nat.le_of_ble_eq_true rfl) (fun X => ?_)
  have hL : (pauRows ps).length = ps.length := by simp [pauRows]
  have hl' : ps.length < 2 ^ 31 := by omega
  repeat (refine StepC.go ?_)
  refine TS_isnil ?_
  intro b hb
  have hbf : b = false := by
    cases b with
    | false => rfl
    | true => have := hb rfl; exact absurd (by simpa [pauRows] using this) hne
  subst hbf
  repeat (first | refine StepC.go ?_ | intro _ | (refine TS_append_own ?_ (fun _ => ?_); · omega) | (refine TV_cond_f ?_ ?_; · first | rfl | assumption))
  have : Sm63 (0 + ps.length) := ⟨by omega⟩
  skip
  rename_i bs bx
  have e3 : ((pauRows ps).isEmpty && true) = false := by
    cases ps with
    | nil => exact absurd rfl hne
    | cons a l => rfl
  simp only [Nat.zero_add, List.nil_append, e3]
  refine retO_1 [(bx, .arr 4 (pauRows ps) 27 false)] (.inr rfl) (fun p hp => ?_) ⟨bx, rfl, rfl⟩
  rw [List.mem_singleton.1 hp]
  intro h1
  exact absurd (by simpa [pauRows] using h1) hne
instance : CallIs Try.prog 60 := .of Try.func60 rfl rfl
set_option synthInstance.maxSize 4000 in
theorem tcopyO {t : TabD} (hl : t.rows.length ≤ 2 ^ 30) : FnO Try.prog 26 [tabT t] (fun r B => ∃ b, r = .agg [intT t.n, .v (.slice (some (ad b 0)) t.rows.length t.rows.length)] ∧ B = [(b, .arr 4 (pauRows t.rows) 27 t.rows.isEmpty)]) := by
  refine FnO_of Try.func26 rfl (Nat.le_of_ble_eq_true rfl) (fun X => ?_)
  have hL : (pauRows t.rows).length = t.rows.length := by simp [pauRows]
  have hl' : t.rows.length < 2 ^ 31 := by omega
  have : Sm63 (0 + t.rows.length) := ⟨by omega⟩
  repeat (first | refine StepC.go ?_ | intro _ | (refine TS_append_own ?_ (fun _ => ?_); · omega) | refine TD_take rfl rfl ?_ | refine TD_load rfl rfl ?_ | refine TD_one rfl ?_ | refine FiltT_nil ?_ | refine FiltT_drop rfl ?_ | refine FiltT_keep rfl ?_ | refine TV_draw (id := 1) (plan := [.take 0, .take 1, .take 3, .take 4, .one 2, .one 5, .take 6, .one 7]) (by kernel_rfl) ?_)
  rename_i bp br bs bx
  have e3 : ((pauRows t.rows).isEmpty && true) = t.rows.isEmpty := by
    cases t.rows with
    | nil => rfl
    | cons a l => rfl
  simp only [Nat.zero_add, List.nil_append, e3]
  refine retO_1 [(bx, .arr 4 (pauRows t.rows) 27 t.rows.isEmpty)] (.inr rfl) (fun p hp => ?_) ⟨bx, rfl, rfl⟩
  rw [List.mem_singleton.1 hp]
  intro h1
  simpa [pauRows] using h1
instance : CallIs Try.prog 26 := .of Try.func26 rfl rfl
instance {ps : List PauD} : RealX (pauRows ps) ps.isEmpty := ⟨fun h => by simpa [pauRows] using h⟩
theorem pgetD_at {l : List PauD} {i : Nat} (h : i < l.length) : l[i]? = some (l.getD i noPau) := by simp [List.getD, h]
theorem chgA (k i N : Nat) (y : Bool) : (if (if (!decide ((k : Int) = (i : Int))) = true then !decide (k = N + i) else false) = true then y else false) = decide (k ≠ i ∧ k ≠ N + i ∧ y = true) := by
  have q0 : ((k : Int) = (i : Int)) ↔ k = i := by omega
  simp only [q0]
  by_cases q1 : k = i <;> by_cases q2 : k = N + i <;> cases y <;> simp [q1, q2]
theorem chgB (k i N : Nat) (y : Bool) (hg : (if (!decide ((k : Int) = (i : Int))) = true then !decide (k = N + i) else false) = !true) : false = decide (k ≠ i ∧ k ≠ N + i ∧ y = true) := by
  rw [← chgA, hg]; rfl
theorem chgC (k i N : Nat) (y : Bool) (hg : (!decide ((k : Int) = (i : Int))) = !true) : false = decide (k ≠ i ∧ k ≠ N + i ∧ y = true) := by
  rw [← chgA, hg]; rfl
/-- the answer of Project: own memory, or nothing -/
def ProjO (t : TabD) (q b : Int) (r : Tr) (B : Boxes) : Prop :=
  if (projC t q b).2 = 0 then ∃ pb, r = .tup [.agg [intT t.n, .v (.slice (some (ad pb 0)) t.rows.length t.rows.length)], intT 0] ∧ B = [(pb, .arr 4 (pauRows (projC t q b).1.rows) 27 false)]
  else r = .tup [.agg [intT 0, .v (.slice none 0 0)], intT (projC t q b).2] ∧ B = []
set_option synthInstance.maxSize 4000 in
set_option synthInstance.maxHeartbeats 400000 in
set_option maxHeartbeats 4000000 in
theorem projectO {t : TabD} {q b : Int} (hw : TabW t) : FnO Try.prog 28 [tabT t, intT q, intT b] (ProjO t q b) := by
  refine FnO_of Try.func28 rfl (Nat.le_of_ble_eq_true rfl) (fun X => ?_)
  repeat (first | refine StepC.go ?_ | intro _)
  rename_i pt pr
  refine TS_callE (tabCheckT hw) ?_
  repeat (refine StepC.go ?_)
  refine TV_cond ?_ ?_ <;> intro hc
  · have h0 : ¬ checkTab t = 0 := by simpa using hc
    have e : projC t q b = (noTab, 180) := by unfold projC; rw [if_neg h0]
    repeat (refine StepC.go ?_)
    refine retO_2 [] (.inr rfl) (by simp) ?_
    unfold ProjO
    rw [e, if_neg (by decide), (checkTab_or t).resolve_left h0]
    exact ⟨rfl, rfl⟩
  have h1 : checkTab t = 0 := by simpa using hc
  have g := TabG.of hw h1
  repeat (refine StepC.go ?_)
  refine TS_cut (fun σ B => TGet σ 23 (boolT (outS t.n q)) ∧ TGet σ 1 (intT q) ∧ TGet σ 2 (intT b) ∧ TGet σ 3 (ptrT pt) ∧ TGet σ 6 (ptrT pr) ∧ SubP B [(pt, .cells (tabCs t) 24 true), (pr, .cells [intT 0, .v (.slice none 0 0)] 24 true)]) ?_ ?_
  · repeat' (first | refine StepC.go ?_ | (refine TS_on rfl ?_ ?_; · first | rfl | assumption) | (refine TS_off rfl ?_ ?_; · first | rfl | assumption) | (refine TS_puw (Pu.pick_t ?_) ?_; · first | rfl | assumption) | (refine TS_guard rfl ?_ ?_ <;> intro hg))
    all_goals exact ⟨tget_as (by simp_all [outS]), inferInstance, inferInstance, inferInstance, inferInstance, inferInstance⟩
  rintro σ B ⟨g23, g1, g2, g3, g6, hB⟩
  refine TV_keep _ (p := hB) ?_
  refine TV_cond ?_ ?_ <;> intro hc2
  · have e : projC t q b = (noTab, 112) := by unfold projC; rw [if_pos h1, if_neg (by simp [outS] at hc2; omega)]
    repeat (refine StepC.go ?_)
    refine retO_2 [] (.inr rfl) (by simp) ?_
    unfold ProjO
    rw [e, if_neg (by decide)]
    exact ⟨rfl, rfl⟩
  have hq : 0 ≤ q ∧ q < t.n := by simp [outS] at hc2; omega
  clear hB hc hc2
  obtain ⟨Q, rfl⟩ : ∃ Q : Nat, q = (Q : Int) := ⟨q.toNat, by omega⟩
  have nl := g.nl
  have n1 := g.n1
  obtain ⟨N, hN⟩ : ∃ N : Nat, t.n = (N : Int) := ⟨t.n.toNat, by omega⟩
  have hNt : t.n.toNat = N := by omega
  have hne : t.rows ≠ [] := fun h => by rw [h] at nl; simp at nl; omega
  have hL : (pauRows t.rows).length = t.rows.length := by simp [pauRows]
  repeat (refine StepC.go ?_)
  refine TS_cut (fun σ B => TGet σ 33 (boolT (!(decide (0 ≤ b) && decide (b ≤ 1)))) ∧ TGet σ 1 (intT (Q : Int)) ∧ TGet σ 2 (intT b) ∧ TGet σ 3 (ptrT pt) ∧ TGet σ 6 (ptrT pr) ∧ SubP B [(pt, .cells (tabCs t) 24 true), (pr, .cells [intT 0, .v (.slice none 0 0)] 24 true)]) ?_ ?_
  · repeat' (first | refine StepC.go ?_ | (refine TS_on rfl ?_ ?_; · first | rfl | assumption) | (refine TS_off rfl ?_ ?_; · first | rfl | assumption) | (refine TS_puw (Pu.pick_t ?_) ?_; · first | rfl | assumption) | (refine TS_guard rfl ?_ ?_ <;> intro hg))
    all_goals refine ⟨tget_as (congrArg (fun b => boolT b) ?_), inferInstance, inferInstance, inferInstance, inferInstance, inferInstance⟩
    all_goals (rw [Bool.eq_iff_iff]; simp only [Bool.if_true_left, Bool.if_false_right, Bool.and_eq_true, Bool.and_eq_false_iff, Bool.not_eq_true', Bool.or_eq_true, Bool.or_eq_false_iff, decide_eq_true_eq, decide_eq_false_iff_not, Bool.not_eq_false', Bool.not_false, Bool.not_true, true_iff, false_iff, Bool.decide_eq_true] at * <;> grind)
  rintro σ B ⟨g33, g1, g2, g3, g6, hB⟩
  refine TV_keep _ (p := hB) ?_
  refine TV_cond ?_ ?_ <;> intro hc3
  · have e : projC t Q b = (noTab, 2) := by unfold projC; rw [if_pos h1, if_pos hq, if_neg (by simp at hc3; omega)]
    repeat (refine StepC.go ?_)
    refine retO_2 [] (.inr rfl) (by simp) ?_
    unfold ProjO
    rw [e, if_neg (by decide)]
    exact ⟨rfl, rfl⟩
  have hb : 0 ≤ b ∧ b ≤ 1 := by simp at hc3; omega
  clear hB hc3
  repeat (first | refine StepC.go ?_ | refine TD_take rfl rfl ?_ | refine TD_load rfl rfl ?_ | refine TD_one rfl ?_ | refine FiltT_nil ?_ | refine FiltT_drop rfl ?_ | refine FiltT_keep rfl ?_ | refine TD_virt rfl rfl rfl (fun _ => ?_) | refine TV_draw (id := 8) (plan := [.take 0, .take 1, .take 2, .take 3, .virt 6, .one 4, .take 5, .one 7]) (by kernel_rfl) ?_)
  refine TS_callO (clonePO hne (by omega)) ?_
  rintro _ _ ⟨pb, rfl, rfl⟩
  simp only [List.singleton_append]
  repeat (first | refine StepC.go ?_ | refine TD_take rfl rfl ?_ | refine TD_one rfl ?_ | refine FiltT_nil ?_ | refine FiltT_drop rfl ?_)
  rename_i px
  refine TS_callE (tabCertT g hq.2) ?_
  have hreal : ∀ ps : List PauD, ps.length = t.rows.length → pauRows ps = [] → False := fun ps h1 h2 => hne (List.eq_nil_of_length_eq_zero (by rw [← h1]; simpa [pauRows] using congrArg List.length h2))
  cases hcs : (certS t Q).2 with
  | true =>
    repeat (first | refine StepC.go ?_ | (refine TV_cond_t ?_ ?_; · first | rfl | assumption))
    refine TV_cond ?_ ?_ <;> intro hc4
    · have e : projC t Q b = (noTab, 131) := by
        unfold projC; rw [if_pos h1, if_pos hq, if_pos hb, Int.toNat_natCast, if_pos hcs, if_neg (by simpa using hc4)]
      repeat (refine StepC.go ?_)
      refine retO_2 [] (.inr rfl) (by simp) ?_
      unfold ProjO
      rw [e, if_neg (by decide)]
      exact ⟨rfl, rfl⟩
    · have e : projC t Q b = (t, 0) := by
        unfold projC; rw [if_pos h1, if_pos hq, if_pos hb, Int.toNat_natCast, if_pos hcs, if_pos (by simpa using hc4)]
      repeat (refine StepC.go ?_)
      refine retO_2 [(pb, .arr 4 (pauRows t.rows) 27 false)] (.inr rfl) (fun p hp => ?_) ?_
      · rw [List.mem_singleton.1 hp]; exact fun h => (hreal _ rfl h).elim
      · unfold ProjO
        rw [e, if_pos rfl]
        exact ⟨pb, rfl, rfl⟩
  | false =>
    have hl0 : 0 ≤ looseS t Q := by
      have := certS_loose t Q
      rw [hcs] at this; simpa using this
    obtain ⟨i, hi1, hi2, hi3, hi4⟩ := loose_spec g Q hl0
    have e : projC t Q b = (⟨t.n, projRows t i Q b⟩, 0) := by
      unfold projC; rw [if_pos h1, if_pos hq, if_pos hb, Int.toNat_natCast, if_neg (by rw [hcs]; decide), hi1, Int.toNat_natCast]
    repeat (first | refine StepC.go ?_ | (refine TV_cond_f ?_ ?_; · first | rfl | assumption))
    refine TS_callE (looseT g (by omega) (by omega)) ?_
    rw [hi1]
    obtain ⟨hs2, vs, ms⟩ := g.at_ (i := N + i) (by omega)
    have ngs : NthG (pauRows t.rows) (N + i) (pauCs (rowAt t (N + i))) := .map pauCs hs2
    have an : AsNat (t.n + (i : Int)) (N + i) := ⟨by rw [hN]; omega⟩
    repeat (first | refine StepC.go ?_ | intro _ | (refine TS_puw (Pu.addi ?_) ?_; · omega))
    rename_i ps
    rw [hL]
    have e0 := pfill_0 t i Q
    refine TV_loop (fun d σ B => ∃ (k : Nat), d = t.rows.length - k ∧ k ≤ t.rows.length ∧ TGet σ 73 (intT (k : Int)) ∧ TGet σ 72 (intT (t.rows.length : Int)) ∧ TGet σ 71 (.sl 4 (pauRows t.rows)) ∧ TGet σ 12 (intT (i : Int)) ∧ TGet σ 13 (ptrT ps) ∧ TGet σ 9 (ptrT px) ∧ TGet σ 6 (ptrT pr) ∧ TGet σ 3 (ptrT pt) ∧ TGet σ 1 (intT (Q : Int)) ∧ TGet σ 2 (intT b) ∧
        SubP B [(ps, .cells (pauCs (rowAt t (N + i))) 27 true), (pb, .arr 4 (pauRows (pfill t i Q k)) 27 false), (px, .cells [intT t.n, .v (.slice (some (ad pb 0)) t.rows.length t.rows.length)] 24 true), (pt, .cells (tabCs t) 24 true), (pr, .cells [intT 0, .v (.slice none 0 0)] 24 true)]) t.rows.length
      ⟨0, by omega, Nat.zero_le _, tget_as rfl, inferInstance, inferInstance, inferInstance, inferInstance, inferInstance, inferInstance, inferInstance, inferInstance, inferInstance, by rw [e0]; infer_instance⟩ ?_
    clear g1 g2 g3 g6 g33
    rintro d σ B ⟨k, rfl, hk, g73, g72, g71, g12, g13, g9, g6, g3, g1, g2, hB⟩
    refine TV_keep _ (p := hB) ?_
    have hlF : LenT (pauRows (pfill t i Q k)) t.rows.length := ⟨by rw [pauRows, List.length_map, pfill_len]⟩
    repeat (refine StepC.go ?_)
    refine TV_cond ?_ ?_ <;> intro hc5
    · have hkl : k < t.rows.length := by have := of_decide_eq_true hc5; omega
      obtain ⟨hk2, vk, mk⟩ := g.at_ hkl
      have ngk : NthG (pauRows t.rows) k (pauCs (rowAt t k)) := .map pauCs hk2
      have ngf : NthG (pauRows (pfill t i Q k)) k (pauCs (rowAt t k)) := .map pauCs (pfill_at hkl)
      have h64 : Lt64 (rowAt t k).x := ⟨vk.1.1⟩
      have h65 : Lt64 ((rowAt t k).x >>> Q) := ⟨Nat.lt_of_le_of_lt (Nat.shiftRight_le _ _) vk.1.1⟩
      have hne2 := rows_ne hw h1 (k := k) (i := i) hi2 hkl
      rw [hNt] at hne2
      unfold pauEqB at hne2
      repeat (first | refine StepC.go ?_ | intro _)
      rename_i pk
      refine TS_cut (fun σ B => TGet σ 93 (boolT (decide (k ≠ i ∧ k ≠ N + i ∧ xAt Q (rowAt t k) = true))) ∧ TGet σ 73 (intT (k : Int)) ∧ TGet σ 72 (intT (t.rows.length : Int)) ∧ TGet σ 71 (.sl 4 (pauRows t.rows)) ∧ TGet σ 14 (intT (k : Int)) ∧ TGet σ 15 (ptrT pk) ∧ TGet σ 12 (intT (i : Int)) ∧ TGet σ 13 (ptrT ps) ∧ TGet σ 9 (ptrT px) ∧ TGet σ 6 (ptrT pr) ∧ TGet σ 3 (ptrT pt) ∧ TGet σ 1 (intT (Q : Int)) ∧ TGet σ 2 (intT b) ∧
        SubP B [(pk, .cells (pauCs (rowAt t k)) 27 true), (ps, .cells (pauCs (rowAt t (N + i))) 27 true), (pb, .arr 4 (pauRows (pfill t i Q k)) 27 false), (px, .cells [intT t.n, .v (.slice (some (ad pb 0)) t.rows.length t.rows.length)] 24 true), (pt, .cells (tabCs t) 24 true), (pr, .cells [intT 0, .v (.slice none 0 0)] 24 true)]) ?_ ?_
      · repeat' (first | refine StepC.go ?_ | (refine TS_on rfl ?_ ?_; · first | rfl | assumption) | (refine TS_off rfl ?_ ?_; · first | rfl | assumption) | (refine TS_puw (Pu.pick_f ?_) ?_; · first | rfl | assumption) | (refine TS_guard rfl ?_ ?_ <;> intro hg))
        all_goals refine ⟨tget_as (congrArg (fun b => boolT b) ?_), inferInstance, inferInstance, inferInstance, inferInstance, inferInstance, inferInstance, inferInstance, inferInstance, inferInstance, inferInstance, inferInstance, inferInstance, inferInstance⟩
        all_goals simp only [hne2] at *
        all_goals try rw [show decide ((((rowAt t k).x >>> Q &&& 1 : Nat) : Int) = 1) = xAt Q (rowAt t k) from rfl]
        all_goals generalize xAt Q (rowAt t k) = y
        all_goals first
          | exact chgA k i N _
          | exact chgB k i N _ hg
          | exact chgC k i N _ hg
      rintro σ B ⟨g93, g73, g72, g71, g14, g15, g12, g13, g9, g6, g3, g1, g2, hB⟩
      refine TV_keep _ (p := hB) ?_
      have hst := pfill_set t i Q k
      refine TV_cond ?_ ?_ <;> intro hc6
      · have hch := of_decide_eq_true hc6
        have hpr : prow t i Q k = mulP (rowAt t (N + i)) (rowAt t k) := by unfold prow; rw [hNt, if_pos hch]
        rw [hpr] at hst
        repeat (first | refine TD_take rfl rfl ?_ | refine TD_load rfl rfl ?_ | refine TD_one rfl ?_ | refine FiltT_nil ?_ | refine FiltT_drop rfl ?_ | refine FiltT_keep rfl ?_ | refine TV_draw (id := 20) (plan := [.take 0, .take 1, .take 2, .take 3, .take 4, .one 5, .take 6, .take 7, .take 8, .take 9, .one 10]) (by kernel_rfl) ?_)
        refine TS_call (mulT vs.1 vk.1) ?_
        rintro _ rfl
        rw [mulC_v vs vk (by rw [ms, mk])]
        repeat (first | refine StepC.go ?_ | (refine TS_puw (Pu.addi ?_) ?_; · omega) | refine TD_take rfl rfl ?_ | refine TD_one rfl ?_ | refine FiltT_nil ?_ | refine FiltT_drop rfl ?_)
        refine ⟨_, ?_, k + 1, rfl, by omega, tget_as rfl, inferInstance, inferInstance, inferInstance, inferInstance, inferInstance, inferInstance, inferInstance, inferInstance, inferInstance, ?_⟩
        · omega
        · rw [← hst]; infer_instance
      · have hch := of_decide_eq_false hc6
        have hpr : prow t i Q k = rowAt t k := by unfold prow; rw [hNt, if_neg hch]
        repeat (first | refine StepC.go ?_ | (refine TS_puw (Pu.addi ?_) ?_; · omega))
        refine ⟨_, ?_, k + 1, rfl, by omega, tget_as rfl, inferInstance, inferInstance, inferInstance, inferInstance, inferInstance, inferInstance, inferInstance, inferInstance, inferInstance, ?_⟩
        · omega
        · rw [pfill_skip hpr]; infer_instance
    · have hkl : k = t.rows.length := by have := of_decide_eq_false hc5; omega
      subst hkl
      have hs1 : NthG (pauRows (pfill t i Q t.rows.length)) i (pauCs ((pfill t i Q t.rows.length).getD i noPau)) := .map pauCs (pgetD_at (by rw [pfill_len]; omega))
      have hs3 : NthG (pauRows ((pfill t i Q t.rows.length).set i (rowAt t (N + i)))) (N + i) (pauCs ((pfill t i Q t.rows.length).getD (N + i) noPau)) := .map pauCs (by rw [List.getElem?_set_ne (by omega)]; exact pgetD_at (by rw [pfill_len]; omega))
      have hlG : LenT (pauRows ((pfill t i Q t.rows.length).set i (rowAt t (N + i)))) t.rows.length := ⟨by rw [pauRows, List.length_map, List.length_set, pfill_len]⟩
      repeat (first | refine StepC.go ?_ | refine TD_take rfl rfl ?_ | refine TD_load rfl rfl ?_ | refine TD_one rfl ?_ | refine FiltT_nil ?_ | refine FiltT_drop rfl ?_ | refine FiltT_keep rfl ?_ | (refine TD_takew rfl rfl (Pu.addi ?_) ?_; · omega) | refine TV_draw (id := 22) (plan := [.take 0, .take 1, .take 2, .take 3, .take 4, .take 5, .take 6, .take 7, .take 8, .take 9, .take 10, .take 11, .take 12, .take 13, .one 14, .take 15, .one 16, .take 17, .one 18]) (by kernel_rfl) ?_)
      refine TS_callE (tabOneT hb) ?_
      repeat (first | refine StepC.go ?_ | refine TD_take rfl rfl ?_ | refine TD_one rfl ?_ | refine FiltT_nil ?_ | refine FiltT_drop rfl ?_ | refine FiltT_keep rfl ?_)
      refine retO_2 [(pb, .arr 4 (pauRows (projRows t i Q b)) 27 false)] (sp := by unfold projRows; rw [hNt]; infer_instance) (.inr rfl) (fun p hp => ?_) ?_
      · rw [List.mem_singleton.1 hp]; exact fun h => (hreal _ (by unfold projRows; simp [pfill_len]) h).elim
      · unfold ProjO
        rw [e, if_pos rfl]
        exact ⟨pb, rfl, rfl⟩
end Go.Ideal

-- Zb
set_option linter.unusedSimpArgs false
set_option linter.unusedVariables false
namespace Go.Ideal
open Go Go.Proofs Go.RowKit
/-! ### What makes a tableau; behind a measurement it is one: the plain law -/
theorem projRows_len (t : TabD) (i q : Nat) (b : Int) : (projRows t i q b).length = t.rows.length := by unfold projRows; simp [pfill_len]
end Go.Ideal

-- Zc
set_option linter.unusedSimpArgs false
set_option linter.unusedVariables false
namespace Go.Ideal
open Go Go.Proofs Go.RowKit
/-! ### There and back: the plain law -/
def InvP (F G : PauD → PauD) (n : Int) : Prop := ∀ p, PauV p → p.n = n → G (F p) = p
def InvL (f g : Loc → Loc) : Prop := ∀ a b c d : Bool, (g (f ⟨0, a, b, c, d⟩)).ph % 4 = 0 ∧ (g (f ⟨0, a, b, c, d⟩)).xa = a ∧ (g (f ⟨0, a, b, c, d⟩)).za = b ∧ (g (f ⟨0, a, b, c, d⟩)).xb = c ∧ (g (f ⟨0, a, b, c, d⟩)).zb = d
theorem InvP.of {F G : PauD → PauD} {f g : Loc → Loc} {n : Int} {a b : Nat}
    (vF : ∀ p o j L, p.n = n → PauV p → View p a b o j L → View p a b (F o) j (f L)) (vG : ∀ p o j L, p.n = n → PauV p → View p a b o j L → View p a b (G o) j (g L)) (hl : InvL f g) : InvP F G n := fun p hp hn => by
  have v1 := vG p _ _ _ hn hp (vF p _ _ _ hn hp (View.self hp (a := a) (b := b)))
  obtain ⟨h1, h2, h3, h4, h5⟩ := hl (p.x.testBit a) (p.z.testBit a) (p.x.testBit b) (p.z.testBit b)
  refine v1.same (View.self hp) ⟨?_, h2, h3, h4, h5⟩
  exact h1
theorem InvP.id (n : Int) : InvP (fun p => p) (fun p => p) n := fun _ _ _ => rfl
section
variable {n : Int} {a b : Nat}
end
/-! ### A string with the other sign -/
/-! ### What is found behind a measurement -/
end Go.Ideal

-- Zd
set_option linter.unusedSimpArgs false
set_option linter.unusedVariables false
namespace Go.Ideal
open Go Go.Proofs Go.RowKit
/-! ### The reference's Project; the law TableauProjects -/
theorem projC_ok {t : TabD} {q b : Int} (hw : TabW t) (h : (projC t q b).2 = 0) : checkTab t = 0 ∧ (0 ≤ q ∧ q < t.n) ∧ (0 ≤ b ∧ b ≤ 1) ∧ (projC t q b).1.n = t.n ∧ (projC t q b).1.rows.length = t.rows.length := by
  unfold projC at h ⊢
  split at h
  · split at h
    · split at h
      · split at h
        · split at h
          · rename_i h1 h2 h3 h4 h5
            rw [if_pos h1, if_pos h2, if_pos h3, if_pos h4, if_pos h5]
            exact ⟨h1, h2, h3, rfl, rfl⟩
          · cases h
        · rename_i h1 h2 h3 h4
          rw [if_pos h1, if_pos h2, if_pos h3, if_neg h4]
          exact ⟨h1, h2, h3, rfl, projRows_len _ _ _ _⟩
      · cases h
    · cases h
  · cases h
theorem projC_no {t : TabD} {q b : Int} (h : ¬ (projC t q b).2 = 0) : (projC t q b).1 = noTab := by
  unfold projC at h ⊢
  split
  · rename_i h1
    rw [if_pos h1] at h
    split
    · rename_i h2
      rw [if_pos h2] at h
      split
      · rename_i h3
        rw [if_pos h3] at h
        split
        · rename_i h4
          rw [if_pos h4] at h
          split
          · rename_i h5; rw [if_pos h5] at h; exact absurd rfl h
          · rfl
        · rename_i h4; rw [if_neg h4] at h; exact absurd rfl h
      · rfl
    · rfl
  · rfl
theorem projO_frz {t : TabD} {q b : Int} (hw : TabW t) (r : Tr) (B : Boxes) (h : ProjO t q b r B) : ∃ t', (∀ F G h, ThawOk F G B h → ∀ v, Rep F r v → Rep G t' v) ∧ t' = .tup [tabT (projC t q b).1, intT (projC t q b).2] := by
  unfold ProjO at h
  by_cases h0 : (projC t q b).2 = 0
  · rw [if_pos h0] at h
    obtain ⟨pb, rfl, rfl⟩ := h
    obtain ⟨h1, h2, h3, h4, h5⟩ := projC_ok hw h0
    have g := TabG.of hw h1
    have nl := g.nl
    have n1 := g.n1
    have : LenT (pauRows (projC t q b).1.rows) t.rows.length := ⟨by simp [pauRows, h5]⟩
    have : Sm63 t.rows.length := ⟨by omega⟩
    have : RealX (pauRows (projC t q b).1.rows) false := ⟨fun h => by
      have : (projC t q b).1.rows.length = 0 := by simpa [pauRows] using congrArg List.length h
      omega⟩
    have fz : Frz [(pb, .arr 4 (pauRows (projC t q b).1.rows) 27 false)] (.tup [.agg [intT t.n, .v (.slice (some (ad pb 0)) t.rows.length t.rows.length)], intT 0]) (.tup [.agg [intT t.n, .sl 4 (pauRows (projC t q b).1.rows)], intT 0]) := inferInstance
    refine ⟨_, fz.eq, ?_⟩
    rw [h0, ← h4]
  · rw [if_neg h0] at h
    obtain ⟨rfl, rfl⟩ := h
    have cv : Cv (.tup [.agg [intT 0, .v (.slice none 0 0)], intT (projC t q b).2]) (.tup [.agg [intT 0, .sl 4 []], intT (projC t q b).2]) := ⟨fun F v hv => by
      simp only [Rep] at hv ⊢
      obtain ⟨vs, rfl, h1⟩ := hv
      exact ⟨vs, rfl, CvL.eq F vs h1⟩⟩
    refine ⟨_, fun F G h o v hv => cv.eq G v (hv.sub o.sub), ?_⟩
    rw [projC_no h0]; rfl
instance : CallIs Try.prog 28 := .of Try.func28 rfl rfl
theorem onS_oneZb (n : Int) (q : Nat) (b : Int) : onS n (q : Int) 90 (2 * b) = oneZ n q b := by
  unfold onS oneZ bitN; rw [Int.toNat_natCast]; rfl
set_option synthInstance.maxSize 4000 in
set_option synthInstance.maxHeartbeats 400000 in
set_option maxHeartbeats 4000000 in
theorem projectRT {t : TabD} {q b : Int} (hw : TabW t) : Fn Try.prog 27 [tabT t, intT q, intT b] (fun r => r = .tup [tabT (projC t q b).1, intT (projC t q b).2]) := by
  refine Fn_of Try.func27 rfl (Nat.le_of_ble_eq_true rfl) (fun X => ?_)
  repeat (first | refine StepC.go ?_ | intro _)
  rename_i pt pr
  refine TS_callE (tabCheckRT hw) ?_
  repeat (refine StepC.go ?_)
  refine TV_cond ?_ ?_ <;> intro hc
  · have h0 : ¬ checkTab t = 0 := by simpa using hc
    have e : projC t q b = (noTab, 180) := by unfold projC; rw [if_neg h0]
    repeat (refine StepC.go ?_)
    refine retT_2c [.agg [intT 0, .sl 4 []], intT 180] (.inr rfl) ?_
    simp only [tret]; rw [e]; rfl
  have h1 : checkTab t = 0 := by simpa using hc
  have g := TabG.of hw h1
  repeat (refine StepC.go ?_)
  refine TS_cut (fun σ B => TGet σ 25 (boolT (outS t.n q)) ∧ TGet σ 1 (intT q) ∧ TGet σ 2 (intT b) ∧ TGet σ 3 (ptrT pt) ∧ TGet σ 6 (ptrT pr) ∧ SubP B [(pt, .cells (tabCs t) 24 true), (pr, .cells [intT 0, .v (.slice none 0 0)] 24 true)]) ?_ ?_
  · repeat' (first | refine StepC.go ?_ | (refine TS_on rfl ?_ ?_; · first | rfl | assumption) | (refine TS_off rfl ?_ ?_; · first | rfl | assumption) | (refine TS_puw (Pu.pick_t ?_) ?_; · first | rfl | assumption) | (refine TS_guard rfl ?_ ?_ <;> intro hg))
    all_goals exact ⟨tget_as (by simp_all [outS]), inferInstance, inferInstance, inferInstance, inferInstance, inferInstance⟩
  rintro σ B ⟨g25, g1, g2, g3, g6, hB⟩
  refine TV_keep _ (p := hB) ?_
  refine TV_cond ?_ ?_ <;> intro hc2
  · have e : projC t q b = (noTab, 112) := by unfold projC; rw [if_pos h1, if_neg (by simp [outS] at hc2; omega)]
    repeat (refine StepC.go ?_)
    refine retT_2c [.agg [intT 0, .sl 4 []], intT 112] (.inr rfl) ?_
    simp only [tret]; rw [e]; rfl
  have hq : 0 ≤ q ∧ q < t.n := by simp [outS] at hc2; omega
  clear hB hc hc2
  obtain ⟨Q, rfl⟩ : ∃ Q : Nat, q = (Q : Int) := ⟨q.toNat, by omega⟩
  have nl := g.nl
  have n1 := g.n1
  obtain ⟨N, hN⟩ : ∃ N : Nat, t.n = (N : Int) := ⟨t.n.toNat, by omega⟩
  have hNt : t.n.toNat = N := by omega
  have hne : t.rows ≠ [] := fun h => by rw [h] at nl; simp at nl; omega
  have hL : (pauRows t.rows).length = t.rows.length := by simp [pauRows]
  repeat (refine StepC.go ?_)
  refine TS_cut (fun σ B => TGet σ 32 (boolT (!(decide (0 ≤ b) && decide (b ≤ 1)))) ∧ TGet σ 1 (intT (Q : Int)) ∧ TGet σ 2 (intT b) ∧ TGet σ 3 (ptrT pt) ∧ TGet σ 6 (ptrT pr) ∧ SubP B [(pt, .cells (tabCs t) 24 true), (pr, .cells [intT 0, .v (.slice none 0 0)] 24 true)]) ?_ ?_
  · repeat' (first | refine StepC.go ?_ | (refine TS_on rfl ?_ ?_; · first | rfl | assumption) | (refine TS_off rfl ?_ ?_; · first | rfl | assumption) | (refine TS_puw (Pu.pick_t ?_) ?_; · first | rfl | assumption) | (refine TS_guard rfl ?_ ?_ <;> intro hg))
    all_goals refine ⟨tget_as (congrArg (fun b => boolT b) ?_), inferInstance, inferInstance, inferInstance, inferInstance, inferInstance⟩
    all_goals (rw [Bool.eq_iff_iff]; simp only [Bool.if_true_left, Bool.if_false_right, Bool.and_eq_true, Bool.and_eq_false_iff, Bool.not_eq_true', Bool.or_eq_true, Bool.or_eq_false_iff, decide_eq_true_eq, decide_eq_false_iff_not, Bool.not_eq_false', Bool.not_false, Bool.not_true, true_iff, false_iff, Bool.decide_eq_true] at * <;> grind)
  rintro σ B ⟨g32, g1, g2, g3, g6, hB⟩
  refine TV_keep _ (p := hB) ?_
  refine TV_cond ?_ ?_ <;> intro hc3
  · have e : projC t Q b = (noTab, 2) := by unfold projC; rw [if_pos h1, if_pos hq, if_neg (by simp at hc3; omega)]
    repeat (refine StepC.go ?_)
    refine retT_2c [.agg [intT 0, .sl 4 []], intT 2] (.inr rfl) ?_
    simp only [tret]; rw [e]; rfl
  have hb : 0 ≤ b ∧ b ≤ 1 := by simp at hc3; omega
  clear hB hc3
  have hreal : ∀ ps : List PauD, ps.length = t.rows.length → pauRows ps = [] → False := fun ps h1 h2 => hne (List.eq_nil_of_length_eq_zero (by rw [← h1]; simpa [pauRows] using congrArg List.length h2))
  have hemp : t.rows.isEmpty = false := by
    cases h : t.rows with
    | nil => exact absurd h hne
    | cons a l => rfl
  repeat (refine StepC.go ?_)
  refine TS_callO (tcopyO (by omega)) ?_
  rintro _ _ ⟨pb, rfl, rfl⟩
  simp only [List.singleton_append, hemp]
  repeat (first | refine StepC.go ?_ | intro _)
  rename_i px
  refine TS_callE (rcertT hw h1 hq.2) ?_
  have hsm : Sm63 t.rows.length := ⟨by omega⟩
  cases hcs : (certS t Q).2 with
  | true =>
    repeat (first | refine StepC.go ?_ | (refine TV_cond_t ?_ ?_; · first | rfl | assumption))
    refine TV_cond ?_ ?_ <;> intro hc4
    · have e : projC t Q b = (noTab, 131) := by
        unfold projC; rw [if_pos h1, if_pos hq, if_pos hb, Int.toNat_natCast, if_pos hcs, if_neg (by simpa using hc4)]
      repeat (refine StepC.go ?_)
      refine retT_2c [.agg [intT 0, .sl 4 []], intT 131] (.inr rfl) ?_
      simp only [tret]; rw [e]; rfl
    · have e : projC t Q b = (t, 0) := by
        unfold projC; rw [if_pos h1, if_pos hq, if_pos hb, Int.toNat_natCast, if_pos hcs, if_pos (by simpa using hc4)]
      have rx : RealX (pauRows t.rows) false := ⟨fun h => (hreal _ rfl h).elim⟩
      repeat (refine StepC.go ?_)
      refine retT_2 (.inr rfl) ?_
      simp only [tret]; rw [e]
  | false =>
    have hl0 : 0 ≤ looseS t Q := by
      have := certS_loose t Q
      rw [hcs] at this; simpa using this
    obtain ⟨i, hi1, hi2, hi3, hi4⟩ := loose_spec g Q hl0
    have e : projC t Q b = (⟨t.n, projRows t i Q b⟩, 0) := by
      unfold projC; rw [if_pos h1, if_pos hq, if_pos hb, Int.toNat_natCast, if_neg (by rw [hcs]; decide), hi1, Int.toNat_natCast]
    have hrow : ∀ k, k < t.rows.length → NthG (pauRows t.rows) k (pauCs (rowAt t k)) ∧ PauV (rowAt t k) ∧ (rowAt t k).n = t.n := fun k hk => by
      obtain ⟨a, b, c⟩ := g.at_ hk
      exact ⟨.map pauCs a, b, c⟩
    have hbit : ∀ p : PauD, xAt Q p = decide (((p.x >>> Q &&& 1 : Nat) : Int) = 1) := fun p => rfl
    have hb01 : ∀ p : PauD, ((p.x >>> Q &&& 1 : Nat) : Int) = 0 ∨ ((p.x >>> Q &&& 1 : Nat) : Int) = 1 := fun p => by rw [Nat.and_one_is_mod]; omega
    repeat (first | refine StepC.go ?_ | (refine TV_cond_f ?_ ?_; · first | rfl | assumption))
    refine TV_loop (fun d σ B => ∃ (j : Nat), d = i - j ∧ j ≤ i ∧ TGet σ 11 (intT (j : Int)) ∧ TGet σ 8 (ptrT px) ∧ TGet σ 6 (ptrT pr) ∧ TGet σ 3 (ptrT pt) ∧ TGet σ 1 (intT (Q : Int)) ∧ TGet σ 2 (intT b) ∧
        SubP B [(px, .cells [intT t.n, .v (.slice (some (ad pb 0)) t.rows.length t.rows.length)] 24 true), (pb, .arr 4 (pauRows t.rows) 27 false), (pt, .cells (tabCs t) 24 true), (pr, .cells [intT 0, .v (.slice none 0 0)] 24 true)]) i
      ⟨0, by omega, Nat.zero_le _, tget_as rfl, inferInstance, inferInstance, inferInstance, inferInstance, inferInstance, inferInstance⟩ ?_
    clear g1 g2 g3 g6 g32
    rintro d σ B ⟨j, rfl, hj, g11, g8, g6, g3, g1, g2, hB⟩
    refine TV_keep _ (p := hB) ?_
    obtain ⟨ngj, vj, mj⟩ := hrow (N + j) (by omega)
    have anj : AsNat (t.n + (j : Int)) (N + j) := ⟨by rw [hN]; omega⟩
    have h64 : Lt64 (rowAt t (N + j)).x := ⟨vj.1.1⟩
    have h65 : Lt64 ((rowAt t (N + j)).x >>> Q) := ⟨Nat.lt_of_le_of_lt (Nat.shiftRight_le _ _) vj.1.1⟩
    have hQ : Lt64 Q := ⟨by omega⟩
    repeat (first | refine StepC.go ?_ | (refine TS_puw (Pu.addi ?_) ?_; · omega))
    refine TV_cond ?_ ?_ <;> intro hcj
    · have hne3 : j ≠ i := fun h => by
        subst h
        rw [hNt] at hi3
        rw [hbit, decide_eq_true_eq] at hi3
        have := of_decide_eq_true hcj
        omega
      repeat (first | refine StepC.go ?_ | (refine TS_puw (Pu.addi ?_) ?_; · omega))
      refine ⟨_, ?_, j + 1, rfl, by omega, tget_as rfl, inferInstance, inferInstance, inferInstance, inferInstance, inferInstance, inferInstance⟩
      omega
    have hji : j = i := by
      by_cases h : j = i
      · exact h
      · have h2 := hi4 j (by omega)
        rw [hNt, hbit, decide_eq_false_iff_not] at h2
        have h3 := of_decide_eq_false hcj
        rcases hb01 (rowAt t (N + j)) with h4 | h4 <;> omega
    subst hji
    repeat (first | refine StepC.go ?_ | intro _ | (refine TS_puw (Pu.addi ?_) ?_; · omega))
    rename_i ps
    have e0 := pfill_0 t j Q
    refine TV_loop (fun d σ B => ∃ (k : Nat), d = t.rows.length - k ∧ k ≤ t.rows.length ∧ TGet σ 13 (intT (k : Int)) ∧ TGet σ 11 (intT (j : Int)) ∧ TGet σ 12 (ptrT ps) ∧ TGet σ 8 (ptrT px) ∧ TGet σ 6 (ptrT pr) ∧ TGet σ 3 (ptrT pt) ∧ TGet σ 1 (intT (Q : Int)) ∧ TGet σ 2 (intT b) ∧
        SubP B [(ps, .cells (pauCs (rowAt t (N + j))) 27 true), (px, .cells [intT t.n, .v (.slice (some (ad pb 0)) t.rows.length t.rows.length)] 24 true), (pb, .arr 4 (pauRows (pfill t j Q k)) 27 false), (pt, .cells (tabCs t) 24 true), (pr, .cells [intT 0, .v (.slice none 0 0)] 24 true)]) t.rows.length
      ⟨0, by omega, Nat.zero_le _, tget_as rfl, inferInstance, inferInstance, inferInstance, inferInstance, inferInstance, inferInstance, inferInstance, by rw [e0]; infer_instance⟩ ?_
    clear g1 g2 g3 g6 g8 g11 hB
    rintro d σ B ⟨k, rfl, hk, g13, g11, g12, g8, g6, g3, g1, g2, hB⟩
    refine TV_keep _ (p := hB) ?_
    have hlF : LenT (pauRows (pfill t j Q k)) t.rows.length := ⟨by rw [pauRows, List.length_map, pfill_len]⟩
    have vs := vj
    have ms := mj
    repeat (refine StepC.go ?_)
    refine TV_cond ?_ ?_ <;> intro hc5
    · have hkl : k < t.rows.length := by have := of_decide_eq_true hc5; omega
      obtain ⟨ngk, vk, mk⟩ := hrow k hkl
      have ngf : NthG (pauRows (pfill t j Q k)) k (pauCs (rowAt t k)) := .map pauCs (pfill_at hkl)
      have h66 : Lt64 (rowAt t k).x := ⟨vk.1.1⟩
      have h67 : Lt64 ((rowAt t k).x >>> Q) := ⟨Nat.lt_of_le_of_lt (Nat.shiftRight_le _ _) vk.1.1⟩
      repeat (refine StepC.go ?_)
      refine TS_cut (fun σ B => TGet σ 102 (boolT (decide (k ≠ j ∧ k ≠ N + j ∧ xAt Q (rowAt t k) = true))) ∧ TGet σ 13 (intT (k : Int)) ∧ TGet σ 11 (intT (j : Int)) ∧ TGet σ 12 (ptrT ps) ∧ TGet σ 8 (ptrT px) ∧ TGet σ 6 (ptrT pr) ∧ TGet σ 3 (ptrT pt) ∧ TGet σ 1 (intT (Q : Int)) ∧ TGet σ 2 (intT b) ∧
        SubP B [(ps, .cells (pauCs (rowAt t (N + j))) 27 true), (px, .cells [intT t.n, .v (.slice (some (ad pb 0)) t.rows.length t.rows.length)] 24 true), (pb, .arr 4 (pauRows (pfill t j Q k)) 27 false), (pt, .cells (tabCs t) 24 true), (pr, .cells [intT 0, .v (.slice none 0 0)] 24 true)]) ?_ ?_
      · repeat' (first | refine StepC.go ?_ | (refine TS_on rfl ?_ ?_; · first | rfl | assumption) | (refine TS_off rfl ?_ ?_; · first | rfl | assumption) | (refine TS_puw (Pu.pick_f ?_) ?_; · first | rfl | assumption) | (refine TS_puw (Pu.addi ?_) ?_; · omega) | (refine TS_guard rfl ?_ ?_ <;> intro hg))
        all_goals refine ⟨tget_as (congrArg (fun b => boolT b) ?_), inferInstance, inferInstance, inferInstance, inferInstance, inferInstance, inferInstance, inferInstance, inferInstance, inferInstance⟩
        all_goals try rw [show decide ((((rowAt t k).x >>> Q &&& 1 : Nat) : Int) = 1) = xAt Q (rowAt t k) from rfl]
        all_goals have q0 : decide ((k : Int) = t.n + (j : Int)) = decide (k = N + j) := decide_eq_decide.2 (by omega)
        all_goals try rw [q0] at hg
        all_goals try rw [q0]
        all_goals first
          | exact chgA k j N _
          | exact chgB k j N _ hg
          | exact chgC k j N _ hg
      rintro σ B ⟨g102, g13, g11, g12, g8, g6, g3, g1, g2, hB⟩
      refine TV_keep _ (p := hB) ?_
      have hst := pfill_set t j Q k
      refine TV_cond ?_ ?_ <;> intro hc6
      · have hch := of_decide_eq_true hc6
        have hpr : prow t j Q k = mulP (rowAt t (N + j)) (rowAt t k) := by unfold prow; rw [hNt, if_pos hch]
        rw [hpr] at hst
        repeat (first | refine TD_take rfl rfl ?_ | refine TD_load rfl rfl ?_ | refine TD_one rfl ?_ | refine FiltT_nil ?_ | refine FiltT_drop rfl ?_ | refine FiltT_keep rfl ?_ | refine TV_draw (id := 21) (plan := [.take 0, .take 1, .take 2, .take 3, .take 4, .take 5, .take 6, .take 7, .take 8, .one 9, .take 10, .one 11]) (by kernel_rfl) ?_)
        refine TS_callE (mul18T vs vk (by rw [ms, mk])) ?_
        repeat (first | refine StepC.go ?_ | (refine TS_puw (Pu.addi ?_) ?_; · omega) | refine TD_take rfl rfl ?_ | refine TD_one rfl ?_ | refine FiltT_nil ?_ | refine FiltT_drop rfl ?_)
        refine ⟨_, ?_, k + 1, rfl, by omega, tget_as rfl, inferInstance, inferInstance, inferInstance, inferInstance, inferInstance, inferInstance, inferInstance, ?_⟩
        · omega
        · rw [← hst]; infer_instance
      · have hch := of_decide_eq_false hc6
        have hpr : prow t j Q k = rowAt t k := by unfold prow; rw [hNt, if_neg hch]
        repeat (first | refine StepC.go ?_ | (refine TS_puw (Pu.addi ?_) ?_; · omega))
        refine ⟨_, ?_, k + 1, rfl, by omega, tget_as rfl, inferInstance, inferInstance, inferInstance, inferInstance, inferInstance, inferInstance, inferInstance, ?_⟩
        · omega
        · rw [pfill_skip hpr]; infer_instance
    · have hkl : k = t.rows.length := by have := of_decide_eq_false hc5; omega
      subst hkl
      have hs1 : NthG (pauRows (pfill t j Q t.rows.length)) j (pauCs ((pfill t j Q t.rows.length).getD j noPau)) := .map pauCs (pgetD_at (by rw [pfill_len]; omega))
      have hs3 : NthG (pauRows ((pfill t j Q t.rows.length).set j (rowAt t (N + j)))) (N + j) (pauCs ((pfill t j Q t.rows.length).getD (N + j) noPau)) := .map pauCs (by rw [List.getElem?_set_ne (by omega)]; exact pgetD_at (by rw [pfill_len]; omega))
      have hlG : LenT (pauRows ((pfill t j Q t.rows.length).set j (rowAt t (N + j)))) t.rows.length := ⟨by rw [pauRows, List.length_map, List.length_set, pfill_len]⟩
      repeat (first | refine StepC.go ?_ | refine TD_take rfl rfl ?_ | refine TD_load rfl rfl ?_ | refine TD_one rfl ?_ | refine FiltT_nil ?_ | refine FiltT_drop rfl ?_ | refine FiltT_keep rfl ?_ | (refine TD_takew rfl rfl (Pu.addi ?_) ?_; · omega) | refine TV_draw (id := 23) (plan := [.take 0, .take 1, .take 2, .take 3, .take 4, .take 5, .take 6, .take 7, .take 8, .take 9, .take 10, .one 11, .take 12, .one 13]) (by kernel_rfl) ?_)
      rw [wrap_small (by omega) (by omega)]
      refine TS_callE (onT (n := t.n) (q := (Q : Int)) (k := 90) (ph := 2 * b) n1 (by omega) hq.2 (.inr (.inr rfl))) ?_
      rw [onS_oneZb]
      repeat (first | refine StepC.go ?_ | refine TD_take rfl rfl ?_ | refine TD_one rfl ?_ | refine FiltT_nil ?_ | refine FiltT_drop rfl ?_)
      have hlH : LenT (pauRows (((pfill t j Q t.rows.length).set j (rowAt t (N + j))).set (N + j) (oneZ t.n Q b))) t.rows.length := ⟨by rw [pauRows, List.length_map, List.length_set, List.length_set, pfill_len]⟩
      have rx : RealX (pauRows (((pfill t j Q t.rows.length).set j (rowAt t (N + j))).set (N + j) (oneZ t.n Q b))) false := ⟨fun h => (hreal _ (by rw [List.length_set, List.length_set, pfill_len]) h).elim⟩
      refine retT_2 (.inr rfl) ?_
      simp only [tret]; rw [e]
      unfold projRows; rw [hNt]
instance : CallIs Try.prog 27 := .of Try.func27 rfl rfl
/-! ### The law TableauProjects -/
end Go.Ideal

-- Zg
set_option linter.unusedSimpArgs false
set_option linter.unusedVariables false
namespace Go.Ideal
open Go Go.Proofs Go.RowKit
/-! ### Answers that are new memory -/
def ApplyO (t : TabD) (nm : ByteArray) (qs : List Int) (r : Tr) (B : Boxes) : Prop :=
  if (tapS t nm qs).2 = 0 then ∃ pa, r = .tup [.agg [intT t.n, .v (.slice (some (ad pa 0)) t.rows.length t.rows.length)], intT 0] ∧ B = [(pa, .arr 4 (pauRows (tapS t nm qs).1.rows) 27 true)]
  else r = .tup [.agg [intT 0, .v (.slice none 0 0)], intT (tapS t nm qs).2] ∧ B = []
set_option synthInstance.maxSize 4000 in
set_option synthInstance.maxHeartbeats 400000 in
set_option maxHeartbeats 4000000 in
theorem tabApplyO {t : TabD} {nm : ByteArray} {qs : List Int} (hw : TabW t) : FnO Try.prog 29 [tabT t, strT nm, .sl 1 (intRows qs)] (ApplyO t nm qs) := by
  refine FnO_of Try.func29 rfl (Nat.le_of_ble_eq_true rfl) (fun X => ?_)
  have hL : (pauRows t.rows).length = t.rows.length := by simp [pauRows]
  repeat (first | refine StepC.go ?_ | intro _)
  refine TS_callE (tabCheckT hw) ?_
  repeat (refine StepC.go ?_)
  refine TV_cond ?_ ?_ <;> intro hc
  · have h1 : ¬ checkTab t = 0 := by simpa using hc
    repeat (refine StepC.go ?_)
    have e : tapS t nm qs = (noTab, 180) := by unfold tapS; rw [if_neg h1]
    refine retO_2 [] (.inr rfl) (by simp) ?_
    unfold ApplyO
    rw [e, if_neg (by decide), (checkTab_or t).resolve_left h1]
    exact ⟨rfl, rfl⟩
  have h1 : checkTab t = 0 := by simpa using hc
  obtain ⟨n0, n1, nl, hv⟩ := checkTab_ok hw h1
  repeat (refine StepC.go ?_)
  refine TS_callE qubitsT ?_
  repeat (refine StepC.go ?_)
  refine TV_cond ?_ ?_ <;> intro hc2
  · repeat (refine StepC.go ?_)
    have hg0 : ¬ gfS t.n nm qs = 0 := by simpa using hc2
    have e : tapS t nm qs = (noTab, gfS t.n nm qs) := by unfold tapS; rw [if_pos h1, if_neg hg0]
    refine retO_2 [] (.inr rfl) (by simp) ?_
    unfold ApplyO
    rw [e, if_neg hg0]
    exact ⟨rfl, rfl⟩
  have h2 : gfS t.n nm qs = 0 := by simpa using hc2
  have hg := gfS_ok h2
  repeat (first | refine StepC.go ?_ | (refine TS_makeSlice ?_ (fun _ => ?_); · omega) | refine TD_take rfl rfl ?_ | refine TD_load rfl rfl ?_ | refine TD_one rfl ?_ | refine FiltT_nil ?_ | refine FiltT_drop rfl ?_ | refine FiltT_keep rfl ?_ | refine TD_virt rfl rfl rfl (fun _ => ?_) | refine TV_draw (id := 7) (plan := [.take 0, .take 1, .take 2, .take 3, .take 4, .virt 7, .one 5, .take 6, .one 8]) (by kernel_rfl) ?_)
  rename_i pt pr px pa
  rw [hL]
  have e0 : List.replicate t.rows.length [Tr.v (.int .i64 0), Tr.v (.int .u64 0), Tr.v (.int .u64 0), Tr.v (.int .i64 0)] = pauRows (fillP (byS nm qs) t.rows 0) := by
    unfold fillP pauRows
    simp [noPau]
  rw [e0]
  refine TV_loop (fun d σ B => ∃ (i : Nat), d = t.rows.length - i ∧ i ≤ t.rows.length ∧ TGet σ 37 (intT (i : Int)) ∧ TGet σ 36 (intT (t.rows.length : Int)) ∧ TGet σ 35 (.sl 4 (pauRows t.rows)) ∧ TGet σ 10 (ptrT px) ∧ TGet σ 6 (ptrT pr) ∧ TGet σ 1 (strT nm) ∧ TGet σ 2 (.sl 1 (intRows qs)) ∧
      SubP B [(pa, .arr 4 (pauRows (fillP (byS nm qs) t.rows i)) 27 true), (px, .cells [intT t.n, .v (.slice (some (ad pa 0)) t.rows.length t.rows.length)] 24 true), (pr, .cells [intT 0, .v (.slice none 0 0)] 24 true)]) t.rows.length
    ⟨0, by omega, Nat.zero_le _, tget_as rfl, inferInstance, inferInstance, inferInstance, inferInstance, inferInstance, inferInstance, inferInstance⟩ ?_
  rintro d σ B ⟨i, rfl, hi, g37, g36, g35, g10, g6, g1, g2, hB⟩
  refine TV_keep _ (p := hB) ?_
  have hlF : LenT (pauRows (fillP (byS nm qs) t.rows i)) t.rows.length := ⟨by rw [pauRows, List.length_map, fillP_len _ _ hi]⟩
  repeat (refine StepC.go ?_)
  refine TV_cond ?_ ?_ <;> intro hc3
  · have hil : i < t.rows.length := by have := of_decide_eq_true hc3; omega
    obtain ⟨p, hp⟩ : ∃ p, t.rows[i]? = some p := ⟨_, List.getElem?_eq_getElem hil⟩
    have ngp : NthG (pauRows t.rows) i (pauCs p) := .map pauCs hp
    have ngf : NthG (pauRows (fillP (byS nm qs) t.rows i)) i (pauCs noPau) := .map pauCs (fillP_at _ hil)
    obtain ⟨vp, np⟩ := hv p (List.mem_of_getElem? hp)
    have hst := fillP_set (byS nm qs) hp
    repeat (first | refine StepC.go ?_ | intro _ | refine TD_take rfl rfl ?_ | refine TD_load rfl rfl ?_ | refine TD_one rfl ?_ | refine FiltT_nil ?_ | refine FiltT_drop rfl ?_ | refine FiltT_keep rfl ?_ | refine TV_draw (id := 11) (plan := [.take 0, .take 1, .take 2, .take 3, .take 4, .take 5, .one 6, .take 7, .one 8]) (by kernel_rfl) ?_)
    refine TS_callE (byAll vp (by rw [np]; exact hg)).1 ?_
    repeat (first | refine StepC.go ?_ | (refine TS_puw (Pu.addi ?_) ?_; · omega) | refine TD_take rfl rfl ?_ | refine TD_one rfl ?_ | refine FiltT_nil ?_ | refine FiltT_drop rfl ?_)
    refine ⟨_, ?_, i + 1, rfl, by omega, tget_as rfl, inferInstance, inferInstance, inferInstance, inferInstance, inferInstance, inferInstance, ?_⟩
    · omega
    · rw [← hst]; infer_instance
  · have hil : i = t.rows.length := by have := of_decide_eq_false hc3; omega
    have hfin : fillP (byS nm qs) t.rows i = t.rows.map (byS nm qs) := by rw [hil]; unfold fillP; simp
    rw [hfin]
    have hlM : LenT (pauRows (t.rows.map (byS nm qs))) t.rows.length := ⟨by simp [pauRows]⟩
    have : Sm63 t.rows.length := ⟨by omega⟩
    repeat (refine StepC.go ?_)
    have e : tapS t nm qs = (⟨t.n, t.rows.map (byS nm qs)⟩, 0) := by unfold tapS; rw [if_pos h1, if_pos h2]
    refine retO_2 [(pa, .arr 4 (pauRows (t.rows.map (byS nm qs))) 27 true)] (.inr rfl) (fun p hp => ?_) ?_
    · rw [List.mem_singleton.1 hp]; exact fun _ => rfl
    · unfold ApplyO
      rw [e, if_pos rfl]
      exact ⟨pa, rfl, rfl⟩
theorem tapS_no {t : TabD} {nm : ByteArray} {qs : List Int} (h : ¬ (tapS t nm qs).2 = 0) : (tapS t nm qs).1 = noTab := by
  unfold tapS at h ⊢
  split
  · rename_i h1
    rw [if_pos h1] at h
    split
    · rename_i h2; rw [if_pos h2] at h; exact absurd rfl h
    · rfl
  · rfl
theorem tapS_ok {t : TabD} {nm : ByteArray} {qs : List Int} (h : (tapS t nm qs).2 = 0) : checkTab t = 0 ∧ tapS t nm qs = (⟨t.n, t.rows.map (byS nm qs)⟩, 0) := by
  unfold tapS at h ⊢
  split at h
  · rename_i h1
    rw [if_pos h1]
    split at h
    · rename_i h2; rw [if_pos h2]; exact ⟨h1, rfl⟩
    · rename_i h2; exact absurd h h2
  · cases h
theorem flat_pau : ∀ ps : List PauD, FlatL (pauRows ps).flatten := fun ps => FlatL.rows fun row hr => by
  obtain ⟨p, _, rfl⟩ := List.mem_map.1 hr
  exact inferInstanceAs (FlatL [intT p.n, u64T p.x, u64T p.z, intT p.ph])
theorem nilTab_frz {e : Int} {F G : Mem} {h : IHp} {B : Boxes} (o : ThawOk F G B h) (v : Value) (hv : Rep F (.tup [.agg [intT 0, .v (.slice none 0 0)], intT e]) v) : Rep G (.tup [tabT noTab, intT e]) v := by
  have cv : Cv (.tup [.agg [intT 0, .v (.slice none 0 0)], intT e]) (.tup [.agg [intT 0, .sl 4 []], intT e]) := ⟨fun F v hv => by
    simp only [Rep] at hv ⊢
    obtain ⟨vs, rfl, h1⟩ := hv
    exact ⟨vs, rfl, CvL.eq F vs h1⟩⟩
  exact cv.eq G v (hv.sub o.sub)
theorem applyO_frz {t : TabD} {nm : ByteArray} {qs : List Int} (hw : TabW t) (r : Tr) (B : Boxes) (h : ApplyO t nm qs r B) : ∃ t', (∀ F G h, ThawOk F G B h → ∀ v, Rep F r v → Rep G t' v) ∧ t' = .tup [tabT (tapS t nm qs).1, intT (tapS t nm qs).2] := by
  unfold ApplyO at h
  by_cases h0 : (tapS t nm qs).2 = 0
  · rw [if_pos h0] at h
    obtain ⟨pb, rfl, rfl⟩ := h
    obtain ⟨h1, e⟩ := tapS_ok h0
    rw [e]
    have g := TabG.of hw h1
    have nl := g.nl
    have n1 := g.n1
    have : LenT (pauRows (t.rows.map (byS nm qs))) t.rows.length := ⟨by simp [pauRows]⟩
    have : Sm63 t.rows.length := ⟨by omega⟩
    have fz : Frz [(pb, .arr 4 (pauRows (t.rows.map (byS nm qs))) 27 true)] (.tup [.agg [intT t.n, .v (.slice (some (ad pb 0)) t.rows.length t.rows.length)], intT 0]) (.tup [.agg [intT t.n, .sl 4 (pauRows (t.rows.map (byS nm qs)))], intT 0]) := inferInstance
    exact ⟨_, fz.eq, rfl⟩
  · rw [if_neg h0] at h
    obtain ⟨rfl, rfl⟩ := h
    rw [tapS_no h0]
    exact ⟨_, fun F G h o v hv => nilTab_frz o v hv, rfl⟩
theorem applyO_flat {t : TabD} {nm : ByteArray} {qs : List Int} (r : Tr) (B : Boxes) (h : ApplyO t nm qs r B) : FlatT r ∧ ∀ p ∈ B, FlatB p.2 := by
  unfold ApplyO at h
  split at h
  · obtain ⟨pb, rfl, rfl⟩ := h
    exact ⟨inferInstance, fun p hp => by rw [List.mem_singleton.1 hp]; exact flat_pau _⟩
  · obtain ⟨rfl, rfl⟩ := h
    exact ⟨inferInstance, fun p hp => by cases hp⟩
theorem projO_flat {t : TabD} {q b : Int} (r : Tr) (B : Boxes) (h : ProjO t q b r B) : FlatT r ∧ ∀ p ∈ B, FlatB p.2 := by
  unfold ProjO at h
  split at h
  · obtain ⟨pb, rfl, rfl⟩ := h
    exact ⟨inferInstance, fun p hp => by rw [List.mem_singleton.1 hp]; exact flat_pau _⟩
  · obtain ⟨rfl, rfl⟩ := h
    exact ⟨inferInstance, fun p hp => by cases hp⟩
/-- Project's answer as a slice that may grow -/
theorem projectG {t : TabD} {q b : Int} (hw : TabW t) : FnO Try.prog 28 [tabT t, intT q, intT b] (fun r B => ∃ pb, r = (fun v => .tup [.agg [intT (projC t q b).1.n, .v v], intT (projC t q b).2]) (gsv pb (projC t q b).1.rows.length) ∧ B = (if (projC t q b).1.rows.length = 0 then [] else [(pb, .arr 4 (pauRows (projC t q b).1.rows) 27 false)])) := by
  refine (projectO hw).mono fun r B h => ?_
  unfold ProjO at h
  by_cases h0 : (projC t q b).2 = 0
  · rw [if_pos h0] at h
    obtain ⟨pb, rfl, rfl⟩ := h
    obtain ⟨h1, h2, h3, h4, h5⟩ := projC_ok hw h0
    have nl := (TabG.of hw h1).nl
    refine ⟨pb, ?_, ?_⟩
    · simp only [gsv]; rw [if_neg (by omega), h0, h4, h5]
    · rw [if_neg (by omega)]
  · rw [if_neg h0] at h
    obtain ⟨rfl, rfl⟩ := h
    rw [projC_no h0]
    exact ⟨0, rfl, rfl⟩
end Go.Ideal

-- Zh
set_option linter.unusedSimpArgs false
set_option linter.unusedVariables false
namespace Go.Ideal
open Go Go.Proofs Go.RowKit
/-! ### The law TableauKeeps -/
set_option synthInstance.maxSize 4000 in
set_option synthInstance.maxHeartbeats 400000 in
set_option maxHeartbeats 4000000 in
theorem tableauKeepsT {t : TabD} {nm : ByteArray} {qs : List Int} {q b : Int} (hw : TabW t) : Fn Try.prog 6 [tabT t, strT nm, .sl 1 (intRows qs), intT q, intT b] (fun r => r = boolT true) := by
  refine Fn_of Try.func6 rfl (Nat.le_of_ble_eq_true rfl) (fun X => ?_)
  have hL : (pauRows t.rows).length = t.rows.length := by simp [pauRows]
  have hQ : (intRows qs).length = qs.length := by simp [intRows]
  repeat (first | refine StepC.go ?_ | intro _)
  rename_i pt
  refine TS_callE awake18T ?_
  by_cases h5 : t.rows.length ≤ 500
  case neg =>
    have d1 : decide (500 < ((pauRows t.rows).length : Int)) = true := decide_eq_true (by omega)
    have d2 : (if decide (500 < ((pauRows t.rows).length : Int)) = true then true else decide (500 < ((intRows qs).length : Int))) = true := by rw [d1]; rfl
    repeat (first | refine StepC.go ?_ | (refine TS_off rfl ?_ ?_; · first | rfl | assumption) | (refine TS_puw (Pu.pick_t ?_) ?_; · first | rfl | assumption) | (refine TV_cond_t ?_ ?_; · first | rfl | assumption) | (refine TV_cond_f ?_ ?_; · first | rfl | assumption))
    exact retT_1 (.inr rfl) rfl
  by_cases h6 : qs.length ≤ 500
  case neg =>
    have d1 : decide (500 < ((pauRows t.rows).length : Int)) = false := decide_eq_false (by omega)
    have d2 : (if decide (500 < ((pauRows t.rows).length : Int)) = true then true else decide (500 < ((intRows qs).length : Int))) = true := by rw [d1]; exact decide_eq_true (by omega)
    repeat (first | refine StepC.go ?_ | (refine TS_on rfl ?_ ?_; · first | rfl | assumption) | (refine TV_cond_t ?_ ?_; · first | rfl | assumption) | (refine TV_cond_f ?_ ?_; · first | rfl | assumption))
    exact retT_1 (.inr rfl) rfl
  have d1 : decide (500 < ((pauRows t.rows).length : Int)) = false := decide_eq_false (by omega)
  have d2 : (if decide (500 < ((pauRows t.rows).length : Int)) = true then true else decide (500 < ((intRows qs).length : Int))) = false := by rw [d1]; exact decide_eq_false (by omega)
  have aN : AsNat ((pauRows t.rows).length : Int) t.rows.length := ⟨by rw [hL]⟩
  have aQ : AsNat ((intRows qs).length : Int) qs.length := ⟨by rw [hQ]⟩
  have s1 : Sm63 (t.rows.length + 1) := ⟨by omega⟩
  have s2 : Sm63 (qs.length + 1) := ⟨by omega⟩
  have e77 : pauRows t.rows ++ [[Tr.v (.int .i64 77), Tr.v (.int .u64 0), Tr.v (.int .u64 0), Tr.v (.int .i64 0)]] = pauRows (t.rows ++ [⟨77, 0, 0, 0⟩]) := by rw [pauRows_app]; rfl
  have i77 : intRows qs ++ [[Tr.v (.int .i64 77)]] = intRows (qs ++ [77]) := by simp [intRows]
  have pr1 : PreR (pauRows (t.rows ++ [⟨77, 0, 0, 0⟩])) t.rows.length (t.rows.length + 1) (pauRows t.rows) := ⟨by rw [pauRows_app, ← hL, List.take_left'] <;> rfl, by rw [pauRows_app]; simp [hL], by omega⟩
  have pr2 : PreR (intRows (qs ++ [77])) qs.length (qs.length + 1) (intRows qs) := ⟨by rw [← i77, ← hQ, List.take_left'] <;> rfl, by rw [← i77]; simp [hQ], by omega⟩
  repeat (first | refine StepC.go ?_ | intro _ | (refine TS_on rfl ?_ ?_; · first | rfl | assumption) | (refine TS_append_own ?_ (fun _ => ?_); · omega) | refine TD_take rfl rfl ?_ | refine TD_load rfl rfl ?_ | refine TV_draw (id := 7) (plan := [.take 0, .take 1, .take 2, .take 3, .take 4, .take 5, .take 6, .take 7, .one 8, .one 9]) (by kernel_rfl) ?_ | (refine TV_cond_f ?_ ?_; · first | rfl | assumption))
  rename_i r0 r1 r2 rb i0 i1 i2 ib
  simp only [List.isEmpty_cons, Bool.false_and, List.nil_append, Nat.zero_add, e77, i77]
  have rx1 : RealX (pauRows (t.rows ++ [⟨77, 0, 0, 0⟩])) false := ⟨fun h => by simp [pauRows] at h⟩
  have rx2 : RealX (intRows (qs ++ [77])) false := ⟨fun h => by simp [intRows] at h⟩
  have ng1 : NthG (pauRows (t.rows ++ [⟨77, 0, 0, 0⟩])) t.rows.length (pauCs ⟨77, 0, 0, 0⟩) := .map pauCs (by simp)
  have ng2 : NthG (intRows (qs ++ [77])) qs.length [intT 77] := ⟨by simp [intRows]⟩
  refine TD_takew rfl rfl (Pu.slice_own (j := t.rows.length) (by omega)) ?_
  repeat (first | refine StepC.go ?_ | intro _ | refine TD_take rfl rfl ?_ | refine TD_load rfl rfl ?_ | refine TD_one rfl ?_ | refine FiltT_nil ?_ | refine FiltT_drop rfl ?_ | refine FiltT_keep rfl ?_ | refine TV_draw (id := 8) (plan := [.take 0, .take 1, .take 2, .take 3, .take 4, .take 5, .virt 10, .one 6, .take 7, .take 8, .take 9, .one 11, .take 12]) (by kernel_rfl) ?_)
  rename_i px
  refine TD_takew rfl rfl (Pu.slice_own (j := qs.length) (by omega)) ?_
  repeat (first | refine TD_one rfl ?_ | refine FiltT_nil ?_ | refine FiltT_drop rfl ?_ | refine FiltT_keep rfl ?_ | refine TD_virt rfl rfl rfl (fun _ => ?_))
  refine TS_callN (Φ := ApplyO t nm qs) (tabApplyO hw) applyO_flat (applyO_frz hw) ?_
  rintro _ rfl
  repeat (first | refine StepC.go ?_ | refine TD_take rfl rfl ?_ | refine TD_one rfl ?_ | refine FiltT_nil ?_ | refine FiltT_drop rfl ?_)
  rename_i pu
  refine TS_callGE (n := (projC t q b).1.rows.length) (m := 4) (rows := pauRows (projC t q b).1.rows) (fun v => .tup [.agg [intT (projC t q b).1.n, .v v], intT (projC t q b).2]) (projectG (q := q) (b := b) hw) (fun h => by rw [List.eq_nil_of_length_eq_zero h]; rfl) (fun v => inferInstance) (flat_pau _) ?_
  intro pb
  repeat (first | refine StepC.go ?_ | intro _)
  rename_i pv
  refine TS_callN (Φ := ProjO t q b) (projectO hw) projO_flat (projO_frz hw) ?_
  rintro _ rfl
  generalize hU : tapS t nm qs = U
  generalize hP : projC t q b = V
  repeat (first | refine StepC.go ?_ | intro _)
  rename_i pw
  refine TS_callE tabEqualT ?_
  have hl1 : LenT (pauRows (t.rows ++ [⟨77, 0, 0, 0⟩])) (t.rows.length + 1) := ⟨by simp [pauRows]⟩
  have hl2 : LenT (intRows (qs ++ [77])) (qs.length + 1) := ⟨by simp [intRows]⟩
  repeat (first | refine StepC.go ?_ | (refine TS_on rfl ?_ ?_; · first | rfl | assumption) | (refine TV_cond_f ?_ ?_; · first | rfl | assumption))
  refine TV_loop (fun d σ B => ∃ (i : Nat), d = qs.length - i ∧ i ≤ qs.length ∧ TGet σ 20 (intT (i : Int)) ∧ TGet σ 12 (.v (.slice (some (ad ib 0)) (qs.length + 1) (qs.length + 1))) ∧ TGet σ 1 (strT nm) ∧ TGet σ 2 (.sl 1 (intRows qs)) ∧ TGet σ 3 (intT q) ∧ TGet σ 4 (intT b) ∧ TGet σ 5 (ptrT pt) ∧ TGet σ 13 (ptrT px) ∧ TGet σ 14 (ptrT pu) ∧ TGet σ 15 (intT U.2) ∧ TGet σ 16 (ptrT pv) ∧ TGet σ 17 (intT V.2) ∧ TGet σ 18 (ptrT pw) ∧
      SubP B [(ib, .arr 1 (intRows (qs ++ [77])) 3 false), (pw, .cells (tabCs V.1) 24 true), (pv, .cells [intT V.1.n, .v (gsv pb V.1.rows.length)] 24 true), (pb, .arr 4 (pauRows V.1.rows) 27 false), (pu, .cells (tabCs U.1) 24 true), (px, .cells [intT t.n, .v (.slice (some (ad rb 0)) t.rows.length (t.rows.length + 1))] 24 true), (rb, .arr 4 (pauRows (t.rows ++ [⟨77, 0, 0, 0⟩])) 27 false), (pt, .cells (tabCs t) 24 true)]) qs.length
    ⟨0, by omega, Nat.zero_le _, tget_as rfl, inferInstance, inferInstance, inferInstance, inferInstance, inferInstance, inferInstance, inferInstance, inferInstance, inferInstance, inferInstance, inferInstance, inferInstance, inferInstance⟩ ?_
  rintro d σ B ⟨i, rfl, hi, g20, g12, g1, g2, g3, g4, g5, g13, g14, g15, g16, g17, g18, hB⟩
  refine TV_keep _ (p := hB) ?_
  clear hB
  repeat (refine StepC.go ?_)
  rw [hQ]
  refine TV_cond ?_ ?_ <;> intro hc
  · have hil : i < qs.length := by have := of_decide_eq_true hc; omega
    obtain ⟨x, hx⟩ : ∃ x, qs[i]? = some x := ⟨_, List.getElem?_eq_getElem hil⟩
    have ngx : NthG (intRows qs) i [intT x] := ⟨by simp [intRows, hx]⟩
    have ngy : NthG (intRows (qs ++ [77])) i [intT x] := ⟨by rw [intRows, List.getElem?_map, List.getElem?_append_left hil, hx]; rfl⟩
    repeat (first | refine StepC.go ?_ | (refine TS_puw (Pu.addi ?_) ?_; · omega) | refine TD_take rfl rfl ?_ | refine TD_load rfl rfl ?_ | refine TV_draw (id := 16) (plan := [.take 0, .take 1, .take 2, .take 3, .take 4, .take 5, .take 6, .take 7, .take 8]) (by kernel_rfl) ?_ | (refine TV_cond_f ?_ ?_; · first | rfl | assumption))
    refine ⟨_, ?_, i + 1, rfl, by omega, tget_as rfl, inferInstance, inferInstance, inferInstance, inferInstance, inferInstance, inferInstance, inferInstance, inferInstance, inferInstance, inferInstance, inferInstance, inferInstance, inferInstance⟩
    omega
  have hil : i = qs.length := by have := of_decide_eq_false hc; omega
  clear hc
  repeat (refine StepC.go ?_)
  refine TV_loop (fun d σ B => ∃ (i : Nat) (ps : List PauD), d = t.rows.length - i ∧ i ≤ t.rows.length ∧ ps.length = t.rows.length + 1 ∧ TGet σ 21 (intT (i : Int)) ∧ TGet σ 1 (strT nm) ∧ TGet σ 2 (.sl 1 (intRows qs)) ∧ TGet σ 3 (intT q) ∧ TGet σ 4 (intT b) ∧ TGet σ 5 (ptrT pt) ∧ TGet σ 13 (ptrT px) ∧ TGet σ 14 (ptrT pu) ∧ TGet σ 15 (intT U.2) ∧ TGet σ 16 (ptrT pv) ∧ TGet σ 17 (intT V.2) ∧ TGet σ 18 (ptrT pw) ∧
      SubP B [(rb, .arr 4 (pauRows ps) 27 false), (pw, .cells (tabCs V.1) 24 true), (pv, .cells [intT V.1.n, .v (gsv pb V.1.rows.length)] 24 true), (pb, .arr 4 (pauRows V.1.rows) 27 false), (pu, .cells (tabCs U.1) 24 true), (px, .cells [intT t.n, .v (.slice (some (ad rb 0)) t.rows.length (t.rows.length + 1))] 24 true), (pt, .cells (tabCs t) 24 true)]) t.rows.length
    ⟨0, t.rows ++ [⟨77, 0, 0, 0⟩], by omega, Nat.zero_le _, by simp, tget_as rfl, inferInstance, inferInstance, inferInstance, inferInstance, inferInstance, inferInstance, inferInstance, inferInstance, inferInstance, inferInstance, inferInstance, inferInstance⟩ ?_
  clear g20 g12 g1 g2 g3 g4 g5 g13 g14 g15 g16 g17 g18
  clear hil hi
  clear i
  rintro d σ B ⟨i, ps, rfl, hi, hps, g21, g1, g2, g3, g4, g5, g13, g14, g15, g16, g17, g18, hB⟩
  refine TV_keep _ (p := hB) ?_
  clear hB
  have hlp : LenT (pauRows ps) (t.rows.length + 1) := ⟨by simp [pauRows, hps]⟩
  repeat (refine StepC.go ?_)
  refine TV_cond ?_ ?_ <;> intro hc
  · have hil : i < t.rows.length := by have := of_decide_eq_true hc; omega
    have ngp : NthG (pauRows ps) i (pauCs (ps.getD i noPau)) := .map pauCs (pgetD_at (by omega))
    have s5 : SetR (pauRows ps) i [Tr.v (.int .i64 5), Tr.v (.int .u64 0), Tr.v (.int .u64 0), Tr.v (.int .i64 0)] (pauRows (ps.set i ⟨5, 0, 0, 0⟩)) := ⟨by rw [pauRows, pauRows, List.map_set]; rfl⟩
    repeat (refine StepC.go ?_)
    refine TS_puw (Pu.index_len (j := i) (by omega)) ?_
    repeat (first | refine StepC.go ?_ | (refine TS_puw (Pu.addi ?_) ?_; · omega))
    refine ⟨_, ?_, i + 1, ps.set i ⟨5, 0, 0, 0⟩, rfl, by omega, by simp [hps], tget_as rfl, inferInstance, inferInstance, inferInstance, inferInstance, inferInstance, inferInstance, inferInstance, inferInstance, inferInstance, inferInstance, inferInstance, inferInstance⟩
    omega
  clear hc
  have hVl : V.1.rows.length ≤ 500 := by
    rw [← hP]
    by_cases h0 : (projC t q b).2 = 0
    · obtain ⟨_, _, _, _, h9⟩ := projC_ok hw h0
      omega
    · rw [projC_no h0]; simp [noTab]
  repeat (refine StepC.go ?_)
  refine TV_loop (fun d σ B => ∃ (i : Nat) (ps : List PauD), d = V.1.rows.length - i ∧ i ≤ V.1.rows.length ∧ ps.length = V.1.rows.length ∧ TGet σ 22 (intT (i : Int)) ∧ TGet σ 1 (strT nm) ∧ TGet σ 2 (.sl 1 (intRows qs)) ∧ TGet σ 3 (intT q) ∧ TGet σ 4 (intT b) ∧ TGet σ 5 (ptrT pt) ∧ TGet σ 13 (ptrT px) ∧ TGet σ 14 (ptrT pu) ∧ TGet σ 15 (intT U.2) ∧ TGet σ 16 (ptrT pv) ∧ TGet σ 17 (intT V.2) ∧ TGet σ 18 (ptrT pw) ∧
      SubP B [(pb, .arr 4 (pauRows ps) 27 false), (pw, .cells (tabCs V.1) 24 true), (pv, .cells [intT V.1.n, .v (gsv pb V.1.rows.length)] 24 true), (pu, .cells (tabCs U.1) 24 true), (pt, .cells (tabCs t) 24 true)]) V.1.rows.length
    ⟨0, V.1.rows, by omega, Nat.zero_le _, rfl, tget_as rfl, inferInstance, inferInstance, inferInstance, inferInstance, inferInstance, inferInstance, inferInstance, inferInstance, inferInstance, inferInstance, inferInstance, inferInstance⟩ ?_
  clear g21 g1 g2 g3 g4 g5 g13 g14 g15 g16 g17 g18 hlp
  clear hi hps
  clear i ps
  rintro d σ B ⟨i, ps, rfl, hi, hps, g22, g1, g2, g3, g4, g5, g13, g14, g15, g16, g17, g18, hB⟩
  refine TV_keep _ (p := hB) ?_
  clear hB
  have hlp : LenT (pauRows ps) V.1.rows.length := ⟨by simp [pauRows, hps]⟩
  repeat (refine StepC.go ?_)
  refine TV_cond ?_ ?_ <;> intro hc
  · have hil : i < V.1.rows.length := by have := of_decide_eq_true hc; omega
    have ngp : NthG (pauRows ps) i (pauCs (ps.getD i noPau)) := .map pauCs (pgetD_at (by omega))
    have s6 : SetR (pauRows ps) i [Tr.v (.int .i64 6), Tr.v (.int .u64 0), Tr.v (.int .u64 0), Tr.v (.int .i64 0)] (pauRows (ps.set i ⟨6, 0, 0, 0⟩)) := ⟨by rw [pauRows, pauRows, List.map_set]; rfl⟩
    have hg : gsv pb V.1.rows.length = .slice (some (ad pb 0)) V.1.rows.length V.1.rows.length := by unfold gsv; rw [if_neg (by omega)]
    rw [hg]
    repeat (first | refine StepC.go ?_ | (refine TS_puw (Pu.addi ?_) ?_; · omega))
    refine ⟨_, ?_, i + 1, ps.set i ⟨6, 0, 0, 0⟩, rfl, by omega, by simp [hps], tget_as rfl, inferInstance, inferInstance, inferInstance, inferInstance, inferInstance, inferInstance, inferInstance, inferInstance, inferInstance, inferInstance, inferInstance, inferInstance⟩
    omega
  clear hc
  repeat (refine StepC.go ?_)
  refine TV_loop (fun d σ B => ∃ (i pb : Nat) (ps : List PauD), d = 20 - i ∧ i ≤ 20 ∧ ps.length = V.1.rows.length + i ∧ TGet σ 23 (intT (i : Int)) ∧ TGet σ 1 (strT nm) ∧ TGet σ 2 (.sl 1 (intRows qs)) ∧ TGet σ 3 (intT q) ∧ TGet σ 4 (intT b) ∧ TGet σ 5 (ptrT pt) ∧ TGet σ 13 (ptrT px) ∧ TGet σ 14 (ptrT pu) ∧ TGet σ 15 (intT U.2) ∧ TGet σ 16 (ptrT pv) ∧ TGet σ 17 (intT V.2) ∧ TGet σ 18 (ptrT pw) ∧
      SubP B [(pb, .arr 4 (pauRows ps) 27 false), (pw, .cells (tabCs V.1) 24 true), (pv, .cells [intT V.1.n, .v (gsv pb ps.length)] 24 true), (pu, .cells (tabCs U.1) 24 true), (pt, .cells (tabCs t) 24 true)]) 20
    ⟨0, pb, ps, by omega, by omega, by omega, tget_as rfl, inferInstance, inferInstance, inferInstance, inferInstance, inferInstance, inferInstance, inferInstance, inferInstance, inferInstance, inferInstance, inferInstance, by rw [hps]; infer_instance⟩ ?_
  clear g22 g1 g2 g3 g4 g5 g13 g14 g15 g16 g17 g18 hlp
  clear hi hps
  clear i ps pb
  rintro d σ B ⟨i, pb, ps, rfl, hi, hps, g23, g1, g2, g3, g4, g5, g13, g14, g15, g16, g17, g18, hB⟩
  refine TV_keep _ (p := hB) ?_
  clear hB
  repeat (refine StepC.go ?_)
  refine TV_cond ?_ ?_ <;> intro hc
  · have hil : i < 20 := by have := of_decide_eq_true hc; omega
    have e7 : pauRows ps ++ [[Tr.v (.int .i64 7), Tr.v (.int .u64 0), Tr.v (.int .u64 0), Tr.v (.int .i64 0)]] = pauRows (ps ++ [⟨7, 0, 0, 0⟩]) := by rw [pauRows_app]; rfl
    have hl7 : (ps ++ [(⟨7, 0, 0, 0⟩ : PauD)]).length = ps.length + 1 := by simp
    repeat (first | refine StepC.go ?_ | intro _ | (refine TS_puw (Pu.addi ?_) ?_; · omega) | (refine TS_append ?_ (fun _ => ?_); · omega))
    rename_i ra rb2
    refine ⟨_, ?_, i + 1, rb2, ps ++ [⟨7, 0, 0, 0⟩], rfl, by omega, by omega, tget_as rfl, inferInstance, inferInstance, inferInstance, inferInstance, inferInstance, inferInstance, inferInstance, inferInstance, inferInstance, inferInstance, inferInstance, by rw [hl7, ← e7]; infer_instance⟩
    omega
  have hi20 : i = 20 := by have := of_decide_eq_false hc; omega
  clear hc
  repeat (refine StepC.go ?_)
  refine TS_call (tabApplyRT hw) ?_
  rintro _ rfl
  rw [hU]
  repeat (first | refine StepC.go ?_ | intro _)
  refine TS_call (projectRT hw) ?_
  rintro _ rfl
  rw [hP]
  repeat (first | refine StepC.go ?_ | intro _ | (refine TS_on rfl ?_ ?_; · first | rfl | assumption))
  refine TS_callE tabEqualT ?_
  repeat (first | refine StepC.go ?_ | (refine TS_on rfl ?_ ?_; · first | rfl | assumption))
  refine TS_callE tabEqualT ?_
  repeat (first | refine StepC.go ?_ | (refine TS_on rfl ?_ ?_; · first | rfl | assumption))
  refine retT_1 (.inr rfl) ?_
  simp only [tret]
  rw [decide_eq_true (by omega : (20 : Int) ≤ (ps.length : Int))]
theorem tableauKeepsW {h : IHp} {v1 v3 : Value} {nm : ByteArray} {q b : Int} {t : TabD} {qs : List Int} (m1 : Rep h.cell? (tabT t) v1) (hw : TabW t) (m3 : Rep h.cell? (.sl 1 (intRows qs)) v3) : EvX Try.prog 6 #[v1, .string nm, v3, .int .i64 q, .int .i64 b] h (fun v _ => v = .bool true) :=
  EvX_of_Fn (tableauKeepsT hw) (RepL.cons m1 (RepL.cons (rep_v _) (RepL.cons m3 (RepL.cons (rep_v _) (RepL.cons (rep_v _) RepL.nil)))))
end Go.Ideal
