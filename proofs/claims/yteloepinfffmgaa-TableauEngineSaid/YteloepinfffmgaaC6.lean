/- Part 6 of what the proof stands on: an interpreter over an ideal memory that is proved sound, steps over it, and contracts of the functions that are called. No condition: no law is claimed here. -/
import Derived.Test.YteloepinfffmgaaC5
-- Vk
set_option linter.unusedSimpArgs false
set_option linter.unusedVariables false
namespace Go.Ideal
open Go Go.Proofs Go.RowKit
/-! ### The program's turns keep a string in its one form -/
theorem minusS_v {p : PauD} (h : PauV p) (y : Bool) : PauV (minusS p y) := by
  obtain ⟨a, b, c, d, e⟩ := pauV_iff.1 h
  cases y
  · exact h
  · exact pauV_iff.2 ⟨a, b, by show 0 ≤ (p.ph + 2) % 4; omega, by show (p.ph + 2) % 4 ≤ 3; omega, e⟩
theorem flipX_v {p : PauD} (h : PauV p) {q : Int} (hq : 0 ≤ q ∧ q < p.n) : PauV (flipX p q) := by
  obtain ⟨a, b, c, d, e⟩ := pauV_iff.1 h
  refine pauV_iff.2 ⟨a, b, c, d, fun i hi => ⟨?_, (e i hi).2⟩⟩
  have hi : p.n.toNat ≤ i := hi
  show (p.x ^^^ bitN q).testBit i = false
  rw [Nat.testBit_xor, (e i hi).1, bitN_far hq.1 (by omega) (by omega)]; rfl
theorem flipZ_v {p : PauD} (h : PauV p) {q : Int} (hq : 0 ≤ q ∧ q < p.n) : PauV (flipZ p q) := by
  obtain ⟨a, b, c, d, e⟩ := pauV_iff.1 h
  refine pauV_iff.2 ⟨a, b, c, d, fun i hi => ⟨(e i hi).1, ?_⟩⟩
  have hi : p.n.toNat ≤ i := hi
  show (p.z ^^^ bitN q).testBit i = false
  rw [Nat.testBit_xor, (e i hi).2, bitN_far hq.1 (by omega) (by omega)]; rfl
theorem hS_n (p : PauD) (q : Int) : (hS p q).n = p.n := by unfold hS; split <;> exact minusS_n _ _
theorem sS_n (p : PauD) (q : Int) (y : Bool) : (sS p q y).n = p.n := by
  unfold sS; split
  · exact minusS_n _ _
  · rfl
theorem vS_n (p : PauD) (q : Int) (y : Bool) : (vS p q y).n = p.n := by
  unfold vS; split
  · exact minusS_n _ _
  · rfl
theorem cxS_n (p : PauD) (c t : Int) : (cxS p c t).n = p.n := by
  unfold cxS; simp only
  split <;> split <;> exact minusS_n _ _
theorem hS_v {p : PauD} (h : PauV p) {q : Int} (hq : 0 ≤ q ∧ q < p.n) : PauV (hS p q) := by
  unfold hS; split
  · exact minusS_v h _
  · refine flipZ_v (flipX_v (minusS_v h _) (by rw [minusS_n]; exact hq)) ?_
    show 0 ≤ q ∧ q < (minusS p _).n
    rw [minusS_n]; exact hq
theorem sS_v {p : PauD} (h : PauV p) {q : Int} (hq : 0 ≤ q ∧ q < p.n) (y : Bool) : PauV (sS p q y) := by
  unfold sS; split
  · exact flipZ_v (minusS_v h _) (by rw [minusS_n]; exact hq)
  · exact h
theorem vS_v {p : PauD} (h : PauV p) {q : Int} (hq : 0 ≤ q ∧ q < p.n) (y : Bool) : PauV (vS p q y) := by
  unfold vS; split
  · exact flipX_v (minusS_v h _) (by rw [minusS_n]; exact hq)
  · exact h
theorem cxS_v {p : PauD} (h : PauV p) {c t : Int} (hc : 0 ≤ c ∧ c < p.n) (ht : 0 ≤ t ∧ t < p.n) : PauV (cxS p c t) := by
  unfold cxS; simp only
  have h1 : PauV (if btS p.x c then flipX (minusS p (btS p.x c && btS p.z t && (btS p.x t == btS p.z c))) t else minusS p (btS p.x c && btS p.z t && (btS p.x t == btS p.z c))) ∧ (if btS p.x c then flipX (minusS p (btS p.x c && btS p.z t && (btS p.x t == btS p.z c))) t else minusS p (btS p.x c && btS p.z t && (btS p.x t == btS p.z c))).n = p.n := by
    split
    · exact ⟨flipX_v (minusS_v h _) (by rw [minusS_n]; exact ht), minusS_n _ _⟩
    · exact ⟨minusS_v h _, minusS_n _ _⟩
  split
  · exact flipZ_v h1.1 (by rw [h1.2]; exact hc)
  · exact h1.1
/-! ### The program's turns, seen at two places -/
def Loc.swap (L : Loc) : Loc := ⟨L.ph, L.xb, L.zb, L.xa, L.za⟩
theorem View.swap {p : PauD} {a b : Nat} {o : PauD} {j : Nat} {L : Loc} (v : View p a b o j L) (hab : a ≠ b) : View p b a o j L.swap := by
  refine ⟨v.n, v.ph, fun i => ?_, fun i => ?_⟩
  · rw [v.x]
    by_cases h1 : i = a
    · subst h1; simp [Loc.swap, hab]
    · simp [Loc.swap, h1]
  · rw [v.z]
    by_cases h1 : i = a
    · subst h1; simp [Loc.swap, hab]
    · simp [Loc.swap, h1]
def minLoc (L : Loc) (y : Bool) : Loc := if y then ⟨L.ph + 2, L.xa, L.za, L.xb, L.zb⟩ else L
theorem View.minus {p : PauD} {a b : Nat} {o : PauD} {j : Nat} {L : Loc} (v : View p a b o j L) (y : Bool) : View p a b (minusS o y) j (minLoc L y) := by
  cases y
  · exact v
  · exact ⟨v.n, by show (o.ph + 2) % 4 = (p.ph + (L.ph + 2)) % 4; rw [v.ph]; omega, v.x, v.z⟩
theorem View.xa {p : PauD} {a b : Nat} {o : PauD} {j : Nat} {L : Loc} (v : View p a b o j L) : btS o.x (a : Int) = L.xa := by rw [btS_bit, Int.toNat_natCast, v.x, if_pos rfl]
theorem View.za {p : PauD} {a b : Nat} {o : PauD} {j : Nat} {L : Loc} (v : View p a b o j L) : btS o.z (a : Int) = L.za := by rw [btS_bit, Int.toNat_natCast, v.z, if_pos rfl]
theorem View.xb {p : PauD} {a b : Nat} {o : PauD} {j : Nat} {L : Loc} (v : View p a b o j L) (hab : a ≠ b) : btS o.x (b : Int) = L.xb := by rw [btS_bit, Int.toNat_natCast, v.x, if_neg (Ne.symm hab), if_pos rfl]
theorem View.zb {p : PauD} {a b : Nat} {o : PauD} {j : Nat} {L : Loc} (v : View p a b o j L) (hab : a ≠ b) : btS o.z (b : Int) = L.zb := by rw [btS_bit, Int.toNat_natCast, v.z, if_neg (Ne.symm hab), if_pos rfl]
theorem View.fx {p : PauD} {a b : Nat} {o : PauD} {j : Nat} {L : Loc} (v : View p a b o j L) (ha : a < 64) : View p a b (flipX o a) j ⟨L.ph, !L.xa, L.za, L.xb, L.zb⟩ := by
  refine ⟨v.n, v.ph, fun i => ?_, v.z⟩
  show (o.x ^^^ bitN (a : Int)).testBit i = _
  rw [Nat.testBit_xor, bitN_bit ha, v.x]
  by_cases h : i = a
  · subst h; simp
  · simp [h]
theorem View.fz {p : PauD} {a b : Nat} {o : PauD} {j : Nat} {L : Loc} (v : View p a b o j L) (ha : a < 64) : View p a b (flipZ o a) j ⟨L.ph, L.xa, !L.za, L.xb, L.zb⟩ := by
  refine ⟨v.n, v.ph, v.x, fun i => ?_⟩
  show (o.z ^^^ bitN (a : Int)).testBit i = _
  rw [Nat.testBit_xor, bitN_bit ha, v.z]
  by_cases h : i = a
  · subst h; simp
  · simp [h]
def hLoc (L : Loc) : Loc :=
  let M := minLoc L (L.xa && L.za)
  if L.xa = L.za then M else ⟨M.ph, !M.xa, !M.za, M.xb, M.zb⟩
def sLoc (L : Loc) (back : Bool) : Loc :=
  let M := minLoc L (L.za != back)
  if L.xa then ⟨M.ph, M.xa, !M.za, M.xb, M.zb⟩ else L
def vLoc (L : Loc) (back : Bool) : Loc :=
  let M := minLoc L (L.xa == back)
  if L.za then ⟨M.ph, !M.xa, M.za, M.xb, M.zb⟩ else L
def cxLoc (L : Loc) : Loc :=
  let M := minLoc L (L.xa && L.zb && (L.xb == L.za))
  let N : Loc := if L.xa then ⟨M.ph, M.xa, M.za, !M.xb, M.zb⟩ else M
  if L.zb then ⟨N.ph, N.xa, !N.za, N.xb, N.zb⟩ else N
theorem View.h {p : PauD} {a b : Nat} {o : PauD} {j : Nat} {L : Loc} (v : View p a b o j L) (ha : a < 64) : View p a b (hS o a) j (hLoc L) := by
  unfold hS hLoc
  rw [v.xa, v.za]
  simp only
  split
  · exact v.minus _
  · exact ((v.minus _).fx ha).fz ha
theorem View.s {p : PauD} {a b : Nat} {o : PauD} {j : Nat} {L : Loc} (v : View p a b o j L) (ha : a < 64) (back : Bool) : View p a b (sS o a back) j (sLoc L back) := by
  unfold sS sLoc
  rw [v.xa, v.za]
  simp only
  split
  · exact (v.minus _).fz ha
  · exact v
theorem View.v {p : PauD} {a b : Nat} {o : PauD} {j : Nat} {L : Loc} (v : View p a b o j L) (ha : a < 64) (back : Bool) : View p a b (vS o a back) j (vLoc L back) := by
  unfold vS vLoc
  rw [v.xa, v.za]
  simp only
  split
  · exact (v.minus _).fx ha
  · exact v
theorem View.cx {p : PauD} {a b : Nat} {o : PauD} {j : Nat} {L : Loc} (v : View p a b o j L) (hab : a ≠ b) (ha : a < 64) (hb : b < 64) : View p a b (cxS o a b) j (cxLoc L) := by
  unfold cxS cxLoc
  rw [v.xa, v.za, v.xb hab, v.zb hab]
  simp only
  have v1 := v.minus (L.xa && L.zb && (L.xb == L.za))
  generalize minusS o (L.xa && L.zb && (L.xb == L.za)) = o1 at v1 ⊢
  generalize minLoc L (L.xa && L.zb && (L.xb == L.za)) = M at v1 ⊢
  have v2 : View p a b (if L.xa then flipX o1 b else o1) j (if L.xa then ⟨M.ph, M.xa, M.za, !M.xb, M.zb⟩ else M) := by
    split
    · exact ((v1.swap hab).fx hb).swap (Ne.symm hab)
    · exact v1
  generalize (if L.xa then flipX o1 b else o1) = o2 at v2 ⊢
  generalize (if L.xa then (⟨M.ph, M.xa, M.za, !M.xb, M.zb⟩ : Loc) else M) = N at v2 ⊢
  split
  · exact v2.fz ha
  · exact v2
/-- the string itself, seen at two places -/
theorem View.start {p : PauD} (hp : PauV p) (a b : Nat) : View p a b p p.n.toNat ⟨0, p.x.testBit a, p.z.testBit a, p.x.testBit b, p.z.testBit b⟩ := by
  obtain ⟨_, _, c, d, e⟩ := pauV_iff.1 hp
  have out : ∀ i (P : Nat → Bool), (∀ k, p.n.toNat ≤ k → P k = false) → P i = (decide (i < p.n.toNat) && P i) := fun i P h => by
    by_cases hi : i < p.n.toNat
    · simp [hi]
    · rw [h i (by omega)]; simp
  refine ⟨rfl, by simp only [Int.add_zero]; omega, fun i => ?_, fun i => ?_⟩
  · by_cases h1 : i = a
    · subst h1; simp
    · by_cases h2 : i = b
      · subst h2; simp [h1]
      · rw [if_neg h1, if_neg h2]; exact out i (fun i => p.x.testBit i) fun k hk => (e k hk).1
  · by_cases h1 : i = a
    · subst h1; simp
    · by_cases h2 : i = b
      · subst h2; simp [h1]
      · rw [if_neg h1, if_neg h2]; exact out i (fun i => p.z.testBit i) fun k hk => (e k hk).2
/-! ### The reference's, seen at two places -/
def noLoc : Loc := ⟨0, false, false, false, false⟩
def locAt (A B : Loc → Loc) (a b : Nat) : Nat → Loc
  | 0 => noLoc
  | j + 1 => if j = a then A (locAt A B a b j) else if j = b then B (locAt A B a b j) else locAt A B a b j
theorem locAt_none (A B : Loc → Loc) (a b : Nat) : ∀ n, n ≤ a → n ≤ b → locAt A B a b n = noLoc := by
  intro n
  induction n with
  | zero => intro _ _; rfl
  | succ n ih => intro h1 h2; rw [locAt, if_neg (by omega), if_neg (by omega)]; exact ih (by omega) (by omega)
theorem locAt_a (A B : Loc → Loc) (a b : Nat) : ∀ n, a < n → n ≤ b → locAt A B a b n = A noLoc := by
  intro n
  induction n with
  | zero => intro h _; omega
  | succ n ih =>
    intro h1 h2
    rw [locAt]
    by_cases h : n = a
    · rw [if_pos h, locAt_none A B a b n (by omega) (by omega)]
    · rw [if_neg h, if_neg (by omega)]; exact ih (by omega) (by omega)
theorem locAt_b (A B : Loc → Loc) (a b : Nat) : ∀ n, b < n → n ≤ a → locAt A B a b n = B noLoc := by
  intro n
  induction n with
  | zero => intro h _; omega
  | succ n ih =>
    intro h1 h2
    rw [locAt, if_neg (by omega)]
    by_cases h : n = b
    · rw [if_pos h, locAt_none A B a b n (by omega) (by omega)]
    · rw [if_neg h]; exact ih (by omega) (by omega)
theorem locAt_ab (A B : Loc → Loc) (a b : Nat) (hab : a ≠ b) : ∀ n, a < n → b < n → locAt A B a b n = if a < b then B (A noLoc) else A (B noLoc) := by
  intro n
  induction n with
  | zero => intro h _; omega
  | succ n ih =>
    intro h1 h2
    rw [locAt]
    by_cases h : n = a
    · subst h
      rw [if_pos rfl, if_neg (by omega), locAt_b A B n b n (by omega) (by omega)]
    · rw [if_neg h]
      by_cases h3 : n = b
      · subst h3
        rw [if_pos rfl, if_pos (by omega), locAt_a A B a n n (by omega) (by omega)]
      · rw [if_neg h3]; exact ih (by omega) (by omega)
/-- images of a gate at a and b -/
structure ImgAt (img : Int → Bool → PauD) (n : Int) (a b : Nat) (XA ZA XB ZB : Loc) : Prop where
  v : ImgV img n
  xa : (a : Int) < n → IsLoc (img a true) a b XA
  za : (a : Int) < n → IsLoc (img a false) a b ZA
  xb : (b : Int) < n → IsLoc (img b true) a b XB
  zb : (b : Int) < n → IsLoc (img b false) a b ZB
  ox : ∀ j : Nat, j ≠ a → j ≠ b → img j true = onS n j 88 0
  oz : ∀ j : Nat, j ≠ a → j ≠ b → img j false = onS n j 90 0
theorem turnK_view {img : Int → Bool → PauD} {p : PauD} {a b : Nat} {XA ZA XB ZB : Loc} (hp : PauV p) (hab : a ≠ b) (g : ImgAt img p.n a b XA ZA XB ZB) : ∀ j : Nat, (j : Int) ≤ p.n →
    View p a b (turnK img p j) j (locAt (stepLoc (p.x.testBit a) (p.z.testBit a) XA ZA) (stepLoc (p.x.testBit b) (p.z.testBit b) XB ZB) a b j) := by
  obtain ⟨pa, pb, pc, pd, pe⟩ := pauV_iff.1 hp
  intro j
  induction j with
  | zero =>
    intro _
    refine ⟨rfl, ?_, fun i => ?_, fun i => ?_⟩
    · show p.ph = (p.ph + 0) % 4; omega
    · simp [turnK, locAt, noLoc]
    · simp [turnK, locAt, noLoc]
  | succ j ih =>
    intro hj
    have v := ih (by omega)
    have ho := (turnK_v hp g.v j (by omega)).1
    rw [turnK, locAt]
    by_cases h1 : j = a
    · subst h1
      rw [if_pos rfl]
      exact v.at hab (.inl rfl) (by omega) g.v ho (g.xa (by omega)) (g.za (by omega))
    · rw [if_neg h1]
      by_cases h2 : j = b
      · subst h2
        rw [if_pos rfl]
        exact v.at hab (.inr rfl) (by omega) g.v ho (g.xb (by omega)) (g.zb (by omega))
      · rw [if_neg h2]
        exact v.own h1 h2 (by omega) pb ho (g.ox j h1 h2) (g.oz j h1 h2)
end Go.Ideal

-- Vl
set_option linter.unusedSimpArgs false
set_option linter.unusedVariables false
namespace Go.Ideal
open Go Go.Proofs Go.RowKit
/-! ### The reference's turn, gate by gate (printed by genturn.py) -/
def letLoc (k : Nat) (ph : Int) : Loc := ⟨ph, !decide (k = 90), !decide (k = 88), false, false⟩
theorem onS_loc {n : Int} {a b k : Nat} {ph : Int} (ha : a < 64) : IsLoc (onS n a k ph) a b (letLoc k ph) := by
  have hb : ∀ i, (bitN (a : Int)).testBit i = decide (i = a) := bitN_bit ha
  refine ⟨rfl, fun i => ?_, fun i => ?_⟩
  · show (if k = 90 then 0 else bitN (a : Int)).testBit i = _
    by_cases h1 : i = a <;> by_cases h2 : k = 90 <;> simp [letLoc, h1, h2, hb]
  · show (if k = 88 then 0 else bitN (a : Int)).testBit i = _
    by_cases h1 : i = a <;> by_cases h2 : k = 88 <;> simp [letLoc, h1, h2, hb]
theorem onS_locb {n : Int} {a b k : Nat} {ph : Int} (hab : a ≠ b) (hb : b < 64) : IsLoc (onS n b k ph) a b (letLoc k ph).swap := by
  have h := onS_loc (n := n) (a := b) (b := a) (k := k) (ph := ph) hb
  refine ⟨h.ph, fun i => ?_, fun i => ?_⟩
  · rw [h.x]
    by_cases h1 : i = a
    · subst h1; simp [Loc.swap, letLoc, hab]
    · simp [Loc.swap, letLoc, h1]
  · rw [h.z]
    by_cases h1 : i = a
    · subst h1; simp [Loc.swap, letLoc, hab]
    · simp [Loc.swap, letLoc, h1]
/-- a letter at each place -/
theorem mul_loc {n : Int} {a b k m : Nat} (hn : n ≤ 64) (hab : a ≠ b) (ha : (a : Int) < n) (hb : (b : Int) < n) : IsLoc (mulP (onS n a k 0) (onS n b m 0)) a b ⟨0, !decide (k = 90), !decide (k = 88), !decide (m = 90), !decide (m = 88)⟩ := by
  have v1 : PauV (onS n a k 0) := onS_v hn (by omega) ha (by decide)
  have v2 : PauV (onS n b m 0) := onS_v hn (by omega) hb (by decide)
  have l1 := onS_loc (n := n) (a := a) (b := b) (k := k) (ph := 0) (by omega)
  have l2 := onS_locb (n := n) (a := a) (b := b) (k := m) (ph := 0) hab (by omega)
  have hm := mph_supp v1 v2 rfl hab l2.supp
  rw [l1.x a, l1.z a, l1.x b, l1.z b, l2.x a, l2.z a, l2.x b, l2.z b] at hm
  simp only [if_true, if_neg (Ne.symm hab)] at hm
  refine ⟨?_, fun i => ?_, fun i => ?_⟩
  · show mphS _ _ = 0
    rw [hm]
    simp only [letLoc, Loc.swap]
    show (0 + 0 + (prodL _ (atL false false)).2 + (prodL (atL false false) _).2) % 4 = 0
    rw [prodL_zero]
    cases decide (m = 90) <;> cases decide (m = 88) <;> decide
  · show (_ ^^^ _ : Nat).testBit i = _
    rw [Nat.testBit_xor, l1.x, l2.x]
    by_cases h1 : i = a
    · simp [h1, letLoc, Loc.swap]
    · by_cases h2 : i = b
      · simp [h1, h2, letLoc, Loc.swap, Ne.symm hab]
      · simp [h1, h2]
  · show (_ ^^^ _ : Nat).testBit i = _
    rw [Nat.testBit_xor, l1.z, l2.z]
    by_cases h1 : i = a
    · simp [h1, letLoc, Loc.swap]
    · by_cases h2 : i = b
      · simp [h1, h2, letLoc, Loc.swap, Ne.symm hab]
      · simp [h1, h2]
theorem IsLoc.flip {q : PauD} {a b : Nat} {I : Loc} (h : IsLoc q b a I) (hab : a ≠ b) : IsLoc q a b I.swap := by
  refine ⟨h.ph, fun i => ?_, fun i => ?_⟩
  · rw [h.x]
    by_cases h1 : i = a
    · subst h1; simp [Loc.swap, hab]
    · simp [Loc.swap, h1]
  · rw [h.z]
    by_cases h1 : i = a
    · subst h1; simp [Loc.swap, hab]
    · simp [Loc.swap, h1]
theorem img1_at {t : Im1} (ht : t.ok) {n : Int} {a : Nat} (hn : n ≤ 64) (ha : (a : Int) < n) : ImgAt (img1 t n a) n a 64 (letLoc t.kx t.px) (letLoc t.kz t.pz) noLoc noLoc := by
  obtain ⟨t1, t2, t3, t4⟩ := ht
  refine ⟨fun j x h0 h1 => ?_, fun _ => ?_, fun _ => ?_, fun h => by omega, fun h => by omega, fun j h _ => ?_, fun j h _ => ?_⟩
  · unfold img1
    split
    · split
      · exact ⟨onS_v hn (by omega) ha t3, rfl⟩
      · exact ⟨onS_v hn (by omega) ha t4, rfl⟩
    · exact ⟨onS_v hn h0 h1 (by decide), rfl⟩
  · simp only [img1, if_true]; exact onS_loc (by omega)
  · simp only [img1, if_true, Bool.false_eq_true, if_false]; exact onS_loc (by omega)
  · unfold img1; rw [if_neg (by omega)]; rfl
  · unfold img1; rw [if_neg (by omega)]; rfl
theorem img2_v {g : Nat} {n : Int} {a b : Nat} (hn : n ≤ 64) (ha : (a : Int) < n) (hb : (b : Int) < n) : ImgV (img2 g n a b) n := by
  intro j x h0 h1
  have on : ∀ (q : Int) (k : Nat), 0 ≤ q → q < n → PauV (onS n q k 0) := fun q k h0 h1 => onS_v hn h0 h1 (by decide)
  have ho : 0 ≤ (if j = (a : Int) then (b : Int) else a) ∧ (if j = (a : Int) then (b : Int) else a) < n := by split <;> omega
  unfold img2
  simp only
  split
  · exact ⟨on _ _ h0 h1, rfl⟩
  · split
    · exact ⟨on _ _ ho.1 ho.2, rfl⟩
    · split
      · split
        · exact ⟨((on _ _ h0 h1).mul (on _ _ ho.1 ho.2) rfl).1, rfl⟩
        · exact ⟨on _ _ h0 h1, rfl⟩
      · split
        · exact ⟨((on _ _ h0 h1).mul (on _ _ ho.1 ho.2) rfl).1, rfl⟩
        · exact ⟨on _ _ h0 h1, rfl⟩
theorem parts_i : Fn Try.prog 100 [strT ⟨#[105]⟩] (fun r => r = .tup [.sl 1 [], .sl 1 []]) := by
  refine Fn_of Try.func100 rfl (Nat.le_of_ble_eq_true rfl) (fun X => ?_)
  repeat (first | refine StepC.go ?_ | refine TV_cond_f (by first | rfl | assumption) ?_)
  exact retT_2c [.sl 1 [], .sl 1 []] (.inr rfl) rfl
theorem parts_w : Fn Try.prog 100 [strT ⟨#[119]⟩] (fun r => r = .tup [.sl 1 [], .sl 1 []]) := by
  refine Fn_of Try.func100 rfl (Nat.le_of_ble_eq_true rfl) (fun X => ?_)
  repeat (first | refine StepC.go ?_ | refine TV_cond_f (by first | rfl | assumption) ?_)
  exact retT_2c [.sl 1 [], .sl 1 []] (.inr rfl) rfl
theorem parts_wdg : Fn Try.prog 100 [strT ⟨#[119, 100, 103]⟩] (fun r => r = .tup [.sl 1 [], .sl 1 []]) := by
  refine Fn_of Try.func100 rfl (Nat.le_of_ble_eq_true rfl) (fun X => ?_)
  repeat (first | refine StepC.go ?_ | refine TV_cond_f (by first | rfl | assumption) ?_)
  exact retT_2c [.sl 1 [], .sl 1 []] (.inr rfl) rfl
theorem parts_x : Fn Try.prog 100 [strT ⟨#[120]⟩] (fun r => r = .tup [.sl 1 [], .sl 1 []]) := by
  refine Fn_of Try.func100 rfl (Nat.le_of_ble_eq_true rfl) (fun X => ?_)
  repeat (first | refine StepC.go ?_ | refine TV_cond_f (by first | rfl | assumption) ?_)
  exact retT_2c [.sl 1 [], .sl 1 []] (.inr rfl) rfl
theorem parts_y : Fn Try.prog 100 [strT ⟨#[121]⟩] (fun r => r = .tup [.sl 1 [], .sl 1 []]) := by
  refine Fn_of Try.func100 rfl (Nat.le_of_ble_eq_true rfl) (fun X => ?_)
  repeat (first | refine StepC.go ?_ | refine TV_cond_f (by first | rfl | assumption) ?_)
  exact retT_2c [.sl 1 [], .sl 1 []] (.inr rfl) rfl
theorem parts_z : Fn Try.prog 100 [strT ⟨#[122]⟩] (fun r => r = .tup [.sl 1 [], .sl 1 []]) := by
  refine Fn_of Try.func100 rfl (Nat.le_of_ble_eq_true rfl) (fun X => ?_)
  repeat (first | refine StepC.go ?_ | refine TV_cond_f (by first | rfl | assumption) ?_)
  exact retT_2c [.sl 1 [], .sl 1 []] (.inr rfl) rfl
theorem parts_h : Fn Try.prog 100 [strT ⟨#[104]⟩] (fun r => r = .tup [.sl 1 [], .sl 1 []]) := by
  refine Fn_of Try.func100 rfl (Nat.le_of_ble_eq_true rfl) (fun X => ?_)
  repeat (first | refine StepC.go ?_ | refine TV_cond_f (by first | rfl | assumption) ?_)
  exact retT_2c [.sl 1 [], .sl 1 []] (.inr rfl) rfl
theorem parts_s : Fn Try.prog 100 [strT ⟨#[115]⟩] (fun r => r = .tup [.sl 1 [], .sl 1 []]) := by
  refine Fn_of Try.func100 rfl (Nat.le_of_ble_eq_true rfl) (fun X => ?_)
  repeat (first | refine StepC.go ?_ | refine TV_cond_f (by first | rfl | assumption) ?_)
  exact retT_2c [.sl 1 [], .sl 1 []] (.inr rfl) rfl
theorem parts_sdg : Fn Try.prog 100 [strT ⟨#[115, 100, 103]⟩] (fun r => r = .tup [.sl 1 [], .sl 1 []]) := by
  refine Fn_of Try.func100 rfl (Nat.le_of_ble_eq_true rfl) (fun X => ?_)
  repeat (first | refine StepC.go ?_ | refine TV_cond_f (by first | rfl | assumption) ?_)
  exact retT_2c [.sl 1 [], .sl 1 []] (.inr rfl) rfl
theorem parts_v : Fn Try.prog 100 [strT ⟨#[118]⟩] (fun r => r = .tup [.sl 1 [], .sl 1 []]) := by
  refine Fn_of Try.func100 rfl (Nat.le_of_ble_eq_true rfl) (fun X => ?_)
  repeat (first | refine StepC.go ?_ | refine TV_cond_f (by first | rfl | assumption) ?_)
  exact retT_2c [.sl 1 [], .sl 1 []] (.inr rfl) rfl
theorem parts_vdg : Fn Try.prog 100 [strT ⟨#[118, 100, 103]⟩] (fun r => r = .tup [.sl 1 [], .sl 1 []]) := by
  refine Fn_of Try.func100 rfl (Nat.le_of_ble_eq_true rfl) (fun X => ?_)
  repeat (first | refine StepC.go ?_ | refine TV_cond_f (by first | rfl | assumption) ?_)
  exact retT_2c [.sl 1 [], .sl 1 []] (.inr rfl) rfl
theorem parts_cx : Fn Try.prog 100 [strT ⟨#[99, 120]⟩] (fun r => r = .tup [.sl 1 [], .sl 1 []]) := by
  refine Fn_of Try.func100 rfl (Nat.le_of_ble_eq_true rfl) (fun X => ?_)
  repeat (first | refine StepC.go ?_ | refine TV_cond_f (by first | rfl | assumption) ?_)
  exact retT_2c [.sl 1 [], .sl 1 []] (.inr rfl) rfl
theorem parts_cz : Fn Try.prog 100 [strT ⟨#[99, 122]⟩] (fun r => r = .tup [.sl 1 [], .sl 1 []]) := by
  refine Fn_of Try.func100 rfl (Nat.le_of_ble_eq_true rfl) (fun X => ?_)
  repeat (first | refine StepC.go ?_ | refine TV_cond_f (by first | rfl | assumption) ?_)
  exact retT_2c [.sl 1 [], .sl 1 []] (.inr rfl) rfl
theorem parts_swap : Fn Try.prog 100 [strT ⟨#[115, 119, 97, 112]⟩] (fun r => r = .tup [.sl 1 [], .sl 1 []]) := by
  refine Fn_of Try.func100 rfl (Nat.le_of_ble_eq_true rfl) (fun X => ?_)
  repeat (first | refine StepC.go ?_ | refine TV_cond_f (by first | rfl | assumption) ?_)
  exact retT_2c [.sl 1 [], .sl 1 []] (.inr rfl) rfl
theorem img2_at_cx {n : Int} {a b : Nat} (hn : n ≤ 64) (hab : a ≠ b) (ha : (a : Int) < n) (hb : (b : Int) < n) : ImgAt (img2 0 n a b) n a b ⟨0, true, false, true, false⟩ ⟨0, false, true, false, false⟩ ⟨0, false, false, true, false⟩ ⟨0, false, true, false, true⟩ := by
  have e1 : ¬ (b : Int) = (a : Int) := by omega
  have e2 : ¬ (a : Int) = (b : Int) := by omega
  refine ⟨img2_v hn ha hb, fun _ => ?_, fun _ => ?_, fun _ => ?_, fun _ => ?_, fun j h1 h2 => ?_, fun j h1 h2 => ?_⟩
  · simp [img2, e1, e2]
    exact mul_loc hn hab ha hb
  · simp [img2, e1, e2]
    exact onS_loc (by omega)
  · simp [img2, e1, e2]
    exact onS_locb hab (by omega)
  · simp [img2, e1, e2]
    exact (mul_loc hn (Ne.symm hab) hb ha).flip hab
  · have h3 : ¬ (j : Int) = a := by omega
    have h4 : ¬ (j : Int) = b := by omega
    simp [img2, h3, h4]
  · have h3 : ¬ (j : Int) = a := by omega
    have h4 : ¬ (j : Int) = b := by omega
    simp [img2, h3, h4]
theorem img2_at_cz {n : Int} {a b : Nat} (hn : n ≤ 64) (hab : a ≠ b) (ha : (a : Int) < n) (hb : (b : Int) < n) : ImgAt (img2 1 n a b) n a b ⟨0, true, false, false, true⟩ ⟨0, false, true, false, false⟩ ⟨0, false, true, true, false⟩ ⟨0, false, false, false, true⟩ := by
  have e1 : ¬ (b : Int) = (a : Int) := by omega
  have e2 : ¬ (a : Int) = (b : Int) := by omega
  refine ⟨img2_v hn ha hb, fun _ => ?_, fun _ => ?_, fun _ => ?_, fun _ => ?_, fun j h1 h2 => ?_, fun j h1 h2 => ?_⟩
  · simp [img2, e1, e2]
    exact mul_loc hn hab ha hb
  · simp [img2, e1, e2]
    exact onS_loc (by omega)
  · simp [img2, e1, e2]
    exact (mul_loc hn (Ne.symm hab) hb ha).flip hab
  · simp [img2, e1, e2]
    exact onS_locb hab (by omega)
  · have h3 : ¬ (j : Int) = a := by omega
    have h4 : ¬ (j : Int) = b := by omega
    simp [img2, h3, h4]
  · have h3 : ¬ (j : Int) = a := by omega
    have h4 : ¬ (j : Int) = b := by omega
    simp [img2, h3, h4]
theorem img2_at_swap {n : Int} {a b : Nat} (hn : n ≤ 64) (hab : a ≠ b) (ha : (a : Int) < n) (hb : (b : Int) < n) : ImgAt (img2 2 n a b) n a b ⟨0, false, false, true, false⟩ ⟨0, false, false, false, true⟩ ⟨0, true, false, false, false⟩ ⟨0, false, true, false, false⟩ := by
  have e1 : ¬ (b : Int) = (a : Int) := by omega
  have e2 : ¬ (a : Int) = (b : Int) := by omega
  refine ⟨img2_v hn ha hb, fun _ => ?_, fun _ => ?_, fun _ => ?_, fun _ => ?_, fun j h1 h2 => ?_, fun j h1 h2 => ?_⟩
  · simp [img2, e1, e2]
    exact onS_locb hab (by omega)
  · simp [img2, e1, e2]
    exact onS_locb hab (by omega)
  · simp [img2, e1, e2]
    exact onS_loc (by omega)
  · simp [img2, e1, e2]
    exact onS_loc (by omega)
  · have h3 : ¬ (j : Int) = a := by omega
    have h4 : ¬ (j : Int) = b := by omega
    simp [img2, h3, h4]
  · have h3 : ¬ (j : Int) = a := by omega
    have h4 : ¬ (j : Int) = b := by omega
    simp [img2, h3, h4]
theorem locs_i : ∀ xa za xb zb : Bool, let L : Loc := ⟨0, xa, za, xb, zb⟩
    ; xb = false → zb = false → ((stepLoc xa za (letLoc im_i.kx im_i.px) (letLoc im_i.kz im_i.pz) noLoc).ph % 4 = L.ph % 4 ∧ (stepLoc xa za (letLoc im_i.kx im_i.px) (letLoc im_i.kz im_i.pz) noLoc).xa = L.xa ∧ (stepLoc xa za (letLoc im_i.kx im_i.px) (letLoc im_i.kz im_i.pz) noLoc).za = L.za ∧ (stepLoc xa za (letLoc im_i.kx im_i.px) (letLoc im_i.kz im_i.pz) noLoc).xb = L.xb ∧ (stepLoc xa za (letLoc im_i.kx im_i.px) (letLoc im_i.kz im_i.pz) noLoc).zb = L.zb) := by decide
theorem turn_i {p : PauD} {a : Int} (hp : PauV p) (ha : 0 ≤ a ∧ a < p.n) : turnK (img1 im_i p.n a) p p.n.toNat = p := by
  obtain ⟨p1, p2, _, _, pe⟩ := pauV_iff.1 hp
  obtain ⟨a, rfl⟩ := Int.eq_ofNat_of_zero_le ha.1
  have h1 := turnK_view hp (by omega) (img1_at (t := im_i) ⟨by decide, by decide, by decide, by decide⟩ p2 ha.2) p.n.toNat (by omega)
  rw [locAt_a _ _ a 64 p.n.toNat (by omega) (by omega)] at h1
  have v := View.start hp a 64
  obtain ⟨b1, b2⟩ := pe 64 (by omega)
  have h2 := locs_i (p.x.testBit a) (p.z.testBit a) (p.x.testBit 64) (p.z.testBit 64) b1 b2
  exact h1.same (v) h2
theorem turnT_i {p : PauD} {a : Int} (hp : PauV p) (ha : 0 ≤ a ∧ a < p.n) : Fn Try.prog 66 [pauT p, strT ⟨#[105]⟩, .sl 1 [[intT a]]] (fun r => r = pauT p) := by
  obtain ⟨p1, p2, _⟩ := pauV_iff.1 hp
  have h := turnPrimT hp parts_i (fun j x h0 h1 => image_i p2 ha ⟨h0, h1⟩ x) (by
    obtain ⟨a, rfl⟩ := Int.eq_ofNat_of_zero_le ha.1
    exact (img1_at (t := im_i) ⟨by decide, by decide, by decide, by decide⟩ p2 ha.2).v)
  rw [turn_i hp ha] at h
  exact h
theorem locs_w : ∀ xa za xb zb : Bool, let L : Loc := ⟨0, xa, za, xb, zb⟩
    ; xb = false → zb = false → ((stepLoc xa za (letLoc im_w.kx im_w.px) (letLoc im_w.kz im_w.pz) noLoc).ph % 4 = L.ph % 4 ∧ (stepLoc xa za (letLoc im_w.kx im_w.px) (letLoc im_w.kz im_w.pz) noLoc).xa = L.xa ∧ (stepLoc xa za (letLoc im_w.kx im_w.px) (letLoc im_w.kz im_w.pz) noLoc).za = L.za ∧ (stepLoc xa za (letLoc im_w.kx im_w.px) (letLoc im_w.kz im_w.pz) noLoc).xb = L.xb ∧ (stepLoc xa za (letLoc im_w.kx im_w.px) (letLoc im_w.kz im_w.pz) noLoc).zb = L.zb) := by decide
theorem turn_w {p : PauD} {a : Int} (hp : PauV p) (ha : 0 ≤ a ∧ a < p.n) : turnK (img1 im_w p.n a) p p.n.toNat = p := by
  obtain ⟨p1, p2, _, _, pe⟩ := pauV_iff.1 hp
  obtain ⟨a, rfl⟩ := Int.eq_ofNat_of_zero_le ha.1
  have h1 := turnK_view hp (by omega) (img1_at (t := im_w) ⟨by decide, by decide, by decide, by decide⟩ p2 ha.2) p.n.toNat (by omega)
  rw [locAt_a _ _ a 64 p.n.toNat (by omega) (by omega)] at h1
  have v := View.start hp a 64
  obtain ⟨b1, b2⟩ := pe 64 (by omega)
  have h2 := locs_w (p.x.testBit a) (p.z.testBit a) (p.x.testBit 64) (p.z.testBit 64) b1 b2
  exact h1.same (v) h2
theorem turnT_w {p : PauD} {a : Int} (hp : PauV p) (ha : 0 ≤ a ∧ a < p.n) : Fn Try.prog 66 [pauT p, strT ⟨#[119]⟩, .sl 1 [[intT a]]] (fun r => r = pauT p) := by
  obtain ⟨p1, p2, _⟩ := pauV_iff.1 hp
  have h := turnPrimT hp parts_w (fun j x h0 h1 => image_w p2 ha ⟨h0, h1⟩ x) (by
    obtain ⟨a, rfl⟩ := Int.eq_ofNat_of_zero_le ha.1
    exact (img1_at (t := im_w) ⟨by decide, by decide, by decide, by decide⟩ p2 ha.2).v)
  rw [turn_w hp ha] at h
  exact h
theorem locs_wdg : ∀ xa za xb zb : Bool, let L : Loc := ⟨0, xa, za, xb, zb⟩
    ; xb = false → zb = false → ((stepLoc xa za (letLoc im_wdg.kx im_wdg.px) (letLoc im_wdg.kz im_wdg.pz) noLoc).ph % 4 = L.ph % 4 ∧ (stepLoc xa za (letLoc im_wdg.kx im_wdg.px) (letLoc im_wdg.kz im_wdg.pz) noLoc).xa = L.xa ∧ (stepLoc xa za (letLoc im_wdg.kx im_wdg.px) (letLoc im_wdg.kz im_wdg.pz) noLoc).za = L.za ∧ (stepLoc xa za (letLoc im_wdg.kx im_wdg.px) (letLoc im_wdg.kz im_wdg.pz) noLoc).xb = L.xb ∧ (stepLoc xa za (letLoc im_wdg.kx im_wdg.px) (letLoc im_wdg.kz im_wdg.pz) noLoc).zb = L.zb) := by decide
theorem turn_wdg {p : PauD} {a : Int} (hp : PauV p) (ha : 0 ≤ a ∧ a < p.n) : turnK (img1 im_wdg p.n a) p p.n.toNat = p := by
  obtain ⟨p1, p2, _, _, pe⟩ := pauV_iff.1 hp
  obtain ⟨a, rfl⟩ := Int.eq_ofNat_of_zero_le ha.1
  have h1 := turnK_view hp (by omega) (img1_at (t := im_wdg) ⟨by decide, by decide, by decide, by decide⟩ p2 ha.2) p.n.toNat (by omega)
  rw [locAt_a _ _ a 64 p.n.toNat (by omega) (by omega)] at h1
  have v := View.start hp a 64
  obtain ⟨b1, b2⟩ := pe 64 (by omega)
  have h2 := locs_wdg (p.x.testBit a) (p.z.testBit a) (p.x.testBit 64) (p.z.testBit 64) b1 b2
  exact h1.same (v) h2
theorem turnT_wdg {p : PauD} {a : Int} (hp : PauV p) (ha : 0 ≤ a ∧ a < p.n) : Fn Try.prog 66 [pauT p, strT ⟨#[119, 100, 103]⟩, .sl 1 [[intT a]]] (fun r => r = pauT p) := by
  obtain ⟨p1, p2, _⟩ := pauV_iff.1 hp
  have h := turnPrimT hp parts_wdg (fun j x h0 h1 => image_wdg p2 ha ⟨h0, h1⟩ x) (by
    obtain ⟨a, rfl⟩ := Int.eq_ofNat_of_zero_le ha.1
    exact (img1_at (t := im_wdg) ⟨by decide, by decide, by decide, by decide⟩ p2 ha.2).v)
  rw [turn_wdg hp ha] at h
  exact h
theorem locs_x : ∀ xa za xb zb : Bool, let L : Loc := ⟨0, xa, za, xb, zb⟩
    ; xb = false → zb = false → ((stepLoc xa za (letLoc im_x.kx im_x.px) (letLoc im_x.kz im_x.pz) noLoc).ph % 4 = (minLoc L L.za).ph % 4 ∧ (stepLoc xa za (letLoc im_x.kx im_x.px) (letLoc im_x.kz im_x.pz) noLoc).xa = (minLoc L L.za).xa ∧ (stepLoc xa za (letLoc im_x.kx im_x.px) (letLoc im_x.kz im_x.pz) noLoc).za = (minLoc L L.za).za ∧ (stepLoc xa za (letLoc im_x.kx im_x.px) (letLoc im_x.kz im_x.pz) noLoc).xb = (minLoc L L.za).xb ∧ (stepLoc xa za (letLoc im_x.kx im_x.px) (letLoc im_x.kz im_x.pz) noLoc).zb = (minLoc L L.za).zb) := by decide
theorem turn_x {p : PauD} {a : Int} (hp : PauV p) (ha : 0 ≤ a ∧ a < p.n) : turnK (img1 im_x p.n a) p p.n.toNat = (minusS p (btS p.z a)) := by
  obtain ⟨p1, p2, _, _, pe⟩ := pauV_iff.1 hp
  obtain ⟨a, rfl⟩ := Int.eq_ofNat_of_zero_le ha.1
  have h1 := turnK_view hp (by omega) (img1_at (t := im_x) ⟨by decide, by decide, by decide, by decide⟩ p2 ha.2) p.n.toNat (by omega)
  rw [locAt_a _ _ a 64 p.n.toNat (by omega) (by omega)] at h1
  have v := View.start hp a 64
  obtain ⟨b1, b2⟩ := pe 64 (by omega)
  have h2 := locs_x (p.x.testBit a) (p.z.testBit a) (p.x.testBit 64) (p.z.testBit 64) b1 b2
  have hx := v.xa
  have hz := v.za
  simp only at hx hz
  rw [hz]
  exact h1.same (v.minus _) h2
theorem turnT_x {p : PauD} {a : Int} (hp : PauV p) (ha : 0 ≤ a ∧ a < p.n) : Fn Try.prog 66 [pauT p, strT ⟨#[120]⟩, .sl 1 [[intT a]]] (fun r => r = pauT (minusS p (btS p.z a))) := by
  obtain ⟨p1, p2, _⟩ := pauV_iff.1 hp
  have h := turnPrimT hp parts_x (fun j x h0 h1 => image_x p2 ha ⟨h0, h1⟩ x) (by
    obtain ⟨a, rfl⟩ := Int.eq_ofNat_of_zero_le ha.1
    exact (img1_at (t := im_x) ⟨by decide, by decide, by decide, by decide⟩ p2 ha.2).v)
  rw [turn_x hp ha] at h
  exact h
theorem locs_y : ∀ xa za xb zb : Bool, let L : Loc := ⟨0, xa, za, xb, zb⟩
    ; xb = false → zb = false → ((stepLoc xa za (letLoc im_y.kx im_y.px) (letLoc im_y.kz im_y.pz) noLoc).ph % 4 = (minLoc L (L.xa != L.za)).ph % 4 ∧ (stepLoc xa za (letLoc im_y.kx im_y.px) (letLoc im_y.kz im_y.pz) noLoc).xa = (minLoc L (L.xa != L.za)).xa ∧ (stepLoc xa za (letLoc im_y.kx im_y.px) (letLoc im_y.kz im_y.pz) noLoc).za = (minLoc L (L.xa != L.za)).za ∧ (stepLoc xa za (letLoc im_y.kx im_y.px) (letLoc im_y.kz im_y.pz) noLoc).xb = (minLoc L (L.xa != L.za)).xb ∧ (stepLoc xa za (letLoc im_y.kx im_y.px) (letLoc im_y.kz im_y.pz) noLoc).zb = (minLoc L (L.xa != L.za)).zb) := by decide
theorem turn_y {p : PauD} {a : Int} (hp : PauV p) (ha : 0 ≤ a ∧ a < p.n) : turnK (img1 im_y p.n a) p p.n.toNat = (minusS p (btS p.x a != btS p.z a)) := by
  obtain ⟨p1, p2, _, _, pe⟩ := pauV_iff.1 hp
  obtain ⟨a, rfl⟩ := Int.eq_ofNat_of_zero_le ha.1
  have h1 := turnK_view hp (by omega) (img1_at (t := im_y) ⟨by decide, by decide, by decide, by decide⟩ p2 ha.2) p.n.toNat (by omega)
  rw [locAt_a _ _ a 64 p.n.toNat (by omega) (by omega)] at h1
  have v := View.start hp a 64
  obtain ⟨b1, b2⟩ := pe 64 (by omega)
  have h2 := locs_y (p.x.testBit a) (p.z.testBit a) (p.x.testBit 64) (p.z.testBit 64) b1 b2
  have hx := v.xa
  have hz := v.za
  simp only at hx hz
  rw [hx, hz]
  exact h1.same (v.minus _) h2
theorem turnT_y {p : PauD} {a : Int} (hp : PauV p) (ha : 0 ≤ a ∧ a < p.n) : Fn Try.prog 66 [pauT p, strT ⟨#[121]⟩, .sl 1 [[intT a]]] (fun r => r = pauT (minusS p (btS p.x a != btS p.z a))) := by
  obtain ⟨p1, p2, _⟩ := pauV_iff.1 hp
  have h := turnPrimT hp parts_y (fun j x h0 h1 => image_y p2 ha ⟨h0, h1⟩ x) (by
    obtain ⟨a, rfl⟩ := Int.eq_ofNat_of_zero_le ha.1
    exact (img1_at (t := im_y) ⟨by decide, by decide, by decide, by decide⟩ p2 ha.2).v)
  rw [turn_y hp ha] at h
  exact h
theorem locs_z : ∀ xa za xb zb : Bool, let L : Loc := ⟨0, xa, za, xb, zb⟩
    ; xb = false → zb = false → ((stepLoc xa za (letLoc im_z.kx im_z.px) (letLoc im_z.kz im_z.pz) noLoc).ph % 4 = (minLoc L L.xa).ph % 4 ∧ (stepLoc xa za (letLoc im_z.kx im_z.px) (letLoc im_z.kz im_z.pz) noLoc).xa = (minLoc L L.xa).xa ∧ (stepLoc xa za (letLoc im_z.kx im_z.px) (letLoc im_z.kz im_z.pz) noLoc).za = (minLoc L L.xa).za ∧ (stepLoc xa za (letLoc im_z.kx im_z.px) (letLoc im_z.kz im_z.pz) noLoc).xb = (minLoc L L.xa).xb ∧ (stepLoc xa za (letLoc im_z.kx im_z.px) (letLoc im_z.kz im_z.pz) noLoc).zb = (minLoc L L.xa).zb) := by decide
theorem turn_z {p : PauD} {a : Int} (hp : PauV p) (ha : 0 ≤ a ∧ a < p.n) : turnK (img1 im_z p.n a) p p.n.toNat = (minusS p (btS p.x a)) := by
  obtain ⟨p1, p2, _, _, pe⟩ := pauV_iff.1 hp
  obtain ⟨a, rfl⟩ := Int.eq_ofNat_of_zero_le ha.1
  have h1 := turnK_view hp (by omega) (img1_at (t := im_z) ⟨by decide, by decide, by decide, by decide⟩ p2 ha.2) p.n.toNat (by omega)
  rw [locAt_a _ _ a 64 p.n.toNat (by omega) (by omega)] at h1
  have v := View.start hp a 64
  obtain ⟨b1, b2⟩ := pe 64 (by omega)
  have h2 := locs_z (p.x.testBit a) (p.z.testBit a) (p.x.testBit 64) (p.z.testBit 64) b1 b2
  have hx := v.xa
  have hz := v.za
  simp only at hx hz
  rw [hx]
  exact h1.same (v.minus _) h2
theorem turnT_z {p : PauD} {a : Int} (hp : PauV p) (ha : 0 ≤ a ∧ a < p.n) : Fn Try.prog 66 [pauT p, strT ⟨#[122]⟩, .sl 1 [[intT a]]] (fun r => r = pauT (minusS p (btS p.x a))) := by
  obtain ⟨p1, p2, _⟩ := pauV_iff.1 hp
  have h := turnPrimT hp parts_z (fun j x h0 h1 => image_z p2 ha ⟨h0, h1⟩ x) (by
    obtain ⟨a, rfl⟩ := Int.eq_ofNat_of_zero_le ha.1
    exact (img1_at (t := im_z) ⟨by decide, by decide, by decide, by decide⟩ p2 ha.2).v)
  rw [turn_z hp ha] at h
  exact h
theorem locs_h : ∀ xa za xb zb : Bool, let L : Loc := ⟨0, xa, za, xb, zb⟩
    ; xb = false → zb = false → ((stepLoc xa za (letLoc im_h.kx im_h.px) (letLoc im_h.kz im_h.pz) noLoc).ph % 4 = (hLoc L).ph % 4 ∧ (stepLoc xa za (letLoc im_h.kx im_h.px) (letLoc im_h.kz im_h.pz) noLoc).xa = (hLoc L).xa ∧ (stepLoc xa za (letLoc im_h.kx im_h.px) (letLoc im_h.kz im_h.pz) noLoc).za = (hLoc L).za ∧ (stepLoc xa za (letLoc im_h.kx im_h.px) (letLoc im_h.kz im_h.pz) noLoc).xb = (hLoc L).xb ∧ (stepLoc xa za (letLoc im_h.kx im_h.px) (letLoc im_h.kz im_h.pz) noLoc).zb = (hLoc L).zb) := by decide
theorem turn_h {p : PauD} {a : Int} (hp : PauV p) (ha : 0 ≤ a ∧ a < p.n) : turnK (img1 im_h p.n a) p p.n.toNat = (hS p a) := by
  obtain ⟨p1, p2, _, _, pe⟩ := pauV_iff.1 hp
  obtain ⟨a, rfl⟩ := Int.eq_ofNat_of_zero_le ha.1
  have h1 := turnK_view hp (by omega) (img1_at (t := im_h) ⟨by decide, by decide, by decide, by decide⟩ p2 ha.2) p.n.toNat (by omega)
  rw [locAt_a _ _ a 64 p.n.toNat (by omega) (by omega)] at h1
  have v := View.start hp a 64
  obtain ⟨b1, b2⟩ := pe 64 (by omega)
  have h2 := locs_h (p.x.testBit a) (p.z.testBit a) (p.x.testBit 64) (p.z.testBit 64) b1 b2
  exact h1.same (v.h (by omega)) h2
theorem turnT_h {p : PauD} {a : Int} (hp : PauV p) (ha : 0 ≤ a ∧ a < p.n) : Fn Try.prog 66 [pauT p, strT ⟨#[104]⟩, .sl 1 [[intT a]]] (fun r => r = pauT (hS p a)) := by
  obtain ⟨p1, p2, _⟩ := pauV_iff.1 hp
  have h := turnPrimT hp parts_h (fun j x h0 h1 => image_h p2 ha ⟨h0, h1⟩ x) (by
    obtain ⟨a, rfl⟩ := Int.eq_ofNat_of_zero_le ha.1
    exact (img1_at (t := im_h) ⟨by decide, by decide, by decide, by decide⟩ p2 ha.2).v)
  rw [turn_h hp ha] at h
  exact h
theorem locs_s : ∀ xa za xb zb : Bool, let L : Loc := ⟨0, xa, za, xb, zb⟩
    ; xb = false → zb = false → ((stepLoc xa za (letLoc im_s.kx im_s.px) (letLoc im_s.kz im_s.pz) noLoc).ph % 4 = (sLoc L false).ph % 4 ∧ (stepLoc xa za (letLoc im_s.kx im_s.px) (letLoc im_s.kz im_s.pz) noLoc).xa = (sLoc L false).xa ∧ (stepLoc xa za (letLoc im_s.kx im_s.px) (letLoc im_s.kz im_s.pz) noLoc).za = (sLoc L false).za ∧ (stepLoc xa za (letLoc im_s.kx im_s.px) (letLoc im_s.kz im_s.pz) noLoc).xb = (sLoc L false).xb ∧ (stepLoc xa za (letLoc im_s.kx im_s.px) (letLoc im_s.kz im_s.pz) noLoc).zb = (sLoc L false).zb) := by decide
theorem turn_s {p : PauD} {a : Int} (hp : PauV p) (ha : 0 ≤ a ∧ a < p.n) : turnK (img1 im_s p.n a) p p.n.toNat = (sS p a false) := by
  obtain ⟨p1, p2, _, _, pe⟩ := pauV_iff.1 hp
  obtain ⟨a, rfl⟩ := Int.eq_ofNat_of_zero_le ha.1
  have h1 := turnK_view hp (by omega) (img1_at (t := im_s) ⟨by decide, by decide, by decide, by decide⟩ p2 ha.2) p.n.toNat (by omega)
  rw [locAt_a _ _ a 64 p.n.toNat (by omega) (by omega)] at h1
  have v := View.start hp a 64
  obtain ⟨b1, b2⟩ := pe 64 (by omega)
  have h2 := locs_s (p.x.testBit a) (p.z.testBit a) (p.x.testBit 64) (p.z.testBit 64) b1 b2
  exact h1.same (v.s (by omega) false) h2
theorem turnT_s {p : PauD} {a : Int} (hp : PauV p) (ha : 0 ≤ a ∧ a < p.n) : Fn Try.prog 66 [pauT p, strT ⟨#[115]⟩, .sl 1 [[intT a]]] (fun r => r = pauT (sS p a false)) := by
  obtain ⟨p1, p2, _⟩ := pauV_iff.1 hp
  have h := turnPrimT hp parts_s (fun j x h0 h1 => image_s p2 ha ⟨h0, h1⟩ x) (by
    obtain ⟨a, rfl⟩ := Int.eq_ofNat_of_zero_le ha.1
    exact (img1_at (t := im_s) ⟨by decide, by decide, by decide, by decide⟩ p2 ha.2).v)
  rw [turn_s hp ha] at h
  exact h
theorem locs_sdg : ∀ xa za xb zb : Bool, let L : Loc := ⟨0, xa, za, xb, zb⟩
    ; xb = false → zb = false → ((stepLoc xa za (letLoc im_sdg.kx im_sdg.px) (letLoc im_sdg.kz im_sdg.pz) noLoc).ph % 4 = (sLoc L true).ph % 4 ∧ (stepLoc xa za (letLoc im_sdg.kx im_sdg.px) (letLoc im_sdg.kz im_sdg.pz) noLoc).xa = (sLoc L true).xa ∧ (stepLoc xa za (letLoc im_sdg.kx im_sdg.px) (letLoc im_sdg.kz im_sdg.pz) noLoc).za = (sLoc L true).za ∧ (stepLoc xa za (letLoc im_sdg.kx im_sdg.px) (letLoc im_sdg.kz im_sdg.pz) noLoc).xb = (sLoc L true).xb ∧ (stepLoc xa za (letLoc im_sdg.kx im_sdg.px) (letLoc im_sdg.kz im_sdg.pz) noLoc).zb = (sLoc L true).zb) := by decide
theorem turn_sdg {p : PauD} {a : Int} (hp : PauV p) (ha : 0 ≤ a ∧ a < p.n) : turnK (img1 im_sdg p.n a) p p.n.toNat = (sS p a true) := by
  obtain ⟨p1, p2, _, _, pe⟩ := pauV_iff.1 hp
  obtain ⟨a, rfl⟩ := Int.eq_ofNat_of_zero_le ha.1
  have h1 := turnK_view hp (by omega) (img1_at (t := im_sdg) ⟨by decide, by decide, by decide, by decide⟩ p2 ha.2) p.n.toNat (by omega)
  rw [locAt_a _ _ a 64 p.n.toNat (by omega) (by omega)] at h1
  have v := View.start hp a 64
  obtain ⟨b1, b2⟩ := pe 64 (by omega)
  have h2 := locs_sdg (p.x.testBit a) (p.z.testBit a) (p.x.testBit 64) (p.z.testBit 64) b1 b2
  exact h1.same (v.s (by omega) true) h2
theorem turnT_sdg {p : PauD} {a : Int} (hp : PauV p) (ha : 0 ≤ a ∧ a < p.n) : Fn Try.prog 66 [pauT p, strT ⟨#[115, 100, 103]⟩, .sl 1 [[intT a]]] (fun r => r = pauT (sS p a true)) := by
  obtain ⟨p1, p2, _⟩ := pauV_iff.1 hp
  have h := turnPrimT hp parts_sdg (fun j x h0 h1 => image_sdg p2 ha ⟨h0, h1⟩ x) (by
    obtain ⟨a, rfl⟩ := Int.eq_ofNat_of_zero_le ha.1
    exact (img1_at (t := im_sdg) ⟨by decide, by decide, by decide, by decide⟩ p2 ha.2).v)
  rw [turn_sdg hp ha] at h
  exact h
theorem locs_v : ∀ xa za xb zb : Bool, let L : Loc := ⟨0, xa, za, xb, zb⟩
    ; xb = false → zb = false → ((stepLoc xa za (letLoc im_v.kx im_v.px) (letLoc im_v.kz im_v.pz) noLoc).ph % 4 = (vLoc L false).ph % 4 ∧ (stepLoc xa za (letLoc im_v.kx im_v.px) (letLoc im_v.kz im_v.pz) noLoc).xa = (vLoc L false).xa ∧ (stepLoc xa za (letLoc im_v.kx im_v.px) (letLoc im_v.kz im_v.pz) noLoc).za = (vLoc L false).za ∧ (stepLoc xa za (letLoc im_v.kx im_v.px) (letLoc im_v.kz im_v.pz) noLoc).xb = (vLoc L false).xb ∧ (stepLoc xa za (letLoc im_v.kx im_v.px) (letLoc im_v.kz im_v.pz) noLoc).zb = (vLoc L false).zb) := by decide
theorem turn_v {p : PauD} {a : Int} (hp : PauV p) (ha : 0 ≤ a ∧ a < p.n) : turnK (img1 im_v p.n a) p p.n.toNat = (vS p a false) := by
  obtain ⟨p1, p2, _, _, pe⟩ := pauV_iff.1 hp
  obtain ⟨a, rfl⟩ := Int.eq_ofNat_of_zero_le ha.1
  have h1 := turnK_view hp (by omega) (img1_at (t := im_v) ⟨by decide, by decide, by decide, by decide⟩ p2 ha.2) p.n.toNat (by omega)
  rw [locAt_a _ _ a 64 p.n.toNat (by omega) (by omega)] at h1
  have v := View.start hp a 64
  obtain ⟨b1, b2⟩ := pe 64 (by omega)
  have h2 := locs_v (p.x.testBit a) (p.z.testBit a) (p.x.testBit 64) (p.z.testBit 64) b1 b2
  exact h1.same (v.v (by omega) false) h2
theorem turnT_v {p : PauD} {a : Int} (hp : PauV p) (ha : 0 ≤ a ∧ a < p.n) : Fn Try.prog 66 [pauT p, strT ⟨#[118]⟩, .sl 1 [[intT a]]] (fun r => r = pauT (vS p a false)) := by
  obtain ⟨p1, p2, _⟩ := pauV_iff.1 hp
  have h := turnPrimT hp parts_v (fun j x h0 h1 => image_v p2 ha ⟨h0, h1⟩ x) (by
    obtain ⟨a, rfl⟩ := Int.eq_ofNat_of_zero_le ha.1
    exact (img1_at (t := im_v) ⟨by decide, by decide, by decide, by decide⟩ p2 ha.2).v)
  rw [turn_v hp ha] at h
  exact h
theorem locs_vdg : ∀ xa za xb zb : Bool, let L : Loc := ⟨0, xa, za, xb, zb⟩
    ; xb = false → zb = false → ((stepLoc xa za (letLoc im_vdg.kx im_vdg.px) (letLoc im_vdg.kz im_vdg.pz) noLoc).ph % 4 = (vLoc L true).ph % 4 ∧ (stepLoc xa za (letLoc im_vdg.kx im_vdg.px) (letLoc im_vdg.kz im_vdg.pz) noLoc).xa = (vLoc L true).xa ∧ (stepLoc xa za (letLoc im_vdg.kx im_vdg.px) (letLoc im_vdg.kz im_vdg.pz) noLoc).za = (vLoc L true).za ∧ (stepLoc xa za (letLoc im_vdg.kx im_vdg.px) (letLoc im_vdg.kz im_vdg.pz) noLoc).xb = (vLoc L true).xb ∧ (stepLoc xa za (letLoc im_vdg.kx im_vdg.px) (letLoc im_vdg.kz im_vdg.pz) noLoc).zb = (vLoc L true).zb) := by decide
theorem turn_vdg {p : PauD} {a : Int} (hp : PauV p) (ha : 0 ≤ a ∧ a < p.n) : turnK (img1 im_vdg p.n a) p p.n.toNat = (vS p a true) := by
  obtain ⟨p1, p2, _, _, pe⟩ := pauV_iff.1 hp
  obtain ⟨a, rfl⟩ := Int.eq_ofNat_of_zero_le ha.1
  have h1 := turnK_view hp (by omega) (img1_at (t := im_vdg) ⟨by decide, by decide, by decide, by decide⟩ p2 ha.2) p.n.toNat (by omega)
  rw [locAt_a _ _ a 64 p.n.toNat (by omega) (by omega)] at h1
  have v := View.start hp a 64
  obtain ⟨b1, b2⟩ := pe 64 (by omega)
  have h2 := locs_vdg (p.x.testBit a) (p.z.testBit a) (p.x.testBit 64) (p.z.testBit 64) b1 b2
  exact h1.same (v.v (by omega) true) h2
theorem turnT_vdg {p : PauD} {a : Int} (hp : PauV p) (ha : 0 ≤ a ∧ a < p.n) : Fn Try.prog 66 [pauT p, strT ⟨#[118, 100, 103]⟩, .sl 1 [[intT a]]] (fun r => r = pauT (vS p a true)) := by
  obtain ⟨p1, p2, _⟩ := pauV_iff.1 hp
  have h := turnPrimT hp parts_vdg (fun j x h0 h1 => image_vdg p2 ha ⟨h0, h1⟩ x) (by
    obtain ⟨a, rfl⟩ := Int.eq_ofNat_of_zero_le ha.1
    exact (img1_at (t := im_vdg) ⟨by decide, by decide, by decide, by decide⟩ p2 ha.2).v)
  rw [turn_vdg hp ha] at h
  exact h
theorem locs_cx : ∀ xa za xb zb : Bool, let L : Loc := ⟨0, xa, za, xb, zb⟩
    ; ((stepLoc xb zb ⟨0, false, false, true, false⟩ ⟨0, false, true, false, true⟩ (stepLoc xa za ⟨0, true, false, true, false⟩ ⟨0, false, true, false, false⟩ noLoc)).ph % 4 = (cxLoc L).ph % 4 ∧ (stepLoc xb zb ⟨0, false, false, true, false⟩ ⟨0, false, true, false, true⟩ (stepLoc xa za ⟨0, true, false, true, false⟩ ⟨0, false, true, false, false⟩ noLoc)).xa = (cxLoc L).xa ∧ (stepLoc xb zb ⟨0, false, false, true, false⟩ ⟨0, false, true, false, true⟩ (stepLoc xa za ⟨0, true, false, true, false⟩ ⟨0, false, true, false, false⟩ noLoc)).za = (cxLoc L).za ∧ (stepLoc xb zb ⟨0, false, false, true, false⟩ ⟨0, false, true, false, true⟩ (stepLoc xa za ⟨0, true, false, true, false⟩ ⟨0, false, true, false, false⟩ noLoc)).xb = (cxLoc L).xb ∧ (stepLoc xb zb ⟨0, false, false, true, false⟩ ⟨0, false, true, false, true⟩ (stepLoc xa za ⟨0, true, false, true, false⟩ ⟨0, false, true, false, false⟩ noLoc)).zb = (cxLoc L).zb) ∧
    ((stepLoc xa za ⟨0, true, false, true, false⟩ ⟨0, false, true, false, false⟩ (stepLoc xb zb ⟨0, false, false, true, false⟩ ⟨0, false, true, false, true⟩ noLoc)).ph % 4 = (cxLoc L).ph % 4 ∧ (stepLoc xa za ⟨0, true, false, true, false⟩ ⟨0, false, true, false, false⟩ (stepLoc xb zb ⟨0, false, false, true, false⟩ ⟨0, false, true, false, true⟩ noLoc)).xa = (cxLoc L).xa ∧ (stepLoc xa za ⟨0, true, false, true, false⟩ ⟨0, false, true, false, false⟩ (stepLoc xb zb ⟨0, false, false, true, false⟩ ⟨0, false, true, false, true⟩ noLoc)).za = (cxLoc L).za ∧ (stepLoc xa za ⟨0, true, false, true, false⟩ ⟨0, false, true, false, false⟩ (stepLoc xb zb ⟨0, false, false, true, false⟩ ⟨0, false, true, false, true⟩ noLoc)).xb = (cxLoc L).xb ∧ (stepLoc xa za ⟨0, true, false, true, false⟩ ⟨0, false, true, false, false⟩ (stepLoc xb zb ⟨0, false, false, true, false⟩ ⟨0, false, true, false, true⟩ noLoc)).zb = (cxLoc L).zb) := by decide
theorem turn_cx {p : PauD} {a b : Int} (hp : PauV p) (ha : 0 ≤ a ∧ a < p.n) (hb : 0 ≤ b ∧ b < p.n) (hab : a ≠ b) : turnK (img2 0 p.n a b) p p.n.toNat = (cxS p a b) := by
  obtain ⟨p1, p2, _⟩ := pauV_iff.1 hp
  obtain ⟨a, rfl⟩ := Int.eq_ofNat_of_zero_le ha.1
  obtain ⟨b, rfl⟩ := Int.eq_ofNat_of_zero_le hb.1
  have hab : a ≠ b := fun h => hab (by rw [h])
  have h1 := turnK_view hp hab (img2_at_cx p2 hab ha.2 hb.2) p.n.toNat (by omega)
  rw [locAt_ab _ _ a b hab p.n.toNat (by omega) (by omega)] at h1
  have v := View.start hp a b
  have h2 := locs_cx (p.x.testBit a) (p.z.testBit a) (p.x.testBit b) (p.z.testBit b)
  refine h1.same (v.cx hab (by omega) (by omega)) ?_
  split
  · exact h2.1
  · exact h2.2
theorem turnT_cx {p : PauD} {a b : Int} (hp : PauV p) (ha : 0 ≤ a ∧ a < p.n) (hb : 0 ≤ b ∧ b < p.n) (hab : a ≠ b) : Fn Try.prog 66 [pauT p, strT ⟨#[99, 120]⟩, .sl 1 [[intT a], [intT b]]] (fun r => r = pauT (cxS p a b)) := by
  obtain ⟨p1, p2, _⟩ := pauV_iff.1 hp
  have h := turnPrimT hp parts_cx (fun j x h0 h1 => image_cx p2 ha hb hab ⟨h0, h1⟩ x) (by
    obtain ⟨a, rfl⟩ := Int.eq_ofNat_of_zero_le ha.1
    obtain ⟨b, rfl⟩ := Int.eq_ofNat_of_zero_le hb.1
    exact img2_v p2 ha.2 hb.2)
  rw [turn_cx hp ha hb hab] at h
  exact h
theorem locs_cz : ∀ xa za xb zb : Bool, let L : Loc := ⟨0, xa, za, xb, zb⟩
    ; ((stepLoc xb zb ⟨0, false, true, true, false⟩ ⟨0, false, false, false, true⟩ (stepLoc xa za ⟨0, true, false, false, true⟩ ⟨0, false, true, false, false⟩ noLoc)).ph % 4 = (hLoc (cxLoc (hLoc L.swap).swap).swap).swap.ph % 4 ∧ (stepLoc xb zb ⟨0, false, true, true, false⟩ ⟨0, false, false, false, true⟩ (stepLoc xa za ⟨0, true, false, false, true⟩ ⟨0, false, true, false, false⟩ noLoc)).xa = (hLoc (cxLoc (hLoc L.swap).swap).swap).swap.xa ∧ (stepLoc xb zb ⟨0, false, true, true, false⟩ ⟨0, false, false, false, true⟩ (stepLoc xa za ⟨0, true, false, false, true⟩ ⟨0, false, true, false, false⟩ noLoc)).za = (hLoc (cxLoc (hLoc L.swap).swap).swap).swap.za ∧ (stepLoc xb zb ⟨0, false, true, true, false⟩ ⟨0, false, false, false, true⟩ (stepLoc xa za ⟨0, true, false, false, true⟩ ⟨0, false, true, false, false⟩ noLoc)).xb = (hLoc (cxLoc (hLoc L.swap).swap).swap).swap.xb ∧ (stepLoc xb zb ⟨0, false, true, true, false⟩ ⟨0, false, false, false, true⟩ (stepLoc xa za ⟨0, true, false, false, true⟩ ⟨0, false, true, false, false⟩ noLoc)).zb = (hLoc (cxLoc (hLoc L.swap).swap).swap).swap.zb) ∧
    ((stepLoc xa za ⟨0, true, false, false, true⟩ ⟨0, false, true, false, false⟩ (stepLoc xb zb ⟨0, false, true, true, false⟩ ⟨0, false, false, false, true⟩ noLoc)).ph % 4 = (hLoc (cxLoc (hLoc L.swap).swap).swap).swap.ph % 4 ∧ (stepLoc xa za ⟨0, true, false, false, true⟩ ⟨0, false, true, false, false⟩ (stepLoc xb zb ⟨0, false, true, true, false⟩ ⟨0, false, false, false, true⟩ noLoc)).xa = (hLoc (cxLoc (hLoc L.swap).swap).swap).swap.xa ∧ (stepLoc xa za ⟨0, true, false, false, true⟩ ⟨0, false, true, false, false⟩ (stepLoc xb zb ⟨0, false, true, true, false⟩ ⟨0, false, false, false, true⟩ noLoc)).za = (hLoc (cxLoc (hLoc L.swap).swap).swap).swap.za ∧ (stepLoc xa za ⟨0, true, false, false, true⟩ ⟨0, false, true, false, false⟩ (stepLoc xb zb ⟨0, false, true, true, false⟩ ⟨0, false, false, false, true⟩ noLoc)).xb = (hLoc (cxLoc (hLoc L.swap).swap).swap).swap.xb ∧ (stepLoc xa za ⟨0, true, false, false, true⟩ ⟨0, false, true, false, false⟩ (stepLoc xb zb ⟨0, false, true, true, false⟩ ⟨0, false, false, false, true⟩ noLoc)).zb = (hLoc (cxLoc (hLoc L.swap).swap).swap).swap.zb) := by decide
theorem turn_cz {p : PauD} {a b : Int} (hp : PauV p) (ha : 0 ≤ a ∧ a < p.n) (hb : 0 ≤ b ∧ b < p.n) (hab : a ≠ b) : turnK (img2 1 p.n a b) p p.n.toNat = (hS (cxS (hS p b) a b) b) := by
  obtain ⟨p1, p2, _⟩ := pauV_iff.1 hp
  obtain ⟨a, rfl⟩ := Int.eq_ofNat_of_zero_le ha.1
  obtain ⟨b, rfl⟩ := Int.eq_ofNat_of_zero_le hb.1
  have hab : a ≠ b := fun h => hab (by rw [h])
  have h1 := turnK_view hp hab (img2_at_cz p2 hab ha.2 hb.2) p.n.toNat (by omega)
  rw [locAt_ab _ _ a b hab p.n.toNat (by omega) (by omega)] at h1
  have v := View.start hp a b
  have h2 := locs_cz (p.x.testBit a) (p.z.testBit a) (p.x.testBit b) (p.z.testBit b)
  refine h1.same (((((((v.swap hab).h (by omega)).swap (Ne.symm hab)).cx hab (by omega) (by omega)).swap hab).h (by omega)).swap (Ne.symm hab)) ?_
  split
  · exact h2.1
  · exact h2.2
theorem turnT_cz {p : PauD} {a b : Int} (hp : PauV p) (ha : 0 ≤ a ∧ a < p.n) (hb : 0 ≤ b ∧ b < p.n) (hab : a ≠ b) : Fn Try.prog 66 [pauT p, strT ⟨#[99, 122]⟩, .sl 1 [[intT a], [intT b]]] (fun r => r = pauT (hS (cxS (hS p b) a b) b)) := by
  obtain ⟨p1, p2, _⟩ := pauV_iff.1 hp
  have h := turnPrimT hp parts_cz (fun j x h0 h1 => image_cz p2 ha hb hab ⟨h0, h1⟩ x) (by
    obtain ⟨a, rfl⟩ := Int.eq_ofNat_of_zero_le ha.1
    obtain ⟨b, rfl⟩ := Int.eq_ofNat_of_zero_le hb.1
    exact img2_v p2 ha.2 hb.2)
  rw [turn_cz hp ha hb hab] at h
  exact h
theorem locs_swap : ∀ xa za xb zb : Bool, let L : Loc := ⟨0, xa, za, xb, zb⟩
    ; ((stepLoc xb zb ⟨0, true, false, false, false⟩ ⟨0, false, true, false, false⟩ (stepLoc xa za ⟨0, false, false, true, false⟩ ⟨0, false, false, false, true⟩ noLoc)).ph % 4 = (cxLoc (cxLoc (cxLoc L).swap).swap).ph % 4 ∧ (stepLoc xb zb ⟨0, true, false, false, false⟩ ⟨0, false, true, false, false⟩ (stepLoc xa za ⟨0, false, false, true, false⟩ ⟨0, false, false, false, true⟩ noLoc)).xa = (cxLoc (cxLoc (cxLoc L).swap).swap).xa ∧ (stepLoc xb zb ⟨0, true, false, false, false⟩ ⟨0, false, true, false, false⟩ (stepLoc xa za ⟨0, false, false, true, false⟩ ⟨0, false, false, false, true⟩ noLoc)).za = (cxLoc (cxLoc (cxLoc L).swap).swap).za ∧ (stepLoc xb zb ⟨0, true, false, false, false⟩ ⟨0, false, true, false, false⟩ (stepLoc xa za ⟨0, false, false, true, false⟩ ⟨0, false, false, false, true⟩ noLoc)).xb = (cxLoc (cxLoc (cxLoc L).swap).swap).xb ∧ (stepLoc xb zb ⟨0, true, false, false, false⟩ ⟨0, false, true, false, false⟩ (stepLoc xa za ⟨0, false, false, true, false⟩ ⟨0, false, false, false, true⟩ noLoc)).zb = (cxLoc (cxLoc (cxLoc L).swap).swap).zb) ∧
    ((stepLoc xa za ⟨0, false, false, true, false⟩ ⟨0, false, false, false, true⟩ (stepLoc xb zb ⟨0, true, false, false, false⟩ ⟨0, false, true, false, false⟩ noLoc)).ph % 4 = (cxLoc (cxLoc (cxLoc L).swap).swap).ph % 4 ∧ (stepLoc xa za ⟨0, false, false, true, false⟩ ⟨0, false, false, false, true⟩ (stepLoc xb zb ⟨0, true, false, false, false⟩ ⟨0, false, true, false, false⟩ noLoc)).xa = (cxLoc (cxLoc (cxLoc L).swap).swap).xa ∧ (stepLoc xa za ⟨0, false, false, true, false⟩ ⟨0, false, false, false, true⟩ (stepLoc xb zb ⟨0, true, false, false, false⟩ ⟨0, false, true, false, false⟩ noLoc)).za = (cxLoc (cxLoc (cxLoc L).swap).swap).za ∧ (stepLoc xa za ⟨0, false, false, true, false⟩ ⟨0, false, false, false, true⟩ (stepLoc xb zb ⟨0, true, false, false, false⟩ ⟨0, false, true, false, false⟩ noLoc)).xb = (cxLoc (cxLoc (cxLoc L).swap).swap).xb ∧ (stepLoc xa za ⟨0, false, false, true, false⟩ ⟨0, false, false, false, true⟩ (stepLoc xb zb ⟨0, true, false, false, false⟩ ⟨0, false, true, false, false⟩ noLoc)).zb = (cxLoc (cxLoc (cxLoc L).swap).swap).zb) := by decide
theorem turn_swap {p : PauD} {a b : Int} (hp : PauV p) (ha : 0 ≤ a ∧ a < p.n) (hb : 0 ≤ b ∧ b < p.n) (hab : a ≠ b) : turnK (img2 2 p.n a b) p p.n.toNat = (cxS (cxS (cxS p a b) b a) a b) := by
  obtain ⟨p1, p2, _⟩ := pauV_iff.1 hp
  obtain ⟨a, rfl⟩ := Int.eq_ofNat_of_zero_le ha.1
  obtain ⟨b, rfl⟩ := Int.eq_ofNat_of_zero_le hb.1
  have hab : a ≠ b := fun h => hab (by rw [h])
  have h1 := turnK_view hp hab (img2_at_swap p2 hab ha.2 hb.2) p.n.toNat (by omega)
  rw [locAt_ab _ _ a b hab p.n.toNat (by omega) (by omega)] at h1
  have v := View.start hp a b
  have h2 := locs_swap (p.x.testBit a) (p.z.testBit a) (p.x.testBit b) (p.z.testBit b)
  refine h1.same (((((v.cx hab (by omega) (by omega)).swap hab).cx (Ne.symm hab) (by omega) (by omega)).swap (Ne.symm hab)).cx hab (by omega) (by omega)) ?_
  split
  · exact h2.1
  · exact h2.2
theorem turnT_swap {p : PauD} {a b : Int} (hp : PauV p) (ha : 0 ≤ a ∧ a < p.n) (hb : 0 ≤ b ∧ b < p.n) (hab : a ≠ b) : Fn Try.prog 66 [pauT p, strT ⟨#[115, 119, 97, 112]⟩, .sl 1 [[intT a], [intT b]]] (fun r => r = pauT (cxS (cxS (cxS p a b) b a) a b)) := by
  obtain ⟨p1, p2, _⟩ := pauV_iff.1 hp
  have h := turnPrimT hp parts_swap (fun j x h0 h1 => image_swap p2 ha hb hab ⟨h0, h1⟩ x) (by
    obtain ⟨a, rfl⟩ := Int.eq_ofNat_of_zero_le ha.1
    obtain ⟨b, rfl⟩ := Int.eq_ofNat_of_zero_le hb.1
    exact img2_v p2 ha.2 hb.2)
  rw [turn_swap hp ha hb hab] at h
  exact h
end Go.Ideal

-- Vm
set_option linter.unusedSimpArgs false
set_option linter.unusedVariables false
namespace Go.Ideal
open Go Go.Proofs Go.RowKit
/-! ### Gates that are made of others (printed by gencomp.py) -/
def strRows (xs : List ByteArray) : List (List Tr) := xs.map fun x => [strT x]
def rowsW (w : Int) (a b : Int) : List (List Tr) := if w = 0 then [[intT a]] else if w = 1 then [[intT b]] else if w = 2 then [[intT a], [intT b]] else [[intT b], [intT a]]
set_option synthInstance.maxSize 4000 in
set_option synthInstance.maxHeartbeats 400000 in
set_option maxHeartbeats 4000000 in
theorem turnCompT {nm : ByteArray} {names : List ByteArray} {which : List Int} {p : PauD} {a b : Int} (hparts : Fn Try.prog 100 [strT nm] (fun r => r = .tup [.sl 1 (strRows names), .sl 1 (intRows which)]))
    (hl : which.length = names.length) (h0 : 0 < names.length) (h9 : names.length < 9) (st : Nat → PauD) (hs0 : st 0 = p)
    (hst : ∀ i s w, names[i]? = some s → which[i]? = some w → (w = 0 ∨ w = 1 ∨ w = 2 ∨ w = 3) ∧ Fn Try.prog 66 [pauT (st i), strT s, .sl 1 (rowsW w a b)] (fun r => r = pauT (st (i + 1)))) :
    Fn Try.prog 66 [pauT p, strT nm, .sl 1 [[intT a], [intT b]]] (fun r => r = pauT (st names.length)) := by
  refine Fn_of Try.func66 rfl (Nat.le_of_ble_eq_true rfl) (fun X => ?_)
  have hln : (strRows names).length = names.length := by simp [strRows]
  repeat (first | refine StepC.go ?_ | intro _)
  rename_i pp pr
  refine TS_call hparts ?_
  rintro _ rfl
  have d0 : decide ((0 : Int) < ((strRows names).length : Int)) = true := by rw [hln]; simpa using h0
  repeat (first | refine StepC.go ?_ | refine TV_cond_t (by first | rfl | assumption) ?_)
  refine TV_loop (fun d σ B => ∃ (i : Nat), d = names.length - i ∧ i ≤ names.length ∧ TGet σ 9 (intT i) ∧ TGet σ 7 (.sl 1 (strRows names)) ∧ TGet σ 8 (.sl 1 (intRows which)) ∧ TGet σ 2 (.sl 1 [[intT a], [intT b]]) ∧ TGet σ 3 (ptrT pp) ∧ TGet σ 6 (ptrT pr) ∧
      SubP B [(pp, .cells (pauCs (st i)) 27 true), (pr, .cells [intT 0, u64T 0, u64T 0, intT 0] 27 true)]) names.length
    ⟨0, by omega, by omega, tget_as rfl, inferInstance, inferInstance, inferInstance, inferInstance, inferInstance, by rw [hs0]; infer_instance⟩ ?_
  rintro d σ B ⟨i, rfl, hi, g9, g7, g8, g2, g3, g6, hB⟩
  refine TV_keep _ (p := hB) ?_
  repeat (refine StepC.go ?_)
  rw [hln]
  refine TV_cond ?_ ?_ <;> intro hc
  · have hil : i < names.length := by have := of_decide_eq_true hc; omega
    obtain ⟨s, hs⟩ : ∃ s, names[i]? = some s := ⟨_, List.getElem?_eq_getElem hil⟩
    obtain ⟨w, hw⟩ : ∃ w, which[i]? = some w := ⟨_, List.getElem?_eq_getElem (by omega)⟩
    have ngs : NthG (strRows names) i [strT s] := .map (fun x => [strT x]) hs
    have ngw : NthG (intRows which) i [intT w] := .map (fun x => [intT x]) hw
    obtain ⟨hw4, hcall⟩ := hst i s w hs hw
    rcases hw4 with rfl | rfl | rfl | rfl
    all_goals repeat (first | refine StepC.go ?_ | intro _ | refine TD_take rfl rfl ?_ | refine TD_load rfl rfl ?_ | refine TD_one rfl ?_ | refine FiltT_nil ?_ | refine FiltT_drop rfl ?_ | refine TV_draw (id := 14) (plan := [.take 0, .take 1, .take 2, .take 3, .take 4, .take 5, .one 6, .take 7]) (by kernel_rfl) ?_ | refine TV_draw (id := 8) (plan := [.take 0, .take 1, .take 2, .take 3, .take 4, .take 5, .one 6, .take 7]) (by kernel_rfl) ?_ | refine TV_draw (id := 15) (plan := [.take 0, .take 1, .take 2, .take 3, .take 4, .take 5, .one 6, .one 7]) (by kernel_rfl) ?_ | refine TV_cond_t (by first | rfl | assumption) ?_ | refine TV_cond_f (by first | rfl | assumption) ?_)
    all_goals refine TS_callE hcall ?_
    all_goals repeat (first | refine StepC.go ?_ | refine TS_puw (Pu.addi (by omega)) ?_ | refine TD_one rfl ?_ | refine FiltT_nil ?_)
    all_goals refine ⟨_, ?_, i + 1, rfl, by omega, tget_as rfl, inferInstance, inferInstance, inferInstance, inferInstance, inferInstance, inferInstance⟩
    all_goals omega
  · have hil : i = names.length := by have := of_decide_eq_false hc; omega
    subst hil
    repeat (refine StepC.go ?_)
    exact retT_1 (.inr rfl) rfl
theorem parts_cy : Fn Try.prog 100 [strT (⟨#[99, 121]⟩ : ByteArray)] (fun r => r = .tup [.sl 1 (strRows [(⟨#[115, 100, 103]⟩ : ByteArray), (⟨#[99, 120]⟩ : ByteArray), (⟨#[115]⟩ : ByteArray)]), .sl 1 (intRows [1, 2, 1])]) := by
  refine Fn_of Try.func100 rfl (Nat.le_of_ble_eq_true rfl) (fun X => ?_)
  repeat (first | refine StepC.go ?_ | intro _ | refine TV_cond_t (by first | rfl | assumption) ?_)
  exact retT_2 (.inr rfl) rfl
theorem turnT_cy {p : PauD} {a b : Int} (hp : PauV p) (ha : 0 ≤ a ∧ a < p.n) (hb : 0 ≤ b ∧ b < p.n) (hab : a ≠ b) : Fn Try.prog 66 [pauT p, strT (⟨#[99, 121]⟩ : ByteArray), .sl 1 [[intT a], [intT b]]] (fun r => r = pauT (sS (cxS (sS p b true) a b) b false)) := by
  have v1 : PauV (sS p b true) := sS_v hp (by simpa only [hS_n, sS_n, cxS_n] using hb) _
  have v2 : PauV (cxS (sS p b true) a b) := cxS_v v1 (by simpa only [hS_n, sS_n, cxS_n] using ha) (by simpa only [hS_n, sS_n, cxS_n] using hb)
  have v3 : PauV (sS (cxS (sS p b true) a b) b false) := sS_v v2 (by simpa only [hS_n, sS_n, cxS_n] using hb) _
  refine turnCompT parts_cy rfl (by decide) (by decide) (fun i => match i with | 0 => p | 1 => (sS p b true) | 2 => (cxS (sS p b true) a b) | _ => (sS (cxS (sS p b true) a b) b false)) rfl (fun i s w h1 h2 => ?_)
  match i with
  | 0 =>
    simp only [List.getElem?_cons_zero, List.getElem?_cons_succ, Option.some.injEq] at h1 h2
    subst h1; subst h2
    exact ⟨by decide, turnT_sdg hp (by simpa only [hS_n, sS_n, cxS_n] using hb)⟩
  | 1 =>
    simp only [List.getElem?_cons_zero, List.getElem?_cons_succ, Option.some.injEq] at h1 h2
    subst h1; subst h2
    exact ⟨by decide, turnT_cx v1 (by simpa only [hS_n, sS_n, cxS_n] using ha) (by simpa only [hS_n, sS_n, cxS_n] using hb) hab⟩
  | 2 =>
    simp only [List.getElem?_cons_zero, List.getElem?_cons_succ, Option.some.injEq] at h1 h2
    subst h1; subst h2
    exact ⟨by decide, turnT_s v2 (by simpa only [hS_n, sS_n, cxS_n] using hb)⟩
  | n + 3 => simp at h1
theorem parts_iswap : Fn Try.prog 100 [strT (⟨#[105, 115, 119, 97, 112]⟩ : ByteArray)] (fun r => r = .tup [.sl 1 (strRows [(⟨#[115]⟩ : ByteArray), (⟨#[115]⟩ : ByteArray), (⟨#[104]⟩ : ByteArray), (⟨#[99, 120]⟩ : ByteArray), (⟨#[99, 120]⟩ : ByteArray), (⟨#[104]⟩ : ByteArray)]), .sl 1 (intRows [0, 1, 0, 2, 3, 1])]) := by
  refine Fn_of Try.func100 rfl (Nat.le_of_ble_eq_true rfl) (fun X => ?_)
  repeat (first | refine StepC.go ?_ | intro _ | refine TV_cond_t (by first | rfl | assumption) ?_ | refine TV_cond_f (by first | rfl | assumption) ?_)
  exact retT_2 (.inr rfl) rfl
theorem turnT_iswap {p : PauD} {a b : Int} (hp : PauV p) (ha : 0 ≤ a ∧ a < p.n) (hb : 0 ≤ b ∧ b < p.n) (hab : a ≠ b) : Fn Try.prog 66 [pauT p, strT (⟨#[105, 115, 119, 97, 112]⟩ : ByteArray), .sl 1 [[intT a], [intT b]]] (fun r => r = pauT (hS (cxS (cxS (hS (sS (sS p a false) b false) a) a b) b a) b)) := by
  have v1 : PauV (sS p a false) := sS_v hp (by simpa only [hS_n, sS_n, cxS_n] using ha) _
  have v2 : PauV (sS (sS p a false) b false) := sS_v v1 (by simpa only [hS_n, sS_n, cxS_n] using hb) _
  have v3 : PauV (hS (sS (sS p a false) b false) a) := hS_v v2 (by simpa only [hS_n, sS_n, cxS_n] using ha)
  have v4 : PauV (cxS (hS (sS (sS p a false) b false) a) a b) := cxS_v v3 (by simpa only [hS_n, sS_n, cxS_n] using ha) (by simpa only [hS_n, sS_n, cxS_n] using hb)
  have v5 : PauV (cxS (cxS (hS (sS (sS p a false) b false) a) a b) b a) := cxS_v v4 (by simpa only [hS_n, sS_n, cxS_n] using hb) (by simpa only [hS_n, sS_n, cxS_n] using ha)
  have v6 : PauV (hS (cxS (cxS (hS (sS (sS p a false) b false) a) a b) b a) b) := hS_v v5 (by simpa only [hS_n, sS_n, cxS_n] using hb)
  refine turnCompT parts_iswap rfl (by decide) (by decide) (fun i => match i with | 0 => p | 1 => (sS p a false) | 2 => (sS (sS p a false) b false) | 3 => (hS (sS (sS p a false) b false) a) | 4 => (cxS (hS (sS (sS p a false) b false) a) a b) | 5 => (cxS (cxS (hS (sS (sS p a false) b false) a) a b) b a) | _ => (hS (cxS (cxS (hS (sS (sS p a false) b false) a) a b) b a) b)) rfl (fun i s w h1 h2 => ?_)
  match i with
  | 0 =>
    simp only [List.getElem?_cons_zero, List.getElem?_cons_succ, Option.some.injEq] at h1 h2
    subst h1; subst h2
    exact ⟨by decide, turnT_s hp (by simpa only [hS_n, sS_n, cxS_n] using ha)⟩
  | 1 =>
    simp only [List.getElem?_cons_zero, List.getElem?_cons_succ, Option.some.injEq] at h1 h2
    subst h1; subst h2
    exact ⟨by decide, turnT_s v1 (by simpa only [hS_n, sS_n, cxS_n] using hb)⟩
  | 2 =>
    simp only [List.getElem?_cons_zero, List.getElem?_cons_succ, Option.some.injEq] at h1 h2
    subst h1; subst h2
    exact ⟨by decide, turnT_h v2 (by simpa only [hS_n, sS_n, cxS_n] using ha)⟩
  | 3 =>
    simp only [List.getElem?_cons_zero, List.getElem?_cons_succ, Option.some.injEq] at h1 h2
    subst h1; subst h2
    exact ⟨by decide, turnT_cx v3 (by simpa only [hS_n, sS_n, cxS_n] using ha) (by simpa only [hS_n, sS_n, cxS_n] using hb) hab⟩
  | 4 =>
    simp only [List.getElem?_cons_zero, List.getElem?_cons_succ, Option.some.injEq] at h1 h2
    subst h1; subst h2
    exact ⟨by decide, turnT_cx v4 (by simpa only [hS_n, sS_n, cxS_n] using hb) (by simpa only [hS_n, sS_n, cxS_n] using ha) (Ne.symm hab)⟩
  | 5 =>
    simp only [List.getElem?_cons_zero, List.getElem?_cons_succ, Option.some.injEq] at h1 h2
    subst h1; subst h2
    exact ⟨by decide, turnT_h v5 (by simpa only [hS_n, sS_n, cxS_n] using hb)⟩
  | n + 6 => simp at h1
theorem parts_iswapdg : Fn Try.prog 100 [strT (⟨#[105, 115, 119, 97, 112, 100, 103]⟩ : ByteArray)] (fun r => r = .tup [.sl 1 (strRows [(⟨#[104]⟩ : ByteArray), (⟨#[99, 120]⟩ : ByteArray), (⟨#[99, 120]⟩ : ByteArray), (⟨#[104]⟩ : ByteArray), (⟨#[115, 100, 103]⟩ : ByteArray), (⟨#[115, 100, 103]⟩ : ByteArray)]), .sl 1 (intRows [1, 3, 2, 0, 1, 0])]) := by
  refine Fn_of Try.func100 rfl (Nat.le_of_ble_eq_true rfl) (fun X => ?_)
  repeat (first | refine StepC.go ?_ | intro _ | refine TV_cond_t (by first | rfl | assumption) ?_ | refine TV_cond_f (by first | rfl | assumption) ?_)
  exact retT_2 (.inr rfl) rfl
theorem turnT_iswapdg {p : PauD} {a b : Int} (hp : PauV p) (ha : 0 ≤ a ∧ a < p.n) (hb : 0 ≤ b ∧ b < p.n) (hab : a ≠ b) : Fn Try.prog 66 [pauT p, strT (⟨#[105, 115, 119, 97, 112, 100, 103]⟩ : ByteArray), .sl 1 [[intT a], [intT b]]] (fun r => r = pauT (sS (sS (hS (cxS (cxS (hS p b) b a) a b) a) b true) a true)) := by
  have v1 : PauV (hS p b) := hS_v hp (by simpa only [hS_n, sS_n, cxS_n] using hb)
  have v2 : PauV (cxS (hS p b) b a) := cxS_v v1 (by simpa only [hS_n, sS_n, cxS_n] using hb) (by simpa only [hS_n, sS_n, cxS_n] using ha)
  have v3 : PauV (cxS (cxS (hS p b) b a) a b) := cxS_v v2 (by simpa only [hS_n, sS_n, cxS_n] using ha) (by simpa only [hS_n, sS_n, cxS_n] using hb)
  have v4 : PauV (hS (cxS (cxS (hS p b) b a) a b) a) := hS_v v3 (by simpa only [hS_n, sS_n, cxS_n] using ha)
  have v5 : PauV (sS (hS (cxS (cxS (hS p b) b a) a b) a) b true) := sS_v v4 (by simpa only [hS_n, sS_n, cxS_n] using hb) _
  have v6 : PauV (sS (sS (hS (cxS (cxS (hS p b) b a) a b) a) b true) a true) := sS_v v5 (by simpa only [hS_n, sS_n, cxS_n] using ha) _
  refine turnCompT parts_iswapdg rfl (by decide) (by decide) (fun i => match i with | 0 => p | 1 => (hS p b) | 2 => (cxS (hS p b) b a) | 3 => (cxS (cxS (hS p b) b a) a b) | 4 => (hS (cxS (cxS (hS p b) b a) a b) a) | 5 => (sS (hS (cxS (cxS (hS p b) b a) a b) a) b true) | _ => (sS (sS (hS (cxS (cxS (hS p b) b a) a b) a) b true) a true)) rfl (fun i s w h1 h2 => ?_)
  match i with
  | 0 =>
    simp only [List.getElem?_cons_zero, List.getElem?_cons_succ, Option.some.injEq] at h1 h2
    subst h1; subst h2
    exact ⟨by decide, turnT_h hp (by simpa only [hS_n, sS_n, cxS_n] using hb)⟩
  | 1 =>
    simp only [List.getElem?_cons_zero, List.getElem?_cons_succ, Option.some.injEq] at h1 h2
    subst h1; subst h2
    exact ⟨by decide, turnT_cx v1 (by simpa only [hS_n, sS_n, cxS_n] using hb) (by simpa only [hS_n, sS_n, cxS_n] using ha) (Ne.symm hab)⟩
  | 2 =>
    simp only [List.getElem?_cons_zero, List.getElem?_cons_succ, Option.some.injEq] at h1 h2
    subst h1; subst h2
    exact ⟨by decide, turnT_cx v2 (by simpa only [hS_n, sS_n, cxS_n] using ha) (by simpa only [hS_n, sS_n, cxS_n] using hb) hab⟩
  | 3 =>
    simp only [List.getElem?_cons_zero, List.getElem?_cons_succ, Option.some.injEq] at h1 h2
    subst h1; subst h2
    exact ⟨by decide, turnT_h v3 (by simpa only [hS_n, sS_n, cxS_n] using ha)⟩
  | 4 =>
    simp only [List.getElem?_cons_zero, List.getElem?_cons_succ, Option.some.injEq] at h1 h2
    subst h1; subst h2
    exact ⟨by decide, turnT_sdg v4 (by simpa only [hS_n, sS_n, cxS_n] using hb)⟩
  | 5 =>
    simp only [List.getElem?_cons_zero, List.getElem?_cons_succ, Option.some.injEq] at h1 h2
    subst h1; subst h2
    exact ⟨by decide, turnT_sdg v5 (by simpa only [hS_n, sS_n, cxS_n] using ha)⟩
  | n + 6 => simp at h1
end Go.Ideal

-- Vn
set_option linter.unusedSimpArgs false
set_option linter.unusedVariables false
namespace Go.Ideal
open Go Go.Proofs Go.RowKit
/-! ### A string behind a gate (printed by genbyall.py) -/
def byS (nm : ByteArray) (qs : List Int) (p : PauD) : PauD := match qs with
  | [a] => if beqS nm (⟨#[105]⟩ : ByteArray) then p else if beqS nm (⟨#[119]⟩ : ByteArray) then p else if beqS nm (⟨#[119, 100, 103]⟩ : ByteArray) then p else if beqS nm (⟨#[120]⟩ : ByteArray) then (minusS p (btS p.z a)) else if beqS nm (⟨#[121]⟩ : ByteArray) then (minusS p (btS p.x a != btS p.z a)) else if beqS nm (⟨#[122]⟩ : ByteArray) then (minusS p (btS p.x a)) else if beqS nm (⟨#[104]⟩ : ByteArray) then (hS p a) else if beqS nm (⟨#[115]⟩ : ByteArray) then (sS p a false) else if beqS nm (⟨#[115, 100, 103]⟩ : ByteArray) then (sS p a true) else if beqS nm (⟨#[118]⟩ : ByteArray) then (vS p a false) else if beqS nm (⟨#[118, 100, 103]⟩ : ByteArray) then (vS p a true) else p
  | [a, b] => if beqS nm (⟨#[99, 120]⟩ : ByteArray) then (cxS p a b) else if beqS nm (⟨#[99, 122]⟩ : ByteArray) then (hS (cxS (hS p b) a b) b) else if beqS nm (⟨#[115, 119, 97, 112]⟩ : ByteArray) then (cxS (cxS (cxS p a b) b a) a b) else if beqS nm (⟨#[99, 121]⟩ : ByteArray) then (sS (cxS (sS p b true) a b) b false) else if beqS nm (⟨#[105, 115, 119, 97, 112]⟩ : ByteArray) then (hS (cxS (cxS (hS (sS (sS p a false) b false) a) a b) b a) b) else if beqS nm (⟨#[105, 115, 119, 97, 112, 100, 103]⟩ : ByteArray) then (sS (sS (hS (cxS (cxS (hS p b) b a) a b) a) b true) a true) else p
  | _ => p
theorem kOf_mem2 {nm : ByteArray} {e : KE} (h : kOf nm = some e) : e ∈ KT ∧ nm = e.name := by
  unfold kOf at h
  exact ⟨List.mem_of_find?_eq_some h, beqS_iff.1 (by have := List.find?_some h; simpa using this)⟩
theorem cliff_kOf {nm : ByteArray} (h : cliffS nm = true) : ∃ e, kOf nm = some e ∧ e.cliff = true := by
  unfold cliffS at h
  split at h
  · exact ⟨_, by assumption, h⟩
  · cases h
/-- what is asked of a gate on qubits -/
structure GateOk (nm : ByteArray) (qs : List Int) (n : Int) : Prop where
  cliff : cliffS nm = true
  len : (qs.length : Int) = arityS nm
  rng : ∀ q ∈ qs, 0 ≤ q ∧ q < n
  nd : qs.Nodup
theorem byAll {p : PauD} {nm : ByteArray} {qs : List Int} (hp : PauV p) (h : GateOk nm qs p.n) :
    Fn Try.prog 64 [pauT p, strT nm, .sl 1 (intRows qs)] (fun r => r = pauT (byS nm qs p)) ∧ Fn Try.prog 66 [pauT p, strT nm, .sl 1 (intRows qs)] (fun r => r = pauT (byS nm qs p)) ∧ PauV (byS nm qs p) ∧ (byS nm qs p).n = p.n := by
  obtain ⟨e, h1, h2⟩ := cliff_kOf h.cliff
  obtain ⟨h3, rfl⟩ := kOf_mem2 h1
  have hl := h.len
  unfold arityS at hl
  rw [h1] at hl
  simp only at hl
  have hr := h.rng
  have hd := h.nd
  clear h h1
  have key1 : e.arity = 1 → ∃ a, qs = [a] ∧ 0 ≤ a ∧ a < p.n := fun h => by
    match qs, hl with
    | [a], _ => exact ⟨a, rfl, hr a (by simp)⟩
    | [], hl => simp only [List.length_nil] at hl; omega
    | a :: b :: c, hl => simp only [List.length_cons] at hl; omega
  have key2 : e.arity = 2 → ∃ a b, qs = [a, b] ∧ (0 ≤ a ∧ a < p.n) ∧ (0 ≤ b ∧ b < p.n) ∧ a ≠ b := fun h => by
    match qs, hl with
    | [a, b], _ => exact ⟨a, b, rfl, hr a (by simp), hr b (by simp), fun hab => by simp [hab] at hd⟩
    | [], hl => simp only [List.length_nil] at hl; omega
    | [a], hl => simp only [List.length_cons, List.length_nil] at hl; omega
    | a :: b :: c :: d, hl => simp only [List.length_cons] at hl; omega
  simp only [KT, List.mem_cons, List.not_mem_nil, or_false] at h3
  rcases h3 with rfl | rfl | rfl | rfl | rfl | rfl | rfl | rfl | rfl | rfl | rfl | rfl | rfl | rfl | rfl | rfl | rfl | rfl | rfl | rfl | rfl | rfl | rfl | rfl | rfl
  · obtain ⟨a, rfl, ha⟩ := key1 rfl
    exact ⟨byT_i hp.g ha.1, turnT_i hp ha, hp, by show p.n = p.n; simp only [minusS_n, hS_n, sS_n, vS_n]⟩
  · obtain ⟨a, rfl, ha⟩ := key1 rfl
    exact ⟨byT_x hp.g ha.1, turnT_x hp ha, minusS_v hp _, by show (minusS p (btS p.z a)).n = p.n; simp only [minusS_n, hS_n, sS_n, vS_n]⟩
  · obtain ⟨a, rfl, ha⟩ := key1 rfl
    exact ⟨byT_y hp.g ha.1, turnT_y hp ha, minusS_v hp _, by show (minusS p (btS p.x a != btS p.z a)).n = p.n; simp only [minusS_n, hS_n, sS_n, vS_n]⟩
  · obtain ⟨a, rfl, ha⟩ := key1 rfl
    exact ⟨byT_z hp.g ha.1, turnT_z hp ha, minusS_v hp _, by show (minusS p (btS p.x a)).n = p.n; simp only [minusS_n, hS_n, sS_n, vS_n]⟩
  · obtain ⟨a, rfl, ha⟩ := key1 rfl
    exact ⟨byT_h hp.g ha.1, turnT_h hp ha, hS_v hp ha, by show (hS p a).n = p.n; simp only [minusS_n, hS_n, sS_n, vS_n]⟩
  · obtain ⟨a, rfl, ha⟩ := key1 rfl
    exact ⟨byT_s hp.g ha.1, turnT_s hp ha, sS_v hp ha _, by show (sS p a false).n = p.n; simp only [minusS_n, hS_n, sS_n, vS_n]⟩
  · obtain ⟨a, rfl, ha⟩ := key1 rfl
    exact ⟨byT_sdg hp.g ha.1, turnT_sdg hp ha, sS_v hp ha _, by show (sS p a true).n = p.n; simp only [minusS_n, hS_n, sS_n, vS_n]⟩
  · cases h2
  · cases h2
  · obtain ⟨a, rfl, ha⟩ := key1 rfl
    exact ⟨byT_v hp.g ha.1, turnT_v hp ha, vS_v hp ha _, by show (vS p a false).n = p.n; simp only [minusS_n, hS_n, sS_n, vS_n]⟩
  · obtain ⟨a, rfl, ha⟩ := key1 rfl
    exact ⟨byT_vdg hp.g ha.1, turnT_vdg hp ha, vS_v hp ha _, by show (vS p a true).n = p.n; simp only [minusS_n, hS_n, sS_n, vS_n]⟩
  · obtain ⟨a, rfl, ha⟩ := key1 rfl
    exact ⟨byT_w hp.g ha.1, turnT_w hp ha, hp, by show p.n = p.n; simp only [minusS_n, hS_n, sS_n, vS_n]⟩
  · obtain ⟨a, rfl, ha⟩ := key1 rfl
    exact ⟨byT_wdg hp.g ha.1, turnT_wdg hp ha, hp, by show p.n = p.n; simp only [minusS_n, hS_n, sS_n, vS_n]⟩
  · obtain ⟨a, b, rfl, ha, hb, hab⟩ := key2 rfl
    exact ⟨byT_cx hp.g ha.1 hb.1, turnT_cx hp ha hb hab, (cxS_v hp (by simpa only [hS_n, sS_n, cxS_n] using ha) (by simpa only [hS_n, sS_n, cxS_n] using hb)), by show (cxS p a b).n = p.n; simp only [hS_n, sS_n, cxS_n]⟩
  · obtain ⟨a, b, rfl, ha, hb, hab⟩ := key2 rfl
    exact ⟨byT_cy hp.g ha.1 hb.1, turnT_cy hp ha hb hab, (sS_v (cxS_v (sS_v hp (by simpa only [hS_n, sS_n, cxS_n] using hb) _) (by simpa only [hS_n, sS_n, cxS_n] using ha) (by simpa only [hS_n, sS_n, cxS_n] using hb)) (by simpa only [hS_n, sS_n, cxS_n] using hb) _), by show (sS (cxS (sS p b true) a b) b false).n = p.n; simp only [hS_n, sS_n, cxS_n]⟩
  · obtain ⟨a, b, rfl, ha, hb, hab⟩ := key2 rfl
    exact ⟨byT_cz hp.g ha.1 hb.1, turnT_cz hp ha hb hab, (hS_v (cxS_v (hS_v hp (by simpa only [hS_n, sS_n, cxS_n] using hb)) (by simpa only [hS_n, sS_n, cxS_n] using ha) (by simpa only [hS_n, sS_n, cxS_n] using hb)) (by simpa only [hS_n, sS_n, cxS_n] using hb)), by show (hS (cxS (hS p b) a b) b).n = p.n; simp only [hS_n, sS_n, cxS_n]⟩
  · cases h2
  · cases h2
  · cases h2
  · obtain ⟨a, b, rfl, ha, hb, hab⟩ := key2 rfl
    exact ⟨byT_swap hp.g ha.1 hb.1, turnT_swap hp ha hb hab, (cxS_v (cxS_v (cxS_v hp (by simpa only [hS_n, sS_n, cxS_n] using ha) (by simpa only [hS_n, sS_n, cxS_n] using hb)) (by simpa only [hS_n, sS_n, cxS_n] using hb) (by simpa only [hS_n, sS_n, cxS_n] using ha)) (by simpa only [hS_n, sS_n, cxS_n] using ha) (by simpa only [hS_n, sS_n, cxS_n] using hb)), by show (cxS (cxS (cxS p a b) b a) a b).n = p.n; simp only [hS_n, sS_n, cxS_n]⟩
  · obtain ⟨a, b, rfl, ha, hb, hab⟩ := key2 rfl
    exact ⟨byT_iswap hp.g ha.1 hb.1, turnT_iswap hp ha hb hab, (hS_v (cxS_v (cxS_v (hS_v (sS_v (sS_v hp (by simpa only [hS_n, sS_n, cxS_n] using ha) _) (by simpa only [hS_n, sS_n, cxS_n] using hb) _) (by simpa only [hS_n, sS_n, cxS_n] using ha)) (by simpa only [hS_n, sS_n, cxS_n] using ha) (by simpa only [hS_n, sS_n, cxS_n] using hb)) (by simpa only [hS_n, sS_n, cxS_n] using hb) (by simpa only [hS_n, sS_n, cxS_n] using ha)) (by simpa only [hS_n, sS_n, cxS_n] using hb)), by show (hS (cxS (cxS (hS (sS (sS p a false) b false) a) a b) b a) b).n = p.n; simp only [hS_n, sS_n, cxS_n]⟩
  · obtain ⟨a, b, rfl, ha, hb, hab⟩ := key2 rfl
    exact ⟨byT_iswapdg hp.g ha.1 hb.1, turnT_iswapdg hp ha hb hab, (sS_v (sS_v (hS_v (cxS_v (cxS_v (hS_v hp (by simpa only [hS_n, sS_n, cxS_n] using hb)) (by simpa only [hS_n, sS_n, cxS_n] using hb) (by simpa only [hS_n, sS_n, cxS_n] using ha)) (by simpa only [hS_n, sS_n, cxS_n] using ha) (by simpa only [hS_n, sS_n, cxS_n] using hb)) (by simpa only [hS_n, sS_n, cxS_n] using ha)) (by simpa only [hS_n, sS_n, cxS_n] using hb) _) (by simpa only [hS_n, sS_n, cxS_n] using ha) _), by show (sS (sS (hS (cxS (cxS (hS p b) b a) a b) a) b true) a true).n = p.n; simp only [hS_n, sS_n, cxS_n]⟩
  · cases h2
  · cases h2
  · cases h2
end Go.Ideal

-- Tj
set_option linter.unusedSimpArgs false
set_option linter.unusedVariables false
namespace Go.Ideal
open Go Go.Proofs Go.RowKit
/-! ### The reference's order of operations -/
end Go.Ideal

-- Tk
set_option linter.unusedSimpArgs false
set_option linter.unusedVariables false
namespace Go.Ideal
open Go Go.Proofs Go.RowKit
/-! ### The reference's steps and layers -/
/-- what an operation that is none at fault is like -/
structure OpG (o : OpD) : Prop where
  qs : ∀ q ∈ o.qs, 0 ≤ q ∧ q < 64
  bit : o.kind = 2 → 0 ≤ o.bit ∧ o.bit < 64
  mask : o.iff = false → o.mask = 0
  w : OpW o
  len : o.qs.length ≤ 3
theorem OpG.p {o : OpD} (h : OpG o) : OpP o := ⟨fun q hq => (h.qs q hq).1, fun hk => (h.bit hk).1, h.w⟩
end Go.Ideal

-- Tl
set_option linter.unusedSimpArgs false
set_option linter.unusedVariables false
namespace Go.Ideal
open Go Go.Proofs Go.RowKit
end Go.Ideal

-- Tm
set_option linter.unusedSimpArgs false
set_option linter.unusedVariables false
namespace Go.Ideal
open Go Go.Proofs Go.RowKit
/-! ### The reference's layers; lists that are the same -/
end Go.Ideal

-- Tn
set_option linter.unusedSimpArgs false
set_option linter.unusedVariables false
namespace Go.Ideal
open Go Go.Proofs Go.RowKit
/-! ### The same lists, the same circuits -/
instance : CallIs Try.prog 41 := .of Try.func41 rfl rfl
end Go.Ideal

-- To
set_option linter.unusedSimpArgs false
set_option linter.unusedVariables false
namespace Go.Ideal
open Go Go.Proofs Go.RowKit
/-! ### A circuit in memory of its own -/
instance : CallIs Try.prog 71 := .of Try.func71 rfl rfl
end Go.Ideal

-- Tp
set_option linter.unusedSimpArgs false
set_option linter.unusedVariables false
namespace Go.Ideal
open Go Go.Proofs Go.RowKit
/-! ### Operations in another order -/
def boolRows (xs : List Bool) : List (List Tr) := xs.map fun x => [boolT x]
instance {xs : List Bool} {i : Nat} {z : Bool} : SetR (boolRows xs) i [boolT z] (boolRows (xs.set i z)) := ⟨by simp [boolRows, List.map_set]⟩
theorem take_succ {α : Type} {l : List α} {i : Nat} {a : α} (h : l[i]? = some a) : l.take (i + 1) = l.take i ++ [a] := by rw [List.take_add_one, h]; rfl
end Go.Ideal

-- Vo
set_option linter.unusedSimpArgs false
set_option linter.unusedVariables false
namespace Go.Ideal
open Go Go.Proofs Go.RowKit
/-! ### Faults -/
structure FltD where
  beh : Int
  q : Int
  kind : Nat
@[reducible] def fltCs (f : FltD) : List Tr := [intT f.beh, intT f.q, u8T f.kind]
def fltRows (fs : List FltD) : List (List Tr) := fs.map fltCs
instance {fs : List FltD} : LenO (fltRows fs) fs.length := ⟨by simp [fltRows]⟩
instance {fs : List FltD} : LenT (fltRows fs) fs.length := ⟨by simp [fltRows]⟩
def kindOk (f : FltD) : Bool := decide ((f.kind : Int) = 88) || decide ((f.kind : Int) = 89) || decide ((f.kind : Int) = 90)
def fltOk (c : CircD) (f : FltD) : Bool := kindOk f && decide (-1 ≤ f.beh) && decide (f.beh < (c.ops.length : Int)) && decide (0 ≤ f.q) && decide (f.q < c.qubits)
def checkF (c : CircD) (fs : List FltD) : Int := if (checkC c).2 = 0 then (if fs.all (fltOk c) then 0 else 2) else (checkC c).2
theorem checkF_ok {c : CircD} {fs : List FltD} (h : checkF c fs = 0) : (checkC c).2 = 0 ∧ ∀ f ∈ fs, fltOk c f = true := by
  unfold checkF at h
  split at h
  · rename_i h1
    split at h
    · rename_i h2; exact ⟨h1, List.all_eq_true.1 h2⟩
    · cases h
  · rename_i h1; exact absurd h h1
instance : CallIs Try.prog 42 := .of Try.func42 rfl rfl
end Go.Ideal

-- Vp
set_option linter.unusedSimpArgs false
set_option linter.unusedVariables false
namespace Go.Ideal
open Go Go.Proofs Go.RowKit
/-! ### Faults by the operation behind which they strike -/
def fltR (fam : List (Nat × List FltD)) : List (List Tr) := fam.map fun x => [.v (gsv x.1 x.2.length)]
instance {fam : List (Nat × List FltD)} : LenO (fltR fam) fam.length := ⟨by simp [fltR]⟩
instance {fam : List (Nat × List FltD)} : LenT (fltR fam) fam.length := ⟨by simp [fltR]⟩
instance : CallIs Try.prog 72 := .of Try.func72 rfl rfl
end Go.Ideal

-- Vq
set_option linter.unusedSimpArgs false
set_option linter.unusedVariables false
namespace Go.Ideal
open Go Go.Proofs Go.RowKit
/-! ### Faults that are pushed to the end -/
theorem dupK_nodup {qs : List Int} : ∀ n, n ≤ qs.length → dupK qs n = false → (qs.take n).Nodup := by
  intro n
  induction n with
  | zero => intro _ _; simp
  | succ n ih =>
    intro hn h
    simp only [dupK, Bool.or_eq_false_iff, decide_eq_false_iff_not] at h
    obtain ⟨x, hx⟩ : ∃ x, qs[n]? = some x := ⟨_, List.getElem?_eq_getElem (by omega)⟩
    rw [getD_at hx] at h
    rw [take_succ hx, List.nodup_append]
    refine ⟨ih (by omega) h.1, by simp, fun a ha b hb => ?_⟩
    rw [List.mem_singleton.1 hb]
    exact fun hab => h.2 (hab ▸ ha)
theorem eye_v {n : Int} (h0 : 0 ≤ n) (h1 : n ≤ 64) : PauV ⟨n, 0, 0, 0⟩ := pauV_iff.2 ⟨h0, h1, Int.le_refl 0, by show (0 : Int) ≤ 3; decide, fun i _ => ⟨Nat.zero_testBit i, Nat.zero_testBit i⟩⟩
/-- a circuit and faults of it -/
structure FltG (c : CircD) (fs : List FltD) : Prop where
  q0 : 0 ≤ c.qubits
  q1 : c.qubits ≤ 64
  len : c.ops.length ≤ 4096
  op : ∀ o ∈ c.ops, faultS o c.qubits c.bits = 0
  flt : ∀ f ∈ fs, fltOk c f = true
theorem FltG.of {c : CircD} {fs : List FltD} (h : checkF c fs = 0) : FltG c fs := by
  obtain ⟨h1, h2⟩ := checkF_ok h
  obtain ⟨hr, hlen, hf⟩ := checkC_ok h1
  obtain ⟨a, b, _, _⟩ := rangeBad_no hr
  exact ⟨a, b, hlen, hf, h2⟩
end Go.Ideal

-- Vr
set_option linter.unusedSimpArgs false
set_option linter.unusedVariables false
namespace Go.Ideal
open Go Go.Proofs Go.RowKit
/-! ### Push, of the program -/
instance : CallIs Try.prog 69 := .of Try.func69 rfl rfl
end Go.Ideal

-- Vs
set_option linter.unusedSimpArgs false
set_option linter.unusedVariables false
namespace Go.Ideal
open Go Go.Proofs Go.RowKit
/-! ### Check and Push, of the reference -/
instance : CallIs Try.prog 43 := .of Try.func43 rfl rfl
end Go.Ideal

-- Vt
set_option linter.unusedSimpArgs false
set_option linter.unusedVariables false
namespace Go.Ideal
open Go Go.Proofs Go.RowKit
/-! ### All single faults -/
instance : CallIs Try.prog 70 := .of Try.func70 rfl rfl
end Go.Ideal

-- Vu
set_option linter.unusedSimpArgs false
set_option linter.unusedVariables false
namespace Go.Ideal
open Go Go.Proofs Go.RowKit
/-! ### Strings and faults compared -/
theorem pau_held : Try.prog.stoodInHeld 27 = false := by kernel_rfl
theorem pau_guard : Try.prog.eqGuardType Try.prog.depth 27 = false := by kernel_rfl
theorem flt_held : Try.prog.stoodInHeld 95 = false := by kernel_rfl
theorem flt_guard : Try.prog.eqGuardType Try.prog.depth 95 = false := by kernel_rfl
@[reducible] def pauFs : List Field := [⟨"N", 3, 0, false, "", "", 0⟩, ⟨"X", 25, 1, false, "", "", 8⟩, ⟨"Z", 25, 2, false, "", "", 16⟩, ⟨"Phase", 3, 3, false, "", "", 24⟩]
@[reducible] def fltFs : List Field := [⟨"Behind", 3, 0, false, "", "", 0⟩, ⟨"Qubit", 3, 1, false, "", "", 8⟩, ⟨"Kind", 5, 2, false, "", "", 16⟩]
section
variable {σ : Nat → Tr} {B : Boxes} {x y : Operand} {yt : TypeId} {a b c d a' b' c' d' : Int}
theorem pau_eqF : EqF Try.prog pauFs #[.int .i64 a, .int .u64 b, .int .u64 c, .int .i64 d] #[.int .i64 a', .int .u64 b', .int .u64 c', .int .i64 d'] (a == a' && (b == b' && (c == c' && (d == d' && true)))) :=
  .cons (f := ⟨"N", 3, 0, false, "", "", 0⟩) (by decide) (UnderIs.eq : Try.prog.underlying 3 = _) rfl rfl (.cons (f := ⟨"X", 25, 1, false, "", "", 8⟩) (by decide) (UnderIs.eq : Try.prog.underlying 25 = _) rfl rfl
    (.cons (f := ⟨"Z", 25, 2, false, "", "", 16⟩) (by decide) (UnderIs.eq : Try.prog.underlying 25 = _) rfl rfl (.cons (f := ⟨"Phase", 3, 3, false, "", "", 24⟩) (by decide) (UnderIs.eq : Try.prog.underlying 3 = _) rfl rfl .nil)))
instance Pu.pau_eq [e1 : TEval σ x (.agg [.v (.int .i64 a), .v (.int .u64 b), .v (.int .u64 c), .v (.int .i64 d)])] [e2 : TEval σ y (.agg [.v (.int .i64 a'), .v (.int .u64 b'), .v (.int .u64 c'), .v (.int .i64 d')])] : Pu Try.prog σ B (.binOp .eql 27 x y yt) (.v (.bool (a == a' && (b == b' && (c == c' && (d == d' && true)))))) :=
  Pu.eqStruct [.int .i64 a, .int .u64 b, .int .u64 c, .int .i64 d] [.int .i64 a', .int .u64 b', .int .u64 c', .int .i64 d'] rfl rfl Try.underlying27 pau_held pau_guard rfl rfl pau_eqF
instance (priority := 2000) Pu.pau_eq_same [e1 : TEval σ x (.agg [.v (.int .i64 a), .v (.int .u64 b), .v (.int .u64 c), .v (.int .i64 d)])] [e2 : TEval σ y (.agg [.v (.int .i64 a), .v (.int .u64 b), .v (.int .u64 c), .v (.int .i64 d)])] : Pu Try.prog σ B (.binOp .eql 27 x y yt) (.v (.bool true)) := by
  have h := Pu.pau_eq (σ := σ) (B := B) (x := x) (y := y) (yt := yt) (a := a) (b := b) (c := c) (d := d) (a' := a) (b' := b) (c' := c) (d' := d)
  simpa using h
theorem flt_eqF : EqF Try.prog fltFs #[.int .i64 a, .int .i64 b, .int .u8 c] #[.int .i64 a', .int .i64 b', .int .u8 c'] (a == a' && (b == b' && (c == c' && true))) :=
  .cons (f := ⟨"Behind", 3, 0, false, "", "", 0⟩) (by decide) (UnderIs.eq : Try.prog.underlying 3 = _) rfl rfl (.cons (f := ⟨"Qubit", 3, 1, false, "", "", 8⟩) (by decide) (UnderIs.eq : Try.prog.underlying 3 = _) rfl rfl
    (.cons (f := ⟨"Kind", 5, 2, false, "", "", 16⟩) (by decide) (UnderIs.eq : Try.prog.underlying 5 = _) rfl rfl .nil))
instance Pu.flt_ne [e1 : TEval σ x (.agg [.v (.int .i64 a), .v (.int .i64 b), .v (.int .u8 c)])] [e2 : TEval σ y (.agg [.v (.int .i64 a'), .v (.int .i64 b'), .v (.int .u8 c')])] : Pu Try.prog σ B (.binOp .neq 95 x y yt) (.v (.bool (!(a == a' && (b == b' && (c == c' && true)))))) :=
  Pu.neStruct [.int .i64 a, .int .i64 b, .int .u8 c] [.int .i64 a', .int .i64 b', .int .u8 c'] rfl rfl Try.underlying95 flt_held flt_guard rfl rfl flt_eqF
instance (priority := 2000) Pu.flt_ne_same [e1 : TEval σ x (.agg [.v (.int .i64 a), .v (.int .i64 b), .v (.int .u8 c)])] [e2 : TEval σ y (.agg [.v (.int .i64 a), .v (.int .i64 b), .v (.int .u8 c)])] : Pu Try.prog σ B (.binOp .neq 95 x y yt) (.v (.bool false)) := by
  have h := Pu.flt_ne (σ := σ) (B := B) (x := x) (y := y) (yt := yt) (a := a) (b := b) (c := c) (a' := a) (b' := b) (c' := c)
  simpa using h
end
/-! ### All single faults, of the reference -/
end Go.Ideal

-- Vz
set_option linter.unusedSimpArgs false
set_option linter.unusedVariables false
namespace Go.Ideal
open Go Go.Proofs Go.RowKit
/-! ### Products of strings: the plain laws -/
/-- a place's phase -/
def gph (a b c d : Bool) : Int := (prodL (atL a b) (atL c d)).2
theorem prPh_g (p q : PauD) (i : Nat) : prPh p q i = gph (p.x.testBit i) (p.z.testBit i) (q.x.testBit i) (q.z.testBit i) := by unfold prPh gph; rw [atS_bits, atS_bits]
theorem mph_sum {p q : PauD} (hp : PauV p) (hq : PauV q) (hn : p.n = q.n) : mphS p q = (p.ph + q.ph + sumPh p q p.n.toNat) % 4 := (ref_phase hp.1 hp.2 hq.1 hq.2 hn).symm
theorem mul_v {p q : PauD} (hp : PauV p) (hq : PauV q) (hn : p.n = q.n) : PauV (mulP p q) := (hp.mul hq hn).1
theorem gph_assoc : ∀ a b c d e f : Bool, (gph a b c d + gph (a ^^ c) (b ^^ d) e f) % 4 = (gph c d e f + gph a b (c ^^ e) (d ^^ f)) % 4 := by decide
theorem sum_assoc (p q r : PauD) : ∀ j, (sumPh p q j + sumPh (mulP p q) r j) % 4 = (sumPh q r j + sumPh p (mulP q r) j) % 4 := by
  intro j
  induction j with
  | zero => simp [sumPh]
  | succ j ih =>
    simp only [sumPh, prPh_g]
    have h := gph_assoc (p.x.testBit j) (p.z.testBit j) (q.x.testBit j) (q.z.testBit j) (r.x.testBit j) (r.z.testBit j)
    have e1 : (mulP p q).x.testBit j = (p.x.testBit j ^^ q.x.testBit j) := Nat.testBit_xor _ _ _
    have e2 : (mulP p q).z.testBit j = (p.z.testBit j ^^ q.z.testBit j) := Nat.testBit_xor _ _ _
    have e3 : (mulP q r).x.testBit j = (q.x.testBit j ^^ r.x.testBit j) := Nat.testBit_xor _ _ _
    have e4 : (mulP q r).z.testBit j = (q.z.testBit j ^^ r.z.testBit j) := Nat.testBit_xor _ _ _
    rw [e1, e2, e3, e4]
    omega
theorem mul_assoc {p q r : PauD} (hp : PauV p) (hq : PauV q) (hr : PauV r) (h1 : p.n = q.n) (h2 : q.n = r.n) : mulP (mulP p q) r = mulP p (mulP q r) := by
  have v1 := mul_v hp hq h1
  have v2 := mul_v hq hr h2
  have e1 := mph_sum v1 hr (by show p.n = r.n; rw [h1, h2])
  have e2 := mph_sum hp v2 (by show p.n = q.n; exact h1)
  have e3 := mph_sum hp hq h1
  have e4 := mph_sum hq hr h2
  have e5 := sum_assoc p q r p.n.toNat
  have hm : (mulP p q).ph = mphS p q := rfl
  have hm2 : (mulP q r).ph = mphS q r := rfl
  have hn : (mulP p q).n = p.n := rfl
  rw [hm, hn, e3] at e1
  rw [hm2, e4, ← h1] at e2
  have e6 : mphS (mulP p q) r = mphS p (mulP q r) := by rw [e1, e2]; omega
  show PauD.mk p.n ((p.x ^^^ q.x) ^^^ r.x) ((p.z ^^^ q.z) ^^^ r.z) (mphS (mulP p q) r) = PauD.mk p.n (p.x ^^^ (q.x ^^^ r.x)) (p.z ^^^ (q.z ^^^ r.z)) (mphS p (mulP q r))
  rw [e6, Nat.xor_assoc, Nat.xor_assoc]
theorem gph_eye : ∀ a b : Bool, gph a b false false = 0 ∧ gph false false a b = 0 := by decide
theorem sum_eye (p : PauD) {e : PauD} (hx : e.x = 0) (hz : e.z = 0) : ∀ j, sumPh p e j = 0 ∧ sumPh e p j = 0 := by
  intro j
  induction j with
  | zero => exact ⟨rfl, rfl⟩
  | succ j ih =>
    simp only [sumPh, prPh_g, hx, hz, Nat.zero_testBit, ih.1, ih.2, (gph_eye _ _).1, (gph_eye _ _).2]
    exact ⟨rfl, rfl⟩
theorem mul_eye {p : PauD} (hp : PauV p) : mulP p ⟨p.n, 0, 0, 0⟩ = p ∧ mulP ⟨p.n, 0, 0, 0⟩ p = p := by
  obtain ⟨a, b, c, d, e⟩ := pauV_iff.1 hp
  have ve : PauV ⟨p.n, 0, 0, 0⟩ := eye_v a b
  have e1 := mph_sum hp ve rfl
  have e2 := mph_sum ve hp rfl
  rw [(sum_eye p rfl rfl _).1] at e1
  rw [(sum_eye p rfl rfl _).2] at e2
  simp only at e1 e2
  constructor
  · show PauD.mk p.n (p.x ^^^ 0) (p.z ^^^ 0) (mphS p ⟨p.n, 0, 0, 0⟩) = p
    rw [e1, Nat.xor_zero, Nat.xor_zero, show (p.ph + 0 + 0) % 4 = p.ph by omega]
  · show PauD.mk p.n (0 ^^^ p.x) (0 ^^^ p.z) (mphS ⟨p.n, 0, 0, 0⟩ p) = p
    rw [e2, Nat.zero_xor, Nat.zero_xor, show (0 + p.ph + 0) % 4 = p.ph by omega]
end Go.Ideal

-- Wa
set_option linter.unusedSimpArgs false
set_option linter.unusedVariables false
namespace Go.Ideal
open Go Go.Proofs Go.RowKit
/-! ### A turn goes through a product -/
def locOf (p : PauD) (a b : Nat) : Loc := ⟨0, p.x.testBit a, p.z.testBit a, p.x.testBit b, p.z.testBit b⟩
theorem PauV.far {p : PauD} (h : PauV p) {i : Nat} (hi : 64 ≤ i) : p.x.testBit i = false ∧ p.z.testBit i = false := by
  obtain ⟨a, b, c, d, e⟩ := pauV_iff.1 h
  exact e i (by omega)
theorem View.self {p : PauD} (h : PauV p) {a b : Nat} : View p a b p 64 (locOf p a b) := by
  obtain ⟨h1, h2, h3, h4, h5⟩ := pauV_iff.1 h
  refine ⟨rfl, by show p.ph = (p.ph + 0) % 4; omega, fun i => ?_, fun i => ?_⟩
  · simp only [locOf]
    split
    · rename_i e; rw [e]
    · split
      · rename_i e; rw [e]
      · by_cases hi : i < 64
        · simp [hi]
        · simp [hi, (h.far (by omega : 64 ≤ i)).1]
  · simp only [locOf]
    split
    · rename_i e; rw [e]
    · split
      · rename_i e; rw [e]
      · by_cases hi : i < 64
        · simp [hi]
        · simp [hi, (h.far (by omega : 64 ≤ i)).2]
theorem sum_two {p q p' q' : PauD} {a b : Nat} (hab : a ≠ b) (h : ∀ i, i ≠ a → i ≠ b → prPh p' q' i = prPh p q i) : ∀ j,
    sumPh p' q' j + (if a < j then prPh p q a else 0) + (if b < j then prPh p q b else 0) = sumPh p q j + (if a < j then prPh p' q' a else 0) + (if b < j then prPh p' q' b else 0) := by
  intro j
  induction j with
  | zero => simp [sumPh]
  | succ j ih =>
    simp only [sumPh]
    by_cases h1 : j = a
    · subst h1
      have e1 : ¬ j < j := by omega
      have e2 : j < j + 1 := by omega
      simp only [if_neg e1, if_pos e2] at ih ⊢
      by_cases h2 : b < j
      · have h3 : b < j + 1 := by omega
        simp only [if_pos h2, if_pos h3] at ih ⊢
        omega
      · have h3 : ¬ b < j + 1 := by omega
        simp only [if_neg h2, if_neg h3] at ih ⊢
        omega
    · by_cases h2 : j = b
      · subst h2
        have e1 : ¬ j < j := by omega
        have e2 : j < j + 1 := by omega
        simp only [if_neg e1, if_pos e2] at ih ⊢
        by_cases h3 : a < j
        · have h4 : a < j + 1 := by omega
          simp only [if_pos h3, if_pos h4] at ih ⊢
          omega
        · have h4 : ¬ a < j + 1 := by omega
          simp only [if_neg h3, if_neg h4] at ih ⊢
          omega
      · rw [h j h1 h2]
        have e1 : a < j + 1 ↔ a < j := by omega
        have e2 : b < j + 1 ↔ b < j := by omega
        simp only [e1, e2]
        omega
/-- what is to be looked at, case by case -/
def HomL (f : Loc → Loc) : Prop := ∀ a b c d e g h i : Bool,
  (f ⟨0, a ^^ e, b ^^ g, c ^^ h, d ^^ i⟩).xa = ((f ⟨0, a, b, c, d⟩).xa ^^ (f ⟨0, e, g, h, i⟩).xa) ∧ (f ⟨0, a ^^ e, b ^^ g, c ^^ h, d ^^ i⟩).za = ((f ⟨0, a, b, c, d⟩).za ^^ (f ⟨0, e, g, h, i⟩).za) ∧
  (f ⟨0, a ^^ e, b ^^ g, c ^^ h, d ^^ i⟩).xb = ((f ⟨0, a, b, c, d⟩).xb ^^ (f ⟨0, e, g, h, i⟩).xb) ∧ (f ⟨0, a ^^ e, b ^^ g, c ^^ h, d ^^ i⟩).zb = ((f ⟨0, a, b, c, d⟩).zb ^^ (f ⟨0, e, g, h, i⟩).zb) ∧
  ((f ⟨0, a ^^ e, b ^^ g, c ^^ h, d ^^ i⟩).ph + gph a b e g + gph c d h i) % 4 =
    ((f ⟨0, a, b, c, d⟩).ph + (f ⟨0, e, g, h, i⟩).ph + gph (f ⟨0, a, b, c, d⟩).xa (f ⟨0, a, b, c, d⟩).za (f ⟨0, e, g, h, i⟩).xa (f ⟨0, e, g, h, i⟩).za + gph (f ⟨0, a, b, c, d⟩).xb (f ⟨0, a, b, c, d⟩).zb (f ⟨0, e, g, h, i⟩).xb (f ⟨0, e, g, h, i⟩).zb) % 4
def EyeL (f : Loc → Loc) : Prop := (f ⟨0, false, false, false, false⟩).ph % 4 = 0 ∧ (f ⟨0, false, false, false, false⟩).xa = false ∧ (f ⟨0, false, false, false, false⟩).za = false ∧ (f ⟨0, false, false, false, false⟩).xb = false ∧ (f ⟨0, false, false, false, false⟩).zb = false
structure Homs (F : PauD → PauD) (n : Int) : Prop where
  v : ∀ p, PauV p → p.n = n → PauV (F p) ∧ (F p).n = n
  mul : ∀ p q, PauV p → PauV q → p.n = n → q.n = n → F (mulP p q) = mulP (F p) (F q)
  eye : 0 ≤ n → n ≤ 64 → F ⟨n, 0, 0, 0⟩ = ⟨n, 0, 0, 0⟩
theorem Homs.of {F : PauD → PauD} {f : Loc → Loc} {n : Int} {a b : Nat} (hab : a ≠ b) (hv : ∀ p, PauV p → p.n = n → PauV (F p) ∧ (F p).n = n)
    (vw : ∀ p o j L, p.n = n → PauV p → View p a b o j L → View p a b (F o) j (f L)) (hl : HomL f) (he : EyeL f) : Homs F n := by
  refine ⟨hv, fun p q hp hq hpn hqn => ?_, fun h0 h1 => ?_⟩
  · have hn : p.n = q.n := by rw [hpn, hqn]
    have hm := mul_v hp hq hn
    have vp := vw p p 64 _ hpn hp (View.self hp)
    have vq := vw q q 64 _ hqn hq (View.self hq)
    have vm := vw (mulP p q) (mulP p q) 64 _ hpn hm (View.self hm)
    obtain ⟨hfp, hfpn⟩ := hv p hp hpn
    obtain ⟨hfq, hfqn⟩ := hv q hq hqn
    have hl := hl (p.x.testBit a) (p.z.testBit a) (p.x.testBit b) (p.z.testBit b) (q.x.testBit a) (q.z.testBit a) (q.x.testBit b) (q.z.testBit b)
    have hlm : locOf (mulP p q) a b = ⟨0, p.x.testBit a ^^ q.x.testBit a, p.z.testBit a ^^ q.z.testBit a, p.x.testBit b ^^ q.x.testBit b, p.z.testBit b ^^ q.z.testBit b⟩ := by
      simp only [locOf, mulP, Nat.testBit_xor]
    rw [hlm] at vm
    have hlp : locOf p a b = ⟨0, p.x.testBit a, p.z.testBit a, p.x.testBit b, p.z.testBit b⟩ := rfl
    have hlq : locOf q a b = ⟨0, q.x.testBit a, q.z.testBit a, q.x.testBit b, q.z.testBit b⟩ := rfl
    rw [← hlp, ← hlq] at hl
    generalize f ⟨0, p.x.testBit a ^^ q.x.testBit a, p.z.testBit a ^^ q.z.testBit a, p.x.testBit b ^^ q.x.testBit b, p.z.testBit b ^^ q.z.testBit b⟩ = R at vm hl
    generalize f (locOf p a b) = P at vp hl
    generalize f (locOf q a b) = Q at vq hl
    obtain ⟨l1, l2, l3, l4, l5⟩ := hl
    have hsum := sum_two (p := p) (q := q) (p' := F p) (q' := F q) hab (fun i h1 h2 => by
      rw [prPh_g, prPh_g, vp.x i, vp.z i, vq.x i, vq.z i]
      simp only [if_neg h1, if_neg h2]
      by_cases hi : i < 64
      · simp [hi]
      · have f1 := hp.far (by omega : 64 ≤ i)
        have f2 := hq.far (by omega : 64 ≤ i)
        simp [hi, f1.1, f1.2, f2.1, f2.2]) p.n.toNat
    have out : ∀ (p q : PauD), PauV p → PauV q → p.n = n → q.n = n → ∀ i, (if i < n.toNat then prPh p q i else 0) = gph (p.x.testBit i) (p.z.testBit i) (q.x.testBit i) (q.z.testBit i) := by
      intro p q hp hq h1 h2 i
      split
      · exact prPh_g p q i
      · obtain ⟨_, _, _, _, e1⟩ := pauV_iff.1 hp
        obtain ⟨_, _, _, _, e2⟩ := pauV_iff.1 hq
        rw [(e1 i (by omega)).1, (e1 i (by omega)).2, (e2 i (by omega)).1, (e2 i (by omega)).2]
        decide
    rw [hpn, out p q hp hq hpn hqn a, out p q hp hq hpn hqn b, out _ _ hfp hfq hfpn hfqn a, out _ _ hfp hfq hfpn hfqn b, vp.x a, vp.z a, vp.x b, vp.z b, vq.x a, vq.z a, vq.x b, vq.z b] at hsum
    simp only [if_true, if_neg (Ne.symm hab)] at hsum
    have e1 := mph_sum hp hq hn
    have e2 := mph_sum hfp hfq (by rw [hfpn, hfqn])
    rw [hpn] at e1
    rw [hfpn, vp.ph, vq.ph] at e2
    have vmul : View (mulP p q) a b (mulP (F p) (F q)) 64 ⟨R.ph, P.xa ^^ Q.xa, P.za ^^ Q.za, P.xb ^^ Q.xb, P.zb ^^ Q.zb⟩ := by
      refine ⟨by show (F p).n = p.n; rw [hfpn, hpn], ?_, fun i => ?_, fun i => ?_⟩
      · show mphS (F p) (F q) = (mphS p q + R.ph) % 4
        rw [e1, e2]
        omega
      · show ((F p).x ^^^ (F q).x).testBit i = if i = a then P.xa ^^ Q.xa else if i = b then P.xb ^^ Q.xb else (decide (i < 64) && (p.x ^^^ q.x).testBit i)
        rw [Nat.testBit_xor, vp.x, vq.x, Nat.testBit_xor]
        split
        · rfl
        · split
          · rfl
          · cases decide (i < 64) <;> simp
      · show ((F p).z ^^^ (F q).z).testBit i = if i = a then P.za ^^ Q.za else if i = b then P.zb ^^ Q.zb else (decide (i < 64) && (p.z ^^^ q.z).testBit i)
        rw [Nat.testBit_xor, vp.z, vq.z, Nat.testBit_xor]
        split
        · rfl
        · split
          · rfl
          · cases decide (i < 64) <;> simp
    exact vm.same vmul ⟨rfl, l1, l2, l3, l4⟩
  · have ve := eye_v h0 h1
    have v1 := vw ⟨n, 0, 0, 0⟩ _ 64 _ rfl ve (View.self ve)
    have v0 := View.self ve (a := a) (b := b)
    have e : locOf ⟨n, 0, 0, 0⟩ a b = ⟨0, false, false, false, false⟩ := by simp [locOf]
    rw [e] at v1 v0
    obtain ⟨i1, i2, i3, i4, i5⟩ := he
    exact v1.same v0 ⟨by rw [i1]; rfl, i2, i3, i4, i5⟩
theorem Homs.id (n : Int) : Homs (fun p => p) n := ⟨fun p h1 h2 => ⟨h1, h2⟩, fun _ _ _ _ _ _ => rfl, fun _ _ => rfl⟩
theorem Homs.comp {F G : PauD → PauD} {n : Int} (hF : Homs F n) (hG : Homs G n) : Homs (fun p => F (G p)) n := by
  refine ⟨fun p h1 h2 => ?_, fun p q hp hq h1 h2 => ?_, fun h0 h1 => ?_⟩
  · obtain ⟨a, b⟩ := hG.v p h1 h2
    exact hF.v _ a b
  · obtain ⟨a, b⟩ := hG.v p hp h1
    obtain ⟨c, d⟩ := hG.v q hq h2
    show F (G (mulP p q)) = _
    rw [hG.mul p q hp hq h1 h2, hF.mul _ _ a c b d]
  · show F (G _) = _
    rw [hG.eye h0 h1, hF.eye h0 h1]
theorem Homs.ite {F G : PauD → PauD} {n : Int} {y : Bool} (hF : Homs F n) (hG : Homs G n) : Homs (fun p => if y then F p else G p) n := by
  cases y
  · exact hG
  · exact hF
section
variable {n : Int} {a b : Nat}
theorem minus_hn {p : PauD} {y : Bool} (h : PauV p) (hn : p.n = n) : PauV (minusS p y) ∧ (minusS p y).n = n := ⟨minusS_v h y, by rw [minusS_n, hn]⟩
theorem hom_x (h1 : n ≤ 64) (ha : (a : Int) < n) : Homs (fun p => minusS p (btS p.z (a : Int))) n :=
  Homs.of (f := fun L => minLoc L L.za) (a := a) (b := a + 1) (by omega) (fun p h hn => minus_hn h hn) (fun p o j L hn hp v => by rw [v.za]; exact v.minus _) (by unfold HomL; decide) (by unfold EyeL; decide)
theorem hom_z (h1 : n ≤ 64) (ha : (a : Int) < n) : Homs (fun p => minusS p (btS p.x (a : Int))) n :=
  Homs.of (f := fun L => minLoc L L.xa) (a := a) (b := a + 1) (by omega) (fun p h hn => minus_hn h hn) (fun p o j L hn hp v => by rw [v.xa]; exact v.minus _) (by unfold HomL; decide) (by unfold EyeL; decide)
theorem hom_y (h1 : n ≤ 64) (ha : (a : Int) < n) : Homs (fun p => minusS p (btS p.x (a : Int) != btS p.z (a : Int))) n :=
  Homs.of (f := fun L => minLoc L (L.xa != L.za)) (a := a) (b := a + 1) (by omega) (fun p h hn => minus_hn h hn) (fun p o j L hn hp v => by rw [v.xa, v.za]; exact v.minus _) (by unfold HomL; decide) (by unfold EyeL; decide)
theorem hom_h (h1 : n ≤ 64) (ha : (a : Int) < n) : Homs (fun p => hS p (a : Int)) n :=
  Homs.of (f := hLoc) (a := a) (b := a + 1) (by omega) (fun p h hn => ⟨hS_v h (by omega), by rw [hS_n, hn]⟩) (fun p o j L hn hp v => v.h (by omega)) (by unfold HomL; decide) (by unfold EyeL; decide)
theorem hom_s (h1 : n ≤ 64) (ha : (a : Int) < n) (y : Bool) : Homs (fun p => sS p (a : Int) y) n :=
  Homs.of (f := fun L => sLoc L y) (a := a) (b := a + 1) (by omega) (fun p h hn => ⟨sS_v h (by omega) y, by rw [sS_n, hn]⟩) (fun p o j L hn hp v => v.s (by omega) y) (by unfold HomL; cases y <;> decide) (by unfold EyeL; cases y <;> decide)
theorem hom_v (h1 : n ≤ 64) (ha : (a : Int) < n) (y : Bool) : Homs (fun p => vS p (a : Int) y) n :=
  Homs.of (f := fun L => vLoc L y) (a := a) (b := a + 1) (by omega) (fun p h hn => ⟨vS_v h (by omega) y, by rw [vS_n, hn]⟩) (fun p o j L hn hp v => v.v (by omega) y) (by unfold HomL; cases y <;> decide) (by unfold EyeL; cases y <;> decide)
theorem hom_cx (h1 : n ≤ 64) (ha : (a : Int) < n) (hb : (b : Int) < n) (hab : a ≠ b) : Homs (fun p => cxS p (a : Int) (b : Int)) n :=
  Homs.of (f := cxLoc) (a := a) (b := b) hab (fun p h hn => ⟨cxS_v h (by omega) (by omega), by rw [cxS_n, hn]⟩) (fun p o j L hn hp v => v.cx hab (by omega) (by omega)) (by unfold HomL; decide) (by unfold EyeL; decide)
end
theorem byS_hom {n : Int} (nm : ByteArray) {qs : List Int} (h1 : n ≤ 64) (hr : ∀ q ∈ qs, 0 ≤ q ∧ q < n) (hd : qs.Nodup) : Homs (byS nm qs) n := by
  match qs with
  | [] => exact Homs.id n
  | [q] =>
    have h := hr q (by simp)
    obtain ⟨a, rfl⟩ : ∃ a : Nat, q = (a : Int) := ⟨q.toNat, by omega⟩
    have I := Homs.id n
    exact .ite I (.ite I (.ite I (.ite (hom_x h1 h.2) (.ite (hom_y h1 h.2) (.ite (hom_z h1 h.2) (.ite (hom_h h1 h.2) (.ite (hom_s h1 h.2 _) (.ite (hom_s h1 h.2 _) (.ite (hom_v h1 h.2 _) (.ite (hom_v h1 h.2 _) I))))))))))
  | [q, r] =>
    have h := hr q (by simp)
    have k := hr r (by simp)
    obtain ⟨a, rfl⟩ : ∃ a : Nat, q = (a : Int) := ⟨q.toNat, by omega⟩
    obtain ⟨b, rfl⟩ : ∃ b : Nat, r = (b : Int) := ⟨r.toNat, by omega⟩
    have hab : a ≠ b := fun e => by subst e; simp at hd
    have cab := hom_cx h1 h.2 k.2 hab
    have cba := hom_cx h1 k.2 h.2 (Ne.symm hab)
    have ha := hom_h h1 h.2
    have hb := hom_h h1 k.2
    have sa := hom_s h1 h.2
    have sb := hom_s h1 k.2
    have I := Homs.id n
    exact .ite cab (.ite (hb.comp (cab.comp hb)) (.ite (cab.comp (cba.comp cab)) (.ite ((sb _).comp (cab.comp (sb _))) (.ite (hb.comp (cba.comp (cab.comp (ha.comp ((sb _).comp (sa _)))))) (.ite ((sa _).comp ((sb _).comp (ha.comp (cab.comp (cba.comp hb))))) I)))))
  | _ :: _ :: _ :: _ => exact Homs.id n
end Go.Ideal

-- Xa
set_option linter.unusedSimpArgs false
set_option linter.unusedVariables false
namespace Go.Ideal
open Go Go.Proofs Go.RowKit
/-! ### Do two strings commute? -/
theorem and1_i64 {z : Int} (h : -9223372036854775808 ≤ z ∧ z ≤ 9223372036854775807) : ibits .and .i64 z 1 = z % 2 := by
  show IntKind.i64.wrap (((BitVec.ofInt IntKind.i64.bits z) &&& (BitVec.ofInt IntKind.i64.bits 1)).toNat : Int) = _
  have hb : IntKind.i64.bits = 64 := rfl
  rw [BitVec.toNat_and]
  have h2 : (BitVec.ofInt IntKind.i64.bits 1).toNat = 2 ^ 1 - 1 := by rw [hb]; rfl
  rw [h2, Nat.and_two_pow_sub_one_eq_mod, BitVec.toNat_ofInt, hb]
  have e : ((((z % ((2 ^ 64 : Nat) : Int)).toNat % 2 ^ 1 : Nat)) : Int) = z % 2 := by omega
  rw [e]
  exact wrap_i64_id (by omega)
theorem parityT {x : Nat} (hx : x < 2 ^ 64) : Fn Try.prog 115 [u64T x] (fun r => r = intT ((pcS x : Int) % 2)) := by
  refine Fn_of Try.func115 rfl (Nat.le_of_ble_eq_true rfl) (fun X => ?_)
  repeat (refine StepC.go ?_)
  refine TS_callE (onesT hx) ?_
  have hb := pcS_le x
  repeat (refine StepC.go ?_)
  rw [and1_i64 (by omega)]
  exact retT_1 (.inr rfl) rfl
instance : CallIs Try.prog 115 := .of Try.func115 rfl rfl
def commP (p q : PauD) : Bool := decide ((pcS (p.x &&& q.z) : Int) % 2 = (pcS (p.z &&& q.x) : Int) % 2)
theorem commP_symm (p q : PauD) : commP p q = commP q p := by
  unfold commP
  rw [Nat.and_comm q.x, Nat.and_comm q.z]
  exact decide_eq_decide.2 eq_comm
theorem bothS_v {p q : PauD} (hp : PauV p) (hq : PauV q) (hn : p.n = q.n) : bothS p q = 0 := by
  unfold bothS; rw [if_pos hp.2, if_pos hq.2, if_pos hn]
theorem mulC_v {p q : PauD} (hp : PauV p) (hq : PauV q) (hn : p.n = q.n) : mulC p q = (mulP p q, 0) := by
  unfold mulC; rw [if_pos (bothS_v hp hq hn)]
theorem mphS_comm (p q : PauD) : (mphS p q = mphS q p) ↔ commP p q = true := by
  unfold mphS commP
  rw [Nat.xor_comm q.x, Nat.xor_comm q.z, Nat.and_comm q.z p.x, decide_eq_true_eq]
  omega
set_option synthInstance.maxSize 4000 in
set_option synthInstance.maxHeartbeats 400000 in
set_option maxHeartbeats 2000000 in
theorem commuteT {p q : PauD} (hp : PauV p) (hq : PauV q) (hn : p.n = q.n) : Fn Try.prog 80 [pauT p, pauT q] (fun r => r = .tup [boolT (commP p q), intT 0]) := by
  have : Lt64 p.x := ⟨hp.1.1⟩
  have : Lt64 p.z := ⟨hp.1.2⟩
  have : Lt64 q.x := ⟨hq.1.1⟩
  have : Lt64 q.z := ⟨hq.1.2⟩
  have h1 : p.x &&& q.z < 2 ^ 64 := Nat.and_lt_two_pow _ hq.1.2
  have h2 : p.z &&& q.x < 2 ^ 64 := Nat.and_lt_two_pow _ hq.1.1
  refine Fn_of Try.func80 rfl (Nat.le_of_ble_eq_true rfl) (fun X => ?_)
  repeat (first | refine StepC.go ?_ | intro _)
  refine TS_callE (bothT hp.1 hq.1) ?_
  rw [bothS_v hp hq hn]
  repeat (first | refine StepC.go ?_ | refine TD_take rfl rfl ?_ | refine TD_load rfl rfl ?_ | refine TD_one rfl ?_ | refine FiltT_nil ?_ | refine FiltT_keep rfl ?_ | refine TV_draw (id := 4) (plan := [.take 0, .take 1, .take 2, .take 3, .take 4, .take 6, .take 7, .take 8, .take 9, .take 10, .one 5, .one 11, .take 12, .take 13, .take 14]) (by kernel_rfl) ?_ | refine TV_cond_f (by first | rfl | assumption) ?_)
  refine TS_callE (parityT h1) ?_
  repeat (first | refine StepC.go ?_ | refine TD_one rfl ?_ | refine FiltT_nil ?_ | refine FiltT_keep rfl ?_)
  refine TS_callE (parityT h2) ?_
  repeat (first | refine StepC.go ?_ | refine TD_take rfl rfl ?_)
  refine retT_2 (.inr rfl) ?_
  rfl
instance : CallIs Try.prog 80 := .of Try.func80 rfl rfl
theorem tcommT {p q : PauD} (hp : PauV p) (hq : PauV q) (hn : p.n = q.n) : Fn Try.prog 54 [pauT p, pauT q] (fun r => r = boolT (commP p q)) := by
  refine Fn_of Try.func54 rfl (Nat.le_of_ble_eq_true rfl) (fun X => ?_)
  repeat (first | refine StepC.go ?_ | intro _)
  refine TS_call (commuteT hp hq hn) ?_
  rintro _ rfl
  repeat (refine StepC.go ?_)
  exact retT_1 (.inr rfl) rfl
instance : CallIs Try.prog 54 := .of Try.func54 rfl rfl
theorem commuteRT {p q : PauD} (hp : PauV p) (hq : PauV q) (hn : p.n = q.n) : Fn Try.prog 25 [pauT p, pauT q] (fun r => r = .tup [boolT (commP p q), intT 0]) := by
  refine Fn_of Try.func25 rfl (Nat.le_of_ble_eq_true rfl) (fun X => ?_)
  repeat (first | refine StepC.go ?_ | intro _)
  refine TS_call (mulRT hp.1 hq.1) ?_
  rintro _ rfl
  rw [mulC_v hp hq hn]
  repeat (first | refine StepC.go ?_ | intro _)
  refine TS_call (mulRT hq.1 hp.1) ?_
  rintro _ rfl
  rw [mulC_v hq hp hn.symm]
  repeat (first | refine StepC.go ?_ | intro _ | refine TV_cond_f (by first | rfl | assumption) ?_)
  refine retT_2 (.inr rfl) ?_
  have hx : (mulP p q).x = (mulP q p).x := Nat.xor_comm _ _
  have hz : (mulP p q).z = (mulP q p).z := Nat.xor_comm _ _
  have hnn : (mulP p q).n = (mulP q p).n := hn
  have hph : decide ((mulP p q).ph = (mulP q p).ph) = commP p q := by
    rw [Bool.eq_iff_iff, decide_eq_true_eq]
    exact mphS_comm p q
  simp only [tret, hx, hz, hnn, BEq.rfl, Bool.true_and, Bool.and_true]
  rw [← hph]
  rfl
instance : CallIs Try.prog 25 := .of Try.func25 rfl rfl
theorem rcommT {p q : PauD} (hp : PauV p) (hq : PauV q) (hn : p.n = q.n) : Fn Try.prog 55 [pauT p, pauT q] (fun r => r = boolT (commP p q)) := by
  refine Fn_of Try.func55 rfl (Nat.le_of_ble_eq_true rfl) (fun X => ?_)
  repeat (first | refine StepC.go ?_ | intro _)
  refine TS_call (commuteRT hp hq hn) ?_
  rintro _ rfl
  repeat (refine StepC.go ?_)
  exact retT_1 (.inr rfl) rfl
instance : CallIs Try.prog 55 := .of Try.func55 rfl rfl
end Go.Ideal

-- Xb
set_option linter.unusedSimpArgs false
set_option linter.unusedVariables false
namespace Go.Ideal
open Go Go.Proofs Go.RowKit
/-! ### Tableaux, and Check -/
structure TabD where
  n : Int
  rows : List PauD
def pauRows (ps : List PauD) : List (List Tr) := ps.map pauCs
instance {ps : List PauD} : LenO (pauRows ps) ps.length := ⟨by simp [pauRows]⟩
instance {ps : List PauD} : LenT (pauRows ps) ps.length := ⟨by simp [pauRows]⟩
@[reducible] def tabCs (t : TabD) : List Tr := [intT t.n, .sl 4 (pauRows t.rows)]
@[reducible] def tabT (t : TabD) : Tr := .agg (tabCs t)
def TabW (t : TabD) : Prop := ∀ p ∈ t.rows, PauW p
def rowAt (t : TabD) (i : Nat) : PauD := t.rows.getD i noPau
theorem rowAt_get {t : TabD} {i : Nat} {p : PauD} (h : t.rows[i]? = some p) : rowAt t i = p := by simp [rowAt, h]
def rowOk (t : TabD) (p : PauD) : Bool := decide (checkP p = 0) && decide (p.n = t.n) && decide (p.ph.tmod 2 = 0)
def pairsB (t : TabD) (i : Nat) : Nat → Bool
  | 0 => true
  | j + 1 => pairsB t i j && (commP (rowAt t i) (rowAt t j) == !decide ((i : Int) = (j : Int) + t.n))
def rowsB (t : TabD) : Nat → Bool
  | 0 => true
  | i + 1 => rowsB t i && (rowOk t (rowAt t i) && pairsB t i i)
def tabR (t : TabD) : Bool := decide (0 ≤ t.n) && decide (t.n ≤ 64) && decide ((t.rows.length : Int) = 2 * t.n)
def checkTab (t : TabD) : Int := if tabR t = true ∧ rowsB t t.rows.length = true then 0 else 180
theorem pairsB_false {t : TabD} {i j : Nat} (h : pairsB t i j = false) : ∀ k, j ≤ k → pairsB t i k = false := by
  intro k hk
  induction k with
  | zero => have : j = 0 := by omega
            rw [← this]; exact h
  | succ k ih =>
    by_cases h1 : j = k + 1
    · rw [← h1]; exact h
    · rw [pairsB, ih (by omega)]; rfl
theorem rowsB_false {t : TabD} {i : Nat} (h : rowsB t i = false) : ∀ k, i ≤ k → rowsB t k = false := by
  intro k hk
  induction k with
  | zero => have : i = 0 := by omega
            rw [← this]; exact h
  | succ k ih =>
    by_cases h1 : i = k + 1
    · rw [← h1]; exact h
    · rw [rowsB, ih (by omega)]; rfl
theorem rowsB_ok {t : TabD} : ∀ {k : Nat}, rowsB t k = true → ∀ i, i < k → rowOk t (rowAt t i) = true ∧ pairsB t i i = true := by
  intro k
  induction k with
  | zero => intro _ i hi; omega
  | succ k ih =>
    intro h i hi
    simp only [rowsB, Bool.and_eq_true] at h
    by_cases h1 : i = k
    · rw [h1]; exact h.2
    · exact ih h.1 i (by omega)
theorem rowOk_v {t : TabD} {p : PauD} (hw : PauW p) (h : rowOk t p = true) : PauV p ∧ p.n = t.n ∧ p.ph.tmod 2 = 0 := by
  simp only [rowOk, Bool.and_eq_true, decide_eq_true_eq] at h
  exact ⟨⟨hw, h.1.1⟩, h.1.2, h.2⟩
set_option synthInstance.maxSize 4000 in
set_option synthInstance.maxHeartbeats 400000 in
set_option maxHeartbeats 4000000 in
theorem tabCheckT {t : TabD} (hw : TabW t) : Fn Try.prog 20 [tabT t] (fun r => r = intT (checkTab t)) := by
  refine Fn_of Try.func20 rfl (Nat.le_of_ble_eq_true rfl) (fun X => ?_)
  refine TV_fact 0 (fun F v h => by obtain ⟨w, h1⟩ := rep_agg_at h (i := 1) rfl; exact rep_small h1) fun hsm => ?_
  have hL : (pauRows t.rows).length = t.rows.length := by simp [pauRows]
  rw [hL] at hsm
  repeat (first | refine StepC.go ?_ | intro _)
  rename_i pt
  refine TS_cut (fun σ B => TGet σ 23 (boolT (!tabR t)) ∧ TGet σ 1 (ptrT pt) ∧ SubP B [(pt, .cells (tabCs t) 24 true)]) ?_ ?_
  · have hwr : 0 ≤ t.n → t.n ≤ 64 → IntKind.i64.wrap (2 * t.n) = 2 * t.n := fun h0 h1 => wrap_small (by omega) (by omega)
    repeat' (first | refine StepC.go ?_ | refine TS_on rfl (by first | rfl | assumption) ?_ | refine TS_off rfl (by first | rfl | assumption) ?_ | refine TS_puw (Pu.pick_t (by first | rfl | assumption)) ?_ | (refine TS_guard rfl ?_ ?_ <;> intro hg))
    all_goals refine ⟨tget_as (congrArg (fun b => boolT b) ?_), inferInstance, inferInstance⟩
    all_goals (rw [Bool.eq_iff_iff]; simp only [hL, tabR, Bool.if_true_left, Bool.if_false_right, Bool.and_eq_true, Bool.and_eq_false_iff, Bool.not_eq_true', Bool.or_eq_true, Bool.or_eq_false_iff, decide_eq_true_eq, decide_eq_false_iff_not, Bool.not_eq_false', Bool.not_false, Bool.not_true, true_iff, false_iff, Bool.decide_eq_true] at * <;> grind)
  rintro σ B ⟨g23, g1, hB⟩
  refine TV_keep _ (p := hB) ?_
  cases hr : tabR t with
  | false =>
    rw [hr] at g23
    repeat (first | refine StepC.go ?_ | refine TV_cond_t (by first | rfl | assumption) ?_)
    refine retT_1 (.inr rfl) ?_
    simp [tret, checkTab, hr]
  | true =>
  rw [hr] at g23
  have hr2 := hr
  simp only [tabR, Bool.and_eq_true, decide_eq_true_eq] at hr2
  obtain ⟨⟨n0, n1⟩, nl⟩ := hr2
  repeat (first | refine StepC.go ?_ | refine TV_cond_f (by first | rfl | assumption) ?_)
  rw [hL]
  refine TV_loop (fun d σ B => ∃ (i : Nat), d = t.rows.length - i ∧ i ≤ t.rows.length ∧ TGet σ 27 (intT (i : Int)) ∧ TGet σ 26 (intT (t.rows.length : Int)) ∧ TGet σ 25 (.sl 4 (pauRows t.rows)) ∧ TGet σ 1 (ptrT pt) ∧ SubP B [(pt, .cells (tabCs t) 24 true)] ∧ rowsB t i = true) t.rows.length
    ⟨0, by omega, Nat.zero_le _, tget_as rfl, inferInstance, inferInstance, inferInstance, inferInstance, rfl⟩ ?_
  clear g23 g1 hB
  rintro d σ B ⟨i, rfl, hi, g27, g26, g25, g1, hB, hrb⟩
  refine TV_keep _ (p := hB) ?_
  repeat (refine StepC.go ?_)
  refine TV_cond ?_ ?_ <;> intro hc
  · have hil : i < t.rows.length := by have := of_decide_eq_true hc; omega
    obtain ⟨p, hp⟩ : ∃ p, t.rows[i]? = some p := ⟨_, List.getElem?_eq_getElem hil⟩
    have ngp : NthG (pauRows t.rows) i (pauCs p) := .map pauCs hp
    have hwp := hw p (List.mem_of_getElem? hp)
    have hat := rowAt_get hp
    repeat (first | refine StepC.go ?_ | intro _)
    rename_i pp
    refine TS_callE (checkPT hwp) ?_
    refine TS_cut (fun σ B => TGet σ 47 (boolT (!rowOk t p)) ∧ TGet σ 3 (intT (i : Int)) ∧ TGet σ 27 (intT (i : Int)) ∧ TGet σ 26 (intT (t.rows.length : Int)) ∧ TGet σ 25 (.sl 4 (pauRows t.rows)) ∧ TGet σ 1 (ptrT pt) ∧ TGet σ 4 (ptrT pp) ∧ SubP B [(pp, .cells (pauCs p) 27 true), (pt, .cells (tabCs t) 24 true)]) ?_ ?_
    · repeat' (first | refine StepC.go ?_ | refine TS_on rfl (by first | rfl | assumption) ?_ | refine TS_off rfl (by first | rfl | assumption) ?_ | refine TS_puw (Pu.pick_t (by first | rfl | assumption)) ?_ | (refine TS_guard rfl ?_ ?_ <;> intro hg))
      · refine TS_puw (Pu.divw (r := p.ph.tmod 2) (by decide) rfl) ?_
        repeat (first | refine StepC.go ?_ | refine TS_on rfl (by first | rfl | assumption) ?_)
        refine ⟨tget_as (congrArg (fun b => boolT b) ?_), inferInstance, inferInstance, inferInstance, inferInstance, inferInstance, inferInstance, inferInstance⟩
        rw [Bool.eq_iff_iff]; simp only [rowOk, Bool.if_true_left, Bool.if_false_right, Bool.and_eq_true, Bool.and_eq_false_iff, Bool.not_eq_true', Bool.or_eq_true, Bool.or_eq_false_iff, decide_eq_true_eq, decide_eq_false_iff_not, Bool.not_eq_false', Bool.not_false, Bool.not_true, true_iff, false_iff, Bool.decide_eq_true] at * <;> grind
      all_goals refine ⟨tget_as (congrArg (fun b => boolT b) ?_), inferInstance, inferInstance, inferInstance, inferInstance, inferInstance, inferInstance, inferInstance⟩
      all_goals (rw [Bool.eq_iff_iff]; simp only [rowOk, Bool.if_true_left, Bool.if_false_right, Bool.and_eq_true, Bool.and_eq_false_iff, Bool.not_eq_true', Bool.or_eq_true, Bool.or_eq_false_iff, decide_eq_true_eq, decide_eq_false_iff_not, Bool.not_eq_false', Bool.not_false, Bool.not_true, true_iff, false_iff, Bool.decide_eq_true] at * <;> grind)
    clear hB g27 g26 g25 g1
    rintro σ B ⟨g47, g3, g27, g26, g25, g1, g4, hB⟩
    refine TV_keep _ (p := hB) ?_
    cases hok : rowOk t p with
    | false =>
      rw [hok] at g47
      repeat (first | refine StepC.go ?_ | refine TV_cond_t (by first | rfl | assumption) ?_)
      refine retT_1 (.inr rfl) ?_
      have hf : rowsB t (i + 1) = false := by rw [rowsB, hat, hok, Bool.false_and, Bool.and_false]
      simp [tret, checkTab, rowsB_false hf _ hil]
    | true =>
    rw [hok] at g47
    obtain ⟨vp, np, _⟩ := rowOk_v hwp hok
    have hne : pauRows t.rows ≠ [] := fun h => by rw [h] at hL; simp at hL; omega
    repeat (first | refine StepC.go ?_ | refine TV_cond_f (by first | rfl | assumption) ?_)
    refine TS_puw (Pu.slice_hi hne (by omega)) ?_
    have hLi : ((pauRows t.rows).take i).length = i := by rw [List.length_take, hL]; omega
    repeat (refine StepC.go ?_)
    rw [hLi]
    refine TV_loop (fun d σ B => ∃ (j : Nat), d = i - j ∧ j ≤ i ∧ TGet σ 53 (intT (j : Int)) ∧ TGet σ 52 (intT (i : Int)) ∧ TGet σ 51 (.sl 4 ((pauRows t.rows).take i)) ∧ TGet σ 3 (intT (i : Int)) ∧ TGet σ 27 (intT (i : Int)) ∧ TGet σ 26 (intT (t.rows.length : Int)) ∧ TGet σ 25 (.sl 4 (pauRows t.rows)) ∧ TGet σ 1 (ptrT pt) ∧ TGet σ 4 (ptrT pp) ∧
        SubP B [(pp, .cells (pauCs p) 27 true), (pt, .cells (tabCs t) 24 true)] ∧ pairsB t i j = true) i
      ⟨0, by omega, Nat.zero_le _, tget_as rfl, inferInstance, inferInstance, inferInstance, inferInstance, inferInstance, inferInstance, inferInstance, inferInstance, inferInstance, rfl⟩ ?_
    clear hB g27 g26 g25 g1 g47 g3 g4
    rintro d σ B ⟨j, rfl, hj, g53, g52, g51, g3, g27, g26, g25, g1, g4, hB, hpb⟩
    refine TV_keep _ (p := hB) ?_
    repeat (refine StepC.go ?_)
    refine TV_cond ?_ ?_ <;> intro hc2
    · have hji : j < i := by have := of_decide_eq_true hc2; omega
      obtain ⟨q, hq⟩ : ∃ q, t.rows[j]? = some q := ⟨_, List.getElem?_eq_getElem (by omega)⟩
      have ngq : NthG ((pauRows t.rows).take i) j (pauCs q) := ⟨by rw [List.getElem?_take, if_pos hji]; exact (NthG.map pauCs hq).eq⟩
      have hwq := hw q (List.mem_of_getElem? hq)
      have haq := rowAt_get hq
      obtain ⟨oq, _⟩ := rowsB_ok hrb j hji
      rw [haq] at oq
      obtain ⟨vq, nq, _⟩ := rowOk_v hwq oq
      repeat (first | refine StepC.go ?_ | intro _ | refine TD_take rfl rfl ?_ | refine TD_load rfl rfl ?_ | refine TD_one rfl ?_ | refine FiltT_nil ?_ | refine FiltT_drop rfl ?_ | refine FiltT_keep rfl ?_ | refine TD_takew rfl rfl (Pu.addi (by omega)) ?_ | refine TV_draw (id := 11) (plan := [.take 0, .take 1, .take 3, .take 4, .take 5, .take 6, .take 7, .take 8, .one 2, .take 9]) (by kernel_rfl) ?_)
      refine TS_callE (tcommT vp vq (by rw [np, nq])) ?_
      repeat (first | refine StepC.go ?_ | refine TD_take rfl rfl ?_)
      have hnx : pairsB t i (j + 1) = (commP p q == !decide ((i : Int) = (j : Int) + t.n)) := by rw [pairsB, hpb, hat, haq, Bool.true_and]
      refine TV_cond ?_ ?_ <;> intro hc3
      · repeat (refine StepC.go ?_)
        refine retT_1 (.inr rfl) ?_
        have e1 : pairsB t i (j + 1) = false := by rw [hnx]; simpa using hc3
        have hf : rowsB t (i + 1) = false := by rw [rowsB, pairsB_false e1 i hji, Bool.and_false, Bool.and_false]
        simp [tret, checkTab, rowsB_false hf _ hil]
      · have e1 : pairsB t i (j + 1) = true := by rw [hnx]; simpa using hc3
        repeat (first | refine StepC.go ?_ | refine TS_puw (Pu.addi (by omega)) ?_)
        refine ⟨_, ?_, j + 1, rfl, by omega, tget_as rfl, inferInstance, inferInstance, inferInstance, inferInstance, inferInstance, inferInstance, inferInstance, inferInstance, inferInstance, e1⟩
        omega
    · have hji : j = i := by have := of_decide_eq_false hc2; omega
      subst hji
      repeat (first | refine StepC.go ?_ | refine TS_puw (Pu.addi (by omega)) ?_)
      refine ⟨_, ?_, j + 1, rfl, by omega, tget_as rfl, inferInstance, inferInstance, inferInstance, inferInstance, ?_⟩
      · omega
      · rw [rowsB, hrb, hat, hok, hpb]; rfl
  · have hil : i = t.rows.length := by have := of_decide_eq_false hc; omega
    rw [hil] at hrb
    repeat (refine StepC.go ?_)
    refine retT_1 (.inr rfl) ?_
    simp [tret, checkTab, hr, hrb]
instance : CallIs Try.prog 20 := .of Try.func20 rfl rfl
end Go.Ideal

-- Xc
set_option linter.unusedSimpArgs false
set_option linter.unusedVariables false
namespace Go.Ideal
open Go Go.Proofs Go.RowKit
/-! ### The reference's Check of a tableau -/
set_option synthInstance.maxSize 4000 in
set_option synthInstance.maxHeartbeats 400000 in
set_option maxHeartbeats 4000000 in
theorem tabCheckRT {t : TabD} (hw : TabW t) : Fn Try.prog 21 [tabT t] (fun r => r = intT (checkTab t)) := by
  refine Fn_of Try.func21 rfl (Nat.le_of_ble_eq_true rfl) (fun X => ?_)
  refine TV_fact 0 (fun F v h => by obtain ⟨w, h1⟩ := rep_agg_at h (i := 1) rfl; exact rep_small h1) fun hsm => ?_
  have hL : (pauRows t.rows).length = t.rows.length := by simp [pauRows]
  rw [hL] at hsm
  repeat (first | refine StepC.go ?_ | intro _)
  rename_i pt
  refine TS_cut (fun σ B => TGet σ 22 (boolT (!tabR t)) ∧ TGet σ 1 (ptrT pt) ∧ SubP B [(pt, .cells (tabCs t) 24 true)]) ?_ ?_
  · have hwr : 0 ≤ t.n → t.n ≤ 64 → IntKind.i64.wrap (2 * t.n) = 2 * t.n := fun h0 h1 => wrap_small (by omega) (by omega)
    repeat' (first | refine StepC.go ?_ | refine TS_on rfl (by first | rfl | assumption) ?_ | refine TS_off rfl (by first | rfl | assumption) ?_ | refine TS_puw (Pu.pick_t (by first | rfl | assumption)) ?_ | (refine TS_guard rfl ?_ ?_ <;> intro hg))
    all_goals refine ⟨tget_as (congrArg (fun b => boolT b) ?_), inferInstance, inferInstance⟩
    all_goals (rw [Bool.eq_iff_iff]; simp only [hL, tabR, Bool.if_true_left, Bool.if_false_right, Bool.and_eq_true, Bool.and_eq_false_iff, Bool.not_eq_true', Bool.or_eq_true, Bool.or_eq_false_iff, decide_eq_true_eq, decide_eq_false_iff_not, Bool.not_eq_false', Bool.not_false, Bool.not_true, true_iff, false_iff, Bool.decide_eq_true] at * <;> grind)
  rintro σ B ⟨g22, g1, hB⟩
  refine TV_keep _ (p := hB) ?_
  cases hr : tabR t with
  | false =>
    rw [hr] at g22
    repeat (first | refine StepC.go ?_ | refine TV_cond_t (by first | rfl | assumption) ?_)
    refine retT_1 (.inr rfl) ?_
    simp [tret, checkTab, hr]
  | true =>
  rw [hr] at g22
  have hr2 := hr
  simp only [tabR, Bool.and_eq_true, decide_eq_true_eq] at hr2
  obtain ⟨⟨n0, n1⟩, nl⟩ := hr2
  repeat (first | refine StepC.go ?_ | refine TV_cond_f (by first | rfl | assumption) ?_)
  refine TV_loop (fun d σ B => ∃ (i : Nat), d = t.rows.length - i ∧ i ≤ t.rows.length ∧ TGet σ 3 (intT (i : Int)) ∧ TGet σ 1 (ptrT pt) ∧ SubP B [(pt, .cells (tabCs t) 24 true)] ∧ rowsB t i = true) t.rows.length
    ⟨0, by omega, Nat.zero_le _, tget_as rfl, inferInstance, inferInstance, rfl⟩ ?_
  clear g22 g1 hB
  rintro d σ B ⟨i, rfl, hi, g3, g1, hB, hrb⟩
  refine TV_keep _ (p := hB) ?_
  repeat (refine StepC.go ?_)
  rw [hL]
  refine TV_cond ?_ ?_ <;> intro hc
  · have hil : i < t.rows.length := by have := of_decide_eq_true hc; omega
    obtain ⟨p, hp⟩ : ∃ p, t.rows[i]? = some p := ⟨_, List.getElem?_eq_getElem hil⟩
    have ngp : NthG (pauRows t.rows) i (pauCs p) := .map pauCs hp
    have hwp := hw p (List.mem_of_getElem? hp)
    have hat := rowAt_get hp
    repeat (first | refine StepC.go ?_ | intro _)
    rename_i pp
    refine TS_callE (checkRT' hwp) ?_
    refine TS_cut (fun σ B => TGet σ 50 (boolT (!rowOk t p)) ∧ TGet σ 3 (intT (i : Int)) ∧ TGet σ 1 (ptrT pt) ∧ TGet σ 4 (ptrT pp) ∧ SubP B [(pp, .cells (pauCs p) 27 true), (pt, .cells (tabCs t) 24 true)]) ?_ ?_
    · repeat' (first | refine StepC.go ?_ | refine TS_on rfl (by first | rfl | assumption) ?_ | refine TS_off rfl (by first | rfl | assumption) ?_ | refine TS_puw (Pu.pick_t (by first | rfl | assumption)) ?_ | (refine TS_guard rfl ?_ ?_ <;> intro hg))
      · refine TS_puw (Pu.divw (r := p.ph.tmod 2) (by decide) rfl) ?_
        repeat (first | refine StepC.go ?_ | refine TS_on rfl (by first | rfl | assumption) ?_)
        refine ⟨tget_as (congrArg (fun b => boolT b) ?_), inferInstance, inferInstance, inferInstance, inferInstance⟩
        rw [Bool.eq_iff_iff]; simp only [rowOk, Bool.if_true_left, Bool.if_false_right, Bool.and_eq_true, Bool.and_eq_false_iff, Bool.not_eq_true', Bool.or_eq_true, Bool.or_eq_false_iff, decide_eq_true_eq, decide_eq_false_iff_not, Bool.not_eq_false', Bool.not_false, Bool.not_true, true_iff, false_iff, Bool.decide_eq_true] at * <;> grind
      all_goals refine ⟨tget_as (congrArg (fun b => boolT b) ?_), inferInstance, inferInstance, inferInstance, inferInstance⟩
      all_goals (rw [Bool.eq_iff_iff]; simp only [rowOk, Bool.if_true_left, Bool.if_false_right, Bool.and_eq_true, Bool.and_eq_false_iff, Bool.not_eq_true', Bool.or_eq_true, Bool.or_eq_false_iff, decide_eq_true_eq, decide_eq_false_iff_not, Bool.not_eq_false', Bool.not_false, Bool.not_true, true_iff, false_iff, Bool.decide_eq_true] at * <;> grind)
    clear hB g3 g1
    rintro σ B ⟨g50, g3, g1, g4, hB⟩
    refine TV_keep _ (p := hB) ?_
    cases hok : rowOk t p with
    | false =>
      rw [hok] at g50
      repeat (first | refine StepC.go ?_ | refine TV_cond_t (by first | rfl | assumption) ?_)
      refine retT_1 (.inr rfl) ?_
      have hf : rowsB t (i + 1) = false := by rw [rowsB, hat, hok, Bool.false_and, Bool.and_false]
      simp [tret, checkTab, rowsB_false hf _ hil]
    | true =>
    rw [hok] at g50
    obtain ⟨vp, np, _⟩ := rowOk_v hwp hok
    repeat (first | refine StepC.go ?_ | refine TV_cond_f (by first | rfl | assumption) ?_)
    refine TV_loop (fun d σ B => ∃ (j : Nat), d = i - j ∧ j ≤ i ∧ TGet σ 5 (intT (j : Int)) ∧ TGet σ 3 (intT (i : Int)) ∧ TGet σ 1 (ptrT pt) ∧ TGet σ 4 (ptrT pp) ∧
        SubP B [(pp, .cells (pauCs p) 27 true), (pt, .cells (tabCs t) 24 true)] ∧ pairsB t i j = true) i
      ⟨0, by omega, Nat.zero_le _, tget_as rfl, inferInstance, inferInstance, inferInstance, inferInstance, rfl⟩ ?_
    clear hB g1 g50 g3 g4
    rintro d σ B ⟨j, rfl, hj, g5, g3, g1, g4, hB, hpb⟩
    refine TV_keep _ (p := hB) ?_
    repeat (refine StepC.go ?_)
    refine TV_cond ?_ ?_ <;> intro hc2
    · have hji : j < i := by have := of_decide_eq_true hc2; omega
      obtain ⟨q, hq⟩ : ∃ q, t.rows[j]? = some q := ⟨_, List.getElem?_eq_getElem (by omega)⟩
      have ngq : NthG (pauRows t.rows) j (pauCs q) := .map pauCs hq
      have hwq := hw q (List.mem_of_getElem? hq)
      have haq := rowAt_get hq
      obtain ⟨oq, _⟩ := rowsB_ok hrb j hji
      rw [haq] at oq
      obtain ⟨vq, nq, _⟩ := rowOk_v hwq oq
      repeat (first | refine StepC.go ?_ | refine TD_take rfl rfl ?_ | refine TD_load rfl rfl ?_ | refine TD_one rfl ?_ | refine FiltT_nil ?_ | refine FiltT_drop rfl ?_ | refine FiltT_keep rfl ?_ | refine TD_takew rfl rfl (Pu.subi (by omega)) ?_ | refine TV_draw (id := 12) (plan := [.take 0, .take 1, .take 2, .take 3, .take 4, .take 5, .take 7, .take 8, .take 9, .take 10, .take 11, .take 12, .one 6, .take 13]) (by kernel_rfl) ?_)
      refine TS_callE (rcommT vq vp (by rw [np, nq])) ?_
      repeat (first | refine StepC.go ?_ | refine TD_take rfl rfl ?_)
      have hnx : pairsB t i (j + 1) = !(commP q p == decide ((i : Int) - (j : Int) = t.n)) := by
        rw [pairsB, hpb, hat, haq, Bool.true_and, commP_symm p q]
        have e : decide ((i : Int) = (j : Int) + t.n) = decide ((i : Int) - (j : Int) = t.n) := decide_eq_decide.2 (by omega)
        rw [e]
        cases commP q p <;> cases decide ((i : Int) - (j : Int) = t.n) <;> rfl
      refine TV_cond ?_ ?_ <;> intro hc3
      · repeat (refine StepC.go ?_)
        refine retT_1 (.inr rfl) ?_
        have e1 : pairsB t i (j + 1) = false := by rw [hnx]; simpa using hc3
        have hf : rowsB t (i + 1) = false := by rw [rowsB, pairsB_false e1 i hji, Bool.and_false, Bool.and_false]
        simp [tret, checkTab, rowsB_false hf _ hil]
      · have e1 : pairsB t i (j + 1) = true := by rw [hnx]; simpa using hc3
        repeat (first | refine StepC.go ?_ | refine TS_puw (Pu.addi (by omega)) ?_)
        refine ⟨_, ?_, j + 1, rfl, by omega, tget_as rfl, inferInstance, inferInstance, inferInstance, inferInstance, e1⟩
        omega
    · have hji : j = i := by have := of_decide_eq_false hc2; omega
      subst hji
      repeat (first | refine StepC.go ?_ | refine TS_puw (Pu.addi (by omega)) ?_)
      refine ⟨_, ?_, j + 1, rfl, by omega, tget_as rfl, inferInstance, inferInstance, ?_⟩
      · omega
      · rw [rowsB, hrb, hat, hok, hpb]; rfl
  · have hil : i = t.rows.length := by have := of_decide_eq_false hc; omega
    rw [hil] at hrb
    repeat (refine StepC.go ?_)
    refine retT_1 (.inr rfl) ?_
    simp [tret, checkTab, hr, hrb]
instance : CallIs Try.prog 21 := .of Try.func21 rfl rfl
end Go.Ideal

-- Xd
set_option linter.unusedSimpArgs false
set_option linter.unusedVariables false
namespace Go.Ideal
open Go Go.Proofs Go.RowKit
/-! ### What a gate's name and qubits are refused for -/
theorem indexIT {xs : List Int} {x : Int} : Fn Try.prog 117 [.sl 1 (intRows xs), intT x] (fun r => r = intT (idxF (fun y => decide (x = y)) xs 0)) := by
  refine Fn_of Try.func117 rfl (Nat.le_of_ble_eq_true rfl) (fun X => ?_)
  refine TV_fact 0 (fun F v h => rep_small h) fun hsm => ?_
  have hL : (intRows xs).length = xs.length := by simp [intRows]
  rw [hL] at hsm
  repeat (refine StepC.go ?_)
  rw [hL]
  refine TV_loop (fun d σ B => ∃ i : Nat, d = xs.length - i ∧ i ≤ xs.length ∧ TGet σ 8 (intT i) ∧ TGet σ 7 (intT xs.length) ∧ TGet σ 0 (.sl 1 (intRows xs)) ∧ TGet σ 1 (intT x) ∧ SubB [] B ∧ idxF (fun y => decide (x = y)) xs 0 = idxF (fun y => decide (x = y)) (xs.drop i) i) xs.length
    ⟨0, by omega, by omega, inferInstance, inferInstance, inferInstance, inferInstance, inferInstance, rfl⟩ ?_
  rintro d σ B ⟨i, rfl, hi, g8, g7, g0, g1, hB, hK⟩
  refine TV_drop _ hB.eq ?_
  repeat (refine StepC.go ?_)
  refine TV_cond ?_ ?_ <;> intro hc
  · have hil : i < xs.length := by have := of_decide_eq_true hc; omega
    obtain ⟨o, ho⟩ : ∃ o, xs[i]? = some o := ⟨_, List.getElem?_eq_getElem hil⟩
    have ng : NthG (intRows xs) i [intT o] := .map (fun z => [intT z]) ho
    rw [drop_cons ho, idxF] at hK
    repeat (refine StepC.go ?_)
    refine TV_cond ?_ ?_ <;> intro hc2
    · repeat (refine StepC.go ?_)
      refine retT_1 (.inr rfl) ?_
      simp only [tret]
      rw [hK, if_pos hc2]
    · repeat (first | refine StepC.go ?_ | refine TS_puw (Pu.addi (by omega)) ?_)
      refine ⟨_, ?_, i + 1, rfl, by omega, tget_as rfl, inferInstance, inferInstance, inferInstance, inferInstance, by rw [hK, if_neg (by rw [hc2]; decide)]⟩
      omega
  · have hil : i = xs.length := by have := of_decide_eq_false hc; omega
    repeat (refine StepC.go ?_)
    refine retT_1 (.inr rfl) ?_
    simp only [tret]
    rw [hK, List.drop_of_length_le (by omega)]; rfl
theorem containsIT {xs : List Int} {x : Int} : Fn Try.prog 89 [.sl 1 (intRows xs), intT x] (fun r => r = boolT (decide (x ∈ xs))) := by
  refine Fn_of Try.func89 rfl (Nat.le_of_ble_eq_true rfl) (fun X => ?_)
  repeat (refine StepC.go ?_)
  refine TS_call indexIT ?_
  rintro _ rfl
  repeat (refine StepC.go ?_)
  refine retT_1 (.inr rfl) ?_
  simp only [tret]
  rw [idxF_any]
  have : xs.any (fun y => decide (x = y)) = decide (x ∈ xs) := by
    rw [Bool.eq_iff_iff]; simp
  rw [this]
theorem indexFT {xs : List Int} {f : Nat} {a b : List Tr} [c : CallIs Try.prog f] {p : Int → Bool} (hp : ∀ o ∈ xs, Fn Try.prog f ((a ++ [intT o]) ++ b) (fun r => r = boolT (p o))) : Fn Try.prog 116 [.sl 1 (intRows xs), .fn f a b] (fun r => r = intT (idxF p xs 0)) := by
  refine Fn_of Try.func116 rfl (Nat.le_of_ble_eq_true rfl) (fun X => ?_)
  refine TV_fact 0 (fun F v h => rep_small h) fun hsm => ?_
  have hL : (intRows xs).length = xs.length := by simp [intRows]
  rw [hL] at hsm
  repeat (refine StepC.go ?_)
  rw [hL]
  refine TV_loop (fun d σ B => ∃ i : Nat, d = xs.length - i ∧ i ≤ xs.length ∧ TGet σ 8 (intT i) ∧ TGet σ 7 (intT xs.length) ∧ TGet σ 0 (.sl 1 (intRows xs)) ∧ TGet σ 1 (.fn f a b) ∧ SubB [] B ∧ idxF p xs 0 = idxF p (xs.drop i) i) xs.length
    ⟨0, by omega, by omega, inferInstance, inferInstance, inferInstance, inferInstance, inferInstance, rfl⟩ ?_
  rintro d σ B ⟨i, rfl, hi, g8, g7, g0, g1, hB, hK⟩
  refine TV_drop _ hB.eq ?_
  repeat (refine StepC.go ?_)
  refine TV_cond ?_ ?_ <;> intro hc
  · have hil : i < xs.length := by have := of_decide_eq_true hc; omega
    obtain ⟨o, ho⟩ : ∃ o, xs[i]? = some o := ⟨_, List.getElem?_eq_getElem hil⟩
    have ng : NthG (intRows xs) i [intT o] := .map (fun z => [intT z]) ho
    rw [drop_cons ho, idxF] at hK
    repeat (refine StepC.go ?_)
    refine TS_callV (hp o (List.mem_of_getElem? ho)) ?_
    rintro _ rfl
    repeat (refine StepC.go ?_)
    refine TV_cond ?_ ?_ <;> intro hc2
    · repeat (refine StepC.go ?_)
      refine retT_1 (.inr rfl) ?_
      simp only [tret]
      rw [hK, if_pos hc2]
    · repeat (first | refine StepC.go ?_ | refine TS_puw (Pu.addi (by omega)) ?_)
      refine ⟨_, ?_, i + 1, rfl, by omega, tget_as rfl, inferInstance, inferInstance, inferInstance, inferInstance, by rw [hK, if_neg (by rw [hc2]; decide)]⟩
      omega
  · have hil : i = xs.length := by have := of_decide_eq_false hc; omega
    repeat (refine StepC.go ?_)
    refine retT_1 (.inr rfl) ?_
    simp only [tret]
    rw [hK, List.drop_of_length_le (by omega)]; rfl
instance : CallIs Try.prog 116 := .of Try.func116 rfl rfl
theorem anyIT {xs : List Int} {f : Nat} {a b : List Tr} [c : CallIs Try.prog f] {p : Int → Bool} (hp : ∀ o ∈ xs, Fn Try.prog f ((a ++ [intT o]) ++ b) (fun r => r = boolT (p o))) : Fn Try.prog 87 [.sl 1 (intRows xs), .fn f a b] (fun r => r = boolT (xs.any p)) := by
  refine Fn_of Try.func87 rfl (Nat.le_of_ble_eq_true rfl) (fun X => ?_)
  repeat (refine StepC.go ?_)
  refine TS_call (indexFT hp) ?_
  rintro _ rfl
  repeat (refine StepC.go ?_)
  refine retT_1 (.inr rfl) ?_
  simp only [tret]
  rw [idxF_any]
instance : CallIs Try.prog 87 := .of Try.func87 rfl rfl
theorem qub1T (q n : Int) (tr : Tr) : Fn Try.prog 88 [intT q, .pf [intT n, tr]] (fun r => r = boolT (outS n q)) := by
  refine Fn_of Try.func88 rfl (Nat.le_of_ble_eq_true rfl) (fun X => ?_)
  repeat' (first | refine StepC.go ?_ | refine TS_on rfl (by first | rfl | assumption) ?_ | refine TS_off rfl (by first | rfl | assumption) ?_ | refine TS_puw (Pu.pick_t (by first | rfl | assumption)) ?_ | (refine TS_guard rfl ?_ ?_ <;> intro hg))
  all_goals refine retT_1 (.inr rfl) ?_
  all_goals simp_all [tret, outS]
instance : CallIs Try.prog 88 := .of Try.func88 rfl rfl
def gfS (n : Int) (nm : ByteArray) (qs : List Int) : Int :=
  if arityS nm = 0 then 80
  else if (qs.length : Int) ≠ arityS nm then 111
  else if qs.any (outS n) = true then 112
  else if dupK qs qs.length = true then 113
  else if cliffS nm = false then 181
  else 0
theorem gfS_ok {n : Int} {nm : ByteArray} {qs : List Int} (h : gfS n nm qs = 0) : GateOk nm qs n := by
  unfold gfS at h
  split at h
  · cases h
  · split at h
    · cases h
    · split at h
      · cases h
      · split at h
        · cases h
        · split at h
          · cases h
          · rename_i h1 h2 h3 h4 h5
            refine ⟨by simpa using h5, by simpa using h2, fun x hx => ?_, ?_⟩
            · have := List.any_eq_false.1 (Bool.eq_false_iff.2 h3) x hx
              simpa [outS] using this
            · have := dupK_nodup qs.length (Nat.le_refl _) (Bool.eq_false_iff.2 h4)
              rwa [List.take_length] at this
set_option synthInstance.maxSize 4000 in
set_option synthInstance.maxHeartbeats 400000 in
set_option maxHeartbeats 4000000 in
theorem qubitsT {t : TabD} {nm : ByteArray} {qs : List Int} : Fn Try.prog 63 [tabT t, strT nm, .sl 1 (intRows qs)] (fun r => r = intT (gfS t.n nm qs)) := by
  refine Fn_of Try.func63 rfl (Nat.le_of_ble_eq_true rfl) (fun X => ?_)
  refine TV_fact 2 (fun F v h => rep_small h) fun hsm => ?_
  have hL : (intRows qs).length = qs.length := by simp [intRows]
  rw [hL] at hsm
  repeat (first | refine StepC.go ?_ | intro _)
  rename_i pt
  refine TS_callE (arityT nm) ?_
  repeat (refine StepC.go ?_)
  refine TV_cond ?_ ?_ <;> intro hc1
  · repeat (refine StepC.go ?_)
    refine retT_1 (.inr rfl) ?_
    simp only [tret, gfS]; rw [if_pos (by simpa using hc1)]
  have h1 : ¬ arityS nm = 0 := by simpa using hc1
  repeat (refine StepC.go ?_)
  rw [hL]
  refine TV_cond ?_ ?_ <;> intro hc2
  · repeat (refine StepC.go ?_)
    refine retT_1 (.inr rfl) ?_
    simp only [tret, gfS]; rw [if_neg h1, if_pos (by simpa using hc2)]
  have h2 : ¬ (qs.length : Int) ≠ arityS nm := by simpa using hc2
  repeat (refine StepC.go ?_)
  refine TS_callE (anyIT (p := outS t.n) (fun o _ => qub1T o t.n (.sl 4 (pauRows t.rows)))) ?_
  repeat (refine StepC.go ?_)
  refine TV_cond ?_ ?_ <;> intro hc3
  · repeat (refine StepC.go ?_)
    refine retT_1 (.inr rfl) ?_
    simp only [tret, gfS]; rw [if_neg h1, if_neg h2, if_pos hc3]
  have h3 : ¬ qs.any (outS t.n) = true := by rw [hc3]; decide
  repeat (refine StepC.go ?_)
  rw [hL]
  refine TV_loop (fun d σ B => ∃ (i : Nat), d = qs.length - i ∧ i ≤ qs.length ∧ TGet σ 26 (intT (i : Int)) ∧ TGet σ 25 (intT (qs.length : Int)) ∧ TGet σ 24 (.sl 1 (intRows qs)) ∧ TGet σ 2 (.sl 1 (intRows qs)) ∧ TGet σ 1 (strT nm) ∧ SubB [] B ∧ dupK qs i = false) qs.length
    ⟨0, by omega, Nat.zero_le _, tget_as rfl, inferInstance, inferInstance, inferInstance, inferInstance, inferInstance, rfl⟩ ?_
  rintro d σ B ⟨i, rfl, hi, g26, g25, g24, g2, g1, hB, hdk⟩
  refine TV_drop _ hB.eq ?_
  repeat (refine StepC.go ?_)
  refine TV_cond ?_ ?_ <;> intro hc
  · have hil : i < qs.length := by have := of_decide_eq_true hc; omega
    obtain ⟨o, ho⟩ : ∃ o, qs[i]? = some o := ⟨_, List.getElem?_eq_getElem hil⟩
    have ng : NthG (intRows qs) i [intT o] := .map (fun z => [intT z]) ho
    have hne : intRows qs ≠ [] := fun h => by rw [h] at hL; simp at hL; omega
    have htk : (intRows qs).take i = intRows (qs.take i) := by simp [intRows, List.map_take]
    have hnx : dupK qs (i + 1) = decide (o ∈ qs.take i) := by rw [dupK, hdk, getD_at ho, Bool.false_or]
    repeat (refine StepC.go ?_)
    refine TS_puw (Pu.slice_hi hne (by omega)) ?_
    rw [htk]
    repeat (refine StepC.go ?_)
    refine TS_callE containsIT ?_
    repeat (refine StepC.go ?_)
    refine TV_cond ?_ ?_ <;> intro hc5
    · repeat (refine StepC.go ?_)
      refine retT_1 (.inr rfl) ?_
      simp only [tret, gfS]; rw [if_neg h1, if_neg h2, if_neg h3, if_pos (dupK_more (by rw [hnx]; exact hc5) _ hil)]
    · repeat (first | refine StepC.go ?_ | refine TS_puw (Pu.addi (by omega)) ?_)
      refine ⟨_, ?_, i + 1, rfl, by omega, tget_as rfl, inferInstance, inferInstance, inferInstance, inferInstance, inferInstance, by rw [hnx]; exact hc5⟩
      omega
  · have hil : i = qs.length := by have := of_decide_eq_false hc; omega
    rw [hil] at hdk
    have h4 : ¬ dupK qs qs.length = true := by rw [hdk]; decide
    repeat (refine StepC.go ?_)
    refine TS_callE (cliffT nm) ?_
    repeat (refine StepC.go ?_)
    refine TV_cond ?_ ?_ <;> intro hc5
    · repeat (refine StepC.go ?_)
      refine retT_1 (.inr rfl) ?_
      simp only [tret, gfS]; rw [if_neg h1, if_neg h2, if_neg h3, if_neg h4, if_pos (by simpa using hc5)]
    · repeat (refine StepC.go ?_)
      refine retT_1 (.inr rfl) ?_
      simp only [tret, gfS]; rw [if_neg h1, if_neg h2, if_neg h3, if_neg h4, if_neg (by simpa using hc5)]
instance : CallIs Try.prog 63 := .of Try.func63 rfl rfl
end Go.Ideal

-- Xe
set_option linter.unusedSimpArgs false
set_option linter.unusedVariables false
namespace Go.Ideal
open Go Go.Proofs Go.RowKit
/-! ### Apply, of both; Equal -/
theorem arityRT (b : ByteArray) : Fn Try.prog 98 [strT b] (fun r => r = intT (arityS b)) := Fn_vals (ws := [_]) (fun h => (refArity_spec b h).mono fun _ _ ⟨e1, e2⟩ => ⟨e1, by rw [e2]; exact Ext.refl _⟩) (fun F => rep_v _)
set_option synthInstance.maxSize 4000 in
set_option synthInstance.maxHeartbeats 400000 in
set_option maxHeartbeats 4000000 in
theorem gfaultRT {n : Int} {nm : ByteArray} {qs : List Int} : Fn Try.prog 65 [intT n, strT nm, .sl 1 (intRows qs)] (fun r => r = intT (gfS n nm qs)) := by
  refine Fn_of Try.func65 rfl (Nat.le_of_ble_eq_true rfl) (fun X => ?_)
  refine TV_fact 2 (fun F v h => rep_small h) fun hsm => ?_
  have hL : (intRows qs).length = qs.length := by simp [intRows]
  rw [hL] at hsm
  repeat (refine StepC.go ?_)
  refine TS_callE (arityRT nm) ?_
  repeat (refine StepC.go ?_)
  refine TV_cond ?_ ?_ <;> intro hc1
  · repeat (refine StepC.go ?_)
    refine retT_1 (.inr rfl) ?_
    simp only [tret, gfS]; rw [if_pos (by simpa using hc1)]
  have h1 : ¬ arityS nm = 0 := by simpa using hc1
  repeat (refine StepC.go ?_)
  rw [hL]
  refine TV_cond ?_ ?_ <;> intro hc2
  · repeat (refine StepC.go ?_)
    refine retT_1 (.inr rfl) ?_
    simp only [tret, gfS]; rw [if_neg h1, if_pos (by simpa using hc2)]
  have h2 : ¬ (qs.length : Int) ≠ arityS nm := by simpa using hc2
  have h2e : arityS nm = (qs.length : Int) := by omega
  rw [h2e]
  repeat (refine StepC.go ?_)
  refine TV_loop (fun d σ B => ∃ (i : Nat), d = qs.length - i ∧ i ≤ qs.length ∧ TGet σ 8 (intT (i : Int)) ∧ TGet σ 7 (intT (qs.length : Int)) ∧ TGet σ 2 (.sl 1 (intRows qs)) ∧ TGet σ 1 (strT nm) ∧ TGet σ 0 (intT n) ∧ SubB [] B ∧ (qs.take i).any (outS n) = false) qs.length
    ⟨0, by omega, Nat.zero_le _, tget_as rfl, inferInstance, inferInstance, inferInstance, inferInstance, inferInstance, rfl⟩ ?_
  rintro d σ B ⟨i, rfl, hi, g8, g7, g2, g1, g0, hB, han⟩
  refine TV_drop _ hB.eq ?_
  repeat (refine StepC.go ?_)
  refine TV_cond ?_ ?_ <;> intro hc
  · have hil : i < qs.length := by have := of_decide_eq_true hc; omega
    obtain ⟨o, ho⟩ : ∃ o, qs[i]? = some o := ⟨_, List.getElem?_eq_getElem hil⟩
    have ng : NthG (intRows qs) i [intT o] := .map (fun z => [intT z]) ho
    repeat (refine StepC.go ?_)
    refine TS_cut (fun σ B => TGet σ 36 (boolT (outS n o)) ∧ TGet σ 8 (intT (i : Int)) ∧ TGet σ 7 (intT (qs.length : Int)) ∧ TGet σ 2 (.sl 1 (intRows qs)) ∧ TGet σ 1 (strT nm) ∧ TGet σ 0 (intT n) ∧ SubB [] B) ?_ ?_
    · repeat' (first | refine StepC.go ?_ | refine TS_on rfl (by first | rfl | assumption) ?_ | refine TS_off rfl (by first | rfl | assumption) ?_ | refine TS_puw (Pu.pick_t (by first | rfl | assumption)) ?_ | (refine TS_guard rfl ?_ ?_ <;> intro hg))
      all_goals exact ⟨tget_as (by simp_all [outS]), inferInstance, inferInstance, inferInstance, inferInstance, inferInstance, inferInstance⟩
    clear hB g8 g7 g2 g1 g0
    rintro σ B ⟨g36, g8, g7, g2, g1, g0, hB⟩
    refine TV_drop _ hB.eq ?_
    refine TV_cond ?_ ?_ <;> intro hc3
    · repeat (refine StepC.go ?_)
      refine retT_1 (.inr rfl) ?_
      simp only [tret, gfS]; rw [if_neg h1, if_neg h2, if_pos (any_at ho hc3)]
    · repeat (first | refine StepC.go ?_ | refine TS_puw (Pu.addi (by omega)) ?_)
      refine ⟨_, ?_, i + 1, rfl, by omega, tget_as rfl, inferInstance, inferInstance, inferInstance, inferInstance, inferInstance, any_take han ho hc3⟩
      omega
  have hil : i = qs.length := by have := of_decide_eq_false hc; omega
  rw [hil, List.take_length] at han
  have h3 : ¬ qs.any (outS n) = true := by rw [han]; decide
  repeat (refine StepC.go ?_)
  refine TV_loop (fun d σ B => ∃ (i : Nat), d = qs.length - i ∧ i ≤ qs.length ∧ TGet σ 9 (intT (i : Int)) ∧ TGet σ 7 (intT (qs.length : Int)) ∧ TGet σ 2 (.sl 1 (intRows qs)) ∧ TGet σ 1 (strT nm) ∧ SubB [] B ∧ dupK qs i = false) qs.length
    ⟨0, by omega, Nat.zero_le _, tget_as rfl, inferInstance, inferInstance, inferInstance, inferInstance, rfl⟩ ?_
  clear hB g8 g7 g2 g1 g0
  rintro d σ B ⟨i, rfl, hi, g9, g7, g2, g1, hB, hdk⟩
  refine TV_drop _ hB.eq ?_
  repeat (refine StepC.go ?_)
  refine TV_cond ?_ ?_ <;> intro hc
  · have hil : i < qs.length := by have := of_decide_eq_true hc; omega
    obtain ⟨o, ho⟩ : ∃ o, qs[i]? = some o := ⟨_, List.getElem?_eq_getElem hil⟩
    have ng : NthG (intRows qs) i [intT o] := .map (fun z => [intT z]) ho
    have hnx : dupK qs (i + 1) = decide (o ∈ qs.take i) := by rw [dupK, hdk, getD_at ho, Bool.false_or]
    repeat (refine StepC.go ?_)
    refine TV_loop (fun d σ B => ∃ (j : Nat), d = i - j ∧ j ≤ i ∧ TGet σ 10 (intT (j : Int)) ∧ TGet σ 9 (intT (i : Int)) ∧ TGet σ 7 (intT (qs.length : Int)) ∧ TGet σ 2 (.sl 1 (intRows qs)) ∧ TGet σ 1 (strT nm) ∧ SubB [] B ∧ o ∉ qs.take j) i
      ⟨0, by omega, Nat.zero_le _, tget_as rfl, inferInstance, inferInstance, inferInstance, inferInstance, inferInstance, by simp⟩ ?_
    clear hB g9 g7 g2 g1
    rintro d σ B ⟨j, rfl, hj, g10, g9, g7, g2, g1, hB, hno⟩
    refine TV_drop _ hB.eq ?_
    repeat (refine StepC.go ?_)
    refine TV_cond ?_ ?_ <;> intro hc4
    · have hji : j < i := by have := of_decide_eq_true hc4; omega
      obtain ⟨o2, ho2⟩ : ∃ o, qs[j]? = some o := ⟨_, List.getElem?_eq_getElem (by omega)⟩
      have ng2 : NthG (intRows qs) j [intT o2] := .map (fun z => [intT z]) ho2
      repeat (first | refine StepC.go ?_ | refine TD_take rfl rfl ?_ | refine TD_load rfl rfl ?_ | refine TV_draw (id := 17) (plan := [.take 0, .take 1, .take 2, .take 3, .take 4, .take 5, .take 6, .take 7, .take 8]) (by kernel_rfl) ?_)
      refine TV_cond ?_ ?_ <;> intro hc5
      · have heq : o = o2 := by simpa using hc5
        have hmem : o ∈ qs.take i := by
          rw [heq]
          exact List.mem_of_getElem? (i := j) (by rw [List.getElem?_take, if_pos hji]; exact ho2)
        repeat (refine StepC.go ?_)
        refine retT_1 (.inr rfl) ?_
        simp only [tret, gfS]; rw [if_neg h1, if_neg h2, if_neg h3, if_pos (dupK_more (by rw [hnx]; exact decide_eq_true hmem) _ hil)]
      · have hneq : ¬ o = o2 := by simpa using hc5
        repeat (first | refine StepC.go ?_ | refine TS_puw (Pu.addi (by omega)) ?_)
        refine ⟨_, ?_, j + 1, rfl, by omega, tget_as rfl, inferInstance, inferInstance, inferInstance, inferInstance, inferInstance, ?_⟩
        · omega
        · rw [take_succ ho2, List.mem_append, List.mem_singleton]
          exact fun h => h.elim hno hneq
    · have hji : j = i := by have := of_decide_eq_false hc4; omega
      subst hji
      repeat (first | refine StepC.go ?_ | refine TS_puw (Pu.addi (by omega)) ?_)
      refine ⟨_, ?_, j + 1, rfl, by omega, tget_as rfl, inferInstance, inferInstance, inferInstance, inferInstance, by rw [hnx]; exact decide_eq_false hno⟩
      omega
  · have hil : i = qs.length := by have := of_decide_eq_false hc; omega
    rw [hil] at hdk
    have h4 : ¬ dupK qs qs.length = true := by rw [hdk]; decide
    repeat (refine StepC.go ?_)
    refine TS_callE (cliffRT nm) ?_
    repeat (refine StepC.go ?_)
    refine TV_cond ?_ ?_ <;> intro hc5
    · repeat (refine StepC.go ?_)
      refine retT_1 (.inr rfl) ?_
      simp only [tret, gfS]; rw [if_neg h1, if_neg h2, if_neg h3, if_neg h4, if_pos (by simpa using hc5)]
    · repeat (refine StepC.go ?_)
      refine retT_1 (.inr rfl) ?_
      simp only [tret, gfS]; rw [if_neg h1, if_neg h2, if_neg h3, if_neg h4, if_neg (by simpa using hc5)]
instance : CallIs Try.prog 65 := .of Try.func65 rfl rfl
end Go.Ideal

-- Xf
set_option linter.unusedSimpArgs false
set_option linter.unusedVariables false
namespace Go.Ideal
open Go Go.Proofs Go.RowKit
/-! ### Apply, of both -/
def noTab : TabD := ⟨0, []⟩
def tapS (t : TabD) (nm : ByteArray) (qs : List Int) : TabD × Int :=
  if checkTab t = 0 then (if gfS t.n nm qs = 0 then (⟨t.n, t.rows.map (byS nm qs)⟩, 0) else (noTab, gfS t.n nm qs)) else (noTab, 180)
theorem checkTab_or (t : TabD) : checkTab t = 0 ∨ checkTab t = 180 := by unfold checkTab; split <;> simp
theorem checkTab_ok {t : TabD} (hw : TabW t) (h : checkTab t = 0) : 0 ≤ t.n ∧ t.n ≤ 64 ∧ (t.rows.length : Int) = 2 * t.n ∧ ∀ p ∈ t.rows, PauV p ∧ p.n = t.n := by
  unfold checkTab at h
  split at h
  · rename_i h1
    obtain ⟨h2, h3⟩ := h1
    simp only [tabR, Bool.and_eq_true, decide_eq_true_eq] at h2
    refine ⟨h2.1.1, h2.1.2, h2.2, fun p hp => ?_⟩
    obtain ⟨i, hi⟩ := List.getElem?_of_mem hp
    have hil := (List.getElem?_eq_some_iff.1 hi).1
    have h4 := (rowsB_ok h3 i hil).1
    rw [rowAt_get hi] at h4
    obtain ⟨a, b, _⟩ := rowOk_v (hw p hp) h4
    exact ⟨a, b⟩
  · cases h
instance {xs : List PauD} {i : Nat} {z : PauD} : SetR (pauRows xs) i (pauCs z) (pauRows (xs.set i z)) := ⟨by simp [pauRows, List.map_set]⟩
def fillP (F : PauD → PauD) (ps : List PauD) (i : Nat) : List PauD := (ps.take i).map F ++ List.replicate (ps.length - i) noPau
theorem fillP_len (F : PauD → PauD) (ps : List PauD) {i : Nat} (hi : i ≤ ps.length) : (fillP F ps i).length = ps.length := by
  unfold fillP; rw [List.length_append, List.length_map, List.length_take, List.length_replicate]; omega
theorem fillP_at (F : PauD → PauD) {ps : List PauD} {i : Nat} (hi : i < ps.length) : (fillP F ps i)[i]? = some noPau := by
  unfold fillP
  have e : ((ps.take i).map F).length = i := by rw [List.length_map, List.length_take]; omega
  obtain ⟨m, hm⟩ : ∃ m, ps.length - i = m + 1 := ⟨ps.length - i - 1, by omega⟩
  rw [List.getElem?_append_right (by omega), e, Nat.sub_self, hm]; rfl
theorem fillP_set (F : PauD → PauD) {ps : List PauD} {i : Nat} {p : PauD} (hp : ps[i]? = some p) : (fillP F ps i).set i (F p) = fillP F ps (i + 1) := by
  have hi := (List.getElem?_eq_some_iff.1 hp).1
  unfold fillP
  rw [take_succ hp, List.map_append, List.append_assoc]
  obtain ⟨m, hm⟩ : ∃ m, ps.length - i = m + 1 := ⟨ps.length - i - 1, by omega⟩
  rw [hm, List.replicate_succ, show ps.length - (i + 1) = m by omega]
  have e : ((ps.take i).map F).length = i := by rw [List.length_map, List.length_take]; omega
  rw [List.set_append_right _ _ (by omega), e, Nat.sub_self]
  rfl
set_option synthInstance.maxSize 4000 in
set_option synthInstance.maxHeartbeats 400000 in
set_option maxHeartbeats 4000000 in
theorem tabApplyT {t : TabD} {nm : ByteArray} {qs : List Int} (hw : TabW t) : Fn Try.prog 29 [tabT t, strT nm, .sl 1 (intRows qs)] (fun r => r = .tup [tabT (tapS t nm qs).1, intT (tapS t nm qs).2]) := by
  refine Fn_of Try.func29 rfl (Nat.le_of_ble_eq_true rfl) (fun X => ?_)
  have hL : (pauRows t.rows).length = t.rows.length := by simp [pauRows]
  repeat (first | refine StepC.go ?_ | intro _)
  refine TS_callE (tabCheckT hw) ?_
  repeat (refine StepC.go ?_)
  refine TV_cond ?_ ?_ <;> intro hc
  · have h1 : ¬ checkTab t = 0 := by simpa using hc
    repeat (refine StepC.go ?_)
    refine retT_2c [.agg [intT 0, .sl 4 []], intT (checkTab t)] (.inr rfl) ?_
    simp only [tret, tapS]
    rw [if_neg h1, (checkTab_or t).resolve_left h1]; rfl
  have h1 : checkTab t = 0 := by simpa using hc
  obtain ⟨n0, n1, nl, hv⟩ := checkTab_ok hw h1
  repeat (refine StepC.go ?_)
  refine TS_callE qubitsT ?_
  repeat (refine StepC.go ?_)
  refine TV_cond ?_ ?_ <;> intro hc2
  · repeat (refine StepC.go ?_)
    refine retT_2c [.agg [intT 0, .sl 4 []], intT (gfS t.n nm qs)] (.inr rfl) ?_
    simp only [tret, tapS]
    rw [if_pos h1, if_neg (by simpa using hc2)]; rfl
  have h2 : gfS t.n nm qs = 0 := by simpa using hc2
  have hg := gfS_ok h2
  repeat (first | refine StepC.go ?_ | refine TS_makeSlice (by omega) (fun _ => ?_) | refine TD_take rfl rfl ?_ | refine TD_load rfl rfl ?_ | refine TD_one rfl ?_ | refine FiltT_nil ?_ | refine FiltT_drop rfl ?_ | refine FiltT_keep rfl ?_ | refine TD_virt rfl rfl rfl (fun _ => ?_) | refine TV_draw (id := 7) (plan := [.take 0, .take 1, .take 2, .take 3, .take 4, .virt 7, .one 5, .take 6, .one 8]) (by kernel_rfl) ?_)
  rename_i pt pr px pa
  rw [hL]
  have e0 : List.replicate t.rows.length [Tr.v (.int .i64 0), Tr.v (.int .u64 0), Tr.v (.int .u64 0), Tr.v (.int .i64 0)] = pauRows (fillP (byS nm qs) t.rows 0) := by
    unfold fillP pauRows
    simp [noPau]
  rw [e0]
  refine TV_loop (fun d σ B => ∃ (i : Nat), d = t.rows.length - i ∧ i ≤ t.rows.length ∧ TGet σ 37 (intT (i : Int)) ∧ TGet σ 36 (intT (t.rows.length : Int)) ∧ TGet σ 35 (.sl 4 (pauRows t.rows)) ∧ TGet σ 10 (ptrT px) ∧ TGet σ 6 (ptrT pr) ∧ TGet σ 1 (strT nm) ∧ TGet σ 2 (.sl 1 (intRows qs)) ∧
      SubP B [(pa, .arr 4 (pauRows (fillP (byS nm qs) t.rows i)) 27 true), (px, .cells [intT t.n, .v (.slice (some (ad pa 0)) t.rows.length t.rows.length)] 24 true), (pr, .cells [intT 0, .v (.slice none 0 0)] 24 true)]) t.rows.length
    ⟨0, by omega, Nat.zero_le _, tget_as rfl, inferInstance, inferInstance, inferInstance, inferInstance, inferInstance, inferInstance, inferInstance⟩ ?_
  rintro d σ B ⟨i, rfl, hi, g37, g36, g35, g10, g6, g1, g2, hB⟩
  refine TV_keep _ (p := hB) ?_
  have hlF : LenT (pauRows (fillP (byS nm qs) t.rows i)) t.rows.length := ⟨by rw [pauRows, List.length_map, fillP_len _ _ hi]⟩
  repeat (refine StepC.go ?_)
  refine TV_cond ?_ ?_ <;> intro hc3
  · have hil : i < t.rows.length := by have := of_decide_eq_true hc3; omega
    obtain ⟨p, hp⟩ : ∃ p, t.rows[i]? = some p := ⟨_, List.getElem?_eq_getElem hil⟩
    have ngp : NthG (pauRows t.rows) i (pauCs p) := .map pauCs hp
    have ngf : NthG (pauRows (fillP (byS nm qs) t.rows i)) i (pauCs noPau) := .map pauCs (fillP_at _ hil)
    obtain ⟨vp, np⟩ := hv p (List.mem_of_getElem? hp)
    have hst := fillP_set (byS nm qs) hp
    repeat (first | refine StepC.go ?_ | intro _ | refine TD_take rfl rfl ?_ | refine TD_load rfl rfl ?_ | refine TD_one rfl ?_ | refine FiltT_nil ?_ | refine FiltT_drop rfl ?_ | refine FiltT_keep rfl ?_ | refine TV_draw (id := 11) (plan := [.take 0, .take 1, .take 2, .take 3, .take 4, .take 5, .one 6, .take 7, .one 8]) (by kernel_rfl) ?_)
    refine TS_callE (byAll vp (by rw [np]; exact hg)).1 ?_
    repeat (first | refine StepC.go ?_ | refine TS_puw (Pu.addi (by omega)) ?_ | refine TD_take rfl rfl ?_ | refine TD_one rfl ?_ | refine FiltT_nil ?_ | refine FiltT_drop rfl ?_)
    refine ⟨_, ?_, i + 1, rfl, by omega, tget_as rfl, inferInstance, inferInstance, inferInstance, inferInstance, inferInstance, inferInstance, ?_⟩
    · omega
    · rw [← hst]; infer_instance
  · have hil : i = t.rows.length := by have := of_decide_eq_false hc3; omega
    have hfin : fillP (byS nm qs) t.rows i = t.rows.map (byS nm qs) := by rw [hil]; unfold fillP; simp
    rw [hfin]
    have hlM : LenT (pauRows (t.rows.map (byS nm qs))) t.rows.length := ⟨by simp [pauRows]⟩
    have : Sm63 t.rows.length := ⟨by omega⟩
    repeat (refine StepC.go ?_)
    refine retT_2 (.inr rfl) ?_
    simp only [tret, tapS]
    rw [if_pos h1, if_pos h2]
instance : CallIs Try.prog 29 := .of Try.func29 rfl rfl
theorem pauRows_app (xs ys : List PauD) : pauRows (xs ++ ys) = pauRows xs ++ pauRows ys := by simp [pauRows]
set_option synthInstance.maxSize 4000 in
set_option synthInstance.maxHeartbeats 400000 in
set_option maxHeartbeats 4000000 in
theorem tabApplyRT {t : TabD} {nm : ByteArray} {qs : List Int} (hw : TabW t) : Fn Try.prog 30 [tabT t, strT nm, .sl 1 (intRows qs)] (fun r => r = .tup [tabT (tapS t nm qs).1, intT (tapS t nm qs).2]) := by
  refine Fn_of Try.func30 rfl (Nat.le_of_ble_eq_true rfl) (fun X => ?_)
  have hL : (pauRows t.rows).length = t.rows.length := by simp [pauRows]
  repeat (first | refine StepC.go ?_ | intro _)
  rename_i pt pr
  refine TS_callE (tabCheckRT hw) ?_
  repeat (refine StepC.go ?_)
  refine TV_cond ?_ ?_ <;> intro hc
  · have h1 : ¬ checkTab t = 0 := by simpa using hc
    repeat (refine StepC.go ?_)
    refine retT_2c [.agg [intT 0, .sl 4 []], intT 180] (.inr rfl) ?_
    simp only [tret, tapS]
    rw [if_neg h1]; rfl
  have h1 : checkTab t = 0 := by simpa using hc
  obtain ⟨n0, n1, nl, hv⟩ := checkTab_ok hw h1
  repeat (refine StepC.go ?_)
  refine TS_callE gfaultRT ?_
  repeat (refine StepC.go ?_)
  refine TV_cond ?_ ?_ <;> intro hc2
  · repeat (refine StepC.go ?_)
    refine retT_2c [.agg [intT 0, .sl 4 []], intT (gfS t.n nm qs)] (.inr rfl) ?_
    simp only [tret, tapS]
    rw [if_pos h1, if_neg (by simpa using hc2)]; rfl
  have h2 : gfS t.n nm qs = 0 := by simpa using hc2
  have hg := gfS_ok h2
  repeat (first | refine StepC.go ?_ | intro _)
  rename_i po
  refine TV_ghost 4 27 ?_
  intro b0
  refine TV_loop (fun d σ B => ∃ (i b : Nat), d = t.rows.length - i ∧ i ≤ t.rows.length ∧ TGet σ 10 (intT (i : Int)) ∧ TGet σ 9 (ptrT po) ∧ TGet σ 3 (ptrT pt) ∧ TGet σ 6 (ptrT pr) ∧ TGet σ 1 (strT nm) ∧ TGet σ 2 (.sl 1 (intRows qs)) ∧
      SubP B [(pt, .cells (tabCs t) 24 true), (po, .cells [intT t.n, .v (gsv b i)] 24 true), (pr, .cells [intT 0, .v (.slice none 0 0)] 24 true), (b, .arr 4 (pauRows ((t.rows.take i).map (byS nm qs))) 27 false)]) t.rows.length
    ⟨0, b0, by omega, Nat.zero_le _, tget_as rfl, inferInstance, inferInstance, inferInstance, inferInstance, inferInstance, inferInstanceAs (SubP _ [(pt, .cells (tabCs t) 24 true), (po, .cells [intT t.n, .v (.slice none 0 0)] 24 true), (pr, .cells [intT 0, .v (.slice none 0 0)] 24 true), (b0, .arr 4 [] 27 false)])⟩ ?_
  rintro d σ B ⟨i, b, rfl, hi, g10, g9, g3, g6, g1, g2, hB⟩
  refine TV_keep _ (p := hB) ?_
  have hlF : LenT (pauRows ((t.rows.take i).map (byS nm qs))) i := ⟨by rw [pauRows, List.length_map, List.length_map, List.length_take]; omega⟩
  repeat (refine StepC.go ?_)
  rw [hL]
  refine TV_cond ?_ ?_ <;> intro hc3
  · have hil : i < t.rows.length := by have := of_decide_eq_true hc3; omega
    obtain ⟨p, hp⟩ : ∃ p, t.rows[i]? = some p := ⟨_, List.getElem?_eq_getElem hil⟩
    have ngp : NthG (pauRows t.rows) i (pauCs p) := .map pauCs hp
    obtain ⟨vp, np⟩ := hv p (List.mem_of_getElem? hp)
    repeat (first | refine StepC.go ?_ | refine TD_take rfl rfl ?_ | refine TD_load rfl rfl ?_ | refine TD_one rfl ?_ | refine FiltT_nil ?_ | refine FiltT_keep rfl ?_ | refine TV_draw (id := 10) (plan := [.take 0, .take 1, .take 2, .take 3, .take 4, .take 5, .take 6, .take 7, .take 8, .one 9, .one 10, .one 11, .take 12, .one 13]) (by kernel_rfl) ?_)
    refine TS_callE (byAll vp (by rw [np]; exact hg)).2.1 ?_
    repeat (first | refine StepC.go ?_ | intro _ | refine TS_puw (Pu.addi (by omega)) ?_ | refine TS_append (by omega) (fun _ => ?_) | refine TD_take rfl rfl ?_ | refine TD_one rfl ?_ | refine FiltT_nil ?_ | refine FiltT_drop rfl ?_ | refine FiltT_keep rfl ?_)
    rename_i b2
    have hd : pauRows ((t.rows.take (i + 1)).map (byS nm qs)) = pauRows ((t.rows.take i).map (byS nm qs)) ++ [pauCs (byS nm qs p)] := by
      rw [take_succ hp, List.map_append, pauRows_app]; rfl
    refine ⟨_, ?_, i + 1, b2, rfl, by omega, tget_as rfl, inferInstance, inferInstance, inferInstance, inferInstance, inferInstance, ?_⟩
    · omega
    · rw [hd]; infer_instance
  · have hil : i = t.rows.length := by have := of_decide_eq_false hc3; omega
    subst hil
    rw [List.take_length] at *
    have : Sm63 t.rows.length := ⟨by omega⟩
    repeat (refine StepC.go ?_)
    refine retT_2 (.inr rfl) ?_
    simp only [tret, tapS]
    rw [if_pos h1, if_pos h2]
instance : CallIs Try.prog 30 := .of Try.func30 rfl rfl
/-! ### Equal, of the same trees -/
section
variable {σ : Nat → Tr} {B : Boxes} {x y : Operand} {yt : TypeId} {a b c d a' b' c' d' : Int}
instance Pu.pau_ne [e1 : TEval σ x (.agg [.v (.int .i64 a), .v (.int .u64 b), .v (.int .u64 c), .v (.int .i64 d)])] [e2 : TEval σ y (.agg [.v (.int .i64 a'), .v (.int .u64 b'), .v (.int .u64 c'), .v (.int .i64 d')])] : Pu Try.prog σ B (.binOp .neq 27 x y yt) (.v (.bool (!(a == a' && (b == b' && (c == c' && (d == d' && true))))))) :=
  Pu.neStruct [.int .i64 a, .int .u64 b, .int .u64 c, .int .i64 d] [.int .i64 a', .int .u64 b', .int .u64 c', .int .i64 d'] rfl rfl Try.underlying27 pau_held pau_guard rfl rfl pau_eqF
instance (priority := 2000) Pu.pau_ne_same [e1 : TEval σ x (.agg [.v (.int .i64 a), .v (.int .u64 b), .v (.int .u64 c), .v (.int .i64 d)])] [e2 : TEval σ y (.agg [.v (.int .i64 a), .v (.int .u64 b), .v (.int .u64 c), .v (.int .i64 d)])] : Pu Try.prog σ B (.binOp .neq 27 x y yt) (.v (.bool false)) := by
  have h := Pu.pau_ne (σ := σ) (B := B) (x := x) (y := y) (yt := yt) (a := a) (b := b) (c := c) (d := d) (a' := a) (b' := b) (c' := c) (d' := d)
  simpa using h
end
theorem tabEqualT {t : TabD} : Fn Try.prog 22 [tabT t, tabT t] (fun r => r = boolT true) := by
  refine Fn_of Try.func22 rfl (Nat.le_of_ble_eq_true rfl) (fun X => ?_)
  refine TV_fact 0 (fun F v h => by obtain ⟨w, h1⟩ := rep_agg_at h (i := 1) rfl; exact rep_small h1) fun hsm => ?_
  have hL : (pauRows t.rows).length = t.rows.length := by simp [pauRows]
  rw [hL] at hsm
  repeat (first | refine StepC.go ?_ | intro _ | refine TS_on rfl (by first | rfl | assumption) ?_ | refine TV_cond_f (by first | rfl | assumption) ?_)
  rename_i pa pb
  refine TV_loop (fun d σ B => ∃ (i : Nat), d = t.rows.length - i ∧ i ≤ t.rows.length ∧ TGet σ 5 (intT (i : Int)) ∧ TGet σ 2 (ptrT pa) ∧ TGet σ 3 (ptrT pb) ∧ SubP B [(pa, .cells (tabCs t) 24 true), (pb, .cells (tabCs t) 24 true)]) t.rows.length
    ⟨0, by omega, Nat.zero_le _, tget_as rfl, inferInstance, inferInstance, inferInstance⟩ ?_
  rintro d σ B ⟨i, rfl, hi, g5, g2, g3, hB⟩
  refine TV_keep _ (p := hB) ?_
  repeat (refine StepC.go ?_)
  rw [hL]
  refine TV_cond ?_ ?_ <;> intro hc
  · have hil : i < t.rows.length := by have := of_decide_eq_true hc; omega
    obtain ⟨p, hp⟩ : ∃ p, t.rows[i]? = some p := ⟨_, List.getElem?_eq_getElem hil⟩
    have ngp : NthG (pauRows t.rows) i (pauCs p) := .map pauCs hp
    repeat (first | refine StepC.go ?_ | refine TS_puw (Pu.addi (by omega)) ?_ | refine TD_take rfl rfl ?_ | refine TD_load rfl rfl ?_ | refine TV_draw (id := 6) (plan := [.take 0, .take 1, .take 2, .take 3, .take 4, .take 5, .take 6, .take 7, .take 8, .take 9, .take 10]) (by kernel_rfl) ?_ | refine TV_cond_f (by first | rfl | assumption) ?_)
    refine ⟨_, ?_, i + 1, rfl, by omega, tget_as rfl, inferInstance, inferInstance, inferInstance⟩
    omega
  · repeat (refine StepC.go ?_)
    exact retT_1 (.inr rfl) rfl
instance : CallIs Try.prog 22 := .of Try.func22 rfl rfl
end Go.Ideal

-- Xg
set_option linter.unusedSimpArgs false
set_option linter.unusedVariables false
namespace Go.Ideal
open Go Go.Proofs Go.RowKit
/-! ### What a tableau tells -/
structure TabG (t : TabD) : Prop where
  n0 : 0 ≤ t.n
  n1 : t.n ≤ 64
  nl : (t.rows.length : Int) = 2 * t.n
  hv : ∀ p ∈ t.rows, PauV p ∧ p.n = t.n
theorem TabG.of {t : TabD} (hw : TabW t) (h : checkTab t = 0) : TabG t := by
  obtain ⟨a, b, c, d⟩ := checkTab_ok hw h
  exact ⟨a, b, c, d⟩
theorem TabG.at_ {t : TabD} (g : TabG t) {i : Nat} (hi : i < t.rows.length) : t.rows[i]? = some (rowAt t i) ∧ PauV (rowAt t i) ∧ (rowAt t i).n = t.n := by
  obtain ⟨p, hp⟩ : ∃ p, t.rows[i]? = some p := ⟨_, List.getElem?_eq_getElem hi⟩
  rw [rowAt_get hp]
  exact ⟨hp, g.hv p (List.mem_of_getElem? hp)⟩
theorem indexPT {ps : List PauD} {f : Nat} {a b : List Tr} [c : CallIs Try.prog f] {p : PauD → Bool} (hp : ∀ o ∈ ps, Fn Try.prog f ((a ++ [pauT o]) ++ b) (fun r => r = boolT (p o))) : Fn Try.prog 79 [.sl 4 (pauRows ps), .fn f a b] (fun r => r = intT (idxF p ps 0)) := by
  refine Fn_of Try.func79 rfl (Nat.le_of_ble_eq_true rfl) (fun X => ?_)
  refine TV_fact 0 (fun F v h => rep_small h) fun hsm => ?_
  have hL : (pauRows ps).length = ps.length := by simp [pauRows]
  rw [hL] at hsm
  repeat (refine StepC.go ?_)
  rw [hL]
  refine TV_loop (fun d σ B => ∃ i : Nat, d = ps.length - i ∧ i ≤ ps.length ∧ TGet σ 8 (intT i) ∧ TGet σ 7 (intT ps.length) ∧ TGet σ 0 (.sl 4 (pauRows ps)) ∧ TGet σ 1 (.fn f a b) ∧ SubB [] B ∧ idxF p ps 0 = idxF p (ps.drop i) i) ps.length
    ⟨0, by omega, by omega, inferInstance, inferInstance, inferInstance, inferInstance, inferInstance, rfl⟩ ?_
  rintro d σ B ⟨i, rfl, hi, g8, g7, g0, g1, hB, hK⟩
  refine TV_drop _ hB.eq ?_
  repeat (refine StepC.go ?_)
  refine TV_cond ?_ ?_ <;> intro hc
  · have hil : i < ps.length := by have := of_decide_eq_true hc; omega
    obtain ⟨o, ho⟩ : ∃ o, ps[i]? = some o := ⟨_, List.getElem?_eq_getElem hil⟩
    have ng : NthG (pauRows ps) i (pauCs o) := .map pauCs ho
    rw [drop_cons ho, idxF] at hK
    repeat (refine StepC.go ?_)
    refine TS_callV (hp o (List.mem_of_getElem? ho)) ?_
    rintro _ rfl
    repeat (refine StepC.go ?_)
    refine TV_cond ?_ ?_ <;> intro hc2
    · repeat (refine StepC.go ?_)
      refine retT_1 (.inr rfl) ?_
      simp only [tret]
      rw [hK, if_pos hc2]
    · repeat (first | refine StepC.go ?_ | refine TS_puw (Pu.addi (by omega)) ?_)
      refine ⟨_, ?_, i + 1, rfl, by omega, tget_as rfl, inferInstance, inferInstance, inferInstance, inferInstance, by rw [hK, if_neg (by rw [hc2]; decide)]⟩
      omega
  · have hil : i = ps.length := by have := of_decide_eq_false hc; omega
    repeat (refine StepC.go ?_)
    refine retT_1 (.inr rfl) ?_
    simp only [tret]
    rw [hK, List.drop_of_length_le (by omega)]; rfl
instance : CallIs Try.prog 79 := .of Try.func79 rfl rfl
def xAt (q : Nat) (p : PauD) : Bool := decide (((((p.x >>> q : Nat) &&& 1 : Nat)) : Int) = 1)
theorem loose1T {p : PauD} {q : Nat} (hw : PauW p) (hq : q < 64) : Fn Try.prog 85 [pauT p, .pf [intT (q : Int)]] (fun r => r = boolT (xAt q p)) := by
  have : Lt64 p.x := ⟨hw.1⟩
  have : Lt64 (p.x >>> q) := ⟨Nat.lt_of_le_of_lt (Nat.shiftRight_le _ _) hw.1⟩
  refine Fn_of Try.func85 rfl (Nat.le_of_ble_eq_true rfl) (fun X => ?_)
  repeat (first | refine StepC.go ?_ | intro _)
  exact retT_1 (.inr rfl) rfl
instance : CallIs Try.prog 85 := .of Try.func85 rfl rfl
def looseS (t : TabD) (q : Nat) : Int := idxF (xAt q) (t.rows.drop t.n.toNat) 0
theorem looseT {t : TabD} {q : Nat} (g : TabG t) (hn : 0 < t.n) (hq : q < 64) : Fn Try.prog 61 [tabT t, intT (q : Int)] (fun r => r = intT (looseS t q)) := by
  refine Fn_of Try.func61 rfl (Nat.le_of_ble_eq_true rfl) (fun X => ?_)
  have hL : (pauRows t.rows).length = t.rows.length := by simp [pauRows]
  obtain ⟨N, hN⟩ : ∃ N : Nat, t.n = (N : Int) := ⟨t.n.toNat, by have := g.n0; omega⟩
  have hNt : t.n.toNat = N := by omega
  have nl := g.nl
  rw [hN] at nl
  have : AsNat t.n N := ⟨hN⟩
  repeat (first | refine StepC.go ?_ | intro _)
  refine TS_puw (Pu.slice_lo (by omega)) ?_
  have hd : (pauRows t.rows).drop N = pauRows (t.rows.drop N) := by simp [pauRows, List.map_drop]
  rw [hd]
  repeat (refine StepC.go ?_)
  refine TS_callE (indexPT (p := xAt q) (fun o ho => loose1T (g.hv o (List.mem_of_mem_drop ho)).1.1 hq)) ?_
  repeat (refine StepC.go ?_)
  refine retT_1 (.inr rfl) ?_
  simp only [tret, looseS]
  rw [hNt]
instance : CallIs Try.prog 61 := .of Try.func61 rfl rfl
def oneZ (n : Int) (q : Nat) (b : Int) : PauD := ⟨n, 0, (1 <<< q) % 18446744073709551616, 2 * b⟩
theorem tabOneT {n b : Int} {q : Nat} (hb : 0 ≤ b ∧ b ≤ 1) : Fn Try.prog 62 [intT n, intT (q : Int), intT b] (fun r => r = pauT (oneZ n q b)) := by
  have : Lt64 1 := ⟨by decide⟩
  refine Fn_of Try.func62 rfl (Nat.le_of_ble_eq_true rfl) (fun X => ?_)
  repeat (first | refine StepC.go ?_ | intro _)
  rw [wrap_small (n := 2 * b) (by omega) (by omega)]
  exact retT_1 (.inr rfl) rfl
instance : CallIs Try.prog 62 := .of Try.func62 rfl rfl
end Go.Ideal

-- Xh
set_option linter.unusedSimpArgs false
set_option linter.unusedVariables false
namespace Go.Ideal
open Go Go.Proofs Go.RowKit
/-! ### A string's value -/
def groupK (t : TabD) (p : PauD) : Nat → PauD
  | 0 => ⟨t.n, 0, 0, 0⟩
  | i + 1 => if commP p (rowAt t i) = true then groupK t p i else mulP (groupK t p i) (rowAt t (t.n.toNat + i))
theorem groupK_v {t : TabD} (g : TabG t) (p : PauD) : ∀ i, i ≤ t.n.toNat → PauV (groupK t p i) ∧ (groupK t p i).n = t.n := by
  intro i
  induction i with
  | zero => intro _; exact ⟨eye_v g.n0 g.n1, rfl⟩
  | succ i ih =>
    intro hi
    obtain ⟨a, b⟩ := ih (by omega)
    rw [groupK]
    split
    · exact ⟨a, b⟩
    · have nl := g.nl
      have n0 := g.n0
      obtain ⟨_, c, d⟩ := g.at_ (i := t.n.toNat + i) (by omega)
      exact ⟨mul_v a c (by rw [b, d]), b⟩
set_option synthInstance.maxSize 4000 in
set_option synthInstance.maxHeartbeats 400000 in
set_option maxHeartbeats 4000000 in
theorem tabGroupT {t : TabD} {p : PauD} (g : TabG t) (hp : PauV p) (hpn : p.n = t.n) : Fn Try.prog 78 [tabT t, pauT p] (fun r => r = pauT (groupK t p t.n.toNat)) := by
  refine Fn_of Try.func78 rfl (Nat.le_of_ble_eq_true rfl) (fun X => ?_)
  have hL : (pauRows t.rows).length = t.rows.length := by simp [pauRows]
  obtain ⟨N, hN⟩ : ∃ N : Nat, t.n = (N : Int) := ⟨t.n.toNat, by have := g.n0; omega⟩
  have hNt : t.n.toNat = N := by omega
  have nl := g.nl
  have n1 := g.n1
  rw [hNt]
  repeat (first | refine StepC.go ?_ | intro _)
  rename_i pt pp pr pq
  refine TV_loop (fun d σ B => ∃ (i : Nat), d = N - i ∧ i ≤ N ∧ TGet σ 12 (intT (i : Int)) ∧ TGet σ 11 (intT t.n) ∧ TGet σ 2 (ptrT pt) ∧ TGet σ 3 (ptrT pp) ∧ TGet σ 4 (ptrT pr) ∧ TGet σ 5 (ptrT pq) ∧
      SubP B [(pq, .cells (pauCs (groupK t p i)) 27 true), (pr, .cells [intT 0, .v (.int .u64 0), .v (.int .u64 0), intT 0] 27 true), (pp, .cells (pauCs p) 27 true), (pt, .cells (tabCs t) 24 true)]) N
    ⟨0, by omega, Nat.zero_le _, tget_as rfl, inferInstance, inferInstance, inferInstance, inferInstance, inferInstance, inferInstanceAs (SubP _ [(pq, .cells [intT t.n, .v (.int .u64 0), .v (.int .u64 0), intT 0] 27 true), (pr, .cells [intT 0, .v (.int .u64 0), .v (.int .u64 0), intT 0] 27 true), (pp, .cells (pauCs p) 27 true), (pt, .cells (tabCs t) 24 true)])⟩ ?_
  rintro d σ B ⟨i, rfl, hi, g12, g11, g2, g3, g4, g5, hB⟩
  refine TV_keep _ (p := hB) ?_
  repeat (refine StepC.go ?_)
  refine TV_cond ?_ ?_ <;> intro hc
  · have hil : i < N := by have := of_decide_eq_true hc; omega
    obtain ⟨h1, v1, m1⟩ := g.at_ (i := i) (by omega)
    obtain ⟨h2, v2, m2⟩ := g.at_ (i := N + i) (by omega)
    obtain ⟨vk, nk⟩ := groupK_v g p i (by omega)
    have ng1 : NthG (pauRows t.rows) i (pauCs (rowAt t i)) := .map pauCs h1
    have ng2 : NthG (pauRows t.rows) (N + i) (pauCs (rowAt t (N + i))) := .map pauCs h2
    have an : AsNat (t.n + (i : Int)) (N + i) := ⟨by rw [hN]; omega⟩
    repeat (first | refine StepC.go ?_ | refine TD_take rfl rfl ?_ | refine TD_load rfl rfl ?_ | refine TD_one rfl ?_ | refine FiltT_nil ?_ | refine FiltT_drop rfl ?_ | refine FiltT_keep rfl ?_ | refine TV_draw (id := 5) (plan := [.take 0, .take 1, .take 2, .take 3, .take 4, .take 5, .one 6, .take 7]) (by kernel_rfl) ?_)
    refine TS_callE (tcommT hp v1 (by rw [hpn, m1])) ?_
    repeat (first | refine StepC.go ?_ | refine TD_take rfl rfl ?_)
    refine TV_cond ?_ ?_ <;> intro hc2
    · have hcf : commP p (rowAt t i) = false := by simpa using hc2
      repeat (first | refine TD_take rfl rfl ?_ | refine TD_load rfl rfl ?_ | refine TD_one rfl ?_ | refine FiltT_nil ?_ | refine FiltT_drop rfl ?_ | refine FiltT_keep rfl ?_ | refine TD_takew rfl rfl (Pu.addi (by omega)) ?_ | refine TV_draw (id := 6) (plan := [.take 0, .take 1, .take 2, .take 3, .take 4, .take 5, .take 6, .take 7, .take 8, .one 9, .take 10, .take 11, .take 12, .one 13]) (by kernel_rfl) ?_)
      refine TS_call (mulT vk.1 v2.1) ?_
      rintro _ rfl
      rw [mulC_v vk v2 (by rw [nk, m2])]
      repeat (first | refine StepC.go ?_ | refine TS_puw (Pu.addi (by omega)) ?_ | refine TD_take rfl rfl ?_ | refine TD_one rfl ?_ | refine FiltT_nil ?_ | refine FiltT_drop rfl ?_)
      refine ⟨_, ?_, i + 1, rfl, by omega, tget_as rfl, inferInstance, inferInstance, inferInstance, inferInstance, inferInstance, ?_⟩
      · omega
      · rw [groupK, hcf, hNt]; simp only [Bool.false_eq_true, if_false]; infer_instance
    · have hct : commP p (rowAt t i) = true := by simpa using hc2
      repeat (first | refine StepC.go ?_ | refine TS_puw (Pu.addi (by omega)) ?_)
      refine ⟨_, ?_, i + 1, rfl, by omega, tget_as rfl, inferInstance, inferInstance, inferInstance, inferInstance, inferInstance, ?_⟩
      · omega
      · rw [groupK, if_pos hct]; infer_instance
  · have hil : i = N := by have := of_decide_eq_false hc; omega
    subst hil
    repeat (refine StepC.go ?_)
    exact retT_1 (.inr rfl) rfl
instance : CallIs Try.prog 78 := .of Try.func78 rfl rfl
def allComm (t : TabD) (p : PauD) : Nat → Bool
  | 0 => true
  | i + 1 => allComm t p i && commP p (rowAt t (t.n.toNat + i))
theorem allComm_false {t : TabD} {p : PauD} {i : Nat} (h : allComm t p i = false) : ∀ k, i ≤ k → allComm t p k = false := by
  intro k hk
  induction k with
  | zero => have : i = 0 := by omega
            rw [← this]; exact h
  | succ k ih =>
    by_cases h1 : i = k + 1
    · rw [← h1]; exact h
    · rw [allComm, ih (by omega)]; rfl
def pauEqB (q p : PauD) : Bool := q.n == p.n && ((q.x : Int) == (p.x : Int) && ((q.z : Int) == (p.z : Int) && (q.ph == p.ph && true)))
def valueS (t : TabD) (p : PauD) : Int := if allComm t p t.n.toNat = true then (if pauEqB (groupK t p t.n.toNat) p = true then 1 else -1) else 0
set_option synthInstance.maxSize 4000 in
set_option synthInstance.maxHeartbeats 400000 in
set_option maxHeartbeats 4000000 in
theorem tabValT {t : TabD} {p : PauD} (g : TabG t) (hp : PauV p) (hpn : p.n = t.n) : Fn Try.prog 51 [tabT t, pauT p] (fun r => r = intT (valueS t p)) := by
  refine Fn_of Try.func51 rfl (Nat.le_of_ble_eq_true rfl) (fun X => ?_)
  have hL : (pauRows t.rows).length = t.rows.length := by simp [pauRows]
  obtain ⟨N, hN⟩ : ∃ N : Nat, t.n = (N : Int) := ⟨t.n.toNat, by have := g.n0; omega⟩
  have hNt : t.n.toNat = N := by omega
  have nl := g.nl
  have n1 := g.n1
  have : AsNat t.n N := ⟨hN⟩
  repeat (first | refine StepC.go ?_ | intro _)
  rename_i pt pp
  refine TS_puw (Pu.slice_lo' (by rw [hL]; omega)) ?_
  have hD : ((pauRows t.rows).drop N).length = N := by rw [List.length_drop, hL]; omega
  repeat (refine StepC.go ?_)
  rw [hD]
  refine TV_loop (fun d σ B => ∃ (i : Nat), d = N - i ∧ i ≤ N ∧ TGet σ 13 (intT (i : Int)) ∧ TGet σ 12 (intT (N : Int)) ∧ TGet σ 11 (.sl 4 ((pauRows t.rows).drop N)) ∧ TGet σ 2 (ptrT pt) ∧ TGet σ 3 (ptrT pp) ∧
      SubP B [(pp, .cells (pauCs p) 27 true), (pt, .cells (tabCs t) 24 true)] ∧ allComm t p i = true) N
    ⟨0, by omega, Nat.zero_le _, tget_as rfl, inferInstance, inferInstance, inferInstance, inferInstance, inferInstance, rfl⟩ ?_
  rintro d σ B ⟨i, rfl, hi, g13, g12, g11, g2, g3, hB, hal⟩
  refine TV_keep _ (p := hB) ?_
  repeat (refine StepC.go ?_)
  refine TV_cond ?_ ?_ <;> intro hc
  · have hil : i < N := by have := of_decide_eq_true hc; omega
    obtain ⟨h2, v2, m2⟩ := g.at_ (i := N + i) (by omega)
    have ng2 : NthG ((pauRows t.rows).drop N) i (pauCs (rowAt t (N + i))) := ⟨by rw [List.getElem?_drop]; exact (NthG.map pauCs h2).eq⟩
    repeat (first | refine StepC.go ?_ | intro _)
    refine TS_callE (tcommT hp v2 (by rw [hpn, m2])) ?_
    repeat (refine StepC.go ?_)
    refine TV_cond ?_ ?_ <;> intro hc2
    · have hcf : commP p (rowAt t (N + i)) = false := by simpa using hc2
      repeat (refine StepC.go ?_)
      refine retT_1 (.inr rfl) ?_
      have e : allComm t p (i + 1) = false := by rw [allComm, hNt, hcf, Bool.and_false]
      simp only [tret, valueS]
      rw [hNt, allComm_false e _ hil]; rfl
    · have hct : commP p (rowAt t (N + i)) = true := by simpa using hc2
      repeat (first | refine StepC.go ?_ | refine TS_puw (Pu.addi (by omega)) ?_)
      refine ⟨_, ?_, i + 1, rfl, by omega, tget_as rfl, inferInstance, inferInstance, inferInstance, inferInstance, inferInstance, by rw [allComm, hal, hNt, hct]; rfl⟩
      omega
  · have hil : i = N := by have := of_decide_eq_false hc; omega
    subst hil
    repeat (first | refine StepC.go ?_ | refine TD_load rfl rfl ?_ | refine TD_one rfl ?_ | refine FiltT_nil ?_ | refine FiltT_drop rfl ?_ | refine FiltT_keep rfl ?_ | refine TV_draw (id := 7) (plan := [.take 0, .take 1, .take 3, .one 2, .take 4]) (by kernel_rfl) ?_)
    refine TS_callE (tabGroupT g hp hpn) ?_
    repeat (first | refine StepC.go ?_ | refine TD_take rfl rfl ?_)
    refine TV_cond ?_ ?_ <;> intro hc2
    · repeat (refine StepC.go ?_)
      refine retT_1 (.inr rfl) ?_
      have e : pauEqB (groupK t p t.n.toNat) p = true := hc2
      simp only [tret, valueS]
      rw [if_pos e, hNt, if_pos hal]
    · repeat (refine StepC.go ?_)
      refine retT_1 (.inr rfl) ?_
      have e : ¬ pauEqB (groupK t p t.n.toNat) p = true := by unfold pauEqB; rw [hc2]; decide
      simp only [tret, valueS]
      rw [if_neg e, hNt, if_pos hal]
instance : CallIs Try.prog 51 := .of Try.func51 rfl rfl
end Go.Ideal

-- Xi
set_option linter.unusedSimpArgs false
set_option linter.unusedVariables false
namespace Go.Ideal
open Go Go.Proofs Go.RowKit
/-! ### Certain, Value, Zero -/
theorem oneZ_v {n : Int} {q : Nat} (h0 : 0 ≤ n) (h1 : n ≤ 64) (hq : (q : Int) < n) : PauV (oneZ n q 0) := by
  refine pauV_iff.2 ⟨h0, h1, by show (0 : Int) ≤ 2 * 0; decide, by show (2 * 0 : Int) ≤ 3; decide, fun i hi => ⟨Nat.zero_testBit i, ?_⟩⟩
  show ((1 <<< q) % 18446744073709551616).testBit i = false
  have hi : n.toNat ≤ i := hi
  have hb := bitN_bit (j := q) (by omega) i
  have e : bitN (q : Int) = (1 <<< q) % 18446744073709551616 := by unfold bitN; rw [Int.toNat_natCast]
  rw [e] at hb
  rw [hb]
  exact decide_eq_false (by omega)
def certS (t : TabD) (q : Nat) : Int × Bool := if 0 ≤ looseS t q then (0, false) else ((1 - valueS t (oneZ t.n q 0)).tdiv 2, true)
theorem valueS_b (t : TabD) (p : PauD) : -1 ≤ valueS t p ∧ valueS t p ≤ 1 := by unfold valueS; split <;> (try split) <;> omega
set_option synthInstance.maxSize 4000 in
set_option synthInstance.maxHeartbeats 400000 in
set_option maxHeartbeats 4000000 in
theorem tabCertT {t : TabD} {q : Nat} (g : TabG t) (hq : (q : Int) < t.n) : Fn Try.prog 49 [tabT t, intT (q : Int)] (fun r => r = .tup [intT (certS t q).1, boolT (certS t q).2]) := by
  refine Fn_of Try.func49 rfl (Nat.le_of_ble_eq_true rfl) (fun X => ?_)
  have n1 := g.n1
  repeat (first | refine StepC.go ?_ | intro _)
  refine TS_callE (looseT g (by omega) (by omega)) ?_
  repeat (refine StepC.go ?_)
  refine TV_cond ?_ ?_ <;> intro hc
  · have h1 : 0 ≤ looseS t q := by simpa using hc
    repeat (refine StepC.go ?_)
    refine retT_2 (.inr rfl) ?_
    simp only [tret, certS]; rw [if_pos h1]
  have h1 : ¬ 0 ≤ looseS t q := by simpa using hc
  repeat (first | refine StepC.go ?_ | refine TD_take rfl rfl ?_ | refine TD_load rfl rfl ?_ | refine TD_one rfl ?_ | refine FiltT_nil ?_ | refine FiltT_drop rfl ?_ | refine FiltT_keep rfl ?_ | refine TV_draw (id := 3) (plan := [.take 0, .take 1, .take 2, .take 3, .one 4, .one 5, .take 6, .take 7, .take 8, .take 9]) (by kernel_rfl) ?_)
  refine TS_callE (tabOneT (n := t.n) (q := q) (b := 0) ⟨Int.le_refl 0, by decide⟩) ?_
  repeat (first | refine StepC.go ?_ | refine TD_one rfl ?_ | refine FiltT_nil ?_ | refine FiltT_drop rfl ?_)
  refine TS_callE (tabValT g (oneZ_v g.n0 g.n1 hq) rfl) ?_
  have hb := valueS_b t (oneZ t.n q 0)
  have hdv : idivs .quo .i64 (1 - valueS t (oneZ t.n q 0)) 2 = some ((1 - valueS t (oneZ t.n q 0)).tdiv 2) := by
    generalize valueS t (oneZ t.n q 0) = v at hb
    obtain rfl | rfl | rfl : v = -1 ∨ v = 0 ∨ v = 1 := by omega
    · decide
    · decide
    · decide
  repeat (first | refine StepC.go ?_ | refine TD_takew rfl rfl (Pu.subi (by omega)) ?_)
  first | refine TS_puw (Pu.divw (r := (1 - valueS t (oneZ t.n q 0)).tdiv 2) (by decide) hdv) ?_ | refine TD_takew rfl rfl (Pu.divw (r := (1 - valueS t (oneZ t.n q 0)).tdiv 2) (by decide) hdv) ?_
  repeat (first | refine StepC.go ?_ | refine TD_take rfl rfl ?_)
  refine retT_2 (.inr rfl) ?_
  simp only [tret, certS]; rw [if_neg h1]
instance : CallIs Try.prog 49 := .of Try.func49 rfl rfl
def certC (t : TabD) (q : Int) : Int × Bool × Int :=
  if checkTab t = 0 then (if 0 ≤ q ∧ q < t.n then ((certS t q.toNat).1, (certS t q.toNat).2, 0) else (0, false, 112)) else (0, false, checkTab t)
set_option synthInstance.maxSize 4000 in
set_option synthInstance.maxHeartbeats 400000 in
set_option maxHeartbeats 4000000 in
theorem certainT {t : TabD} {q : Int} (hw : TabW t) : Fn Try.prog 17 [tabT t, intT q] (fun r => r = .tup [intT (certC t q).1, boolT (certC t q).2.1, intT (certC t q).2.2]) := by
  refine Fn_of Try.func17 rfl (Nat.le_of_ble_eq_true rfl) (fun X => ?_)
  repeat (first | refine StepC.go ?_ | intro _)
  rename_i pt
  refine TS_callE (tabCheckT hw) ?_
  repeat (refine StepC.go ?_)
  refine TV_cond ?_ ?_ <;> intro hc
  · repeat (refine StepC.go ?_)
    refine retT_3 (.inr rfl) ?_
    simp only [tret, certC]; rw [if_neg (by simpa using hc)]
  have h1 : checkTab t = 0 := by simpa using hc
  have g := TabG.of hw h1
  repeat (refine StepC.go ?_)
  refine TS_cut (fun σ B => TGet σ 22 (boolT (outS t.n q)) ∧ TGet σ 1 (intT q) ∧ TGet σ 2 (ptrT pt) ∧ SubP B [(pt, .cells (tabCs t) 24 true)]) ?_ ?_
  · repeat' (first | refine StepC.go ?_ | refine TS_on rfl (by first | rfl | assumption) ?_ | refine TS_off rfl (by first | rfl | assumption) ?_ | refine TS_puw (Pu.pick_t (by first | rfl | assumption)) ?_ | (refine TS_guard rfl ?_ ?_ <;> intro hg))
    all_goals exact ⟨tget_as (by simp_all [outS]), inferInstance, inferInstance, inferInstance⟩
  rintro σ B ⟨g22, g1, g2, hB⟩
  refine TV_keep _ (p := hB) ?_
  refine TV_cond ?_ ?_ <;> intro hc2
  · repeat (refine StepC.go ?_)
    refine retT_3 (.inr rfl) ?_
    simp only [tret, certC]; rw [if_pos h1, if_neg (by simp [outS] at hc2; omega)]
  have hq : 0 ≤ q ∧ q < t.n := by simp [outS] at hc2; omega
  obtain ⟨Q, rfl⟩ : ∃ Q : Nat, q = (Q : Int) := ⟨q.toNat, by omega⟩
  repeat (refine StepC.go ?_)
  refine TS_call (tabCertT g hq.2) ?_
  rintro _ rfl
  repeat (refine StepC.go ?_)
  refine retT_3 (.inr rfl) ?_
  simp only [tret, certC]; rw [if_pos h1, if_pos hq, Int.toNat_natCast]
instance : CallIs Try.prog 17 := .of Try.func17 rfl rfl
def valC (t : TabD) (p : PauD) : Int × Int :=
  if checkTab t = 0 then (if checkP p = 0 then (if p.n = t.n ∧ p.ph.tmod 2 = 0 then (valueS t p, 0) else (0, 2)) else (0, checkP p)) else (0, checkTab t)
set_option synthInstance.maxSize 4000 in
set_option synthInstance.maxHeartbeats 400000 in
set_option maxHeartbeats 4000000 in
theorem valueT {t : TabD} {p : PauD} (hw : TabW t) (hp : PauW p) : Fn Try.prog 18 [tabT t, pauT p] (fun r => r = .tup [intT (valC t p).1, intT (valC t p).2]) := by
  refine Fn_of Try.func18 rfl (Nat.le_of_ble_eq_true rfl) (fun X => ?_)
  repeat (first | refine StepC.go ?_ | intro _)
  rename_i pt pp
  refine TS_callE (tabCheckT hw) ?_
  repeat (refine StepC.go ?_)
  refine TV_cond ?_ ?_ <;> intro hc
  · repeat (refine StepC.go ?_)
    refine retT_2 (.inr rfl) ?_
    simp only [tret, valC]; rw [if_neg (by simpa using hc)]
  have h1 : checkTab t = 0 := by simpa using hc
  have g := TabG.of hw h1
  repeat (refine StepC.go ?_)
  refine TS_callE (checkPT hp) ?_
  repeat (refine StepC.go ?_)
  refine TV_cond ?_ ?_ <;> intro hc2
  · repeat (refine StepC.go ?_)
    refine retT_2 (.inr rfl) ?_
    simp only [tret, valC]; rw [if_pos h1, if_neg (by simpa using hc2)]
  have h2 : checkP p = 0 := by simpa using hc2
  repeat (refine StepC.go ?_)
  refine TS_cut (fun σ B => TGet σ 28 (boolT (!(decide (p.n = t.n) && decide (p.ph.tmod 2 = 0)))) ∧ TGet σ 2 (ptrT pt) ∧ TGet σ 3 (ptrT pp) ∧ SubP B [(pp, .cells (pauCs p) 27 true), (pt, .cells (tabCs t) 24 true)]) ?_ ?_
  · repeat' (first | refine StepC.go ?_ | refine TS_on rfl (by first | rfl | assumption) ?_ | refine TS_off rfl (by first | rfl | assumption) ?_ | refine TS_puw (Pu.pick_t (by first | rfl | assumption)) ?_ | (refine TS_guard rfl ?_ ?_ <;> intro hg))
    · refine TS_puw (Pu.divw (r := p.ph.tmod 2) (by decide) (by rfl)) ?_
      repeat (first | refine StepC.go ?_ | refine TS_on rfl (by first | rfl | assumption) ?_)
      exact ⟨tget_as (by simp_all), inferInstance, inferInstance, inferInstance⟩
    · exact ⟨tget_as (by simp_all), inferInstance, inferInstance, inferInstance⟩
  rintro σ B ⟨g28, g2, g3, hB⟩
  refine TV_keep _ (p := hB) ?_
  refine TV_cond ?_ ?_ <;> intro hc3
  · repeat (refine StepC.go ?_)
    refine retT_2 (.inr rfl) ?_
    simp only [tret, valC]; rw [if_pos h1, if_pos h2, if_neg (by simp at hc3; omega)]
  have h3 : p.n = t.n ∧ p.ph.tmod 2 = 0 := by simp at hc3; omega
  repeat (refine StepC.go ?_)
  refine TS_callE (tabValT g ⟨hp, h2⟩ h3.1) ?_
  repeat (refine StepC.go ?_)
  refine retT_2 (.inr rfl) ?_
  simp only [tret, valC]; rw [if_pos h1, if_pos h2, if_pos h3]
instance : CallIs Try.prog 18 := .of Try.func18 rfl rfl
end Go.Ideal

-- Xj
set_option linter.unusedSimpArgs false
set_option linter.unusedVariables false
namespace Go.Ideal
open Go Go.Proofs Go.RowKit
/-! ### Zero; the laws' own example; the law TableauApplies -/
def zX (n : Int) (i : Nat) : PauD := ⟨n, (1 <<< i) % 18446744073709551616, 0, 0⟩
def zZ (n : Int) (i : Nat) : PauD := ⟨n, 0, (1 <<< i) % 18446744073709551616, 0⟩
def zFill (n : Int) (N i : Nat) : List PauD := (List.range N).map (fun j => if j < i then zX n j else noPau) ++ (List.range N).map (fun j => if j < i then zZ n j else noPau)
theorem zFill_len (n : Int) (N i : Nat) : (zFill n N i).length = 2 * N := by simp [zFill]; omega
theorem zFill_at {n : Int} {N i : Nat} (hi : i < N) : (zFill n N i)[i]? = some noPau := by
  unfold zFill
  rw [List.getElem?_append_left (by simp; omega), List.getElem?_map, List.getElem?_range hi]
  simp
theorem map_set {f g : Nat → PauD} {N i : Nat} (h : ∀ j, j < N → j ≠ i → f j = g j) : ((List.range N).map f).set i (g i) = (List.range N).map g := by
  refine List.ext_getElem? fun j => ?_
  rw [List.getElem?_set]
  by_cases h1 : i = j
  · subst h1
    by_cases h2 : i < N
    · simp [h2, List.getElem?_range h2]
    · simp [h2]
  · rw [if_neg h1]
    by_cases h2 : j < N
    · rw [List.getElem?_map, List.getElem?_map, List.getElem?_range h2]
      simp [h j h2 (Ne.symm h1)]
    · simp [List.getElem?_eq_none, Nat.le_of_not_lt h2]
theorem zFill_set {n : Int} {N i : Nat} (hi : i < N) : ((zFill n N i).set i (zX n i)).set (N + i) (zZ n i) = zFill n N (i + 1) := by
  unfold zFill
  rw [List.set_append_left _ _ (by simp; omega)]
  have e1 : ((List.range N).map (fun j => if j < i then zX n j else noPau)).set i (zX n i) = (List.range N).map (fun j => if j < i + 1 then zX n j else noPau) := by
    have := map_set (N := N) (i := i) (f := fun j => if j < i then zX n j else noPau) (g := fun j => if j < i + 1 then zX n j else noPau) (fun j h1 h2 => by
      by_cases h3 : j < i
      · rw [if_pos h3, if_pos (by omega)]
      · rw [if_neg h3, if_neg (by omega)])
    simpa using this
  have e2 : ((List.range N).map (fun j => if j < i then zZ n j else noPau)).set i (zZ n i) = (List.range N).map (fun j => if j < i + 1 then zZ n j else noPau) := by
    have := map_set (N := N) (i := i) (f := fun j => if j < i then zZ n j else noPau) (g := fun j => if j < i + 1 then zZ n j else noPau) (fun j h1 h2 => by
      by_cases h3 : j < i
      · rw [if_pos h3, if_pos (by omega)]
      · rw [if_neg h3, if_neg (by omega)])
    simpa using this
  rw [e1, List.set_append_right _ _ (by simp)]
  have e3 : N + i - ((List.range N).map (fun j => if j < i + 1 then zX n j else noPau)).length = i := by simp
  rw [e3, e2]
theorem zFill_at2 {n : Int} {N i : Nat} (hi : i < N) : ((zFill n N i).set i (zX n i))[N + i]? = some noPau := by
  rw [List.getElem?_set_ne (by omega)]
  unfold zFill
  rw [List.getElem?_append_right (by simp)]
  simp [List.getElem?_range hi]
def zeroC (n : Int) : TabD × Int := if 0 ≤ n ∧ n ≤ 64 then (⟨n, zFill n n.toNat n.toNat⟩, 0) else (noTab, 2)
set_option synthInstance.maxSize 4000 in
set_option synthInstance.maxHeartbeats 400000 in
set_option maxHeartbeats 4000000 in
theorem zeroT {n : Int} : Fn Try.prog 16 [intT n] (fun r => r = .tup [tabT (zeroC n).1, intT (zeroC n).2]) := by
  refine Fn_of Try.func16 rfl (Nat.le_of_ble_eq_true rfl) (fun X => ?_)
  repeat (first | refine StepC.go ?_ | intro _)
  rename_i pr
  refine TS_cut (fun σ B => TGet σ 11 (boolT (!(decide (0 ≤ n) && decide (n ≤ 64)))) ∧ TGet σ 0 (intT n) ∧ TGet σ 2 (ptrT pr) ∧ SubP B [(pr, .cells [intT 0, .v (.slice none 0 0)] 24 true)]) ?_ ?_
  · repeat' (first | refine StepC.go ?_ | refine TS_on rfl (by first | rfl | assumption) ?_ | refine TS_off rfl (by first | rfl | assumption) ?_ | refine TS_puw (Pu.pick_t (by first | rfl | assumption)) ?_ | (refine TS_guard rfl ?_ ?_ <;> intro hg))
    all_goals refine ⟨tget_as (congrArg (fun b => boolT b) ?_), inferInstance, inferInstance, inferInstance⟩
    all_goals (rw [Bool.eq_iff_iff]; simp only [Bool.if_true_left, Bool.if_false_right, Bool.and_eq_true, Bool.and_eq_false_iff, Bool.not_eq_true', Bool.or_eq_true, Bool.or_eq_false_iff, decide_eq_true_eq, decide_eq_false_iff_not, Bool.not_eq_false', Bool.not_false, Bool.not_true, true_iff, false_iff, Bool.decide_eq_true] at * <;> grind)
  rintro σ B ⟨g11, g0, g2, hB⟩
  refine TV_keep _ (p := hB) ?_
  refine TV_cond ?_ ?_ <;> intro hc
  · repeat (refine StepC.go ?_)
    refine retT_2c [.agg [intT 0, .sl 4 []], intT 2] (.inr rfl) ?_
    simp only [tret, zeroC]; rw [if_neg (by simp at hc; omega)]; rfl
  have hr : 0 ≤ n ∧ n ≤ 64 := by simp at hc; omega
  obtain ⟨N, rfl⟩ : ∃ N : Nat, n = (N : Int) := ⟨n.toNat, by omega⟩
  have hmul : IntKind.i64.wrap (2 * (N : Int)) = ((2 * N : Nat) : Int) := by rw [wrap_small (by omega) (by omega)]; omega
  repeat (refine StepC.go ?_)
  rw [hmul]
  repeat (first | refine StepC.go ?_ | intro _ | refine TS_makeSlice (by omega) (fun _ => ?_))
  rename_i pa px
  have e0 : List.replicate (2 * N) [Tr.v (.int .i64 0), Tr.v (.int .u64 0), Tr.v (.int .u64 0), Tr.v (.int .i64 0)] = pauRows (zFill N N 0) := by
    refine List.ext_getElem? fun j => ?_
    unfold pauRows
    by_cases h : j < 2 * N
    · have h2 : (zFill N N 0)[j]? = some noPau := by
        unfold zFill
        by_cases h3 : j < N
        · rw [List.getElem?_append_left (by simp; omega), List.getElem?_map, List.getElem?_range h3]; simp
        · rw [List.getElem?_append_right (by simp; omega), List.getElem?_map]
          simp only [List.length_map, List.length_range]
          rw [List.getElem?_range (by omega)]; simp
      rw [List.getElem?_map, h2, List.getElem?_replicate, if_pos h]; rfl
    · rw [List.getElem?_eq_none (by simp; omega), List.getElem?_eq_none (by rw [List.length_map, zFill_len]; omega)]
  rw [e0]
  have h64 : Lt64 1 := ⟨by decide⟩
  refine TV_loop (fun d σ B => ∃ (i : Nat), d = N - i ∧ i ≤ N ∧ TGet σ 19 (intT (i : Int)) ∧ TGet σ 18 (intT (N : Int)) ∧ TGet σ 4 (ptrT px) ∧ TGet σ 2 (ptrT pr) ∧ TGet σ 0 (intT (N : Int)) ∧
      SubP B [(pa, .arr 4 (pauRows (zFill N N i)) 27 true), (px, .cells [intT (N : Int), .v (.slice (some (ad pa 0)) (2 * N) (2 * N))] 24 true), (pr, .cells [intT 0, .v (.slice none 0 0)] 24 true)]) N
    ⟨0, by omega, Nat.zero_le _, tget_as rfl, inferInstance, inferInstance, inferInstance, inferInstance, inferInstance⟩ ?_
  clear hB g11 g0 g2
  rintro d σ B ⟨i, rfl, hi, g19, g18, g4, g2, g0, hB⟩
  refine TV_keep _ (p := hB) ?_
  have hlF : LenT (pauRows (zFill N N i)) (2 * N) := ⟨by rw [pauRows, List.length_map, zFill_len]⟩
  repeat (refine StepC.go ?_)
  refine TV_cond ?_ ?_ <;> intro hc3
  · have hil : i < N := by have := of_decide_eq_true hc3; omega
    have ng1 : NthG (pauRows (zFill N N i)) i (pauCs noPau) := .map pauCs (zFill_at hil)
    have ng2 : NthG (pauRows ((zFill N N i).set i (zX N i))) (N + i) (pauCs noPau) := .map pauCs (zFill_at2 hil)
    have hlG : LenT (pauRows ((zFill N N i).set i (zX N i))) (2 * N) := ⟨by rw [pauRows, List.length_map, List.length_set, zFill_len]⟩
    have an : AsNat ((N : Int) + (i : Int)) (N + i) := ⟨by omega⟩
    have s1 : SetR (pauRows (zFill N N i)) i [Tr.v (.int .i64 (N : Int)), Tr.v (.int .u64 ((1 <<< i % 18446744073709551616 : Nat) : Int)), Tr.v (.int .u64 0), Tr.v (.int .i64 0)] (pauRows ((zFill N N i).set i (zX N i))) := ⟨by rw [pauRows, pauRows, List.map_set]; rfl⟩
    have s2 : SetR (pauRows ((zFill N N i).set i (zX N i))) (N + i) [Tr.v (.int .i64 (N : Int)), Tr.v (.int .u64 0), Tr.v (.int .u64 ((1 <<< i % 18446744073709551616 : Nat) : Int)), Tr.v (.int .i64 0)] (pauRows (((zFill N N i).set i (zX N i)).set (N + i) (zZ N i))) := ⟨by
      generalize (zFill N N i).set i (zX N i) = L
      rw [pauRows, pauRows, List.map_set]; rfl⟩
    have hst := zFill_set (n := (N : Int)) hil
    repeat (first | refine StepC.go ?_ | refine TS_puw (Pu.addi (by omega)) ?_ | refine TD_take rfl rfl ?_ | refine TD_load rfl rfl ?_ | refine TD_one rfl ?_ | refine FiltT_nil ?_ | refine FiltT_drop rfl ?_ | refine TD_takew rfl rfl (Pu.addi (by omega)) ?_ | refine TV_draw (id := 7) (plan := [.take 0, .take 1, .take 2, .take 3, .take 4, .take 5, .take 6, .take 7, .one 8]) (by kernel_rfl) ?_ | refine TV_draw (id := 8) (plan := [.take 0, .take 1, .take 2, .take 3, .take 4, .take 5, .take 6, .take 7, .take 8, .take 9, .one 10]) (by kernel_rfl) ?_)
    refine ⟨_, ?_, i + 1, rfl, by omega, tget_as rfl, inferInstance, inferInstance, inferInstance, inferInstance, ?_⟩
    · omega
    · rw [← hst]; infer_instance
  · have hil : i = N := by have := of_decide_eq_false hc3; omega
    subst hil
    have : Sm63 (2 * i) := ⟨by omega⟩
    repeat (refine StepC.go ?_)
    refine retT_2 (.inr rfl) ?_
    simp only [tret, zeroC]
    rw [if_pos hr, Int.toNat_natCast]
instance : CallIs Try.prog 16 := .of Try.func16 rfl rfl
theorem zero2 : zeroC 2 = (⟨2, [zX 2 0, zX 2 1, zZ 2 0, zZ 2 1]⟩, 0) := by kernel_rfl
def hTab : TabD × Int := tapS (zeroC 2).1 nmH [0]
def cxTab : TabD × Int := tapS hTab.1 nmCx [0, 1]
theorem h_ok : hTab.2 = 0 := by decide +kernel
theorem cx_ok : cxTab.2 = 0 ∧ cxTab.1.rows.length = 4 ∧ cxTab.1.n = 2 := by decide +kernel
theorem bell_1 : valC cxTab.1 ⟨2, 3, 0, 0⟩ = (1, 0) := by decide +kernel
theorem bell_2 : valC cxTab.1 ⟨2, 3, 3, 0⟩ = (-1, 0) := by decide +kernel
theorem bell_3 : (certC cxTab.1 0).2 = (false, 0) := by decide +kernel
theorem bell_4 : checkTab ⟨1, []⟩ = 180 := by decide +kernel
theorem tab_w (t : TabD) (nm : ByteArray) (qs : List Int) (hw : TabW t) : TabW (tapS t nm qs).1 := by
  unfold tapS
  split
  · rename_i h1
    split
    · rename_i h2
      have g := TabG.of hw h1
      have hg := gfS_ok h2
      intro p hp
      obtain ⟨q, hq, rfl⟩ := List.mem_map.1 hp
      obtain ⟨vq, nq⟩ := g.hv q hq
      exact (byAll vq (by rw [nq]; exact hg)).2.2.1.1
    · intro p hp; cases hp
  · intro p hp; cases hp
theorem zero2_w : TabW (zeroC 2).1 := by
  intro p hp
  rw [zero2] at hp
  simp only [List.mem_cons, List.not_mem_nil, or_false] at hp
  rcases hp with rfl | rfl | rfl | rfl <;> exact ⟨by decide, by decide⟩
theorem Fn_cv' {P : Program} {f : FuncId} {ts ts' : List Tr} {Φ : Tr → Prop} [c : CvL ts ts'] (x : Fn P f ts' Φ) : Fn P f ts Φ := by
  unfold Fn at *
  intro F0 h vs h1 h2
  exact x F0 h vs h1 (c.eq F0 vs h2)
theorem badTabT : Fn Try.prog 20 [.agg [.v (.int .i64 1), .v (.slice none 0 0)]] (fun r => r = intT 180) := by
  have x := tabCheckT (t := ⟨1, []⟩) (fun p hp => by cases hp)
  rw [bell_4] at x
  have : CvL [.agg [.v (.int .i64 1), .v (.slice none 0 0)]] [tabT ⟨1, []⟩] := inferInstanceAs (CvL [.agg [.v (.int .i64 1), .v (.slice none 0 0)]] [.agg [.v (.int .i64 1), .sl 4 []]])
  exact Fn_cv' x
set_option synthInstance.maxSize 4000 in
set_option synthInstance.maxHeartbeats 400000 in
set_option maxHeartbeats 4000000 in
theorem awake18T : Fn Try.prog 11 [] (fun r => r = boolT true) := by
  refine Fn_of Try.func11 rfl (Nat.le_of_ble_eq_true rfl) (fun X => ?_)
  have w1 := zero2_w
  have w2 : TabW hTab.1 := tab_w _ _ _ w1
  have w3 : TabW cxTab.1 := tab_w _ _ _ w2
  have z2 : (zeroC 2).2 = 0 := by rw [zero2]
  have v1 := bell_1
  have v2 := bell_2
  have v3 := bell_3
  have hh := h_ok
  obtain ⟨c1, c2, c3⟩ := cx_ok
  repeat (refine StepC.go ?_)
  refine TS_call (zeroT (n := 2)) ?_
  rintro _ rfl
  rw [z2]
  generalize hZ : (zeroC 2).1 = Z at w1
  repeat (first | refine StepC.go ?_ | intro _)
  rename_i b1 b2
  refine TS_freeze 20 b2 ?_
  refine TS_call (tabApplyT (nm := nmH) (qs := [0]) w1) ?_
  rintro _ rfl
  have eH : tapS Z nmH [0] = hTab := by rw [← hZ]; rfl
  rw [eH, hh]
  generalize hH : hTab.1 = H1 at w2
  repeat (first | refine StepC.go ?_ | intro _)
  rename_i b3 b4
  refine TS_freeze 26 b4 ?_
  refine TS_call (tabApplyT (nm := nmCx) (qs := [0, 1]) w2) ?_
  rintro _ rfl
  have eC : tapS H1 nmCx [0, 1] = cxTab := by rw [← hH]; rfl
  rw [eC, c1]
  generalize hC : cxTab.1 = C at w3 v1 v2 v3 c2 c3
  have hd4 : (!decide (((pauRows C.rows).length : Int) = 4)) = false := by
    have : (pauRows C.rows).length = 4 := by simp [pauRows, c2]
    rw [this]; rfl
  repeat (first | refine StepC.go ?_ | intro _ | refine TS_on rfl (by first | rfl | assumption) ?_ | refine TV_cond_f (by first | rfl | assumption) ?_)
  refine TS_call (valueT (p := ⟨2, 3, 0, 0⟩) w3 ⟨by decide, by decide⟩) ?_
  rintro _ rfl
  rw [v1]
  repeat (refine StepC.go ?_)
  refine TS_call (valueT (p := ⟨2, 3, 3, 0⟩) w3 ⟨by decide, by decide⟩) ?_
  rintro _ rfl
  rw [v2]
  repeat (refine StepC.go ?_)
  refine TS_call (certainT (q := 0) w3) ?_
  rintro _ rfl
  rw [v3]
  repeat (first | refine StepC.go ?_ | refine TS_on rfl (by first | rfl | assumption) ?_)
  refine TS_callE badTabT ?_
  repeat (first | refine StepC.go ?_ | refine TS_on rfl (by first | rfl | assumption) ?_)
  exact retT_1 (.inr rfl) rfl
instance : CallIs Try.prog 11 := .of Try.func11 rfl rfl
end Go.Ideal

-- Xk
set_option linter.unusedSimpArgs false
set_option linter.unusedVariables false
namespace Go.Ideal
open Go Go.Proofs Go.RowKit
/-! ### A tableau among the arguments -/
end Go.Ideal
