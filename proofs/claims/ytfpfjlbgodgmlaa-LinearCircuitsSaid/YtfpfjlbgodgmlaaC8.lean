/- Part 8 of what the proof stands on: an interpreter over an ideal memory that is proved sound, steps over it, and contracts of the functions that are called. No condition: no law is claimed here. -/
import Derived.Test.YtfpfjlbgodgmlaaC7
-- Ma
set_option linter.unusedSimpArgs false
set_option linter.unusedVariables false
namespace Go.Ideal
open Go Go.Proofs
/-! ### Circuits of cx and swap and their matrices: the plain laws -/
/-- an operation of two places -/
def OpTwo (n : Nat) (o : OpD) : Prop := ∃ x y : Int, o.qs = [x, y] ∧ 0 ≤ x ∧ x.toNat < n ∧ 0 ≤ y ∧ y.toNat < n ∧ x.toNat ≠ y.toNat
theorem op_two {o : OpD} {q b : Int} (h : faultS o q b = 0) (hb : opBad o = false) : OpTwo q.toNat o := by
  obtain ⟨x, y, h1, h2, h3, h4, h5, h6, _⟩ := two_of h hb
  exact ⟨x, y, h1, h2, by omega, h4, by omega, by omega⟩
theorem fromK_good : ∀ (ops : List OpD) (R R' : List Nat), fromK ops R = some R' → ∀ o ∈ ops, opBad o = false := by
  intro ops
  induction ops with
  | nil => intro R R' _ o ho; cases ho
  | cons a ops ih =>
    intro R R' h o ho
    simp only [fromK] at h
    split at h
    · cases h
    · rename_i hb
      rcases List.mem_cons.1 ho with rfl | ho
      · simpa using hb
      · exact ih _ _ h o ho
theorem fromK_app : ∀ (a b : List OpD) (R : List Nat), fromK (a ++ b) R = (fromK a R).bind (fromK b) := by
  intro a
  induction a with
  | nil => intro b R; rfl
  | cons o a ih =>
    intro b R
    simp only [List.cons_append, fromK]
    split
    · rfl
    · exact ih b _
theorem stepO_two {R : List Nat} {o : OpD} {x y : Int} (h : o.qs = [x, y]) : stepO R o = if isCx o = true then addStep R x.toNat y.toNat else swapRows R x.toNat y.toNat := by
  simp only [stepO, h]
theorem swapR_get {R : List Nat} {i k : Nat} (hi : i < R.length) (hk : k < R.length) (j : Nat) : (swapRows R i k).getD j 0 = if j = k then R.getD i 0 else if j = i then R.getD k 0 else R.getD j 0 := by
  rw [swapRows, getD_set _ _ _ _ (by simpa using hk), getD_set _ _ _ _ hi]
theorem Rel.op {X E cur : List Nat} {n : Nat} {o : OpD} (ho : OpTwo n o) (h : Rel E X cur n) (hE : E.length = n) (hc : cur.length = n) : Rel (stepO E o) X (stepO cur o) n := by
  obtain ⟨x, y, h1, h2, h3, h4, h5, h6⟩ := ho
  rw [stepO_two h1, stepO_two h1]
  split
  · exact h.add hE hc h3 h5
  · intro i hi
    rw [swapR_get (by omega) (by omega), swapR_get (by omega) (by omega)]
    split
    · exact h _ h3
    · split
      · exact h _ h5
      · exact h i hi
theorem Rel.ops {X : List Nat} {n : Nat} : ∀ (ops : List OpD) (E cur E' : List Nat), (∀ o ∈ ops, OpTwo n o) → Rel E X cur n → E.length = n → cur.length = n → fromK ops E = some E' → ∃ cur', fromK ops cur = some cur' ∧ Rel E' X cur' n ∧ E'.length = n ∧ cur'.length = n := by
  intro ops
  induction ops with
  | nil => intro E cur E' _ h hE hc hf; simp only [fromK, Option.some.injEq] at hf; subst hf; exact ⟨cur, rfl, h, hE, hc⟩
  | cons o ops ih =>
    intro E cur E' hok h hE hc hf
    simp only [fromK] at hf ⊢
    split at hf
    · cases hf
    · rename_i hb
      rw [if_neg hb]
      exact ih _ _ _ (fun p hp => hok p (List.mem_cons_of_mem _ hp)) (h.op (hok o List.mem_cons_self) hE hc) (by rw [stepO_len]; exact hE) (by rw [stepO_len]; exact hc) hf
theorem rel_mulS {E X cur : List Nat} {n : Nat} (h : Rel E X cur n) (hE : E.length = n) (hc : cur.length = n) (hX : X.length = n) : cur = mulS E X n := by
  subst hE
  refine ext_getD (by rw [mulS_len', hc]) fun i hi => ?_
  rw [mulS_get (by omega), hX]
  exact h i (by omega)
/-- what a circuit does to rows is a product -/
theorem fromK_mul {N : Int} {n : Nat} (hn : n = N.toNat) {ops : List OpD} (hok : ∀ o ∈ ops, OpTwo n o) {A R : List Nat} (hA : fromK ops (eyeS N) = some A) (hR : R.length = n) : fromK ops R = some (mulS A R n) ∧ A.length = n := by
  obtain ⟨cur, h1, h2, h3, h4⟩ := Rel.ops (X := R) ops (eyeS N) R A hok (Rel.eye hn) (by rw [eyeS_length, hn]) hR hA
  rw [h1, rel_mulS h2 h3 h4 hR]
  exact ⟨rfl, h3⟩
theorem op_back {R : List Nat} {o : OpD} (ho : OpTwo R.length o) : stepO (stepO R o) o = R := by
  obtain ⟨x, y, h1, h2, h3, h4, h5, h6⟩ := ho
  rw [stepO_two h1, stepO_two h1]
  split
  · exact addStep_back h6 h5
  · refine ext_getD (by rw [swapRows_len, swapRows_len]) fun i hi => ?_
    rw [swapR_get (by rw [swapRows_len]; exact h3) (by rw [swapRows_len]; exact h5), swapR_get h3 h5, swapR_get h3 h5, swapR_get h3 h5]
    simp only [if_pos, if_true]
    by_cases e1 : i = y.toNat
    · rw [if_pos e1]; subst e1; simp [h6, Ne.symm h6]
    · rw [if_neg e1]
      by_cases e2 : i = x.toNat
      · rw [if_pos e2]; subst e2; simp [h6]
      · rw [if_neg e2]; simp [e1, e2]
theorem fromK_rev {n : Nat} : ∀ (ops : List OpD) (R R' : List Nat), (∀ o ∈ ops, OpTwo n o) → R.length = n → fromK ops R = some R' → fromK ops.reverse R' = some R := by
  intro ops
  induction ops with
  | nil => intro R R' _ _ h; simp only [fromK, Option.some.injEq] at h; subst h; rfl
  | cons o ops ih =>
    intro R R' hok hR h
    have hg := fromK_good _ _ _ h o List.mem_cons_self
    simp only [fromK, hg, Bool.false_eq_true, if_false] at h
    have h2 := ih _ _ (fun p hp => hok p (List.mem_cons_of_mem _ hp)) (by rw [stepO_len]; exact hR) h
    rw [List.reverse_cons, fromK_app, h2]
    simp only [Option.bind_some, fromK, hg, Bool.false_eq_true, if_false]
    rw [op_back (by rw [hR]; exact hok o List.mem_cons_self)]
theorem inv_same {o : OpD} (h : opBad o = false) : invO o = o := by
  simp only [opBad, Bool.or_eq_false_iff, Bool.not_eq_false', Bool.and_eq_false_iff, Bool.not_eq_false'] at h
  obtain ⟨_, hn⟩ := h
  obtain ⟨k, nm, qs, bt, f, m, v⟩ := o
  have hb : (backS nm).1 = nm := by
    rcases hn with hn | hn
    · have := beqS_iff.1 (show beqS nm ⟨#[99, 120]⟩ = true by simpa [isCx] using hn)
      subst this; decide +kernel
    · have := beqS_iff.1 (show beqS nm ⟨#[115, 119, 97, 112]⟩ = true by simpa [isSwap] using hn)
      subst this; decide +kernel
  simp only [invO, hb]
theorem glt_op {R : List Nat} {n : Nat} {o : OpD} (ho : OpTwo R.length o) (h : GLt R n) : GLt (stepO R o) n := by
  obtain ⟨x, y, h1, h2, h3, h4, h5, h6⟩ := ho
  rw [stepO_two h1]
  split
  · exact h.add h5
  · intro i
    rw [swapR_get h3 h5]
    split
    · exact h _
    · split <;> exact h _
theorem fromK_glt {n m : Nat} : ∀ (ops : List OpD) (R R' : List Nat), (∀ o ∈ ops, OpTwo n o) → R.length = n → GLt R m → fromK ops R = some R' → GLt R' m ∧ R'.length = n := by
  intro ops
  induction ops with
  | nil => intro R R' _ hl hg h; simp only [fromK, Option.some.injEq] at h; subst h; exact ⟨hg, hl⟩
  | cons o ops ih =>
    intro R R' hok hl hg h
    simp only [fromK] at h
    split at h
    · cases h
    · exact ih _ _ (fun p hp => hok p (List.mem_cons_of_mem _ hp)) (by rw [stepO_len]; exact hl) (glt_op (by rw [hl]; exact hok o List.mem_cons_self) hg) h
theorem glt_eye {N : Int} {n : Nat} (hn : n = N.toNat) : GLt (eyeS N) n := fun i => by
  by_cases hi : i < N.toNat
  · rw [eyeS_get hi]; exact Nat.pow_lt_pow_right (by decide) (by omega)
  · rw [List.getD_eq_getElem?_getD, List.getElem?_eq_none (by rw [eyeS_length]; omega)]; exact Nat.pow_pos (by decide)
/-! what takes back -/
theorem ker_mul {P A : List Nat} {v n : Nat} (hA : A.length = n) (hP : P.length = n) (h : Ker A v n) : Ker (mulS P A n) v n := fun i hi => by
  subst hP
  rw [mulS_get hi, hA]
  unfold dotB
  rw [xorB_congr (g := fun c => xorB (fun j => ((P.getD i 0).testBit j && (A.getD j 0).testBit c) && v.testBit c) P.length) P.length (fun c _ => by
    rw [mulRow_bits, Bool.and_comm, ← xorB_and]
    exact xorB_congr _ fun j _ => Bool.and_comm _ _)]
  rw [xorB_swap]
  rw [xorB_congr (g := fun _ => false) P.length (fun j hj => by
    have h1 := h j hj
    unfold dotB at h1
    rw [xorB_congr (g := fun c => (P.getD i 0).testBit j && ((A.getD j 0).testBit c && v.testBit c)) P.length (fun c _ => Bool.and_assoc _ _ _), xorB_and, h1, Bool.and_false])]
  exact xorB_zero _
theorem inv_exists {N : Int} {A P : List Nat} (hn : N.toNat = A.length) (hP : P.length = A.length) (h : mulS P A A.length = eyeS N) : ∃ st, redK A A.length = some st := by
  cases hr : redK A A.length with
  | some st => exact ⟨st, rfl⟩
  | none =>
    exfalso
    obtain ⟨j, st, hj, hs, hf⟩ := redK_first _ (Nat.le_refl _) hr
    obtain ⟨hC, hl⟩ := redK_cols A j st (by omega) hs
    obtain ⟨f1, f2⟩ := fixK_none _ _ _ rfl (Nat.le_refl _) hj hl hf
    obtain ⟨v, hv, hk⟩ := kerVec hj hC (fun k h1 h2 => by
      rw [← bitAt_tb]
      by_cases hkj : k = j
      · subst hkj; exact f1
      · exact f2 k (by omega) h2)
    rw [redK_steps A j st hs] at hk
    have hkx : Ker A v A.length := hk.of_steps _ _ rfl (redK_ok A j st (by omega) hs) (redK_ne A j st hs)
    have h2 := ker_mul rfl hP hkx j hj
    rw [h, eyeS_get (by omega), dotB_unit hj, hv] at h2
    cases h2
theorem inv_is {N : Int} {A P : List Nat} (hck : checkS N A = 0) (hn : N.toNat = A.length) (hA : GLt A A.length) (hP : P.length = A.length) (gP : GLt P A.length) (h : mulS P A A.length = eyeS N) : invR N A = (N, P, 0) := by
  obtain ⟨st, hst⟩ := inv_exists hn hP h
  obtain ⟨h1, h2, h3, h4⟩ := inv_both hn hA hst
  have hE : P = doSteps (eyeS N) st.2 := by
    have a1 := mulS_eye (A := P) (N := N) (by omega) (by rw [hP]; exact gP)
    rw [hP] at a1
    have a2 := eye_mulS (A := doSteps (eyeS N) st.2) (N := N) (by omega)
    rw [eyeS_length, hn] at a2
    calc P = mulS P (eyeS N) A.length := a1.symm
      _ = mulS P (mulS A (doSteps (eyeS N) st.2) A.length) A.length := by rw [h2]
      _ = mulS (mulS P A A.length) (doSteps (eyeS N) st.2) A.length := (mulS_assoc hP rfl h3).symm
      _ = mulS (eyeS N) (doSteps (eyeS N) st.2) A.length := by rw [h]
      _ = doSteps (eyeS N) st.2 := a2
  unfold invR
  rw [if_pos hck, hst]
  simp only
  rw [hE]
/-! what a circuit of cx does to a number -/
def flipS (p : Nat × Nat) (x : Nat) : Nat := if x.testBit p.1 then x ^^^ 2 ^ p.2 else x
theorem apply_add {R : List Nat} {n f t x : Nat} (hR : R.length = n) (hf : f < n) (ht : t < n) : applyS n (addStep R f t) x = flipS (f, t) (applyS n R x) := by
  apply Nat.eq_of_testBit_eq
  intro i
  have hb : (flipS (f, t) (applyS n R x)).testBit i = ((applyS n R x).testBit i ^^ ((applyS n R x).testBit f && decide (t = i))) := by
    unfold flipS
    simp only
    cases h : (applyS n R x).testBit f with
    | false => simp
    | true => simp [Nat.testBit_xor, Nat.testBit_two_pow]
  rw [hb, apply_bit, apply_bit, apply_bit, addStep_get (by omega)]
  by_cases hi : i = t
  · subst hi
    simp only [if_true, decide_eq_true ht, decide_eq_true hf, Bool.true_and, decide_true, Bool.and_true]
    rw [← xorB_xor]
    exact xorB_congr _ fun c _ => by rw [Nat.testBit_xor]; cases (R.getD i 0).testBit c <;> cases (R.getD f 0).testBit c <;> cases x.testBit c <;> rfl
  · rw [if_neg hi, decide_eq_false (show ¬ t = i from fun h => hi h.symm), Bool.and_false, Bool.xor_false]
theorem apply_steps {n x : Nat} : ∀ (l : List (Nat × Nat)) (R : List Nat), R.length = n → StOk n l → applyS n (doSteps R l) x = l.foldl (fun z p => flipS p z) (applyS n R x) := by
  intro l
  induction l with
  | nil => intro R _ _; rfl
  | cons p l ih =>
    intro R hR hk
    have h1 : doSteps R (p :: l) = doSteps (addStep R p.1 p.2) l := rfl
    rw [h1, ih _ (by rw [addStep_len]; exact hR) (fun q hq => hk q (List.mem_cons_of_mem _ hq)), apply_add hR (hk p List.mem_cons_self).1 (hk p List.mem_cons_self).2]
    rfl
theorem apply_eye {N : Int} {n x : Nat} (hn : n = N.toNat) (h64 : n ≤ 64) (hx : x < 2 ^ n) : applyS n (eyeS N) x = x := by
  apply Nat.eq_of_testBit_eq
  intro i
  rw [apply_bit]
  by_cases hi : i < n
  · rw [decide_eq_true hi, Bool.true_and, eyeS_get (by omega)]
    rw [xorB_congr (g := fun c => decide (i = c) && x.testBit c) 64 (fun c _ => by rw [Nat.testBit_two_pow])]
    exact xorB_one 64 (by omega)
  · rw [decide_eq_false hi, Bool.false_and, Nat.testBit_lt_two_pow (Nat.lt_of_lt_of_le hx (Nat.pow_le_pow_right (by decide) (by omega)))]
end Go.Ideal

-- Mh
set_option linter.unusedSimpArgs false
set_option linter.unusedVariables false
namespace Go.Ideal
open Go Go.Proofs Go.RowKit
/-! ### A circuit of cx on a basis state: the plain laws -/
theorem runX_app {ps : List Nat} {hv : Int} {q : ColD} {amps : List RgD} {y : Nat} : ∀ (a b : List Nat) (o : List RgD), runX ps hv q amps y (a ++ b) o = (runX ps hv q amps y a o).bind (runX ps hv q amps y b) := by
  intro a
  induction a with
  | nil => intro b o; rfl
  | cons x a ih =>
    intro b o
    simp only [List.cons_append, runX]
    cases amps[x]? with
    | none => rfl
    | some r =>
      simp only
      split
      · exact ih b o
      · cases runC ps hv x r (colV q y) o with
        | none => rfl
        | some o1 => exact ih b o1
theorem basisL_len (n z : Nat) : (basisL n z).length = n := by simp [basisL]
theorem basisL_at {n z x : Nat} (hx : x < n) : (basisL n z)[x]? = some (if x = z then oneR else zeroR) := by
  unfold basisL
  rw [List.getElem?_set]
  by_cases h : z = x
  · subst h; simp [hx]
  · rw [if_neg h, if_neg (fun e => h e.symm)]
    simp [hx]
theorem runX_skip {ps : List Nat} {hv : Int} {q : ColD} {n z y : Nat} : ∀ (xs : List Nat) (o : List RgD), (∀ x ∈ xs, x < n ∧ (x ≠ z ∨ pickM x ps ps.length ≠ y)) → runX ps hv q (basisL n z) y xs o = some o := by
  intro xs
  induction xs with
  | nil => intro o _; rfl
  | cons x xs ih =>
    intro o h
    obtain ⟨h1, h2⟩ := h x List.mem_cons_self
    simp only [runX, basisL_at h1]
    rw [if_pos, ih o (fun a ha => h a (List.mem_cons_of_mem _ ha))]
    rcases h2 with h2 | h2
    · exact .inr (if_neg h2)
    · exact .inl h2
theorem runX_hit {ps : List Nat} {hv : Int} {q : ColD} {n z y : Nat} (hz : z < n) (hy : pickM z ps ps.length = y) (o : List RgD) : runX ps hv q (basisL n z) y (List.range' 0 n) o = runC ps hv z oneR (colV q y) o := by
  have hs : List.range' 0 n = List.range' 0 z ++ (z :: List.range' (z + 1) (n - z - 1)) := by
    rw [← List.range'_succ, show n - z - 1 + 1 = n - z by omega]
    have := List.range'_append (s := 0) (m := z) (n := n - z) (step := 1)
    simp only [Nat.one_mul, Nat.zero_add] at this
    rw [this, show z + (n - z) = n by omega]
  rw [hs, runX_app, runX_skip (n := n) (z := z)]
  · simp only [Option.bind_some, runX, basisL_at hz, if_true]
    rw [if_neg (fun h => h.elim (fun h => h hy) (fun h => by simp at h))]
    cases hc : runC ps hv z oneR (colV q y) o with
    | none => rfl
    | some o1 =>
      simp only
      refine runX_skip (n := n) (z := z) _ _ fun x hx => ?_
      have := List.mem_range'_1.1 hx
      exact ⟨by omega, .inl (by omega)⟩
  · intro x hx
    have := List.mem_range'_1.1 hx
    exact ⟨by omega, .inl (by omega)⟩
theorem runY_miss {ps : List Nat} {hv : Int} {q : ColD} {n z : Nat} : ∀ (ys : List Nat) (o : List RgD), (∀ y ∈ ys, pickM z ps ps.length ≠ y) → runY ps hv q (basisL n z) ys o = some o := by
  intro ys
  induction ys with
  | nil => intro o _; rfl
  | cons y ys ih =>
    intro o h
    simp only [runY]
    rw [basisL_len, runX_skip (n := n) (z := z)]
    · exact ih o fun a ha => h a (List.mem_cons_of_mem _ ha)
    · intro x hx
      have := List.mem_range'_1.1 hx
      refine ⟨by omega, ?_⟩
      by_cases e : x = z
      · subst e; exact .inr (h y List.mem_cons_self)
      · exact .inl e
theorem runY_app {ps : List Nat} {hv : Int} {q : ColD} {amps : List RgD} : ∀ (a b : List Nat) (o : List RgD), runY ps hv q amps (a ++ b) o = (runY ps hv q amps a o).bind (runY ps hv q amps b) := by
  intro a
  induction a with
  | nil => intro b o; rfl
  | cons x a ih =>
    intro b o
    simp only [List.cons_append, runY]
    cases runX ps hv q amps x (List.range' 0 amps.length) o with
    | none => rfl
    | some o1 => exact ih b o1
theorem runY_basis {ps : List Nat} {hv : Int} {q : ColD} {n z m : Nat} (hz : z < n) (hm : pickM z ps ps.length < m) (o : List RgD) : runY ps hv q (basisL n z) (List.range' 0 m) o = runC ps hv z oneR (colV q (pickM z ps ps.length)) o := by
  obtain ⟨y, hy⟩ : ∃ y, pickM z ps ps.length = y := ⟨_, rfl⟩
  rw [hy] at hm ⊢
  have hs : List.range' 0 m = List.range' 0 y ++ (y :: List.range' (y + 1) (m - y - 1)) := by
    rw [← List.range'_succ, show m - y - 1 + 1 = m - y by omega]
    have := List.range'_append (s := 0) (m := y) (n := m - y) (step := 1)
    simp only [Nat.one_mul, Nat.zero_add] at this
    rw [this, show y + (m - y) = m by omega]
  rw [hs, runY_app, runY_miss]
  · simp only [Option.bind_some, runY]
    rw [basisL_len, runX_hit hz hy]
    cases hc : runC ps hv z oneR (colV q y) o with
    | none => rfl
    | some o1 =>
      simp only
      refine runY_miss _ _ fun x hx => ?_
      have := List.mem_range'_1.1 hx
      omega
  · intro x hx
    have := List.mem_range'_1.1 hx
    omega
theorem pick2_bit (z : Nat) (a b : Nat) : pickM z [a, b] 2 = (z.testBit a).toNat + 2 * (z.testBit b).toNat := by
  simp only [pickM, List.getD_cons_zero, List.getD_cons_succ, Nat.zero_or]
  rw [bit_oneM, bit_oneM]
  cases z.testBit a <;> cases z.testBit b <;> rfl
theorem put2_bit {z v a b : Nat} (ha : a < 64) (hb : b < 64) (hab : a ≠ b) (i : Nat) : (putM z [a, b] v 2).testBit i = if i = b then v.testBit 1 else if i = a then v.testBit 0 else z.testBit i := by
  simp only [putM, List.getD_cons_zero, List.getD_cons_succ]
  have hs : ∀ (w : Bool) (p : Nat), p < 64 → (shlM w.toNat p).testBit i = (decide (i = p) && w) := fun w p hp => by
    rw [shlM_bit]
    by_cases e : i = p
    · subst e; cases w <;> simp [hp]
    · rw [decide_eq_false e, Bool.false_and]
      by_cases h : p ≤ i
      · have : ∃ k, i - p = k + 1 := ⟨i - p - 1, by omega⟩
        obtain ⟨k, hk⟩ := this
        rw [hk]
        cases w <;> simp [Nat.testBit_succ]
      · simp [h]
  have h1 := fun p hp => hs true p hp
  simp only [Bool.toNat_true] at h1
  simp only [Nat.testBit_or, Nat.testBit_xor, Nat.testBit_and, bit_oneM, hs _ a ha, hs _ b hb, h1 a ha, h1 b hb]
  by_cases e1 : i = b
  · subst e1
    have : ¬ i = a := fun e => hab e.symm
    simp [this]
  · by_cases e2 : i = a
    · subst e2; simp [e1]
    · simp [e1, e2]
def cxRow2 (y : Nat) : Nat := if y = 1 then 3 else if y = 3 then 1 else y
theorem put_flip {z a b : Nat} (ha : a < 64) (hb : b < 64) (hab : a ≠ b) : putM z [a, b] (cxRow2 (pickM z [a, b] 2)) 2 = flipS (a, b) z := by
  apply Nat.eq_of_testBit_eq
  intro i
  rw [put2_bit ha hb hab, pick2_bit]
  unfold flipS
  simp only
  cases h1 : z.testBit a with
  | false =>
    simp only [Bool.false_eq_true, if_false]
    by_cases e1 : i = b
    · rw [if_pos e1, e1]
      cases h2 : z.testBit b <;> rfl
    · rw [if_neg e1]
      by_cases e2 : i = a
      · rw [if_pos e2, e2, h1]; cases z.testBit b <;> rfl
      · rw [if_neg e2]
  | true =>
    simp only [if_true, Nat.testBit_xor, Nat.testBit_two_pow]
    by_cases e1 : i = b
    · rw [if_pos e1, e1]
      cases h2 : z.testBit b <;> simp <;> rfl
    · rw [if_neg e1]
      by_cases e2 : i = a
      · rw [if_pos e2, e2, h1]
        have : ¬ b = a := fun e => hab e.symm
        simp only [decide_eq_false this, Bool.xor_false]
        cases z.testBit b <;> rfl
      · rw [if_neg e2, decide_eq_false (fun e => e1 e.symm), Bool.xor_false]
theorem flipS_lt {n z : Nat} {p : Nat × Nat} (hz : z < 2 ^ n) (hp : p.2 < n) : flipS p z < 2 ^ n := by
  unfold flipS
  split
  · exact Nat.xor_lt_two_pow hz (Nat.pow_lt_pow_right (by decide) hp)
  · exact hz
theorem cx_col : colOf ⟨#[99, 120]⟩ = some (.swapped 1 3 0) := by kernel_rfl
theorem cx_some : ∃ e, kOf ⟨#[99, 120]⟩ = some e ∧ e.halves = 0 := by
  have h : (kOf ⟨#[99, 120]⟩).map (·.halves) = some 0 := by decide +kernel
  cases hk : kOf ⟨#[99, 120]⟩ with
  | none => rw [hk] at h; cases h
  | some e => rw [hk] at h; exact ⟨e, rfl, Option.some.inj h⟩
theorem colV_cx (y : Nat) : colV (.swapped 1 3 0) y = [⟨(cxRow2 y : Int), 0, 0⟩] := by
  simp only [colV, cxRow2]
  by_cases h1 : y = 1
  · subst h1; rfl
  · by_cases h3 : y = 3
    · subst h3; rfl
    · rw [if_neg (by omega), if_neg (by omega), if_neg h1, if_neg h3]
theorem term_one (r : Int) : termS ⟨r, 0, 0⟩ 0 oneR = oneR := by
  show (if (0 : Int) < 0 then rDouble (rTurn 0 oneR) else rTurn 0 oneR) = oneR
  rw [if_neg (by decide)]
  decide
theorem cx_step {N : Nat} (hN : N ≤ 10) {p : Nat × Nat} {z : Nat} (h1 : p.1 < N) (h2 : p.2 < N) (hne : p.1 ≠ p.2) (hz : z < 2 ^ N) : stepR (cxOp p) (0, basisL (2 ^ N) z) = some (0, basisL (2 ^ N) (flipS p z)) := by
  obtain ⟨e, he, hh⟩ := cx_some
  have hps : (cxOp p).qs.map Int.toNat = [p.1, p.2] := by simp [cxOp]
  have hpk : pickM z [p.1, p.2] [p.1, p.2].length < 4 := by
    show pickM z [p.1, p.2] 2 < 4
    rw [pick2_bit]
    cases z.testBit p.1 <;> cases z.testBit p.2 <;> decide
  have hfl := flipS_lt hz h2
  have hrun : runY [p.1, p.2] 0 (.swapped 1 3 0) (basisL (2 ^ N) z) (List.range' 0 4) (List.replicate (2 ^ N) zeroR) = some (basisL (2 ^ N) (flipS p z)) := by
    rw [runY_basis hz hpk, colV_cx]
    simp only [runC, stepE]
    have hput : putM z [p.1, p.2] (cxRow2 (pickM z [p.1, p.2] 2)) 2 = flipS p z := put_flip (by omega) (by omega) hne
    have hto : ((cxRow2 (pickM z [p.1, p.2] [p.1, p.2].length) : Int)).toNat = cxRow2 (pickM z [p.1, p.2] 2) := by rw [Int.toNat_natCast]; rfl
    simp only [hto]
    rw [show putM z [p.1, p.2] (cxRow2 (pickM z [p.1, p.2] 2)) [p.1, p.2].length = flipS p z from hput]
    have hg : (List.replicate (2 ^ N) zeroR)[flipS p z]? = some zeroR := by simp [hfl]
    rw [hg]
    simp only [term_one]
    rw [if_pos (by decide)]
    rfl
  unfold stepR
  show (match kOf ⟨#[99, 120]⟩, colOf ⟨#[99, 120]⟩ with
    | some e, some q => match runY ((cxOp p).qs.map Int.toNat) e.halves q (basisL (2 ^ N) z) (List.range' 0 (2 ^ ((cxOp p).qs.map Int.toNat).length)) (List.replicate (basisL (2 ^ N) z).length zeroR) with
      | some out => if (fS (0 + e.halves.toNat) out).1 ≤ 60 then some (fS (0 + e.halves.toNat) out) else none
      | none => none
    | _, _ => none) = _
  rw [he, cx_col]
  simp only
  rw [hps, hh, basisL_len]
  rw [show List.range' 0 (2 ^ [p.1, p.2].length) = List.range' 0 4 from rfl, hrun]
  rfl
theorem cx_run {N : Nat} (hN : N ≤ 10) : ∀ (l : List (Nat × Nat)) (z : Nat), (∀ p ∈ l, p.1 < N ∧ p.2 < N ∧ p.1 ≠ p.2) → z < 2 ^ N → runR (l.map cxOp) (0, basisL (2 ^ N) z) = some (0, basisL (2 ^ N) (l.foldl (fun z p => flipS p z) z)) := by
  intro l
  induction l with
  | nil => intro z _ _; rfl
  | cons p l ih =>
    intro z h hz
    obtain ⟨a, b, c⟩ := h p List.mem_cons_self
    simp only [List.map_cons, runR, cx_step hN a b c hz, List.foldl_cons]
    exact ih _ (fun q hq => h q (List.mem_cons_of_mem _ hq)) (flipS_lt hz b)
end Go.Ideal

-- Gc
set_option linter.unusedSimpArgs false
set_option linter.unusedVariables false
namespace Go.Ideal
open Go Go.Proofs Go.RowKit
/-! ### Matrices as trees -/
@[reducible] def giT (z : Int) : Tr := .v (.int .i64 z)
@[reducible] def guT (n : Nat) : Tr := .v (.int .u64 n)
def linRows (xs : List Nat) : List (List Tr) := xs.map fun x => [guT x]
@[reducible] def linCs (n : Int) (xs : List Nat) : List Tr := [giT n, .sl 1 (linRows xs)]
@[reducible] def linT (n : Int) (xs : List Nat) : Tr := .agg (linCs n xs)
theorem linRows_at {F : Mem} {b : Nat} : ∀ {xs : List Nat} {off : Nat}, RepR F b 1 (linRows xs) off → rowM F b off xs.length = some (u64s xs) := by
  intro xs
  induction xs with
  | nil => intro off _; rfl
  | cons x xs ih =>
    intro off h
    simp only [linRows, List.map_cons, RepR] at h
    obtain ⟨⟨vs, h1, h2⟩, h3⟩ := h
    simp only [RepL, Rep] at h2
    obtain ⟨v, ws, rfl, rfl, rfl⟩ := h2
    simp only [rowM, Option.bind_eq_some_iff] at h1
    obtain ⟨u, hu, us, hus, h4⟩ := h1
    obtain rfl := Option.some.inj hus
    simp only [Option.some.injEq, List.cons.injEq, and_true] at h4
    subst h4
    simp only [List.length_cons, rowM, hu, Option.bind_some, ih h3, u64s, List.map_cons]
theorem at_linRows {F : Mem} {b : Nat} : ∀ {xs : List Nat} {off : Nat}, (∀ i, i < xs.length → F b (off + i) = some (.int .u64 (xs.getD i 0 : Nat))) → RepR F b 1 (linRows xs) off := by
  intro xs
  induction xs with
  | nil => intro off _; simp [linRows, RepR]
  | cons x xs ih =>
    intro off h
    simp only [linRows, List.map_cons, RepR]
    have h0 := h 0 (by simp)
    refine ⟨⟨[.int .u64 x], ?_, RepL.cons (rep_v _) RepL.nil⟩, ih fun i hi => ?_⟩
    · rw [Nat.add_zero] at h0
      simp [rowM, h0]
    · have := h (i + 1) (by simp; omega)
      rw [show off + 1 + i = off + (i + 1) by omega, this]
      simp
theorem lin_in {F : Mem} {h : IHp} (hs : Sub F h.cell?) {n : Int} {xs : List Nat} (h64 : All64 xs) {v : Value} (hv : Rep F (linT n xs) v) : MatV h v n xs := by
  unfold linT linCs at hv
  simp only [Rep, RepL] at hv
  obtain ⟨_, rfl, _, _, rfl, rfl, _, _, rfl, ⟨a, l, c, rfl, h2, h3, h4, h5, h6⟩, rfl⟩ := hv
  have hl : xs.length = l := by rw [← h2]; simp [linRows]
  refine ⟨a, l, c, rfl, ⟨by rw [u64s_len]; exact hl, h3, ?_⟩, h64⟩
  cases a with
  | none => exact h6
  | some a =>
    simp only
    rw [row_rowM, ← hl]
    exact rowM_sub hs (linRows_at h6)
/-- a matrix in new memory -/
theorem new_lin {F0 : Mem} {h h' : IHp} {m : Value} {n : Int} {xs : List Nat} (h1 : Sub F0 h.cell?) (e : Ext h h') (mv : MatV h' m n xs) (nm : NewM h.fresh m) (hl : xs.length < 2 ^ 62) :
    ∃ F, Sub F0 F ∧ Sub F h'.cell? ∧ (∀ b off v, F b off = some v → F0 b off = some v ∨ h.fresh ≤ b) ∧ Rep F (linT n xs) m := by
  obtain ⟨a, l, c, rfl, ⟨g1, g2, g3⟩, h64⟩ := mv
  rw [u64s_len] at g1
  refine ⟨fun b off => if b % 2 = 0 ∧ h.fresh ≤ b then h'.cell? b off else F0 b off, fun b off v hf => ?_, fun b off v hf => ?_, fun b off v hf => ?_, ?_⟩
  · simp only
    split
    · exact cell_ext e (h1 b off v hf)
    · exact hf
  · simp only at hf
    split at hf
    · exact hf
    · exact cell_ext e (h1 b off v hf)
  · simp only at hf
    split at hf
    · rename_i hb; exact .inr hb.2
    · exact .inl hf
  · rw [Rep]
    refine ⟨_, rfl, RepL.cons (rep_v _) (RepL.cons ?_ RepL.nil)⟩
    rw [Rep]
    cases a with
    | none =>
      simp only at g3
      subst g3
      exact ⟨none, l, 0, rfl, by simp [linRows, g1], g2, by decide, (fun d hd => by cases hd), rfl⟩
    | some a =>
      obtain ⟨n1, n2, n3, rfl⟩ := nm _ a l c rfl
      refine ⟨some a, c, c, rfl, by simp [linRows, g1], Nat.le_refl _, by omega, (fun d hd => by cases hd; exact .inl n3), ?_⟩
      simp only at g3 ⊢
      refine at_linRows fun i hi => ?_
      rw [if_pos ⟨n2, n1⟩, row_cell g3 i (by omega)]
      simp [u64s, List.getD_eq_getElem?_getD, List.getElem?_eq_getElem hi]
/-- an answer that is a matrix in new memory, and an error -/
theorem Fn_ans {f : FuncId} {args : List Tr} {r : Int × List Nat × Int} (hl : r.2.1.length < 2 ^ 62) (x : ∀ (F0 : Mem) (h : IHp) (vs : List Value), Sub F0 h.cell? → RepL F0 args vs → EvX Try.prog f vs.toArray h (fun v h' => Ext h h' ∧ AnsM h.fresh h' v r)) :
    Fn Try.prog f args (fun t => t = .tup [linT r.1 r.2.1, giT r.2.2]) := by
  unfold Fn
  intro F0 h vs h1 h2
  refine (x F0 h vs h1 h2).mono ?_
  rintro v h' ⟨e, m, rfl, mv, nm⟩
  obtain ⟨F, a1, a2, a3, a4⟩ := new_lin h1 e mv nm hl
  refine ⟨e, F, _, a1, a2, a3, ?_, rfl⟩
  rw [Rep]
  exact ⟨_, rfl, RepL.cons a4 (RepL.cons (rep_v _) RepL.nil)⟩
theorem Fn_ansV {f : FuncId} {args : List Tr} {ws : List Value} {t : Tr} (hw : ∀ F, Rep F t (.tuple ws.toArray)) (x : ∀ (F0 : Mem) (h : IHp) (vs : List Value), Sub F0 h.cell? → RepL F0 args vs → EvX Try.prog f vs.toArray h (fun v h' => Ext h h' ∧ v = .tuple ws.toArray)) : Fn Try.prog f args (fun r => r = t) :=
  Fn_flat (fun F0 h vs h1 h2 => (x F0 h vs h1 h2).mono fun v h' ⟨e, hv⟩ => ⟨hv, e⟩) hw
theorem one_arg {F : Mem} {t : Tr} {vs : List Value} (h : RepL F [t] vs) : ∃ v, vs = [v] ∧ Rep F t v := by
  simp only [RepL] at h
  obtain ⟨v, _, rfl, h1, rfl⟩ := h
  exact ⟨v, rfl, h1⟩
theorem two_args {F : Mem} {t u : Tr} {vs : List Value} (h : RepL F [t, u] vs) : ∃ v w, vs = [v, w] ∧ Rep F t v ∧ Rep F u w := by
  simp only [RepL] at h
  obtain ⟨v, _, rfl, h1, w, _, rfl, h2, rfl⟩ := h
  exact ⟨v, w, rfl, h1, h2⟩
theorem rep_pairIU {F : Mem} (a : Nat) (b : Int) : Rep F (.tup [guT a, giT b]) (.tuple [.int .u64 a, .int .i64 b].toArray) := by
  rw [Rep]; exact ⟨_, rfl, RepL.cons (rep_v _) (RepL.cons (rep_v _) RepL.nil)⟩
/-! ### The functions -/
theorem linMulT {M N : Int} {xs ys : List Nat} (hx : All64 xs) (hy : All64 ys) : Fn Try.prog 13 [linT M xs, linT N ys] (fun t => t = .tup [linT (mulR M N xs ys).1 (mulR M N xs ys).2.1, giT (mulR M N xs ys).2.2]) :=
  Fn_ans (mulR_len M N xs ys) fun F0 h vs h1 h2 => by
    obtain ⟨A, B, rfl, a, b⟩ := two_args h2
    exact Mul_w (lin_in h1 hx a) (lin_in h1 hy b)
instance : CallIs Try.prog 13 := .of Try.func13 rfl rfl
instance : CallIs Try.prog 23 := .of Try.func23 rfl rfl
theorem linInverseT {N : Int} {xs : List Nat} (hx : All64 xs) : Fn Try.prog 16 [linT N xs] (fun t => t = .tup [linT (invR N xs).1 (invR N xs).2.1, giT (invR N xs).2.2]) :=
  Fn_ans (invR_len N xs) fun F0 h vs h1 h2 => by
    obtain ⟨A, rfl, a⟩ := one_arg h2
    exact Inverse_w (lin_in h1 hx a)
instance : CallIs Try.prog 16 := .of Try.func16 rfl rfl
instance : CallIs Try.prog 27 := .of Try.func27 rfl rfl
theorem linApplyT {N : Int} {xs : List Nat} {x : Nat} (hx : All64 xs) (h64 : x < 2 ^ 64) : Fn Try.prog 20 [linT N xs, guT x] (fun t => t = .tup [guT (applyR N xs x).1, giT (applyR N xs x).2]) :=
  Fn_ansV (fun F => rep_pairIU _ _) fun F0 h vs h1 h2 => by
    obtain ⟨A, B, rfl, a, b⟩ := two_args h2
    simp only [Rep] at b
    subst b
    exact Apply_w h64 (lin_in h1 hx a)
instance : CallIs Try.prog 20 := .of Try.func20 rfl rfl
theorem linSameT {N : Int} {xs : List Nat} (hx : All64 xs) (hl : xs.length < 2 ^ 62) : Fn Try.prog 14 [linT N xs, linT N xs] (fun t => t = .v (.bool true)) :=
  Fn_flat (w := .bool true) (fun F0 h vs h1 h2 => by
    obtain ⟨A, B, rfl, a, b⟩ := two_args h2
    exact Same_t (lin_in h1 hx a) (lin_in h1 hx b) hl) (fun F => rep_v _)
instance : CallIs Try.prog 14 := .of Try.func14 rfl rfl
instance : CallIs Try.prog 66 := .of Try.func66 rfl rfl
end Go.Ideal

-- Gf
set_option linter.unusedSimpArgs false
set_option linter.unusedVariables false
namespace Go.Ideal
open Go Go.Proofs Go.RowKit
/-! ### Own answers of the linear functions -/
theorem TR.new {h h' : IHp} {F0 : Mem} {r : Tr} {v : Value} {B : Boxes} (h1 : Sub F0 h.cell?) (e : Ext h h') (hr : Rep F0 r v) (hb : ∀ p ∈ B, BoxRep F0 h' p.1 p.2) (hs : ∀ p ∈ B, p.1 % 2 = 0 ∧ h.fresh ≤ p.1) (hd : (B.map Prod.fst).Nodup) : TR ⟨h, F0, []⟩ F0 (fun _ => r) B (fun _ => v) h' := by
  refine ⟨e, Sub.refl _, fun b o v hf => cell_ext e (h1 b o v hf), fun b o v hf => .inl hf, hb, fun p hp _ => ⟨(hs p hp).2, fun off => ?_⟩, hd, fun g hg => (by cases hg), fun i => hr⟩
  cases hf : F0 p.1 off with
  | none => rfl
  | some w =>
    exfalso
    have h2 := h1 _ _ _ hf
    obtain ⟨he, hle⟩ := hs p hp
    unfold IHp.cell? at h2
    rw [if_neg (by omega)] at h2
    cases hq : h.new[p.1 / 2]? with
    | none => rw [hq] at h2; cases h2
    | some o => have := (List.getElem?_eq_some_iff.1 hq).1; unfold IHp.fresh at hle; omega
theorem checkS_two {N : Int} {xs : List Nat} (h : ¬ checkS N xs = 0) : checkS N xs = 2 := by
  unfold checkS at h ⊢
  split
  · rfl
  · rename_i h3
    rw [if_neg h3] at h
    split
    · rename_i h4; rw [if_pos h4] at h; exact absurd rfl h
    · rfl
/-- an answer in new memory that may be read alone from now on -/
def FrzO (t : Tr) (r : Tr) (B : Boxes) : Prop := FlatT r ∧ (∀ p ∈ B, FlatB p.2) ∧ ∀ F G h, ThawOk F G B h → ∀ v, Rep F r v → Rep G t v
theorem rep_none {F : Mem} {m : Nat} : Rep F (.sl m []) (.slice none 0 0) := by
  rw [Rep]
  exact ⟨none, 0, 0, rfl, rfl, Nat.le_refl _, by decide, (fun d hd => by cases hd), rfl⟩
end Go.Ideal

-- Gg
set_option linter.unusedSimpArgs false
set_option linter.unusedVariables false
namespace Go.Ideal
open Go Go.Proofs Go.RowKit
/-! ### The made circuit as own memory -/
@[reducible] def cxRow (d : (Nat × Nat) × Nat) : List Tr := [intT 1, strT ⟨#[99, 120]⟩, .v (.slice (some (ad d.2 0)) 2 2), intT 0, boolT false, u64T 0, u64T 0]
def cxRows (dq : List ((Nat × Nat) × Nat)) : List (List Tr) := dq.map cxRow
def qB (fam : List (Nat × Int × Int)) : Boxes := fam.map fun x => (x.1, .arr 1 [[intT x.2.1], [intT x.2.2]] 3 true)
def famOf (dq : List ((Nat × Nat) × Nat)) : List (Nat × Int × Int) := dq.map fun d => (d.2, (d.1.1 : Int), (d.1.2 : Int))
def synR (N : Int) (xs : List Nat) : Int × Int × List (Nat × Nat) := if checkS N xs = 0 then (match redK xs xs.length with | none => (0, 200, []) | some st => (N, 0, st.2.reverse)) else (0, 2, [])
def synB (b : Nat) (dq : List ((Nat × Nat) × Nat)) : Boxes := (if dq.length = 0 then [] else [(b, .arr 7 (cxRows dq) 72 false)]) ++ qB (famOf dq)
theorem cxRow_rep {F : Mem} (d : (Nat × Nat) × Nat) : RepL F (cxRow d) (cxCells d) :=
  RepL.cons (rep_v _) (RepL.cons (rep_v _) (RepL.cons (rep_v _) (RepL.cons (rep_v _) (RepL.cons (rep_v _) (RepL.cons (rep_v _) (RepL.cons (rep_v _) RepL.nil))))))
theorem cxRows_rep {F : Mem} : ∀ (dq : List ((Nat × Nat) × Nat)), RepL F (cxRows dq).flatten (dq.map cxCells).flatten := by
  intro dq
  induction dq with
  | nil => exact RepL.nil
  | cons d dq ih => exact (cxRow_rep d).append ih
theorem cxRows_seven {dq : List ((Nat × Nat) × Nat)} : ∀ row ∈ cxRows dq, row.length = 7 := by
  intro row hr
  obtain ⟨x, _, rfl⟩ := List.mem_map.1 hr
  rfl
theorem rep_syn {F : Mem} {m e : Int} {v : Value} : Rep F (.tup [.agg [intT m, intT 0, .v v], intT e]) (.tuple [.agg [.int .i64 m, .int .i64 0, v].toArray, .int .i64 e].toArray) := by
  simp only [Rep]
  refine ⟨_, rfl, RepL.cons ?_ (RepL.cons (rep_v _) RepL.nil)⟩
  simp only [Rep]
  exact ⟨_, rfl, RepL.cons (rep_v _) (RepL.cons (rep_v _) (RepL.cons (rep_v _) RepL.nil))⟩
theorem linSynthO {N : Int} {xs : List Nat} (hx : All64 xs) : FnO Try.prog 17 [linT N xs] (fun r B => ∃ b dq, dq.map Prod.fst = (synR N xs).2.2 ∧ r = .tup [.agg [intT (synR N xs).1, intT 0, .v (gsv b dq.length)], intT (synR N xs).2.1] ∧ B = synB b dq) := by
  unfold FnO
  intro F0 h vs h1 h2
  obtain ⟨A, rfl, a⟩ := one_arg h2
  obtain ⟨a1, la, ca, rfl, g1, g3⟩ := lin_in h1 hx a
  refine (Synth_spec N a1 la ca xs h g1 g3).mono ?_
  rintro v h' ⟨e, hv⟩
  have none_case : ∀ (k : Int), synR N xs = (0, k, []) → v = .tuple [.agg [.int .i64 0, .int .i64 0, .slice none 0 0].toArray, .int .i64 k].toArray → ∃ F r B, TR ⟨h, F0, []⟩ F (fun _ => r) B (fun _ => v) h' ∧ (∀ p ∈ B, p.1 % 2 = 0) ∧ ∃ b dq, dq.map Prod.fst = (synR N xs).2.2 ∧ r = .tup [.agg [intT (synR N xs).1, intT 0, .v (gsv b dq.length)], intT (synR N xs).2.1] ∧ B = synB b dq := by
    rintro k hk rfl
    rw [hk]
    exact ⟨F0, _, [], TR.new h1 e rep_syn (by simp) (by simp) (by simp), by simp, 0, [], rfl, rfl, rfl⟩
  split at hv
  · rename_i hc
    split at hv
    · rename_i hr
      exact none_case 200 (by unfold synR; rw [if_pos hc, hr]) hv
    · rename_i st hr
      obtain ⟨sv, dq, rfl, hdq, hL, hQ, hN⟩ := hv
      have hs : synR N xs = (N, 0, st.2.reverse) := by unfold synR; rw [if_pos hc, hr]
      rw [hs]
      have qrep : ∀ p ∈ qB (famOf dq), BoxRep F0 h' p.1 p.2 ∧ p.1 % 2 = 0 ∧ h.fresh ≤ p.1 := by
        intro p hp
        obtain ⟨x, hx, rfl⟩ := List.mem_map.1 hp
        obtain ⟨d, hd, rfl⟩ := List.mem_map.1 hx
        obtain ⟨h5, h6⟩ := hQ d hd
        refine ⟨⟨?_, .inr ⟨_, ?_, h6⟩⟩, h6.even, h5⟩
        · intro row hr
          simp at hr
          rcases hr with rfl | rfl <;> rfl
        · exact RepL.cons (rep_v _) (RepL.cons (rep_v _) RepL.nil)
      have qkeys : (qB (famOf dq)).map Prod.fst = dq.map Prod.snd := by simp [qB, famOf, Function.comp_def]
      rcases hL with ⟨rfl, h0, h00⟩ | ⟨b, hb1, rfl, hb2, hb3, hb4⟩
      · have : dq = [] := List.eq_nil_of_length_eq_zero h0
        subst this
        exact ⟨F0, _, [], TR.new h1 e rep_syn (by simp) (by simp) (by simp), by simp, 0, [], hdq, rfl, rfl⟩
      · refine ⟨F0, .tup [.agg [intT N, intT 0, .v (gsv b dq.length)], intT 0], synB b dq, TR.new h1 e ?_ ?_ ?_ ?_, ?_, b, dq, hdq, rfl, rfl⟩
        · unfold gsv; rw [if_neg hb3]; exact rep_syn
        · intro p hp
          unfold synB at hp
          rw [if_neg hb3] at hp
          rcases List.mem_append.1 hp with h5 | h5
          · rw [List.mem_singleton.1 h5]
            exact ⟨cxRows_seven, .inr ⟨_, cxRows_rep _, hb2⟩⟩
          · exact (qrep p h5).1
        · intro p hp
          unfold synB at hp
          rw [if_neg hb3] at hp
          rcases List.mem_append.1 hp with h5 | h5
          · rw [List.mem_singleton.1 h5]
            exact ⟨hb2.even, hb1⟩
          · exact (qrep p h5).2
        · unfold synB
          rw [if_neg hb3, List.singleton_append, List.map_cons, qkeys, List.nodup_cons]
          refine ⟨fun hm => ?_, hN⟩
          obtain ⟨d, hd, he⟩ := List.mem_map.1 hm
          have h6 := (hQ d hd).2.eq
          rw [he, hb2.eq] at h6
          simp at h6
        · intro p hp
          unfold synB at hp
          rw [if_neg hb3] at hp
          rcases List.mem_append.1 hp with h5 | h5
          · rw [List.mem_singleton.1 h5]
            exact hb2.even
          · exact (qrep p h5).2.1
  · rename_i hc
    rw [checkS_two hc] at hv
    exact none_case 2 (by unfold synR; rw [if_neg hc]) hv
theorem cxRow_flat (d : (Nat × Nat) × Nat) : FlatL (cxRow d) := inferInstance
theorem synB_flat {b : Nat} {dq : List ((Nat × Nat) × Nat)} : ∀ p ∈ synB b dq, FlatB p.2 := by
  intro p hp
  unfold synB at hp
  rcases List.mem_append.1 hp with h5 | h5
  · split at h5
    · cases h5
    · rw [List.mem_singleton.1 h5]
      refine FlatL.rows fun row hr => ?_
      obtain ⟨d, _, rfl⟩ := List.mem_map.1 hr
      exact cxRow_flat d
  · obtain ⟨x, _, rfl⟩ := List.mem_map.1 h5
    show FlatL _
    exact (inferInstance : FlatL [intT x.2.1, intT x.2.2])
theorem cxRows_frz {B : Boxes} {dq : List ((Nat × Nat) × Nat)} (hb : ∀ d ∈ dq, BoxIs B d.2 (.arr 1 [[intT (d.1.1 : Int)], [intT (d.1.2 : Int)]] 3 true)) : FrzR B (cxRows dq) (opRows ((dq.map Prod.fst).map cxOp)) := ⟨by simp [cxRows, opRows], fun i row hr => by
  simp only [cxRows, List.getElem?_map, Option.map_eq_some_iff] at hr
  obtain ⟨d, hd, rfl⟩ := hr
  have := hb d (List.mem_of_getElem? hd)
  refine ⟨[intT 1, strT ⟨#[99, 120]⟩, .sl 1 [[intT (d.1.1 : Int)], [intT (d.1.2 : Int)]], intT 0, boolT false, u64T 0, u64T 0], by simp [opRows, hd, cxOp, opCs, intRows], ?_⟩
  have : FrzL B (cxRow d) [intT 1, strT ⟨#[99, 120]⟩, .sl 1 [[intT (d.1.1 : Int)], [intT (d.1.2 : Int)]], intT 0, boolT false, u64T 0, u64T 0] := inferInstance
  exact this.eq⟩
theorem linSynthN {N : Int} {xs : List Nat} (hx : All64 xs) (hl : (synR N xs).2.2.length < 2 ^ 62) : FnO Try.prog 17 [linT N xs] (FrzO (.tup [circT ⟨(synR N xs).1, 0, (synR N xs).2.2.map cxOp⟩, intT (synR N xs).2.1])) := by
  refine (linSynthO hx).mono ?_
  rintro r B ⟨b, dq, hdq, rfl, rfl⟩
  rw [← hdq] at hl ⊢
  rw [List.length_map] at hl
  refine ⟨inferInstance, synB_flat, ?_⟩
  by_cases h0 : dq.length = 0
  · have : dq = [] := List.eq_nil_of_length_eq_zero h0
    subst this
    intro F G h o v hv
    simp only [Rep, RepL] at hv
    obtain ⟨_, rfl, _, _, rfl, ⟨_, rfl, _, _, rfl, rfl, _, _, rfl, rfl, _, _, rfl, rfl, rfl⟩, _, _, rfl, rfl, rfl⟩ := hv
    rw [Rep]
    refine ⟨_, rfl, RepL.cons ?_ (RepL.cons (rep_v _) RepL.nil)⟩
    rw [Rep]
    exact ⟨_, rfl, RepL.cons (rep_v _) (RepL.cons (rep_v _) (RepL.cons rep_none RepL.nil))⟩
  · have e1 : BoxIs (synB b dq) b (.arr 7 (cxRows dq) 72 false) := ⟨by unfold synB; rw [if_neg h0]; simp⟩
    have e2 : FrzR (synB b dq) (cxRows dq) (opRows ((dq.map Prod.fst).map cxOp)) := cxRows_frz fun d hd => ⟨by
      unfold synB
      refine List.mem_append_right _ ?_
      exact List.mem_map.2 ⟨(d.2, (d.1.1 : Int), (d.1.2 : Int)), List.mem_map.2 ⟨d, hd, rfl⟩, rfl⟩⟩
    have e3 : LenT (cxRows dq) dq.length := ⟨by simp [cxRows]⟩
    have e4 : Sm63 dq.length := ⟨by omega⟩
    exact (inferInstance : Frz (synB b dq) (.tup [.agg [intT (synR N xs).1, intT 0, .v (gsv b dq.length)], intT (synR N xs).2.1]) _).eq
instance : CallIs Try.prog 17 := .of Try.func17 rfl rfl
section
variable {P : Program} {X : Cx} {E : Env} {σ : Nat → Tr} {B B' : Boxes} {ops : Array Oper} {K : TK} {l : List Oper} {d : Option Tmp} {ty : TypeId} {pos : String} {af : Array Edge} {H : List (Nat × Nat)}
end
theorem synR_ok {N : Int} {xs : List Nat} (hx : All64 xs) : (synR N xs).2.2.length < 2 ^ 62 ∧ ((synR N xs).2.1 = 0 → fromC ⟨(synR N xs).1, 0, (synR N xs).2.2.map cxOp⟩ = (N, xs, 0) ∧ xs.length < 2 ^ 62) := by
  unfold synR
  by_cases hc : checkS N xs = 0
  · rw [if_pos hc]
    cases hr : redK xs xs.length with
    | none => exact ⟨by simp, fun h => by simp at h⟩
    | some st =>
      obtain ⟨N0, N1, lx, _⟩ := checkS_zero hc
      obtain ⟨nx, gx⟩ := glt_of hc hx
      obtain ⟨e, hl⟩ := synth_from N0 N1 nx gx hr
      have h1 : xs.length ≤ 64 := by omega
      have h2 : xs.length * xs.length ≤ 64 * 64 := Nat.mul_le_mul h1 h1
      refine ⟨?_, fun _ => ⟨e, by omega⟩⟩
      simp only [List.length_reverse]
      omega
  · rw [if_neg hc]
    exact ⟨by simp, fun h => by simp at h⟩
theorem cx_w (l : List (Nat × Nat)) (m : Int) : CircW ⟨m, 0, l.map cxOp⟩ := fun o ho => by
  obtain ⟨p, _, rfl⟩ := List.mem_map.1 ho
  exact ⟨by show (0 : Nat) < 2 ^ 64; decide, by show (0 : Nat) < 2 ^ 64; decide⟩
/-! ### The matrix of a circuit, and the reference's functions -/
instance : CallIs Try.prog 11 := .of Try.func11 rfl rfl
instance : CallIs Try.prog 25 := .of Try.func25 rfl rfl
instance : CallIs Try.prog 29 := .of Try.func29 rfl rfl
instance : CallIs Try.prog 28 := .of Try.func28 rfl rfl
end Go.Ideal

-- Tv
set_option linter.unusedSimpArgs false
set_option linter.unusedVariables false
namespace Go.Ideal
open Go Go.Proofs Go.RowKit
set_option synthInstance.maxSize 4000 in
set_option synthInstance.maxHeartbeats 400000 in
set_option maxHeartbeats 4000000 in
theorem circThenT {a b : CircD} (ha : CircW a) (hb : CircW b) : Fn Try.prog 12 [circT a, circT b] (fun r => r = .tup [circT (thenC a b).1, intT (thenC a b).2]) := by
  refine Fn_of Try.func12 rfl (Nat.le_of_ble_eq_true rfl) (fun X => ?_)
  repeat (first | refine StepC.go ?_ | intro _)
  rename_i pa pb pr bs
  refine TV_loop (fun d σ B => ∃ (i : Nat), d = 2 - i ∧ i ≤ 2 ∧ TGet σ 19 (intT i) ∧ TGet σ 18 (intT 2) ∧ TGet σ 17 (.v (.slice (some (ad bs 0)) 2 2)) ∧ TGet σ 2 (.v (.pointer (some (ad pa 0)))) ∧ TGet σ 3 (.v (.pointer (some (ad pb 0)))) ∧ TGet σ 4 (.v (.pointer (some (ad pr 0)))) ∧ TGet σ 5 (intT 0) ∧
      SubP B [(bs, .arr 3 [circCs a, circCs b] 24 true), (pa, .cells (circCs a) 24 true), (pb, .cells (circCs b) 24 true), (pr, .cells [intT 0, intT 0, .v (.slice none 0 0)] 24 true)] ∧ (1 ≤ i → (checkC a).2 = 0) ∧ (2 ≤ i → (checkC b).2 = 0)) 2
    ⟨0, by omega, by omega, inferInstance, inferInstance, inferInstance, inferInstance, inferInstance, inferInstance, inferInstance, inferInstance, by omega, by omega⟩ ?_
  rintro d σ B ⟨i, rfl, hi, g19, g18, g17, g2, g3, g4, g5, hB, hi1, hi2⟩
  refine TV_keep _ (p := hB) ?_
  repeat (refine StepC.go ?_)
  refine TV_cond ?_ ?_ <;> intro hc
  · have hil : i = 0 ∨ i = 1 := by simp at hc; omega
    rcases hil with rfl | rfl
    · repeat (first | refine StepC.go ?_ | intro _)
      refine TS_callE (checkT ha) ?_
      repeat (refine StepC.go ?_)
      refine TV_cond ?_ ?_ <;> intro hc2
      · repeat (refine StepC.go ?_)
        refine retT_2c [.agg [intT 0, intT 0, .sl 7 []], intT (checkC a).2] (.inr rfl) ?_
        simp only [tret, thenC]
        rw [if_neg (by simpa using hc2)]; rfl
      · have hca : (checkC a).2 = 0 := by simpa using hc2
        repeat (first | refine StepC.go ?_ | (refine TS_puw (Pu.addi ?_) ?_; · omega))
        refine ⟨_, ?_, 1, rfl, by omega, inferInstance, inferInstance, inferInstance, inferInstance, inferInstance, inferInstance, inferInstance, inferInstance, fun _ => hca, by omega⟩
        omega
    · have hca := hi1 (by omega)
      repeat (first | refine StepC.go ?_ | intro _)
      refine TS_callE (checkT hb) ?_
      repeat (refine StepC.go ?_)
      refine TV_cond ?_ ?_ <;> intro hc2
      · repeat (refine StepC.go ?_)
        refine retT_2c [.agg [intT 0, intT 0, .sl 7 []], intT (checkC b).2] (.inr rfl) ?_
        simp only [tret, thenC]
        rw [if_pos hca, if_neg (by simpa using hc2)]; rfl
      · have hcb : (checkC b).2 = 0 := by simpa using hc2
        repeat (first | refine StepC.go ?_ | (refine TS_puw (Pu.addi ?_) ?_; · omega))
        refine ⟨_, ?_, 2, rfl, by omega, inferInstance, inferInstance, inferInstance, inferInstance, inferInstance, inferInstance, inferInstance, inferInstance, fun _ => hca, fun _ => hcb⟩
        omega
  have hil : i = 2 := by simp at hc; omega
  have hca := hi1 (by omega)
  have hcb := hi2 (by omega)
  clear hil hi hc hi1 hi2
  obtain ⟨hla, hga⟩ := circ_good ha hca
  obtain ⟨hlb, hgb⟩ := circ_good hb hcb
  by_cases hq : a.qubits = b.qubits ∧ a.bits = b.bits
  case neg =>
    have d1 : (if (!decide (a.qubits = b.qubits)) = true then true else !decide (a.bits = b.bits)) = true := by
      by_cases h1 : a.qubits = b.qubits
      · have : a.bits ≠ b.bits := fun h => hq ⟨h1, h⟩
        simp [h1, this]
      · simp [h1]
    by_cases h1 : a.qubits = b.qubits
    · have d2 : (!decide (a.qubits = b.qubits)) = false := by simp [h1]
      repeat (first | refine StepC.go ?_ | (refine TS_on rfl ?_ ?_; · first | rfl | assumption) | (refine TV_cond_t ?_ ?_; · first | rfl | assumption))
      refine retT_2c [.agg [intT 0, intT 0, .sl 7 []], intT 2] (.inr rfl) ?_
      simp only [tret, thenC]
      rw [if_pos hca, if_pos hcb, if_neg hq]; rfl
    · have d2 : (!decide (a.qubits = b.qubits)) = true := by simp [h1]
      repeat (first | refine StepC.go ?_ | (refine TS_off rfl ?_ ?_; · first | rfl | assumption) | (refine TS_puw (Pu.pick_t ?_) ?_; · first | rfl | assumption) | (refine TV_cond_t ?_ ?_; · first | rfl | assumption))
      refine retT_2c [.agg [intT 0, intT 0, .sl 7 []], intT 2] (.inr rfl) ?_
      simp only [tret, thenC]
      rw [if_pos hca, if_pos hcb, if_neg hq]; rfl
  have d1 : (if (!decide (a.qubits = b.qubits)) = true then true else !decide (a.bits = b.bits)) = false := by simp [hq.1, hq.2]
  have d2 : (!decide (a.qubits = b.qubits)) = false := by simp [hq.1]
  obtain ⟨ab, hab⟩ : ∃ ab, ab = a.ops ++ b.ops := ⟨_, rfl⟩
  have hcat : Fn Try.prog 53 [.sl 1 [[.sl 7 (opRows a.ops)], [.sl 7 (opRows b.ops)]]] (fun r => r = .sl 7 (opRows ab)) := by
    have h1 := concatT (ls := [a.ops, b.ops]) (by simp; omega) (by simp)
    simp only [opsLs, List.map_cons, List.map_nil, List.flatten_cons, List.flatten_nil, List.append_nil, ← hab] at h1
    exact h1
  have hnab : ab.length ≤ 8192 := by rw [hab, List.length_append]; omega
  have hgab : ∀ o ∈ ab, OpG o := fun o ho => by
    rw [hab] at ho
    rcases List.mem_append.1 ho with h | h
    · exact hga o h
    · exact hgb o h
  have hLab : (opRows ab).length = ab.length := by simp [opRows]
  refine TV_ghost 7 72 ?_
  intro b0
  repeat (first | refine StepC.go ?_ | intro _ | (refine TS_on rfl ?_ ?_; · first | rfl | assumption) | (refine TV_cond_f ?_ ?_; · first | rfl | assumption))
  rename_i pd bl
  refine TS_freeze 55 bl ?_
  refine TS_call hcat ?_
  rintro _ rfl
  repeat (refine StepC.go ?_)
  rw [hLab]
  refine TV_loop (fun d σ B => ∃ (i bk : Nat), d = ab.length - i ∧ i ≤ ab.length ∧ TGet σ 58 (intT i) ∧ TGet σ 57 (intT ab.length) ∧ TGet σ 56 (.sl 7 (opRows ab)) ∧ TGet σ 10 (.v (.pointer (some (ad pd 0)))) ∧ TGet σ 4 (.v (.pointer (some (ad pr 0)))) ∧ TGet σ 5 (intT 0) ∧
      SubP B [(pr, .cells [intT 0, intT 0, .v (.slice none 0 0)] 24 true), (pd, .cells [intT a.qubits, intT a.bits, .v (gsv bk i)] 24 true), (bk, .arr 7 (opRows (ab.take i)) 72 false)]) ab.length
    ⟨0, b0, by omega, by omega, inferInstance, inferInstance, inferInstance, inferInstance, inferInstance, inferInstance, inferInstanceAs (SubP _ [(pr, .cells [intT 0, intT 0, .v (.slice none 0 0)] 24 true), (pd, .cells [intT a.qubits, intT a.bits, .v (.slice none 0 0)] 24 true), (b0, .arr 7 [] 72 false)])⟩ ?_
  clear hB g2 g3 g4 g5 g17 g18 g19
  rintro d σ B ⟨i, bk, rfl, hi, g58, g57, g56, g10, g4, g5, hB⟩
  refine TV_keep _ (p := hB) ?_
  have hLn : LenT (opRows (ab.take i)) i := ⟨by simp [opRows]; omega⟩
  have hSm : Sm63 i := ⟨by omega⟩
  repeat (refine StepC.go ?_)
  refine TV_cond ?_ ?_ <;> intro hc3
  · have hil : i < ab.length := by simp at hc3; omega
    obtain ⟨o, ho⟩ : ∃ o, ab[i]? = some o := ⟨_, List.getElem?_eq_getElem hil⟩
    have ng : NthG (opRows ab) i (opCs o) := .map opCs ho
    have hgo := (hgab o (List.mem_of_getElem? ho)).len
    repeat (first | refine StepC.go ?_ | intro _ | refine TD_take rfl rfl ?_ | refine TD_load rfl rfl ?_ | refine TD_one rfl ?_ | refine FiltT_nil ?_ | refine FiltT_drop rfl ?_ | refine FiltT_keep rfl ?_ | refine TV_draw (id := 14) (plan := [.take 0, .take 1, .take 2, .one 3, .one 4, .one 5, .take 6, .one 7]) (by kernel_rfl) ?_)
    refine TS_call (copiedT o (by omega)) ?_
    rintro _ rfl
    repeat (first | refine StepC.go ?_ | intro _ | (refine TS_puw (Pu.addi ?_) ?_; · omega) | (refine TS_append ?_ (fun _ => ?_); · omega) | refine TD_take rfl rfl ?_ | refine TD_one rfl ?_ | refine FiltT_nil ?_ | refine FiltT_drop rfl ?_ | refine FiltT_keep rfl ?_)
    rename_i b2
    refine ⟨_, ?_, i + 1, b2, rfl, by omega, inferInstance, inferInstance, inferInstance, inferInstance, inferInstance, inferInstance, ?_⟩
    · omega
    · rw [take_succ ho, opRows_app]
      exact inferInstanceAs (SubP _ [_, _, (b2, .arr 7 (opRows (ab.take i) ++ [opCs o]) 72 false)])
  have hil : i = ab.length := by simp at hc3; omega
  subst hil
  rw [List.take_length] at hLn ⊢
  have hck := checkT (catW ha hb)
  rw [← hab] at hck
  repeat (refine StepC.go ?_)
  refine TS_callE hck ?_
  repeat (refine StepC.go ?_)
  refine TV_cond ?_ ?_ <;> intro hc4
  · repeat (refine StepC.go ?_)
    refine retT_2c [.agg [intT 0, intT 0, .sl 7 []], intT (checkC ⟨a.qubits, a.bits, ab⟩).2] (.inr rfl) ?_
    simp only [tret, thenC]
    rw [if_pos hca, if_pos hcb, if_pos hq, ← hab, if_neg (by simpa using hc4)]; rfl
  · have hcd : (checkC ⟨a.qubits, a.bits, ab⟩).2 = 0 := by simpa using hc4
    repeat (refine StepC.go ?_)
    refine retT_2 (.inr rfl) ?_
    simp only [tret, thenC]
    rw [if_pos hca, if_pos hcb, if_pos hq, ← hab, if_pos hcd]
instance : CallIs Try.prog 12 := .of Try.func12 rfl rfl
end Go.Ideal

-- Mi
set_option linter.unusedSimpArgs false
set_option linter.unusedVariables false
namespace Go.Ideal
open Go Go.Proofs Go.RowKit
/-! ### LinearCircuits: the plain laws -/
theorem fromK_lenM : ∀ (ops : List OpD) (R R' : List Nat), fromK ops R = some R' → R'.length = R.length := by
  intro ops
  induction ops with
  | nil => intro R R' h; simp only [fromK, Option.some.injEq] at h; subst h; rfl
  | cons o ops ih =>
    intro R R' h
    simp only [fromK] at h
    split at h
    · cases h
    · rw [ih _ _ h, stepO_len]
theorem fromK_all : ∀ (ops : List OpD) (R : List Nat), (∀ o ∈ ops, opBad o = false) → ∃ R', fromK ops R = some R' := by
  intro ops
  induction ops with
  | nil => intro R _; exact ⟨R, rfl⟩
  | cons o ops ih =>
    intro R h
    simp only [fromK]
    rw [if_neg (by rw [h o List.mem_cons_self]; decide)]
    exact ih _ fun p hp => h p (List.mem_cons_of_mem _ hp)
theorem fromC_len (c : CircD) : (fromC c).2.1.length < 2 ^ 62 := by
  unfold fromC
  split
  · simp
  · rename_i hc
    split
    · simp
    · rename_i R hR
      have h0 : (checkC c).2 = 0 := by omega
      have := rangeBad_no (checkC_ok h0).1
      simp only
      rw [fromK_lenM _ _ _ hR, eyeS_length]
      omega
/-- a circuit that has a matrix -/
structure FromOk (c : CircD) (n : Nat) (A : List Nat) : Prop where
  q : c.qubits = n
  n64 : n ≤ 64
  ck : (checkC c).2 = 0
  val : fromC c = (c.qubits, A, 0)
  run : fromK c.ops (eyeS c.qubits) = some A
  two : ∀ o ∈ c.ops, OpTwo n o
  len : A.length = n
  glt : GLt A n
  ckA : checkS n A = 0
  a64 : All64 A
theorem checkS_ofM {N : Int} {xs : List Nat} (h0 : 0 ≤ N) (h1 : N ≤ 64) (hl : (xs.length : Int) = N) (g : GLt xs xs.length) : checkS N xs = 0 := by
  unfold checkS
  rw [if_neg (by omega), if_pos]
  rw [List.all_eq_true]
  intro x hx
  obtain ⟨i, hi⟩ := List.getElem?_of_mem hx
  have h2 := g i
  rw [List.getD_eq_getElem?_getD, hi] at h2
  simp only [Option.getD_some] at h2
  unfold belowS
  have : x >>> N.toNat = 0 := by
    rw [Nat.shiftRight_eq_div_pow, show N.toNat = xs.length by omega]
    exact Nat.div_eq_of_lt h2
  rw [decide_eq_true this]; simp
theorem all64_of {xs : List Nat} {n : Nat} (hn : n ≤ 64) (g : GLt xs n) : All64 xs := fun x hx => by
  obtain ⟨i, hi⟩ := List.getElem?_of_mem hx
  have h2 := g i
  rw [List.getD_eq_getElem?_getD, hi] at h2
  exact Nat.lt_of_lt_of_le h2 (Nat.pow_le_pow_right (by decide) hn)
theorem from_of {c : CircD} {n : Nat} {A : List Nat} (hq : c.qubits = n) (hck : (checkC c).2 = 0) (hr : fromK c.ops (eyeS c.qubits) = some A) : FromOk c n A := by
  obtain ⟨hrb, _, hf⟩ := checkC_ok hck
  have h64 := rangeBad_no hrb
  have hn : n = c.qubits.toNat := by omega
  have htwo : ∀ o ∈ c.ops, OpTwo n o := fun o ho => by
    rw [hn]; exact op_two (hf o ho) (fromK_good _ _ _ hr o ho)
  obtain ⟨g, hl⟩ := fromK_glt _ _ _ htwo (by rw [eyeS_length, hn]) (glt_eye hn) hr
  have ge : GLt (eyeS c.qubits) n := glt_eye hn
  have g2 := fromK_glt (m := n) _ _ _ htwo (by rw [eyeS_length, hn]) ge hr
  refine ⟨hq, by omega, hck, ?_, hr, htwo, g2.2, g2.1, checkS_ofM (by omega) (by omega) (by rw [g2.2]) (by rw [g2.2]; exact g2.1), all64_of (by omega) g2.1⟩
  unfold fromC
  rw [if_neg (by omega), hr]
theorem from_ok {c : CircD} (h : (fromC c).2.2 = 0) : ∃ n A, FromOk c n A := by
  unfold fromC at h
  split at h
  · rename_i h1; exact absurd h h1
  · rename_i h1
    split at h
    · cases h
    · rename_i R hR
      have hck : (checkC c).2 = 0 := by omega
      have h64 := rangeBad_no (checkC_ok hck).1
      exact ⟨c.qubits.toNat, R, from_of (by omega) hck hR⟩
/-- two circuits one after the other -/
theorem from_then {c d : CircD} {n m : Nat} {A B : List Nat} (hc : FromOk c n A) (hd : FromOk d m B) (ht : (thenC c d).2 = 0) : m = n ∧ FromOk ⟨c.qubits, c.bits, c.ops ++ d.ops⟩ n (mulS B A n) ∧ (thenC c d).1 = ⟨c.qubits, c.bits, c.ops ++ d.ops⟩ ∧ mulR m n B A = ((n : Int), mulS B A n, 0) := by
  obtain ⟨h1, h2, h3, h4⟩ := then_ok ht
  have hmn : m = n := by have := hc.q; have := hd.q; omega
  subst hmn
  have hB : fromK d.ops (eyeS c.qubits) = some B := by rw [h3]; exact hd.run
  have hmul := fromK_mul (N := c.qubits) (n := m) (by have := hc.q; omega) hd.two hB (R := A) hc.len
  refine ⟨rfl, from_of hc.q h1 ?_, h2, ?_⟩
  · show fromK (c.ops ++ d.ops) (eyeS c.qubits) = _
    rw [fromK_app, hc.run]
    exact hmul.1
  · unfold mulR
    rw [if_pos ⟨hd.ckA, hc.ckA, rfl⟩, hd.len]
/-- the circuit that takes back -/
theorem from_back {c : CircD} {n : Nat} {A : List Nat} (hc : FromOk c n A) : ∃ P, (inverseC c).2 = 0 ∧ FromOk (inverseC c).1 n P ∧ invR n A = ((n : Int), P, 0) := by
  have hg := fromK_good _ _ _ hc.run
  have hgate : c.ops.all gateO = true := List.all_eq_true.2 fun o ho => by
    have := hg o ho
    simp only [opBad, Bool.or_eq_false_iff, Bool.not_eq_false'] at this
    simpa [gateO] using this.1.1
  have hmap : c.ops.reverse.map invO = c.ops.reverse := by
    conv => rhs; rw [← List.map_id c.ops.reverse]
    exact List.map_congr_left fun o ho => inv_same (hg o (List.mem_reverse.1 ho))
  have hv := inverse_val hc.ck hgate
  have hbv := (back_valid hc.ck hgate).1
  rw [hmap] at hv hbv
  have hn : n = c.qubits.toNat := by have := hc.q; omega
  have hrev := fromK_rev (n := n) c.ops _ _ hc.two (by rw [eyeS_length, hn]) hc.run
  obtain ⟨P, hP⟩ := fromK_all c.ops.reverse (eyeS c.qubits) fun o ho => hg o (List.mem_reverse.1 ho)
  have hF : FromOk ⟨c.qubits, c.bits, c.ops.reverse⟩ n P := from_of hc.q hbv hP
  have hmul := (fromK_mul (N := c.qubits) hn hF.two hP (R := A) hc.len).1
  rw [show (CircD.mk c.qubits c.bits c.ops.reverse).ops = c.ops.reverse from rfl, hrev] at hmul
  refine ⟨P, by rw [hv], by rw [hv]; exact hF, ?_⟩
  have hnl := hc.len
  refine inv_is hc.ckA (by omega) (by rw [hc.len]; exact hc.glt) (hF.len.trans hc.len.symm) (by rw [hc.len]; exact hF.glt) ?_
  rw [hc.len, ← Option.some.inj hmul, hc.q]
/-- the circuit of a matrix, put onto a basis state -/
theorem synth_facts {M : Int} {xs : List Nat} (hx : All64 xs) (h : (synR M xs).2.1 = 0) : ∃ (n : Nat) (L : List (Nat × Nat)), M = n ∧ n ≤ 64 ∧ synR M xs = ((n : Int), 0, L) ∧ (checkC ⟨n, 0, L.map cxOp⟩).2 = 0 ∧ (allC ⟨n, 0, L.map cxOp⟩ cleanO).1 = true ∧ (∀ p ∈ L, p.1 < n ∧ p.2 < n ∧ p.1 ≠ p.2) ∧ checkS n xs = 0 ∧ (∀ x, x < 2 ^ n → applyS n xs x = L.foldl (fun z p => flipS p z) x) := by
  have hfrom := ((synR_ok hx).2 h).1
  unfold synR at h hfrom ⊢
  split at h
  · rename_i hck
    rw [if_pos hck] at hfrom ⊢
    cases hr : redK xs xs.length with
    | none => rw [hr] at h; simp at h
    | some st =>
      rw [hr] at hfrom
      simp only at hfrom ⊢
      obtain ⟨N0, N1, lx, _⟩ := checkS_zero hck
      obtain ⟨nx, gx⟩ := glt_of hck hx
      obtain ⟨n, A, hF⟩ := from_ok (c := ⟨M, 0, st.2.reverse.map cxOp⟩) (by rw [hfrom])
      have hMn : M = n := hF.q
      subst hMn
      have hnl : n = xs.length := by omega
      have hok : StOk xs.length st.2 := redK_ok xs xs.length st (Nat.le_refl _) hr
      have hne : StNe st.2 := redK_ne xs xs.length st hr
      have hxs : A = xs := by
        have := hF.val
        rw [hfrom] at this
        simp only [Prod.mk.injEq] at this
        exact this.2.1.symm
      subst hxs
      have hrun := hF.run
      rw [show (CircD.mk (n : Int) 0 (st.2.reverse.map cxOp)).ops = st.2.reverse.map cxOp from rfl, show (CircD.mk (n : Int) 0 (st.2.reverse.map cxOp)).qubits = (n : Int) from rfl, fromK_cx] at hrun
      have hL : StOk n st.2.reverse := fun p hp => by rw [hnl]; exact hok p (List.mem_reverse.1 hp)
      refine ⟨n, st.2.reverse, rfl, hF.n64, rfl, hF.ck, ?_, ?_, hck, ?_⟩
      · unfold allC
        rw [if_pos hF.ck]
        simp only [List.all_eq_true, List.mem_map]
        rintro o ⟨p, _, rfl⟩
        simp [cleanO, cxOp]
      · intro p hp
        exact ⟨(hL p hp).1, (hL p hp).2, hne p (List.mem_reverse.1 hp)⟩
      · intro x hxl
        have hE := Option.some.inj hrun
        conv => lhs; rw [← hE]
        rw [apply_steps _ _ (by rw [eyeS_length]; omega) hL, apply_eye (by omega) hF.n64 hxl]
  · rename_i hck
    simp at h
theorem linFromG {c : CircD} (hw : CircW c) : Fn Try.prog 11 [circT c] (fun t => t = .tup [linT (fromC c).1 (fromC c).2.1, giT (fromC c).2.2]) :=
  Fn_ans (f := 11) (args := [circT c]) (r := fromC c) (fromC_len c) fun F0 h vs h1 h2 => by
    obtain ⟨A, rfl, a⟩ := one_arg h2
    exact From_spec (circ_inv h1 hw a)
theorem linSynthF {N : Int} {xs : List Nat} (hx : All64 xs) : Fn Try.prog 17 [linT N xs] (fun t => t = .tup [circT ⟨(synR N xs).1, 0, (synR N xs).2.2.map cxOp⟩, intT (synR N xs).2.1]) :=
  FnO.frz (linSynthN hx (synR_ok hx).1) fun r B h => ⟨_, h.2.2, rfl⟩
end Go.Ideal

-- Al
set_option linter.unusedSimpArgs false
set_option linter.unusedVariables false
namespace Go.Ideal
open Go Go.Proofs
instance : CallIs Try.prog 10 := .of Try.func10 rfl rfl
end Go.Ideal

-- Gea
set_option linter.unusedSimpArgs false
set_option linter.unusedVariables false
namespace Go.Ideal
open Go Go.Proofs Go.RowKit
/-! ### A matrix among the arguments -/
set_option maxRecDepth 100000 in
theorem rows_of {h : IHp} {n : Nat} {v : Value} (hd : IRd Try.prog h (n + 2) 25 [v]) : ∃ xs : List Nat, Rep h.cell? (.sl 1 (linRows xs)) v ∧ All64 xs :=
  slice_tree (n := n + 1) (fun x => [guT x]) (fun x => x < 2 ^ 64) (UnderIs.eq : Try.prog.underlying 25 = _) (by kernel_rfl) (fun row hr => by
    rw [IRd, (UnderIs.eq : Try.prog.underlying 28 = _)] at hr
    obtain ⟨z, rfl, g⟩ := hr
    obtain ⟨x, rfl, hx⟩ := wf_u64 g
    exact ⟨x, RepL.cons (rep_v _) RepL.nil, hx⟩) hd
set_option maxRecDepth 100000 in
theorem lin_of {h : IHp} {n : Nat} {cs : List Value} (hd : IRd Try.prog h (n + 3) 27 cs) : ∃ N xs, RepL h.cell? (linCs N xs) cs ∧ All64 xs := by
  have hu : ∃ f0 f1, Try.prog.underlying 27 = some (.struct #[f0, f1]) ∧ f0.type = 3 ∧ f0.offset = 0 ∧ f1.type = 25 ∧ f1.offset = 1 := ⟨_, _, Try.underlying27, rfl, rfl, rfl, rfl⟩
  obtain ⟨f0, f1, hu, t0, o0, t1, o1⟩ := hu
  have c0 : Try.prog.cellsOf 3 = 1 := by kernel_rfl
  have c1 : Try.prog.cellsOf 25 = 1 := by kernel_rfl
  have c2 : Try.prog.cellsOf 27 = 2 := by kernel_rfl
  rw [IRd, hu] at hd
  obtain ⟨hl, hf⟩ := hd
  rw [c2] at hl
  match cs, hl with
  | [v0, v1], _ =>
    have h0 := hf 0 f0 rfl
    have h1 := hf 1 f1 rfl
    rw [t0, o0, c0] at h0
    rw [t1, o1, c1] at h1
    simp only [List.drop_zero, List.take_succ_cons, List.take_zero, List.drop_succ_cons] at h0 h1
    rw [IRd, (UnderIs.eq : Try.prog.underlying 3 = _)] at h0
    obtain ⟨N, h2, _⟩ := h0
    cases h2
    obtain ⟨xs, r, w⟩ := rows_of h1
    exact ⟨N, xs, RepL.cons (rep_v _) (RepL.cons r RepL.nil), w⟩
end Go.Ideal

-- Mj
set_option linter.unusedSimpArgs false
set_option linter.unusedVariables false
namespace Go.Ideal
open Go Go.Proofs Go.RowKit
/-! ### The law LinearCircuits -/
theorem alive20_1M (old : Nat → Nat → Option Value) (o1 : IObj) : (icall Try.prog 400 (.fn 10) #[] ⟨old, [o1]⟩).map (fun r => (veq r.1 (.bool true), r.2.old, r.2.new.take 1)) = some (true, old, [o1]) := by kernel_rfl
theorem alive20M {h : IHp} {o1 : IObj} (hn : h.new = [o1]) : EvX Try.prog 10 [].toArray h (fun v h' => v = .bool true ∧ Ext h h') := by
  obtain ⟨old, new⟩ := h
  simp only at hn
  subst hn
  exact EvX_ran (alive20_1M old o1)
theorem push1_newM {h : IHp} (hn : h.new = []) (o : IObj) : (h.push o).new = [o] := by simp [IHp.push, hn]
theorem V_slotM {P : Program} {E : Env} {c : Code} {Q : IExit → SK} {s : Nat → Value} {h : IHp} (i : Nat) {v : Value} [g : Get s i v] (k : ∀ s', Get s' i v → V P E c Q s' h) : V P E c Q s h := k s g
theorem Pu.rgNe {σ : Nat → Tr} {B : Boxes} {yt : TypeId} {x y : Operand} {r s : RgD} (h : RgS r) (h2 : RgS s) [e1 : TEval σ x (rgT r)] [e2 : TEval σ y (rgT s)] : Pu Try.prog σ B (.binOp .neq 52 x y yt) (.v (.bool (!decide (r = s)))) := by
  have he : ringEq r s = decide (r = s) := by
    obtain ⟨a1, a2, a3, a4⟩ := r
    obtain ⟨b1, b2, b3, b4⟩ := s
    rw [Bool.eq_iff_iff]
    simp [ringEq, and_assoc]
  rw [← he]
  refine Pu.eqG [cxV r.a r.b, cxV r.c r.d] [cxV s.a s.b, cxV s.c s.d] (e1 := e1) (e2 := e2) (.inr ⟨rfl, rfl⟩) rfl rfl Try.underlying52 (by kernel_rfl) (by kernel_rfl) rfl rfl ?_
  refine .cons (by decide) (part_leaf Try.underlying50 (fun _ h => by cases h) (fun _ _ h => by cases h) rfl) (part_leaf Try.underlying50 (fun _ h => by cases h) (fun _ _ h => by cases h) rfl) (eqIn_complex Try.underlying50 h.a h.b h2.a h2.b) ?_
  refine .cons (by decide) (part_leaf Try.underlying50 (fun _ h => by cases h) (fun _ _ h => by cases h) rfl) (part_leaf Try.underlying50 (fun _ h => by cases h) (fun _ _ h => by cases h) rfl) (eqIn_complex Try.underlying50 h.c h.d h2.c h2.d) ?_
  exact .nil
theorem oneR_trM : rgT oneR = .agg [.v (.complex .f64 4607182418800017408 0), .v (.complex .f64 0 0)] := by simp only [rgT, rgCs, cxT, flb0, flb1]
@[reducible] def twoCs (c d : CircD) (M : Int) (xs : List Nat) (x : Nat) : List Tr := [intT c.qubits, intT c.bits, .sl 7 (opRows c.ops), intT d.qubits, intT d.bits, .sl 7 (opRows d.ops), giT M, .sl 1 (linRows xs), guT x]
theorem basis_ds {N x : Nat} (hN : N ≤ 10) : DsOk N (0 : Nat) (basisL (2 ^ N) x) := by
  refine ⟨hN, basisL_len _ _, by omega, by omega, fun r hr => ?_, fun h => absurd h (by simp)⟩
  unfold basisL at hr
  rcases List.mem_or_eq_of_mem_set hr with h1 | rfl
  · rw [List.eq_of_mem_replicate h1]; exact inferInstance
  · exact inferInstance
set_option synthInstance.maxSize 4000 in
set_option synthInstance.maxHeartbeats 400000 in
set_option maxHeartbeats 8000000 in
theorem linearCircuits {c d : CircD} {M : Int} {xs : List Nat} {x : Nat} {cs : List Value} {h : IHp} (hnew : h.new = []) (wc : CircW c) (wd : CircW d) (hx : All64 xs) (x64 : x < 2 ^ 64) (hr : RepL h.cell? (twoCs c d M xs x) cs) :
    EvX Try.prog 3 [.agg cs.toArray].toArray h (fun v h' => v = .bool true) := by
  have hcs : ∃ (a1 a2 a3 : Option Addr) (l1 c1 l2 c2 l3 c3 : Nat), cs = [.int .i64 c.qubits, .int .i64 c.bits, .slice a1 l1 c1, .int .i64 d.qubits, .int .i64 d.bits, .slice a2 l2 c2, .int .i64 M, .slice a3 l3 c3, .int .u64 (x : Int)] := by
    have h2 := hr
    simp only [twoCs, RepL, Rep] at h2
    obtain ⟨_, _, rfl, rfl, _, _, rfl, rfl, _, _, rfl, ⟨a1, l1, c1, rfl, _⟩, _, _, rfl, rfl, _, _, rfl, rfl, _, _, rfl, ⟨a2, l2, c2, rfl, _⟩, _, _, rfl, rfl, _, _, rfl, ⟨a3, l3, c3, rfl, _⟩, _, _, rfl, rfl, rfl⟩ := h2
    exact ⟨a1, a2, a3, l1, c1, l2, c2, l3, c3, rfl⟩
  obtain ⟨a1, a2, a3, l1, c1, l2, c2, l3, c3, rfl⟩ := hcs
  refine EvX_of Try.func3 rfl (by show 1 ≤ 207; decide) ?_
  repeat' (first | refine V_seq ?_ | refine V_region ?_ | refine WS_nil ?_ | refine S_normal ?_ | refine WS_assign ?_ | refine WS_box_agg rfl ?_)
  refine WS_call (alive20M (push1_newM hnew _)) ?_
  rintro _ H ⟨rfl, eX⟩
  have oA : ObjIs H h.fresh [.int .i64 c.qubits, .int .i64 c.bits, .slice a1 l1 c1, .int .i64 d.qubits, .int .i64 d.bits, .slice a2 l2 c2, .int .i64 M, .slice a3 l3 c3, .int .u64 (x : Int)] 30 true := inferInstance
  have e0 : Ext h H := (Ext.push h _).trans eX
  repeat' (first | refine WS_not ?_ | refine WS_nil ?_ | refine S_normal ?_ | refine V_seq ?_ | refine V_skip ?_ | refine C_normal ?_ | (refine V_cond ?_ ?_ <;> intro hc <;> try (cases hc; done)))
  refine V_slotM 1 ?_
  intro s g1
  apply V_of_TV (X := ⟨h, h.cell?, []⟩) (F := h.cell?) (σ := fun i => .v (s i)) (B := [(h.fresh, .cells (twoCs c d M xs x) 30 true)])
  case r => exact TR.enter e0 (Nat.le_refl _) oA hr
  case l => repeat' (first | exact LiftQ.ret (Φ := fun r => r = .v (.bool true)) (fun F r v h' hr hp => by subst hp; simpa [Rep] using hr) | apply LiftQ.seq)
  have t1 : TGet (fun i => Tr.v (s i)) 1 (.v (.pointer (some (ad h.fresh 0)))) := tget_v g1.eq
  generalize (fun i => Tr.v (s i)) = σ at t1
  generalize h.fresh = pw at t1 ⊢
  clear g1 oA eX hr
  repeat (first | refine StepC.go ?_ | intro _ | refine TD_take rfl rfl ?_ | refine TD_load rfl rfl ?_ | refine TD_one rfl ?_ | refine FiltT_nil ?_ | refine FiltT_drop rfl ?_ | refine FiltT_keep rfl ?_ | refine TD_virt rfl rfl rfl (fun _ => ?_) | refine TV_draw (id := 3) (plan := [.take 0, .take 1, .take 2, .take 3, .take 4, .take 5, .take 6, .take 7, .virt 8, .virt 9, .one 10, .one 11, .one 12, .one 13, .take 14]) (by kernel_rfl) ?_)
  rename_i pc pd pm
  refine TS_call (linFromG wc) ?_
  rintro _ rfl
  repeat (first | refine StepC.go ?_ | intro _)
  rename_i pa
  refine TS_call (linFromG wd) ?_
  rintro _ rfl
  repeat (first | refine StepC.go ?_ | intro _)
  rename_i pb
  refine TS_call (circThenT wc wd) ?_
  rintro _ rfl
  obtain ⟨e1, he1⟩ : ∃ e, (fromC c).2.2 = e := ⟨_, rfl⟩
  obtain ⟨e2, he2⟩ : ∃ e, (fromC d).2.2 = e := ⟨_, rfl⟩
  obtain ⟨e3, he3⟩ : ∃ e, (thenC c d).2 = e := ⟨_, rfl⟩
  rw [he1, he2, he3]
  refine TS_cut (fun σ B => ∃ pt, TGet σ 3 (.v (.pointer (some (ad pc 0)))) ∧ TGet σ 5 (.v (.pointer (some (ad pm 0)))) ∧ TGet σ 6 (guT x) ∧ TGet σ 7 (.v (.pointer (some (ad pa 0)))) ∧ TGet σ 8 (intT e1) ∧ TGet σ 9 (.v (.pointer (some (ad pb 0)))) ∧ TGet σ 10 (intT e2) ∧ TGet σ 11 (.v (.pointer (some (ad pt 0)))) ∧ TGet σ 12 (intT e3) ∧
      SubP B [(pc, .cells (circCs c) 24 true), (pm, .cells (linCs M xs) 27 true), (pa, .cells (linCs (fromC c).1 (fromC c).2.1) 27 true), (pb, .cells (linCs (fromC d).1 (fromC d).2.1) 27 true), (pt, .cells (circCs (thenC c d).1) 24 true)]) ?_ ?_
  · repeat (first | refine StepC.go ?_ | intro _)
    rename_i pt
    exact ⟨pt, inferInstance, inferInstance, inferInstance, inferInstance, inferInstance, inferInstance, inferInstance, inferInstance, inferInstance, inferInstance⟩
  rintro σ B ⟨pt, g3, g5, g6, g7, g8, g9, g10, g11, g12, hB⟩
  refine TV_keep _ (p := hB) ?_
  clear hB t1 e0
  repeat (refine StepC.go ?_)
  refine TS_cut (fun σ B => TGet σ 68 (boolT (decide (e1 = 0 ∧ e2 = 0 ∧ e3 = 0))) ∧ TGet σ 3 (.v (.pointer (some (ad pc 0)))) ∧ TGet σ 5 (.v (.pointer (some (ad pm 0)))) ∧ TGet σ 6 (guT x) ∧ TGet σ 7 (.v (.pointer (some (ad pa 0)))) ∧ TGet σ 8 (intT e1) ∧ TGet σ 9 (.v (.pointer (some (ad pb 0)))) ∧ TGet σ 11 (.v (.pointer (some (ad pt 0)))) ∧
      SubP B [(pc, .cells (circCs c) 24 true), (pm, .cells (linCs M xs) 27 true), (pa, .cells (linCs (fromC c).1 (fromC c).2.1) 27 true), (pb, .cells (linCs (fromC d).1 (fromC d).2.1) 27 true), (pt, .cells (circCs (thenC c d).1) 24 true)]) ?_ ?_
  · clear he1 he2 he3
    by_cases h1 : e1 = 0
    · subst h1
      by_cases h2 : e2 = 0
      · subst h2
        by_cases h3 : e3 = 0
        · subst h3
          repeat (first | refine StepC.go ?_ | (refine TS_on rfl ?_ ?_; · first | rfl | assumption))
          exact ⟨tget_as (by simp []), inferInstance, inferInstance, inferInstance, inferInstance, inferInstance, inferInstance, inferInstance, inferInstance⟩
        · have d3 : decide (e3 = 0) = false := by simp [h3]
          repeat (first | refine StepC.go ?_ | (refine TS_on rfl ?_ ?_; · first | rfl | assumption))
          exact ⟨tget_as (by simp [h3]), inferInstance, inferInstance, inferInstance, inferInstance, inferInstance, inferInstance, inferInstance, inferInstance⟩
      · have d2 : decide (e2 = 0) = false := by simp [h2]
        have k2 : (if decide ((0 : Int) = 0) = true then decide (e2 = 0) else false) = false := d2
        repeat (first | refine StepC.go ?_ | (refine TS_on rfl ?_ ?_; · first | rfl | assumption) | (refine TS_off rfl ?_ ?_; · first | rfl | assumption) | (refine TS_puw (Pu.pick_f ?_) ?_; · first | rfl | assumption))
        exact ⟨tget_as (by simp [h2]), inferInstance, inferInstance, inferInstance, inferInstance, inferInstance, inferInstance, inferInstance, inferInstance⟩
    · have d1 : decide (e1 = 0) = false := by simp [h1]
      repeat (first | refine StepC.go ?_ | (refine TS_off rfl ?_ ?_; · first | rfl | assumption) | (refine TS_puw (Pu.pick_f ?_) ?_; · first | rfl | assumption))
      exact ⟨tget_as (by simp [h1]), inferInstance, inferInstance, inferInstance, inferInstance, inferInstance, inferInstance, inferInstance, inferInstance⟩
  rintro σ B ⟨g68, g3, g5, g6, g7, g8, g9, g11, hB⟩
  refine TV_keep _ (p := hB) ?_
  clear hB
  refine TV_cutN (fun σ B => TGet σ 3 (.v (.pointer (some (ad pc 0)))) ∧ TGet σ 5 (.v (.pointer (some (ad pm 0)))) ∧ TGet σ 6 (guT x) ∧ TGet σ 7 (.v (.pointer (some (ad pa 0)))) ∧ TGet σ 8 (intT e1) ∧
      SubP B [(pc, .cells (circCs c) 24 true), (pm, .cells (linCs M xs) 27 true), (pa, .cells (linCs (fromC c).1 (fromC c).2.1) 27 true)]) ?_ ?_
  · refine TV_cond ?_ ?_ <;> intro hc
    · obtain ⟨h1, h2, h3⟩ := of_decide_eq_true hc
      rw [h1] at he1
      rw [h2] at he2
      rw [h3] at he3
      obtain ⟨n, A, hA⟩ := from_ok he1
      obtain ⟨m, Bm, hBm⟩ := from_ok he2
      obtain ⟨hmn, hF, hth, hmu⟩ := from_then hA hBm he3
      subst hmn
      have v1 : fromC c = ((m : Int), A, 0) := by rw [hA.val, hA.q]
      have v2 : fromC d = ((m : Int), Bm, 0) := by rw [hBm.val, hBm.q]
      have v3 : fromC ⟨c.qubits, c.bits, c.ops ++ d.ops⟩ = ((m : Int), mulS Bm A m, 0) := by rw [hF.val]; exact congrArg (fun z => (z, mulS Bm A m, (0 : Int))) hF.q
      have l3 := hF.len
      have l64 := hF.n64
      rw [hth, v1, v2]
      have wb : CircW ⟨c.qubits, c.bits, c.ops ++ d.ops⟩ := fun o ho => (List.mem_append.1 ho).elim (wc o) (wd o)
      repeat (refine StepC.go ?_)
      refine TS_call (linFromG wb) ?_
      rintro _ rfl
      rw [v3]
      repeat (first | refine StepC.go ?_ | intro _)
      rename_i pg
      refine TS_call (linMulT hBm.a64 hA.a64) ?_
      rintro _ rfl
      rw [hmu]
      repeat (first | refine StepC.go ?_ | intro _ | (refine TS_on rfl ?_ ?_; · first | rfl | assumption))
      rename_i pw2
      refine TS_callE (linSameT hF.a64 (by omega)) ?_
      repeat (first | refine StepC.go ?_ | (refine TS_on rfl ?_ ?_; · first | rfl | assumption) | (refine TV_cond_f ?_ ?_; · first | rfl | assumption))
      exact ⟨inferInstance, inferInstance, inferInstance, inferInstance, inferInstance, inferInstance⟩
    · repeat (refine StepC.go ?_)
      exact ⟨inferInstance, inferInstance, inferInstance, inferInstance, inferInstance, inferInstance⟩
  rintro σ B ⟨g3, g5, g6, g7, g8, hB⟩
  refine TV_keep _ (p := hB) ?_
  clear hB
  repeat (refine StepC.go ?_)
  refine TV_cutN (fun σ B => TGet σ 5 (.v (.pointer (some (ad pm 0)))) ∧ TGet σ 6 (guT x) ∧ SubP B [(pm, .cells (linCs M xs) 27 true)]) ?_ ?_
  · refine TV_cond ?_ ?_ <;> intro hc
    · have h1 := of_decide_eq_true hc
      rw [h1] at he1
      obtain ⟨n, A, hA⟩ := from_ok he1
      obtain ⟨P, hi1, hP, hinv⟩ := from_back hA
      have v1 : fromC c = ((n : Int), A, 0) := by rw [hA.val, hA.q]
      have v2 : fromC (inverseC c).1 = ((n : Int), P, 0) := by rw [hP.val, hP.q]
      have l2 := hP.len
      have l64 := hP.n64
      have wi : CircW (inverseC c).1 := by
        rw [(inverse_ok hi1).2.2]
        intro o ho
        obtain ⟨z, hz, rfl⟩ := mem_rinv ho
        exact wc z hz
      rw [v1]
      repeat (refine StepC.go ?_)
      refine TS_call (circInverseT wc) ?_
      rintro _ rfl
      rw [hi1]
      repeat (first | refine StepC.go ?_ | intro _)
      rename_i pk
      refine TS_call (linFromG wi) ?_
      rintro _ rfl
      rw [v2]
      repeat (first | refine StepC.go ?_ | intro _)
      rename_i pg
      refine TS_call (linInverseT hA.a64) ?_
      rintro _ rfl
      rw [hinv]
      repeat (first | refine StepC.go ?_ | intro _ | (refine TS_on rfl ?_ ?_; · first | rfl | assumption))
      rename_i pw2
      refine TS_callE (linSameT hP.a64 (by omega)) ?_
      repeat (first | refine StepC.go ?_ | (refine TS_on rfl ?_ ?_; · first | rfl | assumption) | (refine TV_cond_f ?_ ?_; · first | rfl | assumption))
      exact ⟨inferInstance, inferInstance, inferInstance⟩
    · repeat (refine StepC.go ?_)
      exact ⟨inferInstance, inferInstance, inferInstance⟩
  clear he1 he2 he3 g3 g5 g6 g7 g8 wc wd
  rintro σ B ⟨g5, g6, hB⟩
  refine TV_keep _ (p := hB) ?_
  clear hB
  repeat (refine StepC.go ?_)
  refine TS_call (linSynthF hx) ?_
  rintro _ rfl
  by_cases hs : (synR M xs).2.1 = 0
  case neg =>
    have k1 : (!decide ((synR M xs).2.1 = 0)) = true := by simp [hs]
    repeat (first | refine StepC.go ?_ | intro _ | (refine TS_off rfl ?_ ?_; · first | rfl | assumption) | (refine TS_puw (Pu.pick_t ?_) ?_; · first | rfl | assumption) | (refine TV_cond_t ?_ ?_; · first | rfl | assumption))
    exact retT_1 (.inr rfl) rfl
  obtain ⟨n, L, rfl, n64, hS, hck, hcl, hL, hcx, happ⟩ := synth_facts hx hs
  rw [hS]
  have hlx : Lt64 x := ⟨x64⟩
  by_cases hn10 : n ≤ 10
  case neg =>
    have k1 : decide (10 < (n : Int)) = true := by simp; omega
    repeat (first | refine StepC.go ?_ | intro _ | (refine TS_on rfl ?_ ?_; · first | rfl | assumption) | (refine TS_off rfl ?_ ?_; · first | rfl | assumption) | (refine TS_puw (Pu.pick_t ?_) ?_; · first | rfl | assumption) | (refine TV_cond_t ?_ ?_; · first | rfl | assumption))
    exact retT_1 (.inr rfl) rfl
  have k1 : decide (10 < (n : Int)) = false := by simp; omega
  repeat (first | refine StepC.go ?_ | intro _ | (refine TS_on rfl ?_ ?_; · first | rfl | assumption))
  refine TV_cond ?_ ?_ <;> intro hcc
  · repeat (refine StepC.go ?_)
    exact retT_1 (.inr rfl) rfl
  have hxn : x >>> n = 0 := by
    rw [k1] at hcc
    simp only [Bool.false_eq_true, if_false, Bool.not_eq_false', decide_eq_true_eq] at hcc
    exact Int.natCast_eq_zero.1 hcc
  have hxl : x < 2 ^ n := by
    rw [Nat.shiftRight_eq_div_pow] at hxn
    rcases Nat.lt_or_ge x (2 ^ n) with h1 | h1
    · exact h1
    · have := Nat.div_pos h1 (Nat.two_pow_pos n); omega
  repeat (refine StepC.go ?_)
  refine TS_call (basisT hn10 hxl) ?_
  rintro _ rfl
  repeat (first | refine StepC.go ?_ | intro _)
  rename_i pba
  refine TS_call (dRunT (basis_ds hn10) (cx_w L n) hck hcl rfl (fun o ho => by obtain ⟨p, _, rfl⟩ := List.mem_map.1 ho; rfl) (cx_run hn10 L x hL hxl)) ?_
  rintro _ rfl
  repeat (first | refine StepC.go ?_ | intro _)
  rename_i pen
  refine TS_call (linApplyT hx x64) ?_
  rintro _ rfl
  have hap : applyR n xs x = (L.foldl (fun z p => flipS p z) x, 0) := by
    unfold applyR
    rw [if_pos ⟨hcx, by unfold belowS; rw [Int.toNat_natCast, decide_eq_true hxn]; simp⟩, Int.toNat_natCast, happ x hxl]
  rw [hap]
  have hyl : L.foldl (fun z p => flipS p z) x < 2 ^ n := by
    rw [← happ x hxl]; exact apply_lt
  have hsh := shl_pow hn10
  have hLb : (rgRows (basisL (2 ^ n) (L.foldl (fun z p => flipS p z) x))).length = 2 ^ n := by rw [rgRows_len, basisL_len]
  generalize L.foldl (fun z p => flipS p z) x = y at *
  dsimp only
  repeat (first | refine StepC.go ?_ | refine TD_take rfl rfl ?_ | refine TD_take_on rfl rfl (by first | rfl | assumption) rfl ?_ | refine TD_load_on rfl rfl (by first | rfl | assumption) rfl ?_ | refine TV_draw (id := 24) (plan := [.take 0, .take 1, .take 2, .take 3, .take 4, .take 5, .take 6, .take 7, .take 8, .take 9, .take 10, .take 11, .take 12, .take 13, .take 14, .take 15, .take 16, .take 17, .take 18, .take 19, .take 20, .take 21, .take 22, .take 23]) (by kernel_rfl) ?_)
  rw [hLb]
  refine TV_cond_f (by simp) ?_
  repeat (refine StepC.go ?_)
  obtain ⟨k, hk⟩ : ∃ k, 2 ^ n = k := ⟨_, rfl⟩
  have hk10 : k ≤ 1024 := by rw [← hk]; exact Nat.le_trans (Nat.pow_le_pow_right (by decide) hn10) (by decide)
  rw [hk] at hyl hLb hsh ⊢
  have hlb := basisL_len k y
  refine TV_loop (fun d σ B => ∃ i : Nat, d = k - i ∧ i ≤ k ∧ TGet σ 31 (intT i) ∧ TGet σ 27 (.v (.pointer (some (ad pen 0)))) ∧ TGet σ 29 (guT y) ∧
      SubP B [(pen, .cells [intT n, intT ((0 : Nat) : Int), .sl 2 (rgRows (basisL k y))] 44 true)]) k
    ⟨0, by omega, by omega, tget_as rfl, inferInstance, inferInstance, inferInstance⟩ ?_
  clear g5 g6
  rintro d σ B ⟨i, rfl, hi, g31, g27, g29, hB⟩
  refine TV_keep _ (p := hB) ?_
  clear hB
  repeat (refine StepC.go ?_)
  rw [hLb]
  refine TV_cond ?_ ?_ <;> intro hc1
  · have hik : i < k := by have := of_decide_eq_true hc1; omega
    have hi64 : Lt64 i := ⟨by omega⟩
    have hgi := basisL_at (z := y) hik
    have ng := rgRows_at hgi
    repeat (first | refine StepC.go ?_ | intro _)
    rename_i p32
    by_cases hiy : i = y
    · have k3 : decide ((i : Int) = (y : Int)) = true := by simp [hiy]
      rw [if_pos hiy] at ng
      repeat (first | refine StepC.go ?_ | refine TD_take rfl rfl ?_ | refine TD_load rfl rfl ?_ | refine TV_draw (id := 32) (plan := [.take 0, .take 1, .take 2, .take 3, .take 4, .take 5, .take 6]) (by kernel_rfl) ?_ | (refine TV_cond_t ?_ ?_; · first | rfl | assumption))
      refine TD_takew rfl rfl (Pu.rgNe (r := oneR) (s := oneR) (e2 := by rw [oneR_trM]; infer_instance) inferInstance inferInstance) ?_
      repeat (first | refine StepC.go ?_ | (refine TS_puw (Pu.addi ?_) ?_; · omega) | (refine TV_cond_f ?_ ?_; · first | rfl | assumption))
      refine ⟨_, ?_, i + 1, rfl, by omega, tget_as rfl, inferInstance, inferInstance, inferInstance⟩
      omega
    · have k3 : decide ((i : Int) = (y : Int)) = false := by simp; omega
      rw [if_neg hiy] at ng
      repeat (first | refine StepC.go ?_ | refine TD_take rfl rfl ?_ | refine TD_load rfl rfl ?_ | refine TV_draw (id := 32) (plan := [.take 0, .take 1, .take 2, .take 3, .take 4, .take 5, .take 6]) (by kernel_rfl) ?_ | (refine TV_cond_f ?_ ?_; · first | rfl | assumption))
      refine TD_takew rfl rfl (Pu.rgNe (r := zeroR) (s := zeroR) (e2 := by rw [zeroR_tr]; infer_instance) inferInstance inferInstance) ?_
      repeat (first | refine StepC.go ?_ | (refine TS_puw (Pu.addi ?_) ?_; · omega) | (refine TV_cond_f ?_ ?_; · first | rfl | assumption))
      refine ⟨_, ?_, i + 1, rfl, by omega, tget_as rfl, inferInstance, inferInstance, inferInstance⟩
      omega
  · have hik : i = k := by have := of_decide_eq_false hc1; omega
    repeat (refine StepC.go ?_)
    exact retT_1 (.inr rfl) rfl
end Go.Ideal

-- Mk
set_option linter.unusedSimpArgs false
set_option linter.unusedVariables false
namespace Go.Ideal
open Go Go.Proofs Go.RowKit
/-! ### The argument of LinearCircuits -/
structure TwoD where
  c : CircD
  d : CircD
  M : Int
  xs : List Nat
  x : Nat
theorem circ_repl {F : Mem} {c : CircD} {cs : List Value} (h : Rep F (circT c) (.agg cs.toArray)) : RepL F (circCs c) cs := by
  simp only [Rep] at h
  obtain ⟨vs, e, h⟩ := h
  cases e
  exact h
set_option maxRecDepth 100000 in
theorem two_tree {h : IHp} {n : Nat} {cs : List Value} (hd : IRd Try.prog h (n + 6) 30 cs) : ∃ g : TwoD, (CircW g.c ∧ CircW g.d ∧ All64 g.xs ∧ g.x < 2 ^ 64) ∧ RepL h.cell? (twoCs g.c g.d g.M g.xs g.x) cs := by
  have hu : ∃ f0 f1 f2 f3, Try.prog.underlying 30 = some (.struct #[f0, f1, f2, f3]) ∧ (f0.type = 24 ∧ f0.offset = 0) ∧ (f1.type = 24 ∧ f1.offset = 3) ∧ (f2.type = 27 ∧ f2.offset = 6) ∧ (f3.type = 28 ∧ f3.offset = 8) :=
    ⟨_, _, _, _, Try.underlying30, ⟨rfl, rfl⟩, ⟨rfl, rfl⟩, ⟨rfl, rfl⟩, ⟨rfl, rfl⟩⟩
  obtain ⟨f0, f1, f2, f3, hu, ⟨t0, o0⟩, ⟨t1, o1⟩, ⟨t2, o2⟩, ⟨t3, o3⟩⟩ := hu
  have c0 : Try.prog.cellsOf 24 = 3 := by kernel_rfl
  have c1 : Try.prog.cellsOf 28 = 1 := by kernel_rfl
  have c2 : Try.prog.cellsOf 30 = 9 := by kernel_rfl
  have c3 : Try.prog.cellsOf 27 = 2 := by kernel_rfl
  rw [IRd, hu] at hd
  obtain ⟨hl, hf⟩ := hd
  rw [c2] at hl
  match cs, hl with
  | [v0, v1, v2, v3, v4, v5, v6, v7, v8], _ =>
    have h0 := hf 0 f0 rfl
    have h1 := hf 1 f1 rfl
    have h2 := hf 2 f2 rfl
    have h3 := hf 3 f3 rfl
    clear hf
    rw [t0, o0, c0] at h0
    rw [t1, o1, c0] at h1
    rw [t2, o2, c3] at h2
    rw [t3, o3, c1] at h3
    simp only [List.drop_zero, List.take_succ_cons, List.take_zero, List.drop_succ_cons] at h0 h1 h2 h3
    obtain ⟨c, r0, w0⟩ := circ_tree h0
    obtain ⟨d, r1, w1⟩ := circ_tree h1
    obtain ⟨M, xs, r2, w2⟩ := lin_of h2
    rw [IRd, (UnderIs.eq : Try.prog.underlying 28 = _)] at h3
    obtain ⟨z3, e3, g3⟩ := h3
    cases e3
    obtain ⟨x, rfl, hx⟩ := wf_u64 g3
    refine ⟨⟨c, d, M, xs, x⟩, ⟨w0, w1, w2, hx⟩, ?_⟩
    have := (circ_repl r0).append ((circ_repl r1).append (r2.append (RepL.cons (rep_v (.int .u64 (x : Int))) RepL.nil)))
    exact this
theorem linearCircuitsW {h : IHp} {g : TwoD} {cs : List Value} (hnew : h.new = []) (m : (CircW g.c ∧ CircW g.d ∧ All64 g.xs ∧ g.x < 2 ^ 64) ∧ RepL h.cell? (twoCs g.c g.d g.M g.xs g.x) cs) :
    EvX Try.prog 3 #[.agg cs.toArray] h (fun v _ => v = .bool true) :=
  linearCircuits hnew m.1.1 m.1.2.1 m.1.2.2.1 m.1.2.2.2 m.2
end Go.Ideal
