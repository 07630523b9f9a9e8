/- Part 5 of what the proof stands on: an interpreter over an ideal memory that is proved sound, steps over it, and contracts of the functions that are called. No condition: no law is claimed here. -/
import Derived.Test.YtodgjkffkjhinaaC4
-- Lf
set_option linter.unusedSimpArgs false
set_option linter.unusedVariables false
namespace Go.Ideal
open Go Go.Proofs
def xorK (f : Nat → Nat) : Nat → Nat
  | 0 => 0
  | k + 1 => xorK f k ^^^ f k
theorem xorK_lt {f : Nat → Nat} (hf : ∀ j, f j < 2 ^ 64) : ∀ k, xorK f k < 2 ^ 64 := by
  intro k
  induction k with
  | zero => simp [xorK]
  | succ k ih => exact Nat.xor_lt_two_pow ih (hf k)
def mulRow (r : Nat) (ys : List Nat) (k : Nat) : Nat := xorK (fun j => if (r >>> j) &&& 1 = 1 then ys.getD j 0 else 0) k
theorem getD_lt {ys : List Nat} (h : ∀ x ∈ ys, x < 2 ^ 64) (j : Nat) : ys.getD j 0 < 2 ^ 64 := by
  rw [List.getD_eq_getElem?_getD]
  cases hj : ys[j]? with
  | none => decide
  | some x => exact h x (List.mem_of_getElem? hj)
theorem mulRow_lt {r : Nat} {ys : List Nat} (h : ∀ x ∈ ys, x < 2 ^ 64) (k : Nat) : mulRow r ys k < 2 ^ 64 := by
  refine xorK_lt (fun j => ?_) k
  split
  · exact getD_lt h j
  · decide
def mulS (xs ys : List Nat) (k : Nat) : List Nat := (xs.take k).map fun r => mulRow r ys ys.length
theorem mulS_succ {xs ys : List Nat} {k r : Nat} (hr : xs[k]? = some r) : u64s (mulS xs ys (k + 1)) = u64s (mulS xs ys k) ++ [.int .u64 (mulRow r ys ys.length : Nat)] := by
  simp [u64s, mulS, List.take_add_one, hr]
theorem mulS_len {xs ys : List Nat} {k : Nat} (h : k ≤ xs.length) : (u64s (mulS xs ys k)).length = k := by simp [u64s, mulS]; omega
theorem Mul_spec (M N : Int) (a b : Option Addr) (la ca lb cb : Nat) (xs ys : List Nat) (h : IHp) (hx : SlIs h a la ca (u64s xs)) (hy : SlIs h b lb cb (u64s ys)) (hx64 : ∀ x ∈ xs, x < 2 ^ 64) (hy64 : ∀ x ∈ ys, x < 2 ^ 64) :
    EvX Try.prog 19 [.agg [.int .i64 M, .slice a la ca].toArray, .agg [.int .i64 N, .slice b lb cb].toArray].toArray h (fun v h' => Ext h h' ∧ if checkS M xs = 0 ∧ checkS N ys = 0 ∧ M = N then ∃ sl, v = .tuple [.agg [.int .i64 M, sl].toArray, .int .i64 0].toArray ∧ Lst h.fresh h' sl (u64s (mulS xs ys xs.length)) 27 else v = .tuple [.agg [.int .i64 0, .slice none 0 0].toArray, .int .i64 2].toArray) := by
  have hlx : xs.length = la := by have := hx.1; simpa [u64s] using this
  have hly : ys.length = lb := by have := hy.1; simpa [u64s] using this
  refine EvX_of Try.func19 rfl (by show 2 ≤ 64; decide) ?_
  repeat' (first | refine V_seq ?_ | refine V_region ?_ | refine WS_nil ?_ | refine S_normal ?_ | refine WS_assign ?_ | refine WS_load_agg ?_ | refine WS_box_agg rfl ?_ | refine WS_alloc ?_)
  obtain ⟨H1, hH1⟩ : ∃ H, H = h.push (IObj.cells [Value.int IntKind.i64 M, Value.slice a la ca] 50 true) := ⟨_, rfl⟩
  have f1 : H1.fresh = h.fresh + 2 := by rw [hH1, push_fresh]
  have e1 : Ext h H1 := hH1 ▸ Ext.push _ _
  have p1 : ObjIs H1 h.fresh [.int .i64 M, .slice a la ca] 50 true := hH1 ▸ inferInstance
  rw [← hH1]
  obtain ⟨H2, hH2⟩ : ∃ H, H = H1.push (IObj.cells [Value.int IntKind.i64 N, Value.slice b lb cb] 50 true) := ⟨_, rfl⟩
  have f2 : H2.fresh = h.fresh + 4 := by rw [hH2, push_fresh, f1]
  have e2 : Ext H1 H2 := hH2 ▸ Ext.push _ _
  have p2 : ObjIs H2 H1.fresh [.int .i64 N, .slice b lb cb] 50 true := hH2 ▸ inferInstance
  rw [← hH2]
  obtain ⟨H3, hH3⟩ : ∃ H, H = H2.push (IObj.cells [Value.int IntKind.i64 0, Value.slice none 0 0] 50 true) := ⟨_, rfl⟩
  have f3 : H3.fresh = h.fresh + 6 := by rw [hH3, push_fresh, f2]
  have e3 : Ext H2 H3 := hH3 ▸ Ext.push _ _
  have p3 : ObjIs H3 H2.fresh [.int .i64 0, .slice none 0 0] 50 true := hH3 ▸ inferInstance
  rw [← hH3]
  have e13 : Ext h H3 := (e1.trans e2).trans e3
  have q1 : ObjIs H3 h.fresh [.int .i64 M, .slice a la ca] 50 true := inferInstance
  have q2 : ObjIs H3 H1.fresh [.int .i64 N, .slice b lb cb] 50 true := inferInstance
  refine WS_call (Check_spec M a la ca xs _ (hx.ext e13) hx64) ?_
  rintro _ H4 ⟨rfl, e4⟩
  have r1 : ObjIs H4 h.fresh [.int .i64 M, .slice a la ca] 50 true := inferInstance
  have r2 : ObjIs H4 H1.fresh [.int .i64 N, .slice b lb cb] 50 true := inferInstance
  have r3 : ObjIs H4 H2.fresh [.int .i64 0, .slice none 0 0] 50 true := inferInstance
  have e14 : Ext h H4 := e13.trans e4
  have g4 := e4.fresh
  have n02 : NeB h.fresh H2.fresh := .fresh (by omega)
  have n12 : NeB H1.fresh H2.fresh := .fresh (by omega)
  repeat' (first | refine V_seq ?_ | refine V_region ?_ | refine WS_nil ?_ | refine S_normal ?_ | refine V_ret ?_ | refine S_ret ?_ | refine WS_off rfl (by first | rfl | assumption) ?_ | refine WS_on rfl (by first | rfl | assumption) ?_ | refine WS_move ?_ | refine WS_assign ?_ | refine WS_pick_t (by first | rfl | assumption) ?_ | refine WS_cmp rfl ?_ | refine WS_load_agg ?_ | refine WS_build ?_ | refine WS_store rfl ?_ | (refine WS_guard rfl ?_ ?_ <;> intro hg) | (refine V_cond ?_ ?_ <;> intro hc <;> try (cases hc; done)))
  · have hck : checkS M xs = 0 := by simpa using hg
    refine WS_call (Check_spec N b lb cb ys _ (hy.ext e14) hy64) ?_
    rintro _ H5 ⟨rfl, e5⟩
    have s1 : ObjIs H5 h.fresh [.int .i64 M, .slice a la ca] 50 true := inferInstance
    have s2 : ObjIs H5 H1.fresh [.int .i64 N, .slice b lb cb] 50 true := inferInstance
    have s3 : ObjIs H5 H2.fresh [.int .i64 0, .slice none 0 0] 50 true := inferInstance
    have e15 : Ext h H5 := e14.trans e5
    have g5 := e5.fresh
    repeat' (first | refine V_seq ?_ | refine V_region ?_ | refine WS_nil ?_ | refine S_normal ?_ | refine V_skip ?_ | refine V_ret ?_ | refine S_ret ?_ | refine WS_off rfl (by first | rfl | assumption) ?_ | refine WS_on rfl (by first | rfl | assumption) ?_ | refine WS_move ?_ | refine WS_assign ?_ | refine WS_pick_t (by first | rfl | assumption) ?_ | refine WS_pick_f (by first | rfl | assumption) ?_ | refine WS_cmp rfl ?_ | refine WS_fieldAddr ?_ | refine WS_load ?_ | refine WS_build ?_ | refine WS_alloc ?_ | refine WS_store rfl ?_ | (refine WS_guard rfl ?_ ?_ <;> intro hg) | (refine V_cond ?_ ?_ <;> intro hc <;> try (cases hc; done)))
    · refine retK_ct ⟨e15.putObj (by omega), ?_⟩ (.inr rfl)
      rw [if_neg]
      rintro ⟨_, _, rfl⟩
      simp at hc
    · have hck2 : checkS N ys = 0 := by simp_all
      have hMN : M = N := by simpa using hc
      subst hMN
      obtain ⟨hN0, hN1, hN2, hbx⟩ := checkS_zero hck
      obtain ⟨_, _, hN3, hby⟩ := checkS_zero hck2
      obtain ⟨H6, hH6⟩ : ∃ H, H = ((H5.push (IObj.cells [Value.int IntKind.i64 0, Value.slice none 0 0] 50 true)).put H5.fresh [Value.int IntKind.i64 M, Value.slice none 0 0] 50 true) := ⟨_, rfl⟩
      have e6 : Ext H5 H6 := hH6 ▸ (Ext.push _ _).putObj (Nat.le_refl _)
      have u5 : ObjIs H6 H5.fresh [Value.int IntKind.i64 M, Value.slice none 0 0] 50 true := hH6 ▸ inferInstance
      have f6 : H6.fresh = H5.fresh + 2 := by rw [hH6, putObj_fresh, push_fresh]
      rw [← hH6]
      repeat' (first | refine WS_nil ?_ | refine S_normal ?_ | refine V_block ?_ | refine WS_move ?_ | refine WS_len_slice ?_ | refine WS_load ?_)
      have n25 : NeB H2.fresh H5.fresh := .fresh (by omega)
      have n52 : NeB H5.fresh H2.fresh := n25.symm
      have n05 : NeB h.fresh H5.fresh := .fresh (by omega)
      have n15 : NeB H1.fresh H5.fresh := .fresh (by omega)
      refine V_loop (fun d s h' => ∃ (i : Int) (sl : Value), d = (la - i).toNat ∧ 0 ≤ i ∧ i ≤ la ∧ Get s 33 (.int .i64 i) ∧ Get s 32 (.int .i64 la) ∧ Get s 31 (.slice a la ca) ∧ Get s 3 (.pointer (some (ad H1.fresh 0))) ∧ Get s 4 (.pointer (some (ad H2.fresh 0))) ∧ Get s 6 (.pointer (some (ad H5.fresh 0))) ∧ Ext H5 h' ∧ ObjIs h' H5.fresh [.int .i64 M, sl] 50 true ∧ Lst H6.fresh h' sl (u64s (mulS xs ys i.toNat)) 27) la
        ⟨0, .slice none 0 0, by omega, by omega, by omega, inferInstance, inferInstance, inferInstance, inferInstance, inferInstance, inferInstance, e6, inferInstance, .inl ⟨rfl, rfl⟩⟩ ?_
      rintro d s h' ⟨i, sl, rfl, hi0, hi1, y33, y32, y31, y3, y4, y6, eX, p5, hL⟩
      have w2 : ObjIs h' H1.fresh [.int .i64 M, .slice b lb cb] 50 true := ⟨s2.even, eX.new _ _ s2.eq⟩
      have w3 : ObjIs h' H2.fresh [.int .i64 0, .slice none 0 0] 50 true := ⟨s3.even, eX.new _ _ s3.eq⟩
      have slX : SlIs h' a la ca (u64s xs) := hx.ext (e15.trans eX)
      have slY : SlIs h' b lb cb (u64s ys) := hy.ext (e15.trans eX)
      repeat' (first | refine V_seq ?_ | refine V_region ?_ | refine WS_nil ?_ | refine S_normal ?_ | refine V_block ?_ | refine V_skip ?_ | refine V_exit ?_ | refine S_exit ?_ | refine B_exit ?_ | refine WS_cmp rfl ?_ | refine WS_load_agg ?_ | (refine V_cond ?_ ?_ <;> intro hc <;> try (cases hc; done)))
      · have hi : i < la := by simpa using hc
        obtain ⟨b1, v, rfl, hv, c2⟩ := slX.at hi0 hi
        obtain ⟨r, rfl, hr⟩ := u64s_at hv
        have hr64 := hx64 r (List.mem_of_getElem? hr)
        repeat' (first | refine V_seq ?_ | refine V_region ?_ | refine WS_nil ?_ | refine S_normal ?_ | refine V_block ?_ | refine WS_move ?_ | refine WS_assign ?_ | refine WS_len_slice ?_ | refine WS_fieldAddr ?_ | refine WS_load ?_ | refine WS_indexAddr (by first | decide | omega) ?_)
        refine V_loop (fun d s h'' => ∃ (j : Int), d = (lb - j).toNat ∧ 0 ≤ j ∧ j ≤ lb ∧ Get s 40 (.int .i64 j) ∧ Get s 39 (.int .i64 lb) ∧ Get s 8 (.int .u64 r) ∧ Get s 33 (.int .i64 i) ∧ Get s 32 (.int .i64 la) ∧ Get s 31 (.slice (some b1) la ca) ∧ Get s 3 (.pointer (some (ad H1.fresh 0))) ∧ Get s 4 (.pointer (some (ad H2.fresh 0))) ∧ Get s 6 (.pointer (some (ad H5.fresh 0))) ∧ h'' = h' ∧ Get s 9 (.int .u64 (mulRow r ys j.toNat : Nat))) lb
          ⟨0, by omega, by omega, by omega, inferInstance, inferInstance, inferInstance, inferInstance, inferInstance, inferInstance, inferInstance, inferInstance, inferInstance, rfl, inferInstanceAs (Get _ 9 (.int .u64 (0 : Int)))⟩ ?_
        rintro d s h'' ⟨j, rfl, hj0, hj1, z40, z39, z8, z33, z32, z31, z3, z4, z6, rfl, z9⟩
        repeat' (first | refine V_seq ?_ | refine V_region ?_ | refine WS_nil ?_ | refine S_normal ?_ | refine V_block ?_ | refine B_normal ?_ | refine V_skip ?_ | refine V_exit ?_ | refine S_exit ?_ | refine B_exit ?_ | refine WS_move ?_ | refine WS_assign ?_ | refine WS_cmp rfl ?_ | refine WS_addi (by omega) ?_ | refine WS_arith rfl ?_ | refine WS_fieldAddr ?_ | refine WS_load ?_ | refine WS_shift (by first | decide | omega) rfl ?_ | refine WS_buildSlice (by decide) rfl rfl (by simp [Value.cells]) ?_ | (refine V_cond ?_ ?_ <;> intro hc <;> try (cases hc; done)))
        · rename_i hcj
          have hj : j < lb := by simp at hcj; omega
          rw [shr_u64 hj0 hr64, and1_u64 (shr_lt _ hr64)] at hc
          obtain ⟨b2, w, rfl, hw, c3⟩ := slY.at hj0 hj
          obtain ⟨q, rfl, hq⟩ := u64s_at hw
          have hq64 := hy64 q (List.mem_of_getElem? hq)
          repeat' (first | refine V_region ?_ | refine WS_nil ?_ | refine S_normal ?_ | refine B_normal ?_ | refine WS_move ?_ | refine WS_assign ?_ | refine WS_addi (by omega) ?_ | refine WS_arith rfl ?_ | refine WS_load ?_ | refine WS_indexAddr (by first | decide | omega) ?_)
          rw [xor_u64 (mulRow_lt hy64 _) hq64]
          refine ⟨_, ?_, j + 1, rfl, by omega, by omega, inferInstance, inferInstance, inferInstance, inferInstance, inferInstance, inferInstance, inferInstance, inferInstance, inferInstance, rfl, ?_⟩
          · omega
          · rw [toNat_succ hj0]
            have : mulRow r ys (j.toNat + 1) = mulRow r ys j.toNat ^^^ q := by
              have h1 : r >>> j.toNat &&& 1 = 1 := Int.ofNat_inj.mp (show ((r >>> j.toNat &&& 1 : Nat) : Int) = ((1 : Nat) : Int) from of_decide_eq_true hc)
              simp only [mulRow, xorK, List.getD_eq_getElem?_getD, hq, Option.getD_some, h1, if_true]
            rw [this]; infer_instance
        · rename_i hcj
          have hj : j < lb := by simp at hcj; omega
          rw [shr_u64 hj0 hr64, and1_u64 (shr_lt _ hr64)] at hc
          refine ⟨_, ?_, j + 1, rfl, by omega, by omega, inferInstance, inferInstance, inferInstance, inferInstance, inferInstance, inferInstance, inferInstance, inferInstance, inferInstance, rfl, ?_⟩
          · omega
          · rw [toNat_succ hj0]
            have : mulRow r ys (j.toNat + 1) = mulRow r ys j.toNat := by
              have h1 : ¬ r >>> j.toNat &&& 1 = 1 := fun hh => of_decide_eq_false hc (congrArg (Nat.cast (R := Int)) hh)
              simp only [mulRow, xorK, h1, if_false, Nat.xor_zero]
            rw [this]; infer_instance
        · have hj : j = lb := by simp at hc; omega
          subst hj
          obtain ⟨a', rfl⟩ := hL.isSlice
          skip
          refine WS_append1 (lo := H6.fresh) (hL.ext (Ext.push _ _)) (by rw [push_fresh]; have := eX.fresh; have := p5.lt; omega) (by rw [mulS_len (by omega)]; omega) ?_
          intro v' h2 hL2 m2 hb
          have l5 := p5.lt
          have k5 : ObjIs h2 H5.fresh _ 50 true := m2.obj inferInstance (hL.notBlk (by omega))
          have e9 : Ext H5 h2 := m2.ext (eX.push' _) ((hL.ext (Ext.push _ _)).lower (by omega))
          rw [push_fresh] at hb
          obtain ⟨a'', rfl⟩ := hL2.isSlice
          repeat' (first | refine V_region ?_ | refine WS_nil ?_ | refine S_normal ?_ | refine B_normal ?_ | refine WS_move ?_ | refine WS_addi (by omega) ?_ | refine WS_fieldAddr ?_ | refine WS_store rfl ?_)
          refine ⟨_, ?_, i + 1, _, rfl, by omega, by omega, inferInstance, inferInstance, inferInstance, inferInstance, inferInstance, inferInstance, e9.putObj (Nat.le_refl _), inferInstance, ?_⟩
          · omega
          · rw [toNat_succ hi0, mulS_succ hr, hly]
            simp only [Int.toNat_natCast] at hL2 ⊢
            exact hL2.put (b := H5.fresh) (hL2.notBlk (by omega)) p5.even
      · have hi : i = la := by simp at hc; omega
        subst hi
        obtain ⟨a', rfl⟩ := hL.isSlice
        repeat' (first | refine WS_nil ?_ | refine S_normal ?_ | refine V_ret ?_ | refine WS_assign ?_ | refine WS_store rfl ?_)
        refine retK_ct ⟨(e15.trans eX).putObj (by omega), ?_⟩ (.inr rfl)
        rw [if_pos ⟨hck, hck2, rfl⟩]
        simp only [Int.toNat_natCast] at hL ⊢
        rw [hlx]
        exact ⟨_, rfl, (hL.put (b := H2.fresh) (hL.notBlk (by omega)) w3.even).lower (by omega)⟩
    · refine retK_ct ⟨e15.putObj (by omega), ?_⟩ (.inr rfl)
      rw [if_neg]
      rintro ⟨_, h2, _⟩
      simp_all
  · refine retK_ct ⟨e14.putObj (by omega), ?_⟩ (.inr rfl)
    rw [if_neg]
    rintro ⟨h2, _, _⟩
    simp_all
instance : CallIs Try.prog 19 := .of Try.func19 rfl rfl
end Go.Ideal

-- Lg
set_option linter.unusedSimpArgs false
set_option linter.unusedVariables false
namespace Go.Ideal
open Go Go.Proofs
/-! ### OnesCount64, as it reckons -/
instance : CallIs Try.prog 68 := .of Try.func68 rfl rfl

instance : CallIs Try.prog 42 := .of Try.func42 rfl rfl
end Go.Ideal

-- Lh
set_option linter.unusedSimpArgs false
set_option linter.unusedVariables false
namespace Go.Ideal
open Go Go.Proofs
theorem Clone_spec (a : Option Addr) (len cap : Nat) (vs : List Value) (h : IHp) (hx : SlIs h a len cap vs) (hl : len ≤ 2 ^ 30) :
    EvX Try.prog 44 [.slice a len cap].toArray h (fun v h' => Ext h h' ∧ Own h.fresh h' v vs 27) := by
  refine EvX_of Try.func44 rfl (by show 1 ≤ 8; decide) ?_
  repeat' (first | refine V_seq ?_ | refine V_region ?_ | refine WS_nil ?_ | refine S_normal ?_ | refine V_skip ?_ | refine V_ret ?_ | refine S_ret ?_ | refine WS_move ?_ | refine WS_assign ?_ | refine WS_isnil ?_ | refine WS_buildSlice (by decide) rfl rfl (by simp [Value.cells]) ?_ | (refine V_cond ?_ ?_ <;> intro hc <;> try (cases hc; done)))
  · refine retK_1 ⟨Ext.refl h, ?_⟩ (.inr rfl)
    cases a with
    | none =>
      obtain ⟨h1, h2, h3⟩ := hx
      simp only at h3
      exact .inl ⟨rfl, List.eq_nil_of_length_eq_zero (by omega)⟩
    | some a => simp at hc
  · have e0 : Ext h (h.push (IObj.cells [] 27 true)) := Ext.push _ _
    refine WS_append_copy (lo := h.fresh) (hx.ext e0) (Nat.le_refl _) (by omega) ?_
    intro v' h' ho he
    repeat' (first | refine WS_nil ?_ | refine S_normal ?_ | refine V_ret ?_ | refine WS_assign ?_)
    exact retK_1 ⟨e0.trans he, ho⟩ (.inr rfl)
instance : CallIs Try.prog 44 := .of Try.func44 rfl rfl

/-! ### Elimination, as it goes -/
def bitAt (r j : Nat) : Bool := (r >>> j) &&& 1 = 1
/-- the first row from i on, below i + n, that has bit j -/
def findRow (rows : List Nat) (j : Nat) : Nat → Nat → Option Nat
  | _, 0 => none
  | i, n + 1 => if bitAt (rows.getD i 0) j then some i else findRow rows j (i + 1) n
def swapRows (rows : List Nat) (i k : Nat) : List Nat := (rows.set i (rows.getD k 0)).set k (rows.getD i 0)
/-- rows from k on, n of them: row r is added where bit j is -/
def addRows (j r : Nat) : Nat → Nat → List Nat → List Nat
  | _, 0, rows => rows
  | k, n + 1, rows => addRows j r (k + 1) n (if bitAt (rows.getD k 0) j then rows.set k (rows.getD k 0 ^^^ rows.getD r 0) else rows)
def rankStep (j : Nat) (st : List Nat × Nat) : List Nat × Nat :=
  match findRow st.1 j st.2 (st.1.length - st.2) with
  | none => st
  | some i => (addRows j st.2 (st.2 + 1) (st.1.length - (st.2 + 1)) (swapRows st.1 i st.2), st.2 + 1)
def rankK (rows : List Nat) : Nat → List Nat × Nat
  | 0 => (rows, 0)
  | j + 1 => rankStep j (rankK rows j)
theorem swapRows_len (rows : List Nat) (i k : Nat) : (swapRows rows i k).length = rows.length := by simp [swapRows]
theorem addRows_len (j r : Nat) : ∀ (n k : Nat) (rows : List Nat), (addRows j r k n rows).length = rows.length := by
  intro n
  induction n with
  | zero => intro k rows; rfl
  | succ n ih => intro k rows; simp only [addRows]; rw [ih]; split <;> simp
theorem rankStep_len (j : Nat) (st : List Nat × Nat) : (rankStep j st).1.length = st.1.length := by
  unfold rankStep
  split
  · rfl
  · rw [addRows_len, swapRows_len]
theorem rankK_len (rows : List Nat) : ∀ j, (rankK rows j).1.length = rows.length := by
  intro j
  induction j with
  | zero => rfl
  | succ j ih => rw [rankK, rankStep_len, ih]
def All64 (rows : List Nat) : Prop := ∀ x ∈ rows, x < 2 ^ 64
theorem All64.set {rows : List Nat} (h : All64 rows) {i w : Nat} (hw : w < 2 ^ 64) : All64 (rows.set i w) := fun x hx => by
  rcases List.mem_or_eq_of_mem_set hx with h1 | h1
  · exact h x h1
  · omega
theorem All64.get {rows : List Nat} (h : All64 rows) (i : Nat) : rows.getD i 0 < 2 ^ 64 := getD_lt h i
theorem All64.swap {rows : List Nat} (h : All64 rows) (i k : Nat) : All64 (swapRows rows i k) := (h.set (h.get k)).set (h.get i)
theorem All64.addRows (j r : Nat) : ∀ (n k : Nat) (rows : List Nat), All64 rows → All64 (addRows j r k n rows) := by
  intro n
  induction n with
  | zero => intro k rows h; exact h
  | succ n ih =>
    intro k rows h
    simp only [Go.Ideal.addRows]
    refine ih _ _ ?_
    split
    · exact h.set (Nat.xor_lt_two_pow (h.get k) (h.get r))
    · exact h
theorem u64s_set (rows : List Nat) (i w : Nat) : u64s (rows.set i w) = (u64s rows).set i (.int .u64 w) := by simp [u64s, List.map_set]
theorem u64s_get {rows : List Nat} {i : Nat} (hi : i < rows.length) : (u64s rows)[i]? = some (.int .u64 (rows.getD i 0 : Nat)) := by
  simp [u64s, hi, List.getD_eq_getElem?_getD]
theorem cell_u64 {h : IHp} {b i : Nat} {rows : List Nat} {t : TypeId} {x : Bool} (o : ObjIs h b (u64s rows) t x) (hi : i < rows.length) : CellIs h b (0 + i * 1) (.int .u64 (rows.getD i 0 : Nat)) := cell_at o (u64s_get hi)
theorem set_u64 {rows : List Nat} {i : Nat} (w : Nat) (hi : i < rows.length) : SetIs (u64s rows) (0 + i * 1) [.int .u64 w] (u64s (rows.set i w)) := by
  rw [u64s_set]; exact set_at _ (by simpa [u64s] using hi)
end Go.Ideal

-- Li
set_option linter.unusedSimpArgs false
set_option linter.unusedVariables false
namespace Go.Ideal
open Go Go.Proofs
theorem bit_cases (r j : Nat) : r >>> j &&& 1 = 0 ∨ r >>> j &&& 1 = 1 := by have := bit_le (r >>> j); omega
theorem findRow_skip {rows : List Nat} {j i n : Nat} (hb : bitAt (rows.getD i 0) j = false) : findRow rows j i (n + 1) = findRow rows j (i + 1) n := by rw [findRow, hb]; rfl
theorem findRow_hit {rows : List Nat} {j i n : Nat} (hb : bitAt (rows.getD i 0) j = true) : findRow rows j i (n + 1) = some i := by rw [findRow, hb]; rfl
theorem swap_two {rows : List Nat} {i k : Nat} : (rows.set i (rows.getD k 0)).set k (rows.getD i 0) = swapRows rows i k := rfl
set_option maxHeartbeats 1000000 in
theorem Rank_spec (N : Int) (a : Option Addr) (len cap : Nat) (xs : List Nat) (h : IHp) (hx : SlIs h a len cap (u64s xs)) (h64 : All64 xs) :
    EvX Try.prog 18 [.agg [.int .i64 N, .slice a len cap].toArray].toArray h (fun v h' => Ext h h' ∧ v = if checkS N xs = 0 then .tuple [.int .i64 ((rankK xs xs.length).2 : Nat), .int .i64 0].toArray else .tuple [.int .i64 0, .int .i64 (checkS N xs)].toArray) := by
  have hlen : xs.length = len := by have := hx.1; simpa [u64s] using this
  refine EvX_of Try.func18 rfl (by show 1 ≤ 82; decide) ?_
  repeat' (first | refine V_seq ?_ | refine V_region ?_ | refine WS_nil ?_ | refine S_normal ?_ | refine WS_assign ?_ | refine WS_load_agg ?_ | refine WS_box_agg rfl ?_)
  have eX0 : Ext h (h.push (IObj.cells [Value.int IntKind.i64 N, Value.slice a len cap] 50 true)) := Ext.push _ _
  refine WS_call (Check_spec N a len cap xs _ (hx.ext eX0) h64) ?_
  rintro _ H ⟨rfl, eX1⟩
  have eX : Ext h H := eX0.trans eX1
  have b1 : ObjIs H h.fresh [.int .i64 N, .slice a len cap] 50 true := inferInstance
  repeat' (first | refine V_seq ?_ | refine V_region ?_ | refine WS_nil ?_ | refine S_normal ?_ | refine V_skip ?_ | refine V_ret ?_ | refine S_ret ?_ | refine WS_move ?_ | refine WS_assign ?_ | refine WS_cmp rfl ?_ | refine WS_fieldAddr ?_ | refine WS_load ?_ | (refine V_cond ?_ ?_ <;> intro hc <;> try (cases hc; done)))
  · refine retK_2 ⟨eX, ?_⟩ (.inr rfl)
    rw [if_neg]
    simp at hc; simp [hc]
  · have hck : checkS N xs = 0 := by simpa using hc
    obtain ⟨hN0, hN1, hN2, _⟩ := checkS_zero hck
    refine WS_call (Clone_spec a len cap (u64s xs) H (hx.ext eX) (by omega)) ?_
    rintro v H2 ⟨eX2, hO⟩
    have b2 : ObjIs H2 h.fresh [.int .i64 N, .slice a len cap] 50 true := inferInstance
    repeat' (first | refine V_seq ?_ | refine V_region ?_ | refine WS_nil ?_ | refine S_normal ?_ | refine V_block ?_ | refine WS_move ?_ | refine WS_assign ?_ | refine WS_fieldAddr ?_ | refine WS_load ?_)
    refine V_loop (fun d s h' => ∃ (j : Int) (rows : List Nat) (rank : Nat), d = (N - j).toNat ∧ 0 ≤ j ∧ j ≤ N ∧ rankK xs j.toNat = (rows, rank) ∧ (rank : Int) ≤ j ∧ All64 rows ∧ Get s 20 (.int .i64 j) ∧ Get s 19 (.int .i64 N) ∧ Get s 1 (.pointer (some (ad h.fresh 0))) ∧ Get s 5 v ∧ Get s 6 (.int .i64 rank) ∧ Ext H h' ∧ Own H.fresh h' v (u64s rows) 27) N.toNat
      ⟨0, xs, 0, by omega, by omega, by omega, rfl, by omega, h64, inferInstance, inferInstance, inferInstance, inferInstance, inferInstanceAs (Get _ 6 (.int .i64 (0 : Int))), eX2, hO⟩ ?_
    rintro d s h' ⟨j, rows, rank, rfl, hj0, hj1, hrk, hrj, h64r, g20, g19, g1, g5, g6, eH, hOw⟩
    have hrl : rows.length = len := by have := rankK_len xs j.toNat; rw [hrk] at this; simpa [hlen] using this
    repeat' (first | refine V_seq ?_ | refine V_region ?_ | refine WS_nil ?_ | refine S_normal ?_ | refine V_block ?_ | refine V_skip ?_ | refine V_exit ?_ | refine V_ret ?_ | refine S_exit ?_ | refine B_exit ?_ | refine WS_move ?_ | refine WS_assign ?_ | refine WS_cmp rfl ?_ | (refine V_cond ?_ ?_ <;> intro hc <;> try (cases hc; done)))
    · have hj : j < N := by simpa using hc
      refine V_loop (fun d s h'' => ∃ (i : Int), d = (N - i).toNat ∧ rank ≤ i ∧ i ≤ N ∧ findRow rows j.toNat rank (rows.length - rank) = findRow rows j.toNat i.toNat (rows.length - i.toNat) ∧ Get s 8 (.int .i64 i) ∧ Get s 7 (.int .i64 j) ∧ Get s 20 (.int .i64 j) ∧ Get s 19 (.int .i64 N) ∧ Get s 1 (.pointer (some (ad h.fresh 0))) ∧ Get s 5 v ∧ Get s 6 (.int .i64 rank) ∧ h'' = h') (N - rank).toNat
        ⟨rank, by omega, by omega, by omega, by simp, inferInstance, inferInstance, inferInstance, inferInstance, inferInstance, inferInstance, inferInstance, rfl⟩ ?_
      rintro d s h'' ⟨i, rfl, hi0, hi1, hfr, y8, y7, y20, y19, y1, y5, y6, rfl⟩
      have b3 : ObjIs h'' h.fresh [.int .i64 N, .slice a len cap] 50 true := ⟨b1.even, eH.new _ _ b1.eq⟩
      repeat' (first | refine V_seq ?_ | refine V_region ?_ | refine WS_nil ?_ | refine S_normal ?_ | refine V_block ?_ | refine B_normal ?_ | refine V_skip ?_ | refine V_exit ?_ | refine S_exit ?_ | refine B_exit ?_ | refine WS_move ?_ | refine WS_cmp rfl ?_ | refine WS_addi (by omega) ?_ | refine WS_fieldAddr ?_ | refine WS_load ?_ | (refine V_cond ?_ ?_ <;> intro hc <;> try (cases hc; done)))
      · have hi : i < N := by simpa using hc
        obtain ⟨b, y, hb, rfl, ob⟩ := hOw.at (by rw [u64s_len]; omega)
        have hbf : H.fresh ≤ b := hb
        have c1 : CellIs h'' b (0 + i.toNat * 1) _ := cell_u64 (rows := rows) (i := i.toNat) ob (by omega)
        have hri := h64r.get i.toNat
        have hbi : 0 ≤ i ∧ i < ((u64s rows).length : Int) := by rw [u64s_len]; omega
        repeat' (first | refine V_seq ?_ | refine V_region ?_ | refine WS_nil ?_ | refine S_normal ?_ | refine V_skip ?_ | refine V_exit ?_ | refine S_exit ?_ | refine B_exit ?_ | refine WS_move ?_ | refine WS_assign ?_ | refine WS_cmp rfl ?_ | refine WS_addi (by omega) ?_ | refine WS_arith rfl ?_ | refine WS_load ?_ | refine WS_shift (by first | decide | omega) rfl ?_ | refine WS_indexAddr (by first | decide | omega) ?_ | (refine V_cond ?_ ?_ <;> intro hc <;> try (cases hc; done)))
        · rename_i hcc
          rw [shr_u64 hj0 hri, and1_u64 (shr_lt _ hri)] at hc
          have hb0 : bitAt (rows.getD i.toNat 0) j.toNat = false := by
            have h1 : rows.getD i.toNat 0 >>> j.toNat &&& 1 = 0 := Int.ofNat_inj.mp (show ((rows.getD i.toNat 0 >>> j.toNat &&& 1 : Nat) : Int) = ((0 : Nat) : Int) from of_decide_eq_true hc)
            unfold bitAt; rw [h1]; rfl
          refine ⟨_, ?_, i + 1, rfl, by omega, by omega, ?_, inferInstance, inferInstance, inferInstance, inferInstance, inferInstance, inferInstance, inferInstance, rfl⟩
          · omega
          · rw [hfr, toNat_succ (by omega), show rows.length - i.toNat = (rows.length - (i.toNat + 1)) + 1 by omega, findRow_skip hb0]
        · rename_i hcc
          rw [shr_u64 hj0 hri, and1_u64 (shr_lt _ hri)] at hc
          have hb1 : bitAt (rows.getD i.toNat 0) j.toNat = true := by
            rcases bit_cases (rows.getD i.toNat 0) j.toNat with h1 | h1
            · exact absurd (congrArg (Nat.cast (R := Int)) h1) (of_decide_eq_false hc)
            · unfold bitAt; rw [h1]; rfl
          have hfi : findRow rows j.toNat rank (rows.length - rank) = some i.toNat := by
            rw [hfr, show rows.length - i.toNat = (rows.length - (i.toNat + 1)) + 1 by omega, findRow_hit hb1]
          have hbr : 0 ≤ (rank : Int) ∧ (rank : Int) < ((u64s rows).length : Int) := by rw [u64s_len]; omega
          have c2 : CellIs h'' b (0 + (rank : Int).toNat * 1) (.int .u64 (rows.getD rank 0 : Nat)) := by rw [Int.toNat_natCast]; exact cell_u64 ob (by omega)
          have s1 : SetIs (u64s rows) (0 + i.toNat * 1) [.int .u64 (rows.getD rank 0 : Nat)] (u64s (rows.set i.toNat (rows.getD rank 0))) := set_u64 _ (by omega)
          have s2 : SetIs (u64s (rows.set i.toNat (rows.getD rank 0))) (0 + (rank : Int).toNat * 1) [.int .u64 (rows.getD i.toNat 0 : Nat)] (u64s (swapRows rows i.toNat rank)) := by rw [Int.toNat_natCast, ← swap_two]; exact set_u64 _ (by simp; omega)
          refine V_draw (plan := [.take 0, .take 1, .take 2, .take 3, .take 4, .take 5, .take 6, .take 7, .take 8, .take 9, .take 10, .take 11, .take 12, .one 13, .take 14, .one 15]) (by kernel_rfl) ?_
          repeat' (first | refine V_seq ?_ | refine V_region ?_ | refine WS_nil ?_ | refine S_normal ?_ | refine V_block ?_ | refine WS_move ?_ | refine WS_assign ?_ | refine WS_addi (by omega) ?_ | refine WS_indexAddr (by first | decide | omega) ?_ | refine WS_store rfl ?_ | refine WDK_go ?_ | refine WDT_go ?_ | refine WD_nil ?_ | refine WD_load rfl ?_ | refine WD_take rfl rfl ?_ | refine WD_drop rfl rfl ?_)
          obtain ⟨H3, hH3⟩ : ∃ H, H = ((h''.put b (u64s (rows.set i.toNat (rows.getD rank 0))) 27 y).put b (u64s (swapRows rows i.toNat rank)) 27 y) := ⟨_, rfl⟩
          have e3 : Ext H H3 := hH3 ▸ (eH.putObj hbf).putObj hbf
          have o3 : ObjIs H3 b (u64s (swapRows rows i.toNat rank)) 27 y := hH3 ▸ inferInstance
          have b4 : ObjIs H3 h.fresh [.int .i64 N, .slice a len cap] 50 true := ⟨b1.even, e3.new _ _ b1.eq⟩
          rw [← hH3]
          have hl1 : (swapRows rows i.toNat rank).length = rows.length := swapRows_len _ _ _
          refine V_loop (fun d s h4 => ∃ (k : Int) (cur : List Nat), d = (N - k).toNat ∧ rank + 1 ≤ k ∧ k ≤ N ∧ addRows j.toNat rank (rank + 1) (rows.length - (rank + 1)) (swapRows rows i.toNat rank) = addRows j.toNat rank k.toNat (rows.length - k.toNat) cur ∧ All64 cur ∧ cur.length = rows.length ∧ Get s 9 (.int .i64 k) ∧ Get s 7 (.int .i64 j) ∧ Get s 20 (.int .i64 j) ∧ Get s 19 (.int .i64 N) ∧ Get s 1 (.pointer (some (ad h.fresh 0))) ∧ Get s 5 (.slice (some (ad b 0)) (u64s rows).length (u64s rows).length) ∧ Get s 6 (.int .i64 rank) ∧ Ext H h4 ∧ ObjIs h4 b (u64s cur) 27 y) (N - (rank + 1)).toNat
            ⟨rank + 1, swapRows rows i.toNat rank, by omega, by omega, by omega, by rw [show ((rank : Int) + 1).toNat = rank + 1 by omega], h64r.swap _ _, hl1, inferInstance, inferInstance, inferInstance, inferInstance, inferInstance, inferInstance, inferInstance, e3, o3⟩ ?_
          rintro d s h4 ⟨k, cur, rfl, hk0, hk1, hadd, h64c, hcl, x9, x7, x20, x19, x1, x5, x6, e4, o4⟩
          have b5 : ObjIs h4 h.fresh [.int .i64 N, .slice a len cap] 50 true := ⟨b1.even, e4.new _ _ b1.eq⟩
          repeat' (first | refine V_seq ?_ | refine V_region ?_ | refine WS_nil ?_ | refine S_normal ?_ | refine V_block ?_ | refine B_normal ?_ | refine V_skip ?_ | refine V_exit ?_ | refine S_exit ?_ | refine B_exit ?_ | refine B_pass rfl ?_ | refine WS_move ?_ | refine WS_assign ?_ | refine WS_cmp rfl ?_ | refine WS_addi (by omega) ?_ | refine WS_fieldAddr ?_ | refine WS_load ?_ | (refine V_cond ?_ ?_ <;> intro hc <;> try (cases hc; done)))
          · have hk : k < N := by simpa using hc
            have d1 : CellIs h4 b (0 + k.toNat * 1) _ := cell_u64 (rows := cur) (i := k.toNat) o4 (by omega)
            have d2 : CellIs h4 b (0 + (rank : Int).toNat * 1) (.int .u64 (cur.getD rank 0 : Nat)) := by rw [Int.toNat_natCast]; exact cell_u64 o4 (by omega)
            have hrk' := h64c.get k.toNat
            have hrr := h64c.get rank
            have hbk : 0 ≤ k ∧ k < ((u64s rows).length : Int) := by rw [u64s_len]; omega
            repeat' (first | refine V_region ?_ | refine WS_nil ?_ | refine S_normal ?_ | refine B_normal ?_ | refine V_skip ?_ | refine WS_move ?_ | refine WS_assign ?_ | refine WS_cmp rfl ?_ | refine WS_addi (by omega) ?_ | refine WS_arith rfl ?_ | refine WS_load ?_ | refine WS_shift (by first | decide | omega) rfl ?_ | refine WS_indexAddr (by first | decide | omega) ?_ | (refine V_cond ?_ ?_ <;> intro hc <;> try (cases hc; done)))
            · rw [shr_u64 hj0 hrk', and1_u64 (shr_lt _ hrk')] at hc
              have hbk1 : bitAt (cur.getD k.toNat 0) j.toNat = true := by
                have h1 : cur.getD k.toNat 0 >>> j.toNat &&& 1 = 1 := Int.ofNat_inj.mp (show ((cur.getD k.toNat 0 >>> j.toNat &&& 1 : Nat) : Int) = ((1 : Nat) : Int) from of_decide_eq_true hc)
                unfold bitAt; rw [h1]; rfl
              have s3 : SetIs (u64s cur) (0 + k.toNat * 1) [.int .u64 ((cur.getD k.toNat 0 ^^^ cur.getD rank 0 : Nat) : Int)] (u64s (cur.set k.toNat (cur.getD k.toNat 0 ^^^ cur.getD rank 0))) := set_u64 _ (by omega)
              have hx3 := xor_u64 hrk' hrr
              rw [← hx3] at s3
              refine V_draw (plan := [.take 0, .take 1, .take 2, .take 3, .take 4, .take 5, .take 6, .take 7, .take 8, .take 9, .one 10]) (by kernel_rfl) ?_
              repeat' (first | refine V_region ?_ | refine WS_nil ?_ | refine S_normal ?_ | refine B_normal ?_ | refine WS_move ?_ | refine WS_assign ?_ | refine WS_addi (by omega) ?_ | refine WS_arith rfl ?_ | refine WS_indexAddr (by first | decide | omega) ?_ | refine WS_store rfl ?_ | refine WDK_go ?_ | refine WDT_go ?_ | refine WD_nil ?_ | refine WD_load rfl ?_ | refine WD_take rfl rfl ?_ | refine WD_drop rfl rfl ?_)
              refine ⟨_, ?_, k + 1, cur.set k.toNat (cur.getD k.toNat 0 ^^^ cur.getD rank 0), rfl, by omega, by omega, ?_, h64c.set (Nat.xor_lt_two_pow hrk' hrr), by simpa using hcl, inferInstance, inferInstance, inferInstance, inferInstance, inferInstance, inferInstance, inferInstance, e4.putObj hbf, inferInstance⟩
              · omega
              · rw [hadd, toNat_succ (by omega), show rows.length - k.toNat = (rows.length - (k.toNat + 1)) + 1 by omega, addRows, hbk1]; rfl
            · rw [shr_u64 hj0 hrk', and1_u64 (shr_lt _ hrk')] at hc
              have hbk0 : bitAt (cur.getD k.toNat 0) j.toNat = false := by
                rcases bit_cases (cur.getD k.toNat 0) j.toNat with h1 | h1
                · unfold bitAt; rw [h1]; rfl
                · exact absurd (congrArg (Nat.cast (R := Int)) h1) (of_decide_eq_false hc)
              refine ⟨_, ?_, k + 1, cur, rfl, by omega, by omega, ?_, h64c, hcl, inferInstance, inferInstance, inferInstance, inferInstance, inferInstance, inferInstance, inferInstance, e4, o4⟩
              · omega
              · rw [hadd, toNat_succ (by omega), show rows.length - k.toNat = (rows.length - (k.toNat + 1)) + 1 by omega, addRows, hbk0]; rfl
          · have hk : k = N := by simp at hc; omega
            refine ⟨_, ?_, j + 1, cur, rank + 1, rfl, by omega, by omega, ?_, by omega, h64c, inferInstance, inferInstance, inferInstance, inferInstance, inferInstance, e4, ?_⟩
            · omega
            · rw [toNat_succ hj0, rankK, hrk, rankStep]
              simp only [hfi]
              rw [hadd, hk, show rows.length - N.toNat = 0 by omega]; rfl
            · exact .inr ⟨b, y, hbf, by rw [u64s_len, u64s_len, hcl], o4⟩
      · have hi : i = N := by simp at hc; omega
        have hfn : findRow rows j.toNat rank (rows.length - rank) = none := by
          rw [hfr, hi, show rows.length - N.toNat = 0 by omega]; rfl
        skip
        refine ⟨_, ?_, j + 1, rows, rank, rfl, by omega, by omega, ?_, by omega, h64r, inferInstance, inferInstance, inferInstance, inferInstance, inferInstance, eH, hOw⟩
        · omega
        · rw [toNat_succ hj0, rankK, hrk, rankStep]; simp only [hfn]
    · have hj : j = N := by simp at hc; omega
      refine retK_2 ⟨eX.trans eH, ?_⟩ (.inr rfl)
      rw [if_pos hck, show xs.length = j.toNat by omega, hrk]
instance : CallIs Try.prog 18 := .of Try.func18 rfl rfl
end Go.Ideal

-- Lj
set_option linter.unusedSimpArgs false
set_option linter.unusedVariables false
namespace Go.Ideal
open Go Go.Proofs
def addBoth (j r : Nat) : Nat → Nat → List Nat × List Nat → List Nat × List Nat
  | _, 0, st => st
  | k, n + 1, st => addBoth j r (k + 1) n (if k ≠ r ∧ bitAt (st.1.getD k 0) j = true then (st.1.set k (st.1.getD k 0 ^^^ st.1.getD r 0), st.2.set k (st.2.getD k 0 ^^^ st.2.getD r 0)) else st)
def refStep (j : Nat) (st : (List Nat × List Nat) × Nat) : (List Nat × List Nat) × Nat :=
  match findRow st.1.1 j st.2 (st.1.1.length - st.2) with
  | none => st
  | some i => (addBoth j st.2 0 st.1.1.length (swapRows st.1.1 i st.2, swapRows st.1.2 i st.2), st.2 + 1)
def refK (rows wth : List Nat) : Nat → (List Nat × List Nat) × Nat
  | 0 => ((rows, wth), 0)
  | j + 1 => refStep j (refK rows wth j)
theorem addBoth_len (j r : Nat) : ∀ (n k : Nat) (st : List Nat × List Nat), (addBoth j r k n st).1.length = st.1.length ∧ (addBoth j r k n st).2.length = st.2.length := by
  intro n
  induction n with
  | zero => intro k st; exact ⟨rfl, rfl⟩
  | succ n ih =>
    intro k st
    simp only [addBoth]
    obtain ⟨h1, h2⟩ := ih (k + 1) (if k ≠ r ∧ bitAt (st.1.getD k 0) j = true then (st.1.set k (st.1.getD k 0 ^^^ st.1.getD r 0), st.2.set k (st.2.getD k 0 ^^^ st.2.getD r 0)) else st)
    rw [h1, h2]
    split <;> simp
theorem refK_len (rows wth : List Nat) : ∀ j, (refK rows wth j).1.1.length = rows.length ∧ (refK rows wth j).1.2.length = wth.length := by
  intro j
  induction j with
  | zero => exact ⟨rfl, rfl⟩
  | succ j ih =>
    rw [refK]
    unfold refStep
    split
    · exact ih
    · obtain ⟨h1, h2⟩ := addBoth_len j (refK rows wth j).2 (refK rows wth j).1.1.length 0 (swapRows (refK rows wth j).1.1 _ (refK rows wth j).2, swapRows (refK rows wth j).1.2 _ (refK rows wth j).2)
      rw [h1, h2]; simp only [swapRows_len]; exact ih
theorem findRow_some {rows : List Nat} {j : Nat} : ∀ (n i k : Nat), findRow rows j i n = some k → i ≤ k ∧ k < i + n ∧ bitAt (rows.getD k 0) j = true := by
  intro n
  induction n with
  | zero => intro i k h; cases h
  | succ n ih =>
    intro i k h
    rw [findRow] at h
    split at h
    · rename_i hb; obtain rfl := Option.some.inj h; exact ⟨by omega, by omega, hb⟩
    · obtain ⟨h1, h2, h3⟩ := ih _ _ h; exact ⟨by omega, by omega, h3⟩
/-- all but two blocks are as they were -/
structure Fr2 (b c : Nat) (h h' : IHp) : Prop where
  old : h'.old = h.old
  new : ∀ (i : Nat) (o : IObj), h.new[i]? = some o → 2 * i ≠ b → 2 * i ≠ c → h'.new[i]? = some o
theorem Fr2.refl (b c : Nat) (h : IHp) : Fr2 b c h h := ⟨rfl, fun _ _ h _ _ => h⟩
theorem Fr2.putL {b c : Nat} {h h' : IHp} (f : Fr2 b c h h') (he : b % 2 = 0) {o : IObj} : Fr2 b c h (h'.putObj b o) := ⟨f.old, fun i o' hi h1 h2 => by
  simp only [IHp.putObj]
  rw [List.getElem?_set_ne (by omega)]; exact f.new i o' hi h1 h2⟩
theorem Fr2.putR {b c : Nat} {h h' : IHp} (f : Fr2 b c h h') (he : c % 2 = 0) {o : IObj} : Fr2 b c h (h'.putObj c o) := ⟨f.old, fun i o' hi h1 h2 => by
  simp only [IHp.putObj]
  rw [List.getElem?_set_ne (by omega)]; exact f.new i o' hi h1 h2⟩
theorem Fr2.obj {b c : Nat} {h h' : IHp} (f : Fr2 b c h h') {x : Nat} {l : List Value} {t : TypeId} {e : Bool} (o : ObjIs h x l t e) (h1 : x ≠ b) (h2 : x ≠ c) : ObjIs h' x l t e :=
  ⟨o.even, f.new _ _ o.eq (by have := o.even; omega) (by have := o.even; omega)⟩
theorem Fr2.ext {b c : Nat} {h h' h0 : IHp} (f : Fr2 b c h h') (e : Ext h0 h) (l1 : h0.fresh ≤ b) (l2 : h0.fresh ≤ c) : Ext h0 h' := ⟨f.old.trans e.old, fun i o hi => by
  have := (List.getElem?_eq_some_iff.1 hi).1
  unfold IHp.fresh at l1 l2
  exact f.new i o (e.new i o hi) (by omega) (by omega)⟩
theorem reduced_ref_zero (a b : Option Addr) (h : IHp) : EvX Try.prog 52 [.slice a 0 0, .slice b 0 0, .int .i64 0].toArray h (fun v h' => v = .int .i64 0 ∧ h' = h) := by
  refine EvX_of Try.func52 rfl (by show 3 ≤ 109; decide) ?_
  repeat' (first | refine V_seq ?_ | refine V_region ?_ | refine WS_nil ?_ | refine S_normal ?_ | refine V_block ?_ | refine WS_assign ?_)
  refine V_loop (fun d s h' => Get s 8 (.int .i64 0) ∧ Get s 2 (.int .i64 0) ∧ Get s 7 (.int .i64 0) ∧ h' = h) 0 ⟨inferInstance, inferInstance, inferInstance, rfl⟩ ?_
  rintro d s h' ⟨g8, g2, g7, rfl⟩
  repeat' (first | refine V_seq ?_ | refine V_region ?_ | refine WS_nil ?_ | refine S_normal ?_ | refine V_exit ?_ | refine V_ret ?_ | refine S_exit ?_ | refine B_exit ?_ | refine WS_move ?_ | refine WS_assign ?_ | refine WS_cmp rfl ?_ | (refine V_cond ?_ ?_ <;> intro hc <;> try (cases hc; done)))
  exact retK_1 ⟨rfl, rfl⟩ (.inr rfl)
set_option maxHeartbeats 1000000 in
theorem reduced_ref (N : Int) (n b c : Nat) (y z : Bool) (rows0 with0 : List Nat) (h : IHp) (hn : n = rows0.length) (hN : N = n) (hN1 : N ≤ 64) (hw : with0.length = n) (ob : ObjIs h b (u64s rows0) 27 y) (oc : ObjIs h c (u64s with0) 27 z) (hbc : b ≠ c) (h64 : All64 rows0) (w64 : All64 with0) :
    EvX Try.prog 52 [.slice (some (ad b 0)) n n, .slice (some (ad c 0)) n n, .int .i64 N].toArray h (fun v h' => v = .int .i64 ((refK rows0 with0 n).2 : Nat) ∧ ObjIs h' b (u64s (refK rows0 with0 n).1.1) 27 y ∧ ObjIs h' c (u64s (refK rows0 with0 n).1.2) 27 z ∧ Fr2 b c h h' ∧ h'.fresh = h.fresh) := by
  have nbc : NeB b c := .of ob.even oc.even hbc
  have ncb : NeB c b := nbc.symm
  refine EvX_of Try.func52 rfl (by show 3 ≤ 109; decide) ?_
  repeat' (first | refine V_seq ?_ | refine V_region ?_ | refine WS_nil ?_ | refine S_normal ?_ | refine V_block ?_ | refine WS_assign ?_)
  refine V_loop (fun d s h' => ∃ (j : Int) (rows wth : List Nat) (done : Nat), d = (N - j).toNat ∧ 0 ≤ j ∧ j ≤ N ∧ refK rows0 with0 j.toNat = ((rows, wth), done) ∧ (done : Int) ≤ j ∧ All64 rows ∧ All64 wth ∧ Get s 8 (.int .i64 j) ∧ Get s 2 (.int .i64 N) ∧ Get s 0 (.slice (some (ad b 0)) n n) ∧ Get s 1 (.slice (some (ad c 0)) n n) ∧ Get s 7 (.int .i64 done) ∧ ObjIs h' b (u64s rows) 27 y ∧ ObjIs h' c (u64s wth) 27 z ∧ Fr2 b c h h' ∧ h'.fresh = h.fresh) N.toNat
    ⟨0, rows0, with0, 0, by omega, by omega, by omega, rfl, by omega, h64, w64, inferInstance, inferInstance, inferInstance, inferInstance, inferInstanceAs (Get _ 7 (.int .i64 (0 : Int))), ob, oc, Fr2.refl b c h, rfl⟩ ?_
  rintro d s h' ⟨j, rows, wth, done, rfl, hj0, hj1, hrk, hdj, h64r, h64w, g8, g2, g0, g1, g7, o1, o2, hE, hF⟩
  have hrl : rows.length = n := by have := (refK_len rows0 with0 j.toNat).1; rw [hrk] at this; simpa [hn] using this
  have hwl : wth.length = n := by have := (refK_len rows0 with0 j.toNat).2; rw [hrk] at this; simpa [hw] using this
  repeat' (first | refine V_seq ?_ | refine V_region ?_ | refine WS_nil ?_ | refine S_normal ?_ | refine V_block ?_ | refine V_skip ?_ | refine V_exit ?_ | refine V_ret ?_ | refine S_exit ?_ | refine B_exit ?_ | refine WS_move ?_ | refine WS_assign ?_ | refine WS_cmp rfl ?_ | (refine V_cond ?_ ?_ <;> intro hc <;> try (cases hc; done)))
  · have hj : j < N := by simpa using hc
    refine V_loop (fun d s h'' => ∃ (i at_ : Int), d = (n - i).toNat ∧ done ≤ i ∧ i ≤ n ∧ ((at_ = -1 ∧ findRow rows j.toNat done (n - done) = findRow rows j.toNat i.toNat (n - i.toNat)) ∨ (0 ≤ at_ ∧ findRow rows j.toNat done (n - done) = some at_.toNat)) ∧ Get s 10 (.int .i64 i) ∧ Get s 9 (.int .i64 at_) ∧ Get s 8 (.int .i64 j) ∧ Get s 2 (.int .i64 N) ∧ Get s 0 (.slice (some (ad b 0)) n n) ∧ Get s 1 (.slice (some (ad c 0)) n n) ∧ Get s 7 (.int .i64 done) ∧ h'' = h') (n - done)
      ⟨done, -1, by omega, by omega, by omega, .inl ⟨rfl, by simp⟩, inferInstance, inferInstance, inferInstance, inferInstance, inferInstance, inferInstance, inferInstance, rfl⟩ ?_
    rintro d s h'' ⟨i, at_, rfl, hi0, hi1, hat, y10, y9, y8, y2, y0, y1, y7, rfl⟩
    repeat' (first | refine V_seq ?_ | refine V_region ?_ | refine WS_nil ?_ | refine S_normal ?_ | refine V_block ?_ | refine B_normal ?_ | refine V_skip ?_ | refine V_exit ?_ | refine S_exit ?_ | refine B_exit ?_ | refine WS_off rfl (by first | rfl | assumption) ?_ | refine WS_on rfl (by first | rfl | assumption) ?_ | refine WS_move ?_ | refine WS_assign ?_ | refine WS_pick_f (by first | rfl | assumption) ?_ | refine WS_cmp rfl ?_ | refine WS_addi (by omega) ?_ | refine WS_len_slice ?_ | (refine WS_guard rfl ?_ ?_ <;> intro hg) | (refine V_cond ?_ ?_ <;> intro hc <;> try (cases hc; done)))
    · have hi : i < n := by simpa using hc
      have c1 : CellIs h'' b (0 + i.toNat * 1) _ := cell_u64 (rows := rows) (i := i.toNat) o1 (by omega)
      have hri := h64r.get i.toNat
      have hin : 0 ≤ i ∧ i < (n : Int) := by omega
      have hat' : at_ = -1 ∧ findRow rows j.toNat done (n - done) = findRow rows j.toNat i.toNat (n - i.toNat) := by
        have : at_ < 0 := by simpa using hg
        rcases hat with h1 | h1
        · exact h1
        · omega
      repeat' (first | refine V_region ?_ | refine WS_nil ?_ | refine S_normal ?_ | refine B_normal ?_ | refine V_skip ?_ | refine WS_on rfl (by first | rfl | assumption) ?_ | refine WS_move ?_ | refine WS_assign ?_ | refine WS_pick_t (by first | rfl | assumption) ?_ | refine WS_cmp rfl ?_ | refine WS_addi (by omega) ?_ | refine WS_arith rfl ?_ | refine WS_load ?_ | refine WS_shift (by first | decide | omega) rfl ?_ | refine WS_indexAddr (by first | decide | omega) ?_ | (refine V_cond ?_ ?_ <;> intro hc <;> try (cases hc; done)))
      · rw [shr_u64 hj0 hri, and1_u64 (shr_lt _ hri)] at hc
        have hb1 : bitAt (rows.getD i.toNat 0) j.toNat = true := by
          have h1 : rows.getD i.toNat 0 >>> j.toNat &&& 1 = 1 := Int.ofNat_inj.mp (show ((rows.getD i.toNat 0 >>> j.toNat &&& 1 : Nat) : Int) = ((1 : Nat) : Int) from of_decide_eq_true hc)
          unfold bitAt; rw [h1]; rfl
        refine ⟨_, ?_, i + 1, i, rfl, by omega, by omega, .inr ⟨by omega, ?_⟩, inferInstance, inferInstance, inferInstance, inferInstance, inferInstance, inferInstance, inferInstance, rfl⟩
        · omega
        · rw [hat'.2, show n - i.toNat = (n - (i.toNat + 1)) + 1 by omega, findRow_hit hb1]
      · rw [shr_u64 hj0 hri, and1_u64 (shr_lt _ hri)] at hc
        have hb0 : bitAt (rows.getD i.toNat 0) j.toNat = false := by
          rcases bit_cases (rows.getD i.toNat 0) j.toNat with h1 | h1
          · unfold bitAt; rw [h1]; rfl
          · exact absurd (congrArg (Nat.cast (R := Int)) h1) (of_decide_eq_false hc)
        refine ⟨_, ?_, i + 1, at_, rfl, by omega, by omega, .inl ⟨hat'.1, ?_⟩, inferInstance, inferInstance, inferInstance, inferInstance, inferInstance, inferInstance, inferInstance, rfl⟩
        · omega
        · rw [hat'.2, show n - i.toNat = (n - (i.toNat + 1)) + 1 by omega, findRow_skip hb0, toNat_succ (by omega)]
    · rename_i hcc
      have hi : i < n := by simpa using hcc
      have hat' : 0 ≤ at_ ∧ findRow rows j.toNat done (n - done) = some at_.toNat := by
        rcases hat with h1 | h1
        · simp at hg; omega
        · exact h1
      refine ⟨_, ?_, i + 1, at_, rfl, by omega, by omega, .inr hat', inferInstance, inferInstance, inferInstance, inferInstance, inferInstance, inferInstance, inferInstance, rfl⟩
      omega
    · have hi : i = n := by
        rename_i hcc; simp at hcc; omega
      have hfn : findRow rows j.toNat done (rows.length - done) = none := by
        have : at_ < 0 := by simpa using hc
        rcases hat with h1 | h1
        · rw [hrl, h1.2, hi, show n - (n : Int).toNat = 0 by omega]; rfl
        · omega
      refine ⟨_, ?_, j + 1, rows, wth, done, rfl, by omega, by omega, ?_, by omega, h64r, h64w, inferInstance, inferInstance, inferInstance, inferInstance, inferInstance, o1, o2, hE, hF⟩
      · omega
      · rw [toNat_succ hj0, refK, hrk, refStep]; simp only [hfn]
    · have ha0 : 0 ≤ at_ := by simpa using hc
      have hfi : findRow rows j.toNat done (rows.length - done) = some at_.toNat := by
        rw [hrl]
        rcases hat with h1 | h1
        · omega
        · exact h1.2
      obtain ⟨hf1, hf2, _⟩ := findRow_some _ _ _ hfi
      have hba : 0 ≤ at_ ∧ at_ < (n : Int) := by omega
      have hbd : 0 ≤ (done : Int) ∧ (done : Int) < (n : Int) := by omega
      have c1 : CellIs h'' b (0 + at_.toNat * 1) _ := cell_u64 (rows := rows) (i := at_.toNat) o1 (by omega)
      have c2 : CellIs h'' b (0 + (done : Int).toNat * 1) (.int .u64 (rows.getD done 0 : Nat)) := by rw [Int.toNat_natCast]; exact cell_u64 o1 (by omega)
      have s1 : SetIs (u64s rows) (0 + at_.toNat * 1) [.int .u64 (rows.getD done 0 : Nat)] (u64s (rows.set at_.toNat (rows.getD done 0))) := set_u64 _ (by omega)
      have s2 : SetIs (u64s (rows.set at_.toNat (rows.getD done 0))) (0 + (done : Int).toNat * 1) [.int .u64 (rows.getD at_.toNat 0 : Nat)] (u64s (swapRows rows at_.toNat done)) := by rw [Int.toNat_natCast, ← swap_two]; exact set_u64 _ (by simp; omega)
      refine V_draw (plan := [.take 0, .take 1, .take 2, .take 3, .take 4, .take 5, .take 6, .take 7, .take 8, .take 9, .take 10, .take 11, .take 12, .one 13, .take 14, .one 15]) (by kernel_rfl) ?_
      repeat' (first | refine V_seq ?_ | refine WS_nil ?_ | refine S_normal ?_ | refine WS_move ?_ | refine WS_indexAddr (by first | decide | omega) ?_ | refine WS_store rfl ?_ | refine WDK_go ?_ | refine WDT_go ?_ | refine WD_nil ?_ | refine WD_load rfl ?_ | refine WD_take rfl rfl ?_ | refine WD_drop rfl rfl ?_)
      obtain ⟨H3, hH3⟩ : ∃ H, H = ((h''.put b (u64s (rows.set at_.toNat (rows.getD done 0))) 27 y).put b (u64s (swapRows rows at_.toNat done)) 27 y) := ⟨_, rfl⟩
      have p1 : ObjIs H3 b (u64s (swapRows rows at_.toNat done)) 27 y := hH3 ▸ inferInstance
      have p2 : ObjIs H3 c (u64s wth) 27 z := hH3 ▸ inferInstance
      have hE3 : Fr2 b c h H3 := hH3 ▸ (hE.putL ob.even).putL ob.even
      have hF3 : H3.fresh = h.fresh := by rw [hH3, putObj_fresh, putObj_fresh, hF]
      rw [← hH3]
      have c3 : CellIs H3 c (0 + at_.toNat * 1) _ := cell_u64 (rows := wth) (i := at_.toNat) p2 (by omega)
      have c4 : CellIs H3 c (0 + (done : Int).toNat * 1) (.int .u64 (wth.getD done 0 : Nat)) := by rw [Int.toNat_natCast]; exact cell_u64 p2 (by omega)
      have s3 : SetIs (u64s wth) (0 + at_.toNat * 1) [.int .u64 (wth.getD done 0 : Nat)] (u64s (wth.set at_.toNat (wth.getD done 0))) := set_u64 _ (by omega)
      have s4 : SetIs (u64s (wth.set at_.toNat (wth.getD done 0))) (0 + (done : Int).toNat * 1) [.int .u64 (wth.getD at_.toNat 0 : Nat)] (u64s (swapRows wth at_.toNat done)) := by rw [Int.toNat_natCast, ← swap_two]; exact set_u64 _ (by simp; omega)
      refine V_draw (plan := [.take 0, .take 1, .take 2, .take 3, .take 4, .take 5, .take 6, .take 7, .take 8, .take 9, .take 10, .take 11, .take 12, .one 13, .take 14, .one 15]) (by kernel_rfl) ?_
      repeat' (first | refine V_seq ?_ | refine V_region ?_ | refine WS_nil ?_ | refine S_normal ?_ | refine V_block ?_ | refine WS_move ?_ | refine WS_assign ?_ | refine WS_indexAddr (by first | decide | omega) ?_ | refine WS_store rfl ?_ | refine WDK_go ?_ | refine WDT_go ?_ | refine WD_nil ?_ | refine WD_load rfl ?_ | refine WD_take rfl rfl ?_ | refine WD_drop rfl rfl ?_)
      obtain ⟨H4, hH4⟩ : ∃ H, H = ((H3.put c (u64s (wth.set at_.toNat (wth.getD done 0))) 27 z).put c (u64s (swapRows wth at_.toNat done)) 27 z) := ⟨_, rfl⟩
      have q1 : ObjIs H4 b (u64s (swapRows rows at_.toNat done)) 27 y := hH4 ▸ inferInstance
      have q2 : ObjIs H4 c (u64s (swapRows wth at_.toNat done)) 27 z := hH4 ▸ inferInstance
      have hE4 : Fr2 b c h H4 := hH4 ▸ (hE3.putR oc.even).putR oc.even
      have hF4 : H4.fresh = h.fresh := by rw [hH4, putObj_fresh, putObj_fresh, hF3]
      rw [← hH4]
      refine V_loop (fun d s h4 => ∃ (k : Int) (cr cw : List Nat), d = (n - k).toNat ∧ 0 ≤ k ∧ k ≤ n ∧ addBoth j.toNat done 0 n (swapRows rows at_.toNat done, swapRows wth at_.toNat done) = addBoth j.toNat done k.toNat (n - k.toNat) (cr, cw) ∧ All64 cr ∧ All64 cw ∧ cr.length = n ∧ cw.length = n ∧ Get s 11 (.int .i64 k) ∧ Get s 8 (.int .i64 j) ∧ Get s 2 (.int .i64 N) ∧ Get s 0 (.slice (some (ad b 0)) n n) ∧ Get s 1 (.slice (some (ad c 0)) n n) ∧ Get s 7 (.int .i64 done) ∧ ObjIs h4 b (u64s cr) 27 y ∧ ObjIs h4 c (u64s cw) 27 z ∧ Fr2 b c h h4 ∧ h4.fresh = h.fresh) n
        ⟨0, swapRows rows at_.toNat done, swapRows wth at_.toNat done, by omega, by omega, by omega, rfl, h64r.swap _ _, h64w.swap _ _, by rw [swapRows_len, hrl], by rw [swapRows_len, hwl], inferInstance, inferInstance, inferInstance, inferInstance, inferInstance, inferInstance, q1, q2, hE4, hF4⟩ ?_
      rintro d s h4 ⟨k, cr, cw, rfl, hk0, hk1, hadd, h64cr, h64cw, hcrl, hcwl, x11, x8, x2, x0, x1, x7, o3, o4, hE5, hF5⟩
      have hlast : ¬ k < n → ∃ d', d' < (N - j).toNat ∧ refK rows0 with0 (j + 1).toNat = ((cr, cw), done + 1) ∧ d' = (N - (j + 1)).toNat := by
        intro hk
        refine ⟨_, ?_, ?_, rfl⟩
        · omega
        · rw [toNat_succ hj0, refK, hrk, refStep]
          simp only [hfi]
          rw [hrl, hadd, show n - k.toNat = 0 by omega]; rfl
      repeat' (first | refine V_seq ?_ | refine V_region ?_ | refine WS_nil ?_ | refine S_normal ?_ | refine V_block ?_ | refine B_normal ?_ | refine V_skip ?_ | refine V_exit ?_ | refine S_exit ?_ | refine B_exit ?_ | refine WS_off rfl (by first | rfl | assumption) ?_ | refine WS_on rfl (by first | rfl | assumption) ?_ | refine WS_move ?_ | refine WS_assign ?_ | refine WS_pick_f (by first | rfl | assumption) ?_ | refine WS_cmp rfl ?_ | refine WS_addi (by omega) ?_ | refine WS_len_slice ?_ | (refine WS_guard rfl ?_ ?_ <;> intro hg) | (refine V_cond ?_ ?_ <;> intro hc <;> try (cases hc; done)))
      · have hk : k < n := by simpa using hc
        have hkd : k.toNat ≠ done := by simp at hg; omega
        have d1 : CellIs h4 b (0 + k.toNat * 1) _ := cell_u64 (rows := cr) (i := k.toNat) o3 (by omega)
        have d2 : CellIs h4 b (0 + (done : Int).toNat * 1) (.int .u64 (cr.getD done 0 : Nat)) := by rw [Int.toNat_natCast]; exact cell_u64 o3 (by omega)
        have d3 : CellIs h4 c (0 + k.toNat * 1) _ := cell_u64 (rows := cw) (i := k.toNat) o4 (by omega)
        have d4 : CellIs h4 c (0 + (done : Int).toNat * 1) (.int .u64 (cw.getD done 0 : Nat)) := by rw [Int.toNat_natCast]; exact cell_u64 o4 (by omega)
        have hrk' := h64cr.get k.toNat
        have hrr := h64cr.get done
        have hwk := h64cw.get k.toNat
        have hwr := h64cw.get done
        have hbk : 0 ≤ k ∧ k < (n : Int) := by omega
        repeat' (first | refine V_seq ?_ | refine V_region ?_ | refine WS_nil ?_ | refine S_normal ?_ | refine B_normal ?_ | refine V_skip ?_ | refine WS_on rfl (by first | rfl | assumption) ?_ | refine WS_move ?_ | refine WS_assign ?_ | refine WS_pick_t (by first | rfl | assumption) ?_ | refine WS_cmp rfl ?_ | refine WS_addi (by omega) ?_ | refine WS_arith rfl ?_ | refine WS_load ?_ | refine WS_shift (by first | decide | omega) rfl ?_ | refine WS_indexAddr (by first | decide | omega) ?_ | (refine V_cond ?_ ?_ <;> intro hc <;> try (cases hc; done)))
        · rw [shr_u64 hj0 hrk', and1_u64 (shr_lt _ hrk')] at hc
          have hbk1 : bitAt (cr.getD k.toNat 0) j.toNat = true := by
            have h1 : cr.getD k.toNat 0 >>> j.toNat &&& 1 = 1 := Int.ofNat_inj.mp (show ((cr.getD k.toNat 0 >>> j.toNat &&& 1 : Nat) : Int) = ((1 : Nat) : Int) from of_decide_eq_true hc)
            unfold bitAt; rw [h1]; rfl
          have t1 : SetIs (u64s cr) (0 + k.toNat * 1) [.int .u64 ((cr.getD k.toNat 0 ^^^ cr.getD done 0 : Nat) : Int)] (u64s (cr.set k.toNat (cr.getD k.toNat 0 ^^^ cr.getD done 0))) := set_u64 _ (by omega)
          rw [← xor_u64 hrk' hrr] at t1
          have t2 : SetIs (u64s cw) (0 + k.toNat * 1) [.int .u64 ((cw.getD k.toNat 0 ^^^ cw.getD done 0 : Nat) : Int)] (u64s (cw.set k.toNat (cw.getD k.toNat 0 ^^^ cw.getD done 0))) := set_u64 _ (by omega)
          rw [← xor_u64 hwk hwr] at t2
          refine V_draw (plan := [.take 0, .take 1, .take 2, .take 3, .take 4, .take 5, .take 6, .take 7, .take 8, .take 9, .one 10]) (by kernel_rfl) ?_
          repeat' (first | refine WS_nil ?_ | refine S_normal ?_ | refine WS_move ?_ | refine WS_arith rfl ?_ | refine WS_indexAddr (by first | decide | omega) ?_ | refine WS_store rfl ?_ | refine WDK_go ?_ | refine WDT_go ?_ | refine WD_nil ?_ | refine WD_load rfl ?_ | refine WD_take rfl rfl ?_ | refine WD_drop rfl rfl ?_)
          refine V_draw (plan := [.take 0, .take 1, .take 2, .take 3, .take 4, .take 5, .take 6, .take 7, .take 8, .take 9, .one 10]) (by kernel_rfl) ?_
          repeat' (first | refine V_region ?_ | refine WS_nil ?_ | refine S_normal ?_ | refine B_normal ?_ | refine WS_move ?_ | refine WS_assign ?_ | refine WS_addi (by omega) ?_ | refine WS_arith rfl ?_ | refine WS_indexAddr (by first | decide | omega) ?_ | refine WS_store rfl ?_ | refine WDK_go ?_ | refine WDT_go ?_ | refine WD_nil ?_ | refine WD_load rfl ?_ | refine WD_take rfl rfl ?_ | refine WD_drop rfl rfl ?_)
          refine ⟨_, ?_, k + 1, cr.set k.toNat (cr.getD k.toNat 0 ^^^ cr.getD done 0), cw.set k.toNat (cw.getD k.toNat 0 ^^^ cw.getD done 0), rfl, by omega, by omega, ?_, h64cr.set (Nat.xor_lt_two_pow hrk' hrr), h64cw.set (Nat.xor_lt_two_pow hwk hwr), by simpa using hcrl, by simpa using hcwl, inferInstance, inferInstance, inferInstance, inferInstance, inferInstance, inferInstance, inferInstance, inferInstance, (hE5.putL ob.even).putR oc.even, by rw [putObj_fresh, putObj_fresh, hF5]⟩
          · omega
          · rw [hadd, toNat_succ hk0, show n - k.toNat = (n - (k.toNat + 1)) + 1 by omega, addBoth]
            rw [if_pos ⟨hkd, hbk1⟩]
        · rw [shr_u64 hj0 hrk', and1_u64 (shr_lt _ hrk')] at hc
          have hbk0 : bitAt (cr.getD k.toNat 0) j.toNat = false := by
            rcases bit_cases (cr.getD k.toNat 0) j.toNat with h1 | h1
            · unfold bitAt; rw [h1]; rfl
            · exact absurd (congrArg (Nat.cast (R := Int)) h1) (of_decide_eq_false hc)
          refine ⟨_, ?_, k + 1, cr, cw, rfl, by omega, by omega, ?_, h64cr, h64cw, hcrl, hcwl, inferInstance, inferInstance, inferInstance, inferInstance, inferInstance, inferInstance, o3, o4, hE5, hF5⟩
          · omega
          · rw [hadd, toNat_succ hk0, show n - k.toNat = (n - (k.toNat + 1)) + 1 by omega, addBoth]
            rw [if_neg (by rintro ⟨_, h2⟩; rw [hbk0] at h2; cases h2)]
      · rename_i hcc
        have hk : k < n := by simpa using hcc
        have hkd : k.toNat = done := by simp at hg; omega
        refine ⟨_, ?_, k + 1, cr, cw, rfl, by omega, by omega, ?_, h64cr, h64cw, hcrl, hcwl, inferInstance, inferInstance, inferInstance, inferInstance, inferInstance, inferInstance, o3, o4, hE5, hF5⟩
        · omega
        · rw [hadd, toNat_succ hk0, show n - k.toNat = (n - (k.toNat + 1)) + 1 by omega, addBoth]
          rw [if_neg (by rintro ⟨h1, _⟩; exact h1 hkd)]
      · obtain ⟨d', hd1, hd2, rfl⟩ := hlast (by simp at hc; omega)
        exact ⟨_, hd1, j + 1, cr, cw, done + 1, rfl, by omega, by omega, hd2, by omega, h64cr, h64cw, inferInstance, inferInstance, inferInstance, inferInstance, inferInstance, o3, o4, hE5, hF5⟩
  · have hj : j = N := by simp at hc; omega
    refine retK_1 ⟨?_, ?_⟩ (.inr rfl)
    · rw [show n = j.toNat by omega, hrk]
    · rw [show n = j.toNat by omega, hrk]; exact ⟨o1, o2, hE, hF⟩
instance : CallIs Try.prog 52 := .of Try.func52 rfl rfl
end Go.Ideal

-- Lk
set_option linter.unusedSimpArgs false
set_option linter.unusedVariables false
namespace Go.Ideal
open Go Go.Proofs
theorem u64s_replicate (n : Nat) : List.replicate n (Value.int .u64 0) = u64s (List.replicate n 0) := by simp [u64s]
theorem All64.replicate (n : Nat) : All64 (List.replicate n 0) := fun x hx => by rw [List.eq_of_mem_replicate hx]; decide
/-- reduced, on slices of one's own, of any length -/
theorem reduced_own (N : Int) (lo : Nat) (v w : Value) (rows0 with0 : List Nat) (h : IHp) (hN : N = rows0.length) (hN1 : N ≤ 64) (hw : with0.length = rows0.length) (ov : Own lo h v (u64s rows0) 27) (ow : Own lo h w (u64s with0) 27) (hvw : ∀ b, blockOf v = some b → blockOf w ≠ some b) (h64 : All64 rows0) (w64 : All64 with0) :
    EvX Try.prog 52 [v, w, .int .i64 N].toArray h (fun r h' => r = .int .i64 ((refK rows0 with0 rows0.length).2 : Nat) ∧ Own lo h' v (u64s (refK rows0 with0 rows0.length).1.1) 27 ∧ Own lo h' w (u64s (refK rows0 with0 rows0.length).1.2) 27 ∧ (∀ h0, Ext h0 h → h0.fresh ≤ lo → Ext h0 h') ∧ (∀ (x : Nat) (l : List Value) (t : TypeId) (e : Bool), ObjIs h x l t e → blockOf v ≠ some x → blockOf w ≠ some x → ObjIs h' x l t e) ∧ h'.fresh = h.fresh) := by
  by_cases hz : rows0.length = 0
  · have hr : rows0 = [] := List.eq_nil_of_length_eq_zero hz
    subst hr
    have hw0 : with0 = [] := List.eq_nil_of_length_eq_zero (by simpa using hw)
    subst hw0
    obtain ⟨a, rfl⟩ := ov.isSlice
    obtain ⟨a', rfl⟩ := ow.isSlice
    have hN0 : N = 0 := by simpa using hN
    subst hN0
    have := reduced_ref_zero a a' h
    unfold EvX at this ⊢
    obtain ⟨r, h', h1, rfl, rfl⟩ := this
    exact ⟨_, _, h1, rfl, ov, ow, fun _ e _ => e, fun _ _ _ _ o _ _ => o, rfl⟩
  · obtain ⟨b, y, hb, rfl, ob⟩ := ov.at (by rw [u64s_len]; omega)
    obtain ⟨c, z, hc, rfl, oc⟩ := ow.at (by rw [u64s_len]; omega)
    have hbc : b ≠ c := fun hh => hvw b rfl (by rw [hh]; rfl)
    rw [u64s_len, u64s_len, hw]
    have := reduced_ref N rows0.length b c y z rows0 with0 h rfl hN hN1 hw ob oc hbc h64 w64
    unfold EvX at this ⊢
    obtain ⟨r, h', h1, h2, h3, h4, h5, h6⟩ := this
    have hl := refK_len rows0 with0 rows0.length
    refine ⟨r, h', h1, h2, .inr ⟨b, y, hb, by rw [u64s_len, hl.1], h3⟩, .inr ⟨c, z, hc, by rw [u64s_len, hl.2, hw], h4⟩, fun h0 e l => h5.ext e (by omega) (by omega), fun x l t e o n1 n2 => h5.obj o (fun hh => n1 (by simp [blockOf, hh])) (fun hh => n2 (by simp [blockOf, hh])), h6⟩
theorem Rank_ref (N : Int) (a : Option Addr) (len cap : Nat) (xs : List Nat) (h : IHp) (hx : SlIs h a len cap (u64s xs)) (h64 : All64 xs) :
    EvX Try.prog 24 [.agg [.int .i64 N, .slice a len cap].toArray].toArray h (fun v h' => Ext h h' ∧ v = if checkS N xs = 0 then .tuple [.int .i64 ((refK xs (List.replicate xs.length 0) xs.length).2 : Nat), .int .i64 0].toArray else .tuple [.int .i64 0, .int .i64 2].toArray) := by
  have hlen : xs.length = len := by have := hx.1; simpa [u64s] using this
  refine EvX_of Try.func24 rfl (by show 1 ≤ 19; decide) ?_
  repeat' (first | refine V_seq ?_ | refine V_region ?_ | refine WS_nil ?_ | refine S_normal ?_ | refine WS_assign ?_ | refine WS_load_agg ?_ | refine WS_box_agg rfl ?_)
  have eX0 : Ext h (h.push (IObj.cells [Value.int IntKind.i64 N, Value.slice a len cap] 50 true)) := Ext.push _ _
  refine WS_call (Check_ref N a len cap xs _ (hx.ext eX0) h64) ?_
  rintro _ H ⟨rfl, eX1⟩
  have eX : Ext h H := eX0.trans eX1
  have b1 : ObjIs H h.fresh [.int .i64 N, .slice a len cap] 50 true := inferInstance
  repeat' (first | refine V_seq ?_ | refine V_region ?_ | refine WS_nil ?_ | refine S_normal ?_ | refine V_skip ?_ | refine V_ret ?_ | refine S_ret ?_ | refine WS_assign ?_ | refine WS_cmp rfl ?_ | refine WS_fieldAddr ?_ | refine WS_load ?_ | refine WS_buildSlice (by decide) rfl rfl (by simp [Value.cells]) ?_ | (refine V_cond ?_ ?_ <;> intro hc <;> try (cases hc; done)))
  · refine retK_2 ⟨eX, ?_⟩ (.inr rfl)
    rw [if_neg]
    simp at hc; simp [hc]
  · have hck : checkS N xs = 0 := by simpa using hc
    obtain ⟨hN0, hN1, hN2, _⟩ := checkS_zero hck
    have e2 : Ext H (H.push (IObj.cells [] 27 true)) := Ext.push _ _
    refine WS_append_copy (lo := H.fresh) ((hx.ext eX).ext e2) (Nat.le_refl _) (by omega) ?_
    intro v H2 hO e3
    have eH2 : Ext H H2 := e2.trans e3
    have b2 : ObjIs H2 h.fresh [.int .i64 N, .slice a len cap] 50 true := ⟨b1.even, eH2.new _ _ b1.eq⟩
    repeat' (first | refine V_seq ?_ | refine WS_nil ?_ | refine S_normal ?_ | refine WS_assign ?_)
    refine V_draw (plan := [.take 0, .take 1, .take 2, .take 4, .take 5, .one 3, .one 6, .take 7, .take 8]) (by kernel_rfl) ?_
    repeat' (first | refine WS_nil ?_ | refine WS_move ?_ | refine WS_fieldAddr ?_ | refine WDT_go ?_ | refine WD_load rfl ?_ | refine WD_take rfl rfl ?_ | refine WD_one rfl ?_)
    refine WS_makeSlice (by omega) (by omega) (by omega) ?_
    rw [u64s_replicate]
    obtain ⟨H3, hH3⟩ : ∃ H, H = H2.push (IObj.cells (u64s (List.replicate N.toNat 0)) 27 true) := ⟨_, rfl⟩
    have e4 : Ext H2 H3 := hH3 ▸ Ext.push _ _
    have o4 : ObjIs H3 H2.fresh (u64s (List.replicate N.toNat 0)) 27 true := hH3 ▸ inferInstance
    rw [← hH3]
    have l1 : (List.replicate N.toNat 0).length = xs.length := by simp; omega
    have hf2 := eH2.fresh
    repeat' (first | refine WS_nil ?_ | refine WDK_go ?_ | refine WD_one rfl ?_)
    have hW : Own H.fresh H3 (.slice (some (ad H2.fresh 0)) N.toNat N.toNat) (u64s (List.replicate N.toNat 0)) 27 := .inr ⟨H2.fresh, true, hf2, by rw [u64s_len]; simp, o4⟩
    refine WS_call (reduced_own N H.fresh v _ xs _ H3 (by omega) hN1 l1 (hO.ext e4) hW (fun b hb hw => by
      have h1 := hO.block hb
      simp only [blockOf, Option.some.injEq] at hw
      omega) h64 (All64.replicate _)) ?_
    rintro _ H4 ⟨rfl, _, _, hE, _, _⟩
    have e5 : Ext H H4 := hE H (eH2.trans e4) (Nat.le_refl _)
    have b4 : ObjIs H4 h.fresh [.int .i64 N, .slice a len cap] 50 true := ⟨b1.even, e5.new _ _ b1.eq⟩
    repeat' (first | refine WS_nil ?_ | refine S_normal ?_ | refine V_ret ?_ | refine WS_assign ?_ | refine WDK_go ?_ | refine WDT_go ?_ | refine WD_nil ?_ | refine WD_take rfl rfl ?_)
    refine retK_2 ⟨eX.trans e5, ?_⟩ (.inr rfl)
    rw [if_pos hck, show N.toNat = xs.length by omega]
instance : CallIs Try.prog 24 := .of Try.func24 rfl rfl
end Go.Ideal

-- Ll
set_option linter.unusedSimpArgs false
set_option linter.unusedVariables false
namespace Go.Ideal
open Go Go.Proofs
theorem eyeS_lt {n : Int} (h : n ≤ 64) : All64 (eyeS n) := fun x hx => by
  simp only [eyeS, List.mem_map, List.mem_range] at hx
  obtain ⟨i, hi, rfl⟩ := hx
  exact Nat.pow_lt_pow_right (by decide) (by omega)
theorem eyeS_length (n : Int) : (eyeS n).length = n.toNat := by simp [eyeS]
set_option maxHeartbeats 1000000 in
theorem Inverse_ref (N : Int) (a : Option Addr) (len cap : Nat) (xs : List Nat) (h : IHp) (hx : SlIs h a len cap (u64s xs)) (h64 : All64 xs) :
    EvX Try.prog 23 [.agg [.int .i64 N, .slice a len cap].toArray].toArray h (fun v h' => Ext h h' ∧
      if checkS N xs = 0 then
        (if (refK xs (eyeS N) xs.length).2 < xs.length then v = .tuple [.agg [.int .i64 0, .slice none 0 0].toArray, .int .i64 200].toArray
         else ∃ sl, v = .tuple [.agg [.int .i64 N, sl].toArray, .int .i64 0].toArray ∧ Own h.fresh h' sl (u64s (refK xs (eyeS N) xs.length).1.2) 27)
      else v = .tuple [.agg [.int .i64 0, .slice none 0 0].toArray, .int .i64 2].toArray) := by
  have hlen : xs.length = len := by have := hx.1; simpa [u64s] using this
  refine EvX_of Try.func23 rfl (by show 1 ≤ 32; decide) ?_
  repeat' (first | refine V_seq ?_ | refine V_region ?_ | refine WS_nil ?_ | refine S_normal ?_ | refine WS_assign ?_ | refine WS_load_agg ?_ | refine WS_box_agg rfl ?_ | refine WS_alloc ?_)
  obtain ⟨H1, hH1⟩ : ∃ H, H = h.push (IObj.cells [Value.int IntKind.i64 N, Value.slice a len cap] 50 true) := ⟨_, rfl⟩
  have f1 : H1.fresh = h.fresh + 2 := by rw [hH1, push_fresh]
  have e1 : Ext h H1 := hH1 ▸ Ext.push _ _
  have p1 : ObjIs H1 h.fresh [.int .i64 N, .slice a len cap] 50 true := hH1 ▸ inferInstance
  rw [← hH1]
  obtain ⟨H2, hH2⟩ : ∃ H, H = H1.push (IObj.cells [Value.int IntKind.i64 0, Value.slice none 0 0] 50 true) := ⟨_, rfl⟩
  have f2 : H2.fresh = h.fresh + 4 := by rw [hH2, push_fresh, f1]
  have e2 : Ext H1 H2 := hH2 ▸ Ext.push _ _
  have p2 : ObjIs H2 H1.fresh [.int .i64 0, .slice none 0 0] 50 true := hH2 ▸ inferInstance
  rw [← hH2]
  have q1 : ObjIs H2 h.fresh [.int .i64 N, .slice a len cap] 50 true := inferInstance
  have e12 : Ext h H2 := e1.trans e2
  refine WS_call (Check_ref N a len cap xs _ (hx.ext e12) h64) ?_
  rintro _ H3 ⟨rfl, e3⟩
  have r1 : ObjIs H3 h.fresh [.int .i64 N, .slice a len cap] 50 true := inferInstance
  have r2 : ObjIs H3 H1.fresh [.int .i64 0, .slice none 0 0] 50 true := inferInstance
  have e13 : Ext h H3 := e12.trans e3
  have g3 := e3.fresh
  have n01 : NeB h.fresh H1.fresh := .fresh (by omega)
  repeat' (first | refine V_seq ?_ | refine V_region ?_ | refine WS_nil ?_ | refine S_normal ?_ | refine V_skip ?_ | refine V_ret ?_ | refine S_ret ?_ | refine WS_assign ?_ | refine WS_cmp rfl ?_ | refine WS_fieldAddr ?_ | refine WS_load ?_ | refine WS_build ?_ | refine WS_store rfl ?_ | refine WS_buildSlice (by decide) rfl rfl (by simp [Value.cells]) ?_ | (refine V_cond ?_ ?_ <;> intro hc <;> try (cases hc; done)))
  · refine retK_ct ⟨e13.putObj (by omega), ?_⟩ (.inr rfl)
    rw [if_neg]
    simp at hc; simp [hc]
  · have hck : checkS N xs = 0 := by simpa using hc
    obtain ⟨hN0, hN1, hN2, _⟩ := checkS_zero hck
    have e4 : Ext H3 (H3.push (IObj.cells [] 27 true)) := Ext.push _ _
    refine WS_append_copy (lo := H3.fresh) ((hx.ext e13).ext e4) (Nat.le_refl _) (by omega) ?_
    intro v H4 hO e5
    have e34 : Ext H3 H4 := e4.trans e5
    have s1 : ObjIs H4 h.fresh [.int .i64 N, .slice a len cap] 50 true := ⟨r1.even, e34.new _ _ r1.eq⟩
    have s2 : ObjIs H4 H1.fresh [.int .i64 0, .slice none 0 0] 50 true := ⟨r2.even, e34.new _ _ r2.eq⟩
    have g4 := e34.fresh
    repeat' (first | refine V_seq ?_ | refine V_region ?_ | refine WS_nil ?_ | refine S_normal ?_ | refine WS_assign ?_ | refine WS_fieldAddr ?_ | refine WS_load ?_)
    refine WS_call (Eye_ref N H4) ?_
    rintro v5 H5 ⟨e6, hv5⟩
    rw [if_pos ⟨hN0, hN1⟩] at hv5
    obtain ⟨sl, rfl, hL⟩ := hv5
    obtain ⟨asl, rfl⟩ := hL.isSlice
    have g5 := e6.fresh
    repeat' (first | refine V_seq ?_ | refine WS_nil ?_ | refine S_normal ?_ | refine WS_move ?_ | refine WS_assign ?_ | refine WS_extract ?_ | refine WS_alloc ?_ | refine WS_store rfl ?_)
    obtain ⟨H6, hH6⟩ : ∃ H, H = ((H5.push (IObj.cells [Value.int IntKind.i64 0, Value.slice none 0 0] 50 true)).put H5.fresh [Value.int IntKind.i64 N, Value.slice asl (u64s (eyeS N)).length (u64s (eyeS N)).length] 50 true) := ⟨_, rfl⟩
    have e7 : Ext H5 H6 := hH6 ▸ (Ext.push _ _).putObj (Nat.le_refl _)
    have u5 : ObjIs H6 H5.fresh [Value.int IntKind.i64 N, Value.slice asl (u64s (eyeS N)).length (u64s (eyeS N)).length] 50 true := hH6 ▸ inferInstance
    have f6 : H6.fresh = H5.fresh + 2 := by rw [hH6, putObj_fresh, push_fresh]
    rw [← hH6]
    have e36 : Ext H3 H6 := (e34.trans e6).trans e7
    have t1 : ObjIs H6 h.fresh [.int .i64 N, .slice a len cap] 50 true := ⟨r1.even, e36.new _ _ r1.eq⟩
    have t2 : ObjIs H6 H1.fresh [.int .i64 0, .slice none 0 0] 50 true := ⟨r2.even, e36.new _ _ r2.eq⟩
    refine V_draw (plan := [.take 0, .take 1, .take 2, .take 3, .take 4, .take 6, .take 7, .one 5, .take 8]) (by kernel_rfl) ?_
    repeat' (first | refine WS_nil ?_ | refine WS_move ?_ | refine WS_fieldAddr ?_ | refine WDT_go ?_ | refine WD_load rfl ?_ | refine WD_take rfl rfl ?_ | refine WD_one rfl ?_)
    have hvb : ∀ b, blockOf v = some b → b < H4.fresh := fun b hb => (hO.block hb).2
    refine WS_call (reduced_own N H3.fresh v _ xs (eyeS N) H6 (by omega) hN1 (by rw [eyeS_length]; omega) (((hO.ext e6).ext e7)) ((hL.ext e7).own.lower (by omega)) (fun b hb hw => by
      have h1 := hvb b hb
      have h2 := hL.block hw
      omega) h64 (eyeS_lt hN1)) ?_
    rintro _ H7 ⟨rfl, _, hW, hE, hK, hF⟩
    have e37 : Ext H3 H7 := hE H3 e36 (Nat.le_refl _)
    have w1 : ObjIs H7 h.fresh [.int .i64 N, .slice a len cap] 50 true := ⟨r1.even, e37.new _ _ r1.eq⟩
    have w2 : ObjIs H7 H1.fresh [.int .i64 0, .slice none 0 0] 50 true := ⟨r2.even, e37.new _ _ r2.eq⟩
    have w5 : ObjIs H7 H5.fresh [Value.int IntKind.i64 N, Value.slice asl (u64s (eyeS N)).length (u64s (eyeS N)).length] 50 true := hK _ _ _ _ u5 (fun hh => by have := hvb _ hh; omega) (fun hh => by have := (hL.ltFresh hh); omega)
    repeat' (first | refine V_seq ?_ | refine V_region ?_ | refine WS_nil ?_ | refine S_normal ?_ | refine V_skip ?_ | refine V_ret ?_ | refine S_ret ?_ | refine WS_assign ?_ | refine WS_cmp rfl ?_ | refine WS_build ?_ | refine WS_store rfl ?_ | refine WDK_go ?_ | refine WDT_go ?_ | refine WD_nil ?_ | refine WD_take rfl rfl ?_ | (refine V_cond ?_ ?_ <;> intro hc <;> try (cases hc; done)))
    · refine retK_ct ⟨(e13.trans e37).putObj (by omega), ?_⟩ (.inr rfl)
      rw [if_pos hck, if_pos (by simp at hc; omega)]
    · have k0 : CellIs H7 H5.fresh 0 _ := ⟨by rw [w5.cell]; rfl⟩
      have k1 : CellIs H7 H5.fresh (0 + 1) _ := ⟨by rw [w5.cell]; rfl⟩
      have kr : RowIs H7 H5.fresh 0 2 _ := inferInstance
      refine WS_load_agg ?_
      repeat' (first | refine WS_nil ?_ | refine S_normal ?_ | refine V_ret ?_ | refine WS_assign ?_ | refine WS_store rfl ?_)
      refine retK_ct ⟨(e13.trans e37).putObj (by omega), ?_⟩ (.inr rfl)
      rw [if_pos hck, if_neg (by simp at hc; omega)]
      refine ⟨_, rfl, ?_⟩
      exact (hW.lower (by omega)).put_ne (fun hh => by have := hL.block hh; omega) r2.even
instance : CallIs Try.prog 23 := .of Try.func23 rfl rfl
end Go.Ideal

-- Lm
set_option linter.unusedSimpArgs false
set_option linter.unusedVariables false
namespace Go.Ideal
open Go Go.Proofs
def stepCells (st : List (Nat × Nat)) : List Value := (st.map fun p => [Value.int .i64 p.1, Value.int .i64 p.2]).flatten
theorem stepCells_add (st : List (Nat × Nat)) (a b : Nat) : stepCells (st ++ [(a, b)]) = stepCells st ++ [.int .i64 a, .int .i64 b] := by simp [stepCells]
theorem retK_0 {P : Program} {E : Env} {s : Nat → Value} {h : IHp} {Φ : Value → IHp → Prop} (k : Φ (.tuple #[]) h) {e : IExit} (he : e = .normal ∨ e = .ret) : retK P E [] Φ e s h := by
  unfold retK; exact ⟨he, [], rfl, k⟩
def addStep (rows : List Nat) (f t : Nat) : List Nat := rows.set t (rows.getD t 0 ^^^ rows.getD f 0)
theorem addStep_len (rows : List Nat) (f t : Nat) : (addStep rows f t).length = rows.length := by simp [addStep]
theorem All64.addStep {rows : List Nat} (h : All64 rows) (f t : Nat) : All64 (addStep rows f t) := h.set (Nat.xor_lt_two_pow (h.get t) (h.get f))
theorem add_spec (f t n rb p4 p5 lo k : Nat) (y : Bool) (rows : List Nat) (st : List (Nat × Nat)) (sv : Value) (h : IHp) (hn : rows.length = n) (hf : f < n) (ht : t < n) (h64 : All64 rows) (h4 : rb < p4) (h5 : p4 < p5) (hlo : p5 < lo) (hlo2 : lo ≤ h.fresh) (hk : st.length = k) (hk2 : k ≤ 2 ^ 20)
    (or_ : ObjIs h rb (u64s rows) 27 y) (o4 : ObjIs h p4 [.slice (some (ad rb 0)) n n] 48 true) (o5 : ObjIs h p5 [sv] 88 true) (hs : LstM 2 lo h sv k (stepCells st) 93) :
    EvX Try.prog 69 [.int .i64 f, .int .i64 t, .pointer (some (ad p4 0)), .pointer (some (ad p5 0))].toArray h (fun v h' => (∃ sv', ObjIs h' p5 [sv'] 88 true ∧ LstM 2 lo h' sv' (k + 1) (stepCells (st ++ [(f, t)])) 93) ∧ ObjIs h' rb (u64s (addStep rows f t)) 27 y ∧ ObjIs h' p4 [.slice (some (ad rb 0)) n n] 48 true ∧ (∀ h0, Ext h0 h → h0.fresh ≤ rb → Ext h0 h') ∧ h.fresh ≤ h'.fresh) := by
  have n1 : NeB p4 rb := .of o4.even or_.even (by omega)
  have n2 : NeB p5 rb := .of o5.even or_.even (by omega)
  have n3 : NeB rb p5 := n2.symm
  have n4 : NeB p4 p5 := .of o4.even o5.even (by omega)
  have c1 : CellIs h rb (0 + (t : Int).toNat * 1) (.int .u64 (rows.getD t 0 : Nat)) := by rw [Int.toNat_natCast]; exact cell_u64 or_ (by omega)
  have c2 : CellIs h rb (0 + (f : Int).toNat * 1) (.int .u64 (rows.getD f 0 : Nat)) := by rw [Int.toNat_natCast]; exact cell_u64 or_ (by omega)
  have s1 : SetIs (u64s rows) (0 + (t : Int).toNat * 1) [.int .u64 ((rows.getD t 0 ^^^ rows.getD f 0 : Nat) : Int)] (u64s (addStep rows f t)) := by rw [Int.toNat_natCast]; exact set_u64 _ (by omega)
  rw [← xor_u64 (h64.get t) (h64.get f)] at s1
  have hb1 : 0 ≤ (t : Int) ∧ (t : Int) < (n : Int) := by omega
  have hb2 : 0 ≤ (f : Int) ∧ (f : Int) < (n : Int) := by omega
  obtain ⟨asv, rfl⟩ := hs.isSlice
  refine EvX_of Try.func69 rfl (by show 4 ≤ 22; decide) ?_
  repeat' (refine V_seq ?_)
  refine V_draw (plan := [.take 0, .take 1, .take 2, .take 3, .take 4, .take 5, .take 6, .take 7, .take 8, .take 9, .one 10]) (by kernel_rfl) ?_
  repeat' (first | refine V_region ?_ | refine WS_nil ?_ | refine S_normal ?_ | refine WS_move ?_ | refine WS_arith rfl ?_ | refine WS_load ?_ | refine WS_build ?_ | refine WS_indexAddr (by first | decide | omega) ?_ | refine WS_store rfl ?_ | refine WS_buildSlice (by decide) rfl rfl (by simp [Value.cells]) ?_ | refine WDK_go ?_ | refine WDT_go ?_ | refine WD_nil ?_ | refine WD_load rfl ?_ | refine WD_take rfl rfl ?_ | refine WD_drop rfl rfl ?_)
  obtain ⟨H1, hH1⟩ : ∃ H, H = h.put rb (u64s (addStep rows f t)) 27 y := ⟨_, rfl⟩
  have f1 : H1.fresh = h.fresh := by rw [hH1, putObj_fresh]
  have q1 : ObjIs H1 rb (u64s (addStep rows f t)) 27 y := hH1 ▸ inferInstance
  have q4 : ObjIs H1 p4 [.slice (some (ad rb 0)) n n] 48 true := hH1 ▸ inferInstance
  have q5 : ObjIs H1 p5 [.slice asv k k] 88 true := hH1 ▸ inferInstance
  have hs1 : LstM 2 lo H1 (.slice asv k k) k (stepCells st) 93 := hH1 ▸ hs.put (fun hh => by have := (hs.block hh).1; omega) or_.even
  have hE1 : ∀ h0, Ext h0 h → h0.fresh ≤ rb → Ext h0 H1 := fun h0 e l => hH1 ▸ e.putObj l
  show WS Try.prog _ _ _ _ _ ((h.put rb (u64s (addStep rows f t)) 27 y).push (IObj.cells [Value.int IntKind.i64 ↑f, Value.int IntKind.i64 ↑t] 93 true))
  rw [show (h.put (ad rb 0).block (u64s (addStep rows f t)) 27 y) = H1 from hH1.symm]
  have c3 : CellIs (H1.push (IObj.cells [Value.int IntKind.i64 ↑f, Value.int IntKind.i64 ↑t] 93 true)) H1.fresh 0 (.int .i64 f) := inferInstance
  refine WS_appendM (m := 2) (lo := lo) (hs1.ext (Ext.push _ _)) (by rw [push_fresh]; omega) (by omega) ?_
  intro v' h2 hL2 m2 hb
  rw [push_fresh] at hb
  have nb5 : blockOf (.slice asv k k) ≠ some p5 := fun hh => by have := (hs1.block hh).1; omega
  have r5 : ObjIs h2 p5 [.slice asv k k] 88 true := m2.obj inferInstance nb5
  have r4 : ObjIs h2 p4 [.slice (some (ad rb 0)) n n] 48 true := m2.obj inferInstance (fun hh => by have := (hs1.block hh).1; omega)
  have r1 : ObjIs h2 rb (u64s (addStep rows f t)) 27 y := m2.obj inferInstance (fun hh => by have := (hs1.block hh).1; omega)
  obtain ⟨a2, rfl⟩ := hL2.isSlice
  repeat' (first | refine WS_nil ?_ | refine WS_store rfl ?_)
  have nv : blockOf (.slice a2 (k + 1) (k + 1)) ≠ some p5 := fun hh => by rw [hb] at hh; have := Option.some.inj hh; omega
  refine retK_0 ⟨⟨_, inferInstance, ?_⟩, inferInstance, inferInstance, ?_, ?_⟩ (.inl rfl)
  · rw [stepCells_add]; exact hL2.put nv o5.even
  · intro h0 e l
    have e2 : Ext h0 (H1.push (IObj.cells [Value.int IntKind.i64 ↑f, Value.int IntKind.i64 ↑t] 93 true)) := (hE1 h0 e l).push' _
    have e3 : Ext h0 h2 := m2.extM e2 (((hs1.ext (Ext.push _ _))).lower (by omega))
    exact e3.putObj (by omega)
  · rw [putObj_fresh]
    have := m2.len
    have h3 : (H1.push (IObj.cells [Value.int IntKind.i64 ↑f, Value.int IntKind.i64 ↑t] 93 true)).fresh = h.fresh + 2 := by rw [push_fresh, f1]
    unfold IHp.fresh at *
    omega
instance : CallIs Try.prog 69 := .of Try.func69 rfl rfl
end Go.Ideal

-- Ln
set_option linter.unusedSimpArgs false
set_option linter.unusedVariables false
namespace Go.Ideal
open Go Go.Proofs
abbrev RSt := List Nat × List (Nat × Nat)
/-- until row j has bit j: rows behind it are added -/
def fixK (j n : Nat) : Nat → Nat → RSt → Option RSt
  | 0, _, _ => none
  | f + 1, i, st => if bitAt (st.1.getD j 0) j = true then some st else if i + 1 = n then none else fixK j n f (i + 1) (if bitAt (st.1.getD (i + 1) 0) j = true then (addStep st.1 (i + 1) j, st.2 ++ [(i + 1, j)]) else st)
def clearK (j : Nat) : Nat → Nat → RSt → RSt
  | _, 0, st => st
  | k, m + 1, st => clearK j (k + 1) m (if k ≠ j ∧ bitAt (st.1.getD k 0) j = true then (addStep st.1 j k, st.2 ++ [(j, k)]) else st)
def redK (xs : List Nat) : Nat → Option RSt
  | 0 => some (xs, [])
  | j + 1 => (redK xs j).bind fun st => (fixK j xs.length (xs.length - j) j st).map (clearK j 0 xs.length)
theorem redK_none {xs : List Nat} {j : Nat} (h : redK xs j = none) : ∀ n, j ≤ n → redK xs n = none := by
  intro n hn
  induction hn with
  | refl => exact h
  | step _ ih => rw [redK, ih]; rfl
theorem bit_one {r : Nat} {j : Int} (hj : 0 ≤ j) (hr : r < 2 ^ 64) (h : decide (ibits BinOp.and IntKind.u64 ((r : Int).fdiv (2 ^ min j.toNat IntKind.u64.bits)) 1 = 1) = true) : bitAt r j.toNat = true := by
  rw [shr_u64 hj hr, and1_u64 (shr_lt _ hr)] at h
  have h1 : r >>> j.toNat &&& 1 = 1 := Int.ofNat_inj.mp (show ((r >>> j.toNat &&& 1 : Nat) : Int) = ((1 : Nat) : Int) from of_decide_eq_true h)
  unfold bitAt; rw [h1]; rfl
theorem bit_not_one {r : Nat} {j : Int} (hj : 0 ≤ j) (hr : r < 2 ^ 64) (h : decide (ibits BinOp.and IntKind.u64 ((r : Int).fdiv (2 ^ min j.toNat IntKind.u64.bits)) 1 = 1) = false) : bitAt r j.toNat = false := by
  rw [shr_u64 hj hr, and1_u64 (shr_lt _ hr)] at h
  rcases bit_cases r j.toNat with h1 | h1
  · unfold bitAt; rw [h1]; rfl
  · exact absurd (congrArg (Nat.cast (R := Int)) h1) (of_decide_eq_false h)
theorem bit_zero {r : Nat} {j : Int} (hj : 0 ≤ j) (hr : r < 2 ^ 64) (h : decide (ibits BinOp.and IntKind.u64 ((r : Int).fdiv (2 ^ min j.toNat IntKind.u64.bits)) 1 = 0) = true) : bitAt r j.toNat = false := by
  rw [shr_u64 hj hr, and1_u64 (shr_lt _ hr)] at h
  have h1 : r >>> j.toNat &&& 1 = 0 := Int.ofNat_inj.mp (show ((r >>> j.toNat &&& 1 : Nat) : Int) = ((0 : Nat) : Int) from of_decide_eq_true h)
  unfold bitAt; rw [h1]; rfl
theorem bit_not_zero {r : Nat} {j : Int} (hj : 0 ≤ j) (hr : r < 2 ^ 64) (h : decide (ibits BinOp.and IntKind.u64 ((r : Int).fdiv (2 ^ min j.toNat IntKind.u64.bits)) 1 = 0) = false) : bitAt r j.toNat = true := by
  rw [shr_u64 hj hr, and1_u64 (shr_lt _ hr)] at h
  rcases bit_cases r j.toNat with h1 | h1
  · exact absurd (congrArg (Nat.cast (R := Int)) h1) (of_decide_eq_false h)
  · unfold bitAt; rw [h1]; rfl
set_option maxHeartbeats 2000000 in
theorem reduced_spec (N : Int) (a : Option Addr) (len cap : Nat) (xs : List Nat) (h : IHp) (hx : SlIs h a len cap (u64s xs)) (h64 : All64 xs) (hck : checkS N xs = 0) :
    EvX Try.prog 45 [.agg [.int .i64 N, .slice a len cap].toArray].toArray h (fun v h' => Ext h h' ∧ match redK xs xs.length with
      | none => v = .tuple [.slice none 0 0, .bool false].toArray
      | some st => ∃ sv, v = .tuple [sv, .bool true].toArray ∧ LstM 2 h.fresh h' sv st.2.length (stepCells st.2) 93) := by
  have hlen : xs.length = len := by have := hx.1; simpa [u64s] using this
  obtain ⟨hN0, hN1, hN2, _⟩ := checkS_zero hck
  refine EvX_of Try.func45 rfl (by show 1 ≤ 71; decide) ?_
  repeat' (first | refine V_seq ?_ | refine V_region ?_ | refine WS_nil ?_ | refine S_normal ?_ | refine WS_assign ?_ | refine WS_fieldAddr ?_ | refine WS_load ?_ | refine WS_box_agg rfl ?_)
  obtain ⟨H, hH⟩ : ∃ H, H = h.push (IObj.cells [Value.int IntKind.i64 N, Value.slice a len cap] 50 true) := ⟨_, rfl⟩
  have f0 : H.fresh = h.fresh + 2 := by rw [hH, push_fresh]
  have e0 : Ext h H := hH ▸ Ext.push _ _
  have b0 : ObjIs H h.fresh [.int .i64 N, .slice a len cap] 50 true := hH ▸ inferInstance
  rw [← hH]
  refine WS_call (Clone_spec a len cap (u64s xs) H (hx.ext e0) (by omega)) ?_
  rintro v H2 ⟨eX2, hO⟩
  have g2 := eX2.fresh
  obtain ⟨av, rfl⟩ := hO.isSlice
  have n02 : NeB h.fresh H2.fresh := .fresh (by omega)
  have b2 : ObjIs H2 h.fresh [.int .i64 N, .slice a len cap] 50 true := inferInstance
  repeat' (first | refine V_seq ?_ | refine V_region ?_ | refine WS_nil ?_ | refine S_normal ?_ | refine V_block ?_ | refine WS_move ?_ | refine WS_assign ?_ | refine WS_fieldAddr ?_ | refine WS_load ?_ | refine WS_makeFunc ?_ | refine WS_alloc ?_ | refine WS_store rfl ?_)
  obtain ⟨H3, hH3⟩ : ∃ H, H = ((H2.push (IObj.cells [Value.slice none 0 0] 48 true)).put H2.fresh [Value.slice av (u64s xs).length (u64s xs).length] 48 true) := ⟨_, rfl⟩
  have f3 : H3.fresh = H2.fresh + 2 := by rw [hH3, putObj_fresh, push_fresh]
  have e3 : Ext H2 H3 := hH3 ▸ (Ext.push _ _).putObj (Nat.le_refl _)
  have o3 : ObjIs H3 H2.fresh [Value.slice av (u64s xs).length (u64s xs).length] 48 true := hH3 ▸ inferInstance
  rw [← hH3]
  obtain ⟨H4, hH4⟩ : ∃ H, H = H3.push (IObj.cells [Value.slice none 0 0] 88 true) := ⟨_, rfl⟩
  have f4 : H4.fresh = H3.fresh + 2 := by rw [hH4, push_fresh]
  have e4 : Ext H3 H4 := hH4 ▸ Ext.push _ _
  have o4 : ObjIs H4 H3.fresh [Value.slice none 0 0] 88 true := hH4 ▸ inferInstance
  have o34 : ObjIs H4 H2.fresh [Value.slice av (u64s xs).length (u64s xs).length] 48 true := ⟨o3.even, e4.new _ _ o3.eq⟩
  rw [← hH4]
  have e04 : Ext H H4 := (eX2.trans e3).trans e4
  have b4 : ObjIs H4 h.fresh [.int .i64 N, .slice a len cap] 50 true := ⟨b0.even, e04.new _ _ b0.eq⟩
  have hO4 : Own H.fresh H4 _ (u64s xs) 27 := (hO.ext e3).ext e4
  skip
  by_cases hz : xs.length = 0
  · have hx0 : xs = [] := List.eq_nil_of_length_eq_zero hz
    subst hx0
    have hN00 : N = 0 := by simpa using hN2.symm
    subst hN00
    refine V_loop (fun d s h' => Get s 16 (.int .i64 0) ∧ Get s 15 (.int .i64 0) ∧ Get s 5 (.pointer (some (ad H3.fresh 0))) ∧ h' = H4) 0 ⟨inferInstance, inferInstance, inferInstance, rfl⟩ ?_
    rintro d s h' ⟨g16, g15, g5, rfl⟩
    repeat' (first | refine V_seq ?_ | refine V_region ?_ | refine WS_nil ?_ | refine S_normal ?_ | refine V_exit ?_ | refine V_ret ?_ | refine S_exit ?_ | refine B_exit ?_ | refine WS_assign ?_ | refine WS_cmp rfl ?_ | refine WS_load ?_ | (refine V_cond ?_ ?_ <;> intro hc <;> try (cases hc; done)))
    refine retK_2 ⟨e0.trans e04, ?_⟩ (.inr rfl)
    exact ⟨_, rfl, .inl ⟨rfl, rfl, rfl⟩⟩
  · obtain ⟨rb, y, hrb, hv, orb⟩ := hO4.at (by rw [u64s_len]; omega)
    have hrb2 : rb < H2.fresh := (hO.block (by rw [hv]; rfl)).2
    simp only [Value.slice.injEq] at hv
    obtain ⟨rfl, _, _⟩ := hv
    rw [u64s_len] at o34 ⊢
    have n4 : NeB H2.fresh rb := .of o34.even orb.even (by omega)
    let FV : Value := Value.func (Fn.func 69) #[] #[Value.pointer (some (ad H2.fresh 0)), Value.pointer (some (ad H3.fresh 0))]
    -- what is kept all the way
    let Inv : List Nat × List (Nat × Nat) → Value → (Nat → Value) → IHp → Prop := fun st sv s h' => All64 st.1 ∧ st.1.length = xs.length ∧ Get s 15 (.int .i64 N) ∧ Get s 1 (.pointer (some (ad h.fresh 0))) ∧ Get s 4 (.pointer (some (ad H2.fresh 0))) ∧ Get s 5 (.pointer (some (ad H3.fresh 0))) ∧ Get s 6 FV ∧ Ext H h' ∧ ObjIs h' rb (u64s st.1) 27 y ∧ ObjIs h' H2.fresh [.slice (some (ad rb 0)) xs.length xs.length] 48 true ∧ ObjIs h' H3.fresh [sv] 88 true ∧ LstM 2 H4.fresh h' sv st.2.length (stepCells st.2) 93 ∧ H4.fresh ≤ h'.fresh
    refine V_loop (fun d s h' => ∃ (j : Int) (st : RSt) (sv : Value), d = (N - j).toNat ∧ 0 ≤ j ∧ j ≤ N ∧ redK xs j.toNat = some st ∧ st.2.length ≤ 128 * j.toNat ∧ Get s 16 (.int .i64 j) ∧ Inv st sv s h') N.toNat
      ⟨0, (xs, []), .slice none 0 0, by omega, by omega, by omega, rfl, by simp, inferInstance, h64, rfl, inferInstance, inferInstance, inferInstance, inferInstance, inferInstance, e04, orb, o34, o4, .inl ⟨rfl, rfl, rfl⟩, Nat.le_refl _⟩ ?_
    rintro d s h' ⟨j, st, sv, rfl, hj0, hj1, hred, hst, g16, h64s, hsl, g15, g1, g4, g5, g6, eX, r1, r4, r5, hL, hF⟩
    have bx : ObjIs h' h.fresh [.int .i64 N, .slice a len cap] 50 true := ⟨b0.even, eX.new _ _ b0.eq⟩
    repeat' (first | refine V_seq ?_ | refine V_region ?_ | refine WS_nil ?_ | refine S_normal ?_ | refine V_block ?_ | refine V_skip ?_ | refine V_exit ?_ | refine V_ret ?_ | refine S_exit ?_ | refine B_exit ?_ | refine WS_move ?_ | refine WS_assign ?_ | refine WS_cmp rfl ?_ | refine WS_load ?_ | (refine V_cond ?_ ?_ <;> intro hc <;> try (cases hc; done)))
    · have hj : j < N := by simpa using hc
      refine V_loop (fun d s h'' => ∃ (i : Int) (st' : RSt) (sv' : Value), d = (N - i).toNat ∧ j ≤ i ∧ i < N ∧ fixK j.toNat xs.length (xs.length - j.toNat) j.toNat st = fixK j.toNat xs.length (xs.length - i.toNat) i.toNat st' ∧ st'.2.length ≤ 128 * j.toNat + i.toNat ∧ Get s 8 (.int .i64 i) ∧ Get s 7 (.int .i64 j) ∧ Get s 16 (.int .i64 j) ∧ Inv st' sv' s h'') (N - j).toNat
        ⟨j, st, sv, by omega, by omega, by omega, rfl, by omega, inferInstance, inferInstance, inferInstance, h64s, hsl, inferInstance, inferInstance, inferInstance, inferInstance, inferInstance, eX, r1, r4, r5, hL, hF⟩ ?_
      rintro d s h'' ⟨i, st', sv', rfl, hi0, hi1, hfix, hst', y8, y7, y16, h64t, htl, y15, y1, y4, y5, y6, eY, q1, q4, q5, hM, hG⟩
      have by_ : ObjIs h'' h.fresh [.int .i64 N, .slice a len cap] 50 true := ⟨b0.even, eY.new _ _ b0.eq⟩
      have hbj : 0 ≤ j ∧ j < (xs.length : Int) := by omega
      have c1 : CellIs h'' rb (0 + j.toNat * 1) _ := cell_u64 (rows := st'.1) (i := j.toNat) q1 (by omega)
      have hrj := h64t.get j.toNat
      repeat' (first | refine V_seq ?_ | refine V_region ?_ | refine WS_nil ?_ | refine S_normal ?_ | refine V_block ?_ | refine V_skip ?_ | refine V_exit ?_ | refine V_ret ?_ | refine S_exit ?_ | refine S_ret ?_ | refine B_exit ?_ | refine B_ret ?_ | refine WS_move ?_ | refine WS_assign ?_ | refine WS_cmp rfl ?_ | refine WS_addi (by omega) ?_ | refine WS_arith rfl ?_ | refine WS_fieldAddr ?_ | refine WS_load ?_ | refine WS_shift (by first | decide | omega) rfl ?_ | refine WS_indexAddr (by first | decide | omega) ?_ | (refine V_cond ?_ ?_ <;> intro hc <;> try (cases hc; done)))
      · rename_i hcb
        have hb0 := bit_zero hj0 hrj hcb
        have hi : i + 1 = N := by simpa using hc
        refine retK_2 ⟨e0.trans eY, ?_⟩ (.inr rfl)
        have hnone : redK xs (j.toNat + 1) = none := by
          rw [redK, hred]
          simp only [Option.bind_some]
          rw [hfix, show xs.length - i.toNat = 0 + 1 by omega, fixK, if_neg (by rw [hb0]; decide), if_pos (by omega)]; rfl
        rw [redK_none hnone _ (by omega)]
      · rename_i hcb
        have hb0 := bit_zero hj0 hrj hcb
        have hi : i + 1 < N := by simp at hc; omega
        have hbi : 0 ≤ i + 1 ∧ i + 1 < (xs.length : Int) := by omega
        have c2 : CellIs h'' rb (0 + (i + 1).toNat * 1) _ := cell_u64 (rows := st'.1) (i := (i + 1).toNat) q1 (by omega)
        have hri := h64t.get (i + 1).toNat
        have hfx : ∀ w : RSt, w = (if bitAt (st'.1.getD (i + 1).toNat 0) j.toNat = true then (addStep st'.1 (i + 1).toNat j.toNat, st'.2 ++ [((i + 1).toNat, j.toNat)]) else st') → fixK j.toNat xs.length (xs.length - j.toNat) j.toNat st = fixK j.toNat xs.length (xs.length - (i + 1).toNat) (i + 1).toNat w := by
          rintro w rfl
          rw [hfix, show xs.length - i.toNat = (xs.length - (i + 1).toNat) + 1 by omega, fixK, if_neg (by rw [hb0]; decide), if_neg (by omega), show i.toNat + 1 = (i + 1).toNat by omega]
        repeat' (first | refine V_region ?_ | refine WS_nil ?_ | refine S_normal ?_ | refine B_normal ?_ | refine V_skip ?_ | refine WS_move ?_ | refine WS_cmp rfl ?_ | refine WS_arith rfl ?_ | refine WS_load ?_ | refine WS_shift (by first | decide | omega) rfl ?_ | refine WS_indexAddr (by first | decide | omega) ?_ | (refine V_cond ?_ ?_ <;> intro hc <;> try (cases hc; done)))
        · have hb1 := bit_one hj0 hri hc
          have hadd := add_spec (i + 1).toNat j.toNat xs.length rb H2.fresh H3.fresh H4.fresh st'.2.length y st'.1 st'.2 sv' h'' htl (by omega) (by omega) h64t (by omega) (by omega) (by omega) hG rfl (by omega) q1 q4 q5 hM
          rw [Int.toNat_of_nonneg (by omega), Int.toNat_of_nonneg hj0] at hadd
          refine WS_callV (a := #[]) (b := #[Value.pointer (some (ad H2.fresh 0)), Value.pointer (some (ad H3.fresh 0))]) (by simpa using hadd) ?_
          rintro v7 H7 ⟨⟨sv7, u5, uL⟩, u1, u4, uE, uF⟩
          repeat' (first | refine WS_nil ?_ | refine B_normal ?_)
          refine ⟨_, ?_, i + 1, (addStep st'.1 (i + 1).toNat j.toNat, st'.2 ++ [((i + 1).toNat, j.toNat)]), sv7, rfl, by omega, by omega, hfx _ (by rw [if_pos hb1]), ?_, inferInstance, inferInstance, inferInstance, h64t.addStep _ _, by rw [addStep_len]; exact htl, inferInstance, inferInstance, inferInstance, inferInstance, inferInstance, uE H eY (by omega), u1, u4, u5, ?_, by omega⟩
          · omega
          · simp only [List.length_append, List.length_cons, List.length_nil]; omega
          · simpa using uL
        · have hb1 := bit_not_one hj0 hri hc
          refine ⟨_, ?_, i + 1, st', sv', rfl, by omega, by omega, hfx _ (by rw [hb1]; rfl), by omega, inferInstance, inferInstance, inferInstance, h64t, htl, inferInstance, inferInstance, inferInstance, inferInstance, inferInstance, eY, q1, q4, q5, hM, hG⟩
          omega
      · have hb1 := bit_not_zero hj0 hrj hc
        have hfx : fixK j.toNat xs.length (xs.length - j.toNat) j.toNat st = some st' := by
          rw [hfix, show xs.length - i.toNat = (xs.length - i.toNat - 1) + 1 by omega, fixK, if_pos hb1]
        refine V_loop (fun d s h3 => ∃ (k : Int) (st3 : RSt) (sv3 : Value), d = (N - k).toNat ∧ 0 ≤ k ∧ k ≤ N ∧ clearK j.toNat 0 xs.length st' = clearK j.toNat k.toNat (xs.length - k.toNat) st3 ∧ st3.2.length ≤ 128 * j.toNat + 64 + k.toNat ∧ Get s 48 (.int .i64 k) ∧ Get s 47 (.int .i64 N) ∧ Get s 7 (.int .i64 j) ∧ Get s 16 (.int .i64 j) ∧ Inv st3 sv3 s h3) N.toNat
          ⟨0, st', sv', by omega, by omega, by omega, rfl, by omega, inferInstance, inferInstance, inferInstance, inferInstance, h64t, htl, inferInstance, inferInstance, inferInstance, inferInstance, inferInstance, eY, q1, q4, q5, hM, hG⟩ ?_
        rintro d s h3 ⟨k, st3, sv3, rfl, hk0, hk1, hclr, hst3, z48, z47, z7, z16, h64u, hul, z15, z1, z4, z5, z6, eZ, t1, t4, t5, hT, hQ⟩
        have hskip : ∀ w : RSt, k < N → w = (if k.toNat ≠ j.toNat ∧ bitAt (st3.1.getD k.toNat 0) j.toNat = true then (addStep st3.1 j.toNat k.toNat, st3.2 ++ [(j.toNat, k.toNat)]) else st3) → clearK j.toNat 0 xs.length st' = clearK j.toNat (k + 1).toNat (xs.length - (k + 1).toNat) w := by
          rintro w hkN rfl
          rw [hclr, show xs.length - k.toNat = (xs.length - (k + 1).toNat) + 1 by omega, clearK, show k.toNat + 1 = (k + 1).toNat by omega]
        repeat' (first | refine V_seq ?_ | refine V_region ?_ | refine WS_nil ?_ | refine S_normal ?_ | refine V_block ?_ | refine B_normal ?_ | refine V_skip ?_ | refine V_exit ?_ | refine S_exit ?_ | refine B_exit ?_ | refine WS_off rfl (by first | rfl | assumption) ?_ | refine WS_on rfl (by first | rfl | assumption) ?_ | refine WS_move ?_ | refine WS_assign ?_ | refine WS_pick_f (by first | rfl | assumption) ?_ | refine WS_cmp rfl ?_ | refine WS_addi (by omega) ?_ | refine WS_load ?_ | (refine WS_guard rfl ?_ ?_ <;> intro hg) | (refine V_cond ?_ ?_ <;> intro hc <;> try (cases hc; done)))
        · have hk : k < N := by simpa using hc
          have hkj : k.toNat ≠ j.toNat := by simp at hg; omega
          have hbk : 0 ≤ k ∧ k < (xs.length : Int) := by omega
          have d1 : CellIs h3 rb (0 + k.toNat * 1) _ := cell_u64 (rows := st3.1) (i := k.toNat) t1 (by omega)
          have hrk := h64u.get k.toNat
          repeat' (first | refine V_region ?_ | refine WS_nil ?_ | refine S_normal ?_ | refine B_normal ?_ | refine V_skip ?_ | refine WS_on rfl (by first | rfl | assumption) ?_ | refine WS_move ?_ | refine WS_pick_t (by first | rfl | assumption) ?_ | refine WS_cmp rfl ?_ | refine WS_addi (by omega) ?_ | refine WS_arith rfl ?_ | refine WS_load ?_ | refine WS_shift (by first | decide | omega) rfl ?_ | refine WS_indexAddr (by first | decide | omega) ?_ | (refine V_cond ?_ ?_ <;> intro hc <;> try (cases hc; done)))
          · have hb2 := bit_one hj0 hrk hc
            have hadd := add_spec j.toNat k.toNat xs.length rb H2.fresh H3.fresh H4.fresh st3.2.length y st3.1 st3.2 sv3 h3 hul (by omega) (by omega) h64u (by omega) (by omega) (by omega) hQ rfl (by omega) t1 t4 t5 hT
            rw [Int.toNat_of_nonneg hk0, Int.toNat_of_nonneg hj0] at hadd
            refine WS_callV (a := #[]) (b := #[Value.pointer (some (ad H2.fresh 0)), Value.pointer (some (ad H3.fresh 0))]) (by simpa using hadd) ?_
            rintro v7 H7 ⟨⟨sv7, u5, uL⟩, u1, u4, uE, uF⟩
            repeat' (first | refine V_region ?_ | refine WS_nil ?_ | refine S_normal ?_ | refine B_normal ?_ | refine WS_move ?_ | refine WS_addi (by omega) ?_)
            refine ⟨_, ?_, k + 1, (addStep st3.1 j.toNat k.toNat, st3.2 ++ [(j.toNat, k.toNat)]), sv7, rfl, by omega, by omega, hskip _ hk (by rw [if_pos ⟨hkj, hb2⟩]), ?_, inferInstance, inferInstance, inferInstance, inferInstance, h64u.addStep _ _, by rw [addStep_len]; exact hul, inferInstance, inferInstance, inferInstance, inferInstance, inferInstance, uE H eZ (by omega), u1, u4, u5, ?_, by omega⟩
            · omega
            · simp only [List.length_append, List.length_cons, List.length_nil]; omega
            · simpa using uL
          · have hb2 := bit_not_one hj0 hrk hc
            refine ⟨_, ?_, k + 1, st3, sv3, rfl, by omega, by omega, hskip _ hk (by rw [if_neg (by rintro ⟨_, h2⟩; rw [hb2] at h2; cases h2)]), by omega, inferInstance, inferInstance, inferInstance, inferInstance, h64u, hul, inferInstance, inferInstance, inferInstance, inferInstance, inferInstance, eZ, t1, t4, t5, hT, hQ⟩
            omega
        · rename_i hcc
          have hk : k < N := by simpa using hcc
          have hkj : k.toNat = j.toNat := by simp at hg; omega
          refine ⟨_, ?_, k + 1, st3, sv3, rfl, by omega, by omega, hskip _ hk (by rw [if_neg (by rintro ⟨h1, _⟩; exact h1 hkj)]), by omega, inferInstance, inferInstance, inferInstance, inferInstance, h64u, hul, inferInstance, inferInstance, inferInstance, inferInstance, inferInstance, eZ, t1, t4, t5, hT, hQ⟩
          omega
        · have hk : k = N := by simp at hc; omega
          refine ⟨_, ?_, j + 1, st3, sv3, rfl, by omega, by omega, ?_, by omega, inferInstance, h64u, hul, inferInstance, inferInstance, inferInstance, inferInstance, inferInstance, eZ, t1, t4, t5, hT, hQ⟩
          · omega
          · rw [toNat_succ hj0, redK, hred]
            simp only [Option.bind_some, hfx, Option.map_some]
            rw [hclr, show xs.length - k.toNat = 0 by omega]; rfl
    · have hj : j = N := by simp at hc; omega
      refine retK_2 ⟨e0.trans eX, ?_⟩ (.inr rfl)
      rw [show xs.length = j.toNat by omega, hred]
      exact ⟨_, rfl, hL.lower (by omega)⟩
instance : CallIs Try.prog 45 := .of Try.func45 rfl rfl
end Go.Ideal

-- Lo
set_option linter.unusedSimpArgs false
set_option linter.unusedVariables false
namespace Go.Ideal
open Go Go.Proofs
def StOk (n : Nat) (l : List (Nat × Nat)) : Prop := ∀ p ∈ l, p.1 < n ∧ p.2 < n
theorem StOk.add {n : Nat} {l : List (Nat × Nat)} (h : StOk n l) {a b : Nat} (ha : a < n) (hb : b < n) : StOk n (l ++ [(a, b)]) := fun p hp => by
  rcases List.mem_append.1 hp with h1 | h1
  · exact h p h1
  · simp at h1; subst h1; exact ⟨ha, hb⟩
theorem fixK_ok {j n : Nat} (hj : j < n) : ∀ (f i : Nat) (st st' : RSt), i < n → StOk n st.2 → fixK j n f i st = some st' → StOk n st'.2 := by
  intro f
  induction f with
  | zero => intro i st st' _ _ h; cases h
  | succ f ih =>
    intro i st st' hi hs h
    rw [fixK] at h
    split at h
    · obtain rfl := Option.some.inj h; exact hs
    · split at h
      · cases h
      · refine ih _ _ _ (by omega) ?_ h
        split
        · exact hs.add (by omega) hj
        · exact hs
theorem clearK_ok {j n : Nat} (hj : j < n) : ∀ (m k : Nat) (st : RSt), k + m ≤ n → StOk n st.2 → StOk n (clearK j k m st).2 := by
  intro m
  induction m with
  | zero => intro k st _ hs; exact hs
  | succ m ih =>
    intro k st hk hs
    rw [clearK]
    refine ih _ _ (by omega) ?_
    split
    · exact hs.add hj (by omega)
    · exact hs
theorem redK_ok (xs : List Nat) : ∀ (j : Nat) (st : RSt), j ≤ xs.length → redK xs j = some st → StOk xs.length st.2 := by
  intro j
  induction j with
  | zero => intro st _ h; simp only [redK, Option.some.injEq] at h; subst h; intro p hp; simp at hp
  | succ j ih =>
    intro st hj h
    simp only [redK, Option.bind_eq_some_iff, Option.map_eq_some_iff] at h
    obtain ⟨s1, h1, s2, h2, rfl⟩ := h
    exact clearK_ok (by omega) _ _ _ (by omega) (fixK_ok (by omega) _ _ _ _ (by omega) (ih _ (by omega) h1) h2)
theorem fixK_len {j n : Nat} : ∀ (f i : Nat) (st st' : RSt), fixK j n f i st = some st' → st'.2.length ≤ st.2.length + f := by
  intro f
  induction f with
  | zero => intro i st st' h; cases h
  | succ f ih =>
    intro i st st' h
    rw [fixK] at h
    split at h
    · obtain rfl := Option.some.inj h; omega
    · split at h
      · cases h
      · have := ih _ _ _ h
        split at this
        · simp at this; omega
        · omega
theorem clearK_len {j : Nat} : ∀ (m k : Nat) (st : RSt), (clearK j k m st).2.length ≤ st.2.length + m := by
  intro m
  induction m with
  | zero => intro k st; exact Nat.le_refl _
  | succ m ih =>
    intro k st
    rw [clearK]
    have := ih (k + 1) (if k ≠ j ∧ bitAt (st.1.getD k 0) j = true then (addStep st.1 j k, st.2 ++ [(j, k)]) else st)
    split at this
    · rename_i hh; rw [if_pos hh]; simp at this ⊢; omega
    · rename_i hh; rw [if_neg hh]; omega
theorem redK_len (xs : List Nat) : ∀ (j : Nat) (st : RSt), redK xs j = some st → st.2.length ≤ j * (2 * xs.length) := by
  intro j
  induction j with
  | zero => intro st h; simp only [redK, Option.some.injEq] at h; subst h; simp
  | succ j ih =>
    intro st h
    simp only [redK, Option.bind_eq_some_iff, Option.map_eq_some_iff] at h
    obtain ⟨s1, h1, s2, h2, rfl⟩ := h
    have a1 := ih _ h1
    have a2 := fixK_len _ _ _ _ h2
    have a3 := clearK_len (j := j) xs.length 0 s2
    rw [Nat.add_one_mul]
    omega
def doSteps (rows : List Nat) (l : List (Nat × Nat)) : List Nat := l.foldl (fun r p => addStep r p.1 p.2) rows
theorem doSteps_len (l : List (Nat × Nat)) : ∀ rows : List Nat, (doSteps rows l).length = rows.length := by
  induction l with
  | nil => intro rows; rfl
  | cons p l ih => intro rows; simp only [doSteps, List.foldl_cons]; exact (ih _).trans (addStep_len _ _ _)
theorem doSteps_64 (l : List (Nat × Nat)) : ∀ rows : List Nat, All64 rows → All64 (doSteps rows l) := by
  induction l with
  | nil => intro rows h; exact h
  | cons p l ih => intro rows h; simp only [doSteps, List.foldl_cons]; exact ih _ (h.addStep _ _)
theorem doSteps_take {rows : List Nat} {l : List (Nat × Nat)} {i : Nat} {p : Nat × Nat} (hp : l[i]? = some p) : doSteps rows (l.take (i + 1)) = addStep (doSteps rows (l.take i)) p.1 p.2 := by
  simp [doSteps, List.take_add_one, hp, List.foldl_append]
theorem stepCells_at : ∀ (l : List (Nat × Nat)) (i : Nat) (p : Nat × Nat), l[i]? = some p → (stepCells l)[i * 2]? = some (.int .i64 p.1) ∧ (stepCells l)[i * 2 + 1]? = some (.int .i64 p.2) := by
  intro l
  induction l with
  | nil => intro i p h; simp at h
  | cons q l ih =>
    intro i p h
    cases i with
    | zero => simp at h; subst h; simp [stepCells]
    | succ i =>
      obtain ⟨h1, h2⟩ := ih i p (by simpa using h)
      have : stepCells (q :: l) = [.int .i64 q.1, .int .i64 q.2] ++ stepCells l := by simp [stepCells]
      rw [this, show (i + 1) * 2 = i * 2 + 2 by omega]
      constructor
      · rw [List.getElem?_append_right (by simp)]; simpa using h1
      · rw [List.getElem?_append_right (by simp)]; simpa using h2
set_option maxHeartbeats 2000000 in
theorem Inverse_spec (N : Int) (a : Option Addr) (len cap : Nat) (xs : List Nat) (h : IHp) (hx : SlIs h a len cap (u64s xs)) (h64 : All64 xs) :
    EvX Try.prog 20 [.agg [.int .i64 N, .slice a len cap].toArray].toArray h (fun v h' => Ext h h' ∧
      if checkS N xs = 0 then
        match redK xs xs.length with
        | none => v = .tuple [.agg [.int .i64 0, .slice none 0 0].toArray, .int .i64 200].toArray
        | some st => ∃ sl, v = .tuple [.agg [.int .i64 N, sl].toArray, .int .i64 0].toArray ∧ Own h.fresh h' sl (u64s (doSteps (eyeS N) st.2)) 27
      else v = .tuple [.agg [.int .i64 0, .slice none 0 0].toArray, .int .i64 (checkS N xs)].toArray) := by
  have hlen : xs.length = len := by have := hx.1; simpa [u64s] using this
  refine EvX_of Try.func20 rfl (by show 1 ≤ 53; decide) ?_
  repeat' (first | refine V_seq ?_ | refine V_region ?_ | refine WS_nil ?_ | refine S_normal ?_ | refine WS_assign ?_ | refine WS_load_agg ?_ | refine WS_box_agg rfl ?_ | refine WS_alloc ?_)
  obtain ⟨H1, hH1⟩ : ∃ H, H = h.push (IObj.cells [Value.int IntKind.i64 N, Value.slice a len cap] 50 true) := ⟨_, rfl⟩
  have f1 : H1.fresh = h.fresh + 2 := by rw [hH1, push_fresh]
  have e1 : Ext h H1 := hH1 ▸ Ext.push _ _
  have p1 : ObjIs H1 h.fresh [.int .i64 N, .slice a len cap] 50 true := hH1 ▸ inferInstance
  rw [← hH1]
  obtain ⟨H2, hH2⟩ : ∃ H, H = H1.push (IObj.cells [Value.int IntKind.i64 0, Value.slice none 0 0] 50 true) := ⟨_, rfl⟩
  have f2 : H2.fresh = h.fresh + 4 := by rw [hH2, push_fresh, f1]
  have e2 : Ext H1 H2 := hH2 ▸ Ext.push _ _
  have p2 : ObjIs H2 H1.fresh [.int .i64 0, .slice none 0 0] 50 true := hH2 ▸ inferInstance
  rw [← hH2]
  have q1 : ObjIs H2 h.fresh [.int .i64 N, .slice a len cap] 50 true := inferInstance
  have e12 : Ext h H2 := e1.trans e2
  refine WS_call (Check_spec N a len cap xs _ (hx.ext e12) h64) ?_
  rintro _ H3 ⟨rfl, e3⟩
  have r1 : ObjIs H3 h.fresh [.int .i64 N, .slice a len cap] 50 true := inferInstance
  have r2 : ObjIs H3 H1.fresh [.int .i64 0, .slice none 0 0] 50 true := inferInstance
  have e13 : Ext h H3 := e12.trans e3
  have g3 := e3.fresh
  have n01 : NeB h.fresh H1.fresh := .fresh (by omega)
  repeat' (first | refine V_seq ?_ | refine V_region ?_ | refine WS_nil ?_ | refine S_normal ?_ | refine V_skip ?_ | refine V_ret ?_ | refine S_ret ?_ | refine WS_move ?_ | refine WS_assign ?_ | refine WS_cmp rfl ?_ | refine WS_load_agg ?_ | refine WS_build ?_ | refine WS_store rfl ?_ | (refine V_cond ?_ ?_ <;> intro hc <;> try (cases hc; done)))
  · refine retK_ct ⟨e13.putObj (by omega), ?_⟩ (.inr rfl)
    rw [if_neg]
    simp at hc; simp [hc]
  · have hck : checkS N xs = 0 := by simpa using hc
    obtain ⟨hN0, hN1, hN2, _⟩ := checkS_zero hck
    refine WS_call (reduced_spec N a len cap xs _ (hx.ext e13) h64 hck) ?_
    rintro v4 H4 ⟨e4, hv4⟩
    have s1 : ObjIs H4 h.fresh [.int .i64 N, .slice a len cap] 50 true := ⟨r1.even, e4.new _ _ r1.eq⟩
    have s2 : ObjIs H4 H1.fresh [.int .i64 0, .slice none 0 0] 50 true := ⟨r2.even, e4.new _ _ r2.eq⟩
    have e14 : Ext h H4 := e13.trans e4
    have g4 := e4.fresh
    cases hr : redK xs xs.length with
    | none =>
      rw [hr] at hv4
      subst hv4
      repeat' (first | refine V_seq ?_ | refine V_region ?_ | refine WS_nil ?_ | refine S_normal ?_ | refine V_ret ?_ | refine S_ret ?_ | refine WS_move ?_ | refine WS_assign ?_ | refine WS_not ?_ | refine WS_extract ?_ | refine WS_build ?_ | refine WS_store rfl ?_ | (refine V_cond ?_ ?_ <;> intro hc <;> try (cases hc; done)))
      refine retK_ct ⟨e14.putObj (by omega), ?_⟩ (.inr rfl)
      rw [if_pos hck]
    | some st =>
      rw [hr] at hv4
      obtain ⟨sv, rfl, hS⟩ := hv4
      obtain ⟨asv, rfl⟩ := hS.isSlice
      repeat' (first | refine V_seq ?_ | refine V_region ?_ | refine WS_nil ?_ | refine S_normal ?_ | refine V_skip ?_ | refine WS_move ?_ | refine WS_assign ?_ | refine WS_not ?_ | refine WS_fieldAddr ?_ | refine WS_load ?_ | refine WS_extract ?_ | (refine V_cond ?_ ?_ <;> intro hc <;> try (cases hc; done)))
      refine WS_call (Eye_spec N H4) ?_
      rintro v5 H5 ⟨e5, hv5⟩
      rw [if_pos ⟨hN0, hN1⟩] at hv5
      obtain ⟨sl, rfl, hL⟩ := hv5
      obtain ⟨asl, hasl⟩ := hL.isSlice
      have hnx : N.toNat = xs.length := by omega
      rw [u64s_len, eyeS_length, hnx] at hasl
      subst hasl
      have g5 := e5.fresh
      repeat' (first | refine V_seq ?_ | refine V_region ?_ | refine WS_nil ?_ | refine S_normal ?_ | refine V_block ?_ | refine WS_move ?_ | refine WS_assign ?_ | refine WS_len_slice ?_ | refine WS_extract ?_ | refine WS_alloc ?_ | refine WS_store rfl ?_)
      obtain ⟨H6, hH6⟩ : ∃ H, H = ((H5.push (IObj.cells [Value.int IntKind.i64 0, Value.slice none 0 0] 50 true)).put H5.fresh [Value.int IntKind.i64 N, Value.slice asl xs.length xs.length] 50 true) := ⟨_, rfl⟩
      have e6 : Ext H5 H6 := hH6 ▸ (Ext.push _ _).putObj (Nat.le_refl _)
      have u5 : ObjIs H6 H5.fresh [Value.int IntKind.i64 N, Value.slice asl xs.length xs.length] 50 true := hH6 ▸ inferInstance
      have f6 : H6.fresh = H5.fresh + 2 := by rw [hH6, putObj_fresh, push_fresh]
      rw [← hH6]
      have hslen := redK_len xs xs.length st hr
      have hsb : st.2.length ≤ 2 ^ 20 := by
        have : xs.length * (2 * xs.length) ≤ 64 * (2 * 64) := Nat.mul_le_mul (by omega) (by omega)
        omega
      have hsok := redK_ok xs xs.length st (Nat.le_refl _) hr
      have hOw0 : Own H4.fresh H6 (Value.slice asl xs.length xs.length) (u64s (eyeS N)) 27 := (hL.ext e6).own
      have hbl : ∀ b, blockOf (Value.slice asl xs.length xs.length) = some b → H4.fresh ≤ b ∧ b < H5.fresh := fun b hb => ⟨hL.block hb, hL.ltFresh hb⟩
      refine V_loop (fun d s h' => ∃ (i : Int), d = (st.2.length - i).toNat ∧ 0 ≤ i ∧ i ≤ st.2.length ∧ Get s 33 (.int .i64 i) ∧ Get s 32 (.int .i64 st.2.length) ∧ Get s 31 (.slice asv st.2.length st.2.length) ∧ Get s 7 (.pointer (some (ad H5.fresh 0))) ∧ Get s 2 (.pointer (some (ad H1.fresh 0))) ∧ Ext H4 h' ∧ ObjIs h' H5.fresh [Value.int IntKind.i64 N, Value.slice asl xs.length xs.length] 50 true ∧ Own H4.fresh h' (Value.slice asl xs.length xs.length) (u64s (doSteps (eyeS N) (st.2.take i.toNat))) 27 ∧ H6.fresh ≤ h'.fresh) st.2.length
        ⟨0, by omega, by omega, by omega, inferInstance, inferInstance, inferInstance, inferInstance, inferInstance, e5.trans e6, u5, by simpa [doSteps] using hOw0, Nat.le_refl _⟩ ?_
      rintro d s h' ⟨i, rfl, hi0, hi1, y33, y32, y31, y7, y2, eX, w5, hO, hG⟩
      have w2 : ObjIs h' H1.fresh [.int .i64 0, .slice none 0 0] 50 true := ⟨s2.even, eX.new _ _ s2.eq⟩
      have n15 : NeB H5.fresh H1.fresh := .fresh' (by omega)
      repeat' (first | refine V_seq ?_ | refine V_region ?_ | refine WS_nil ?_ | refine S_normal ?_ | refine V_block ?_ | refine V_skip ?_ | refine V_exit ?_ | refine V_ret ?_ | refine S_exit ?_ | refine B_exit ?_ | refine WS_assign ?_ | refine WS_cmp rfl ?_ | refine WS_load_agg ?_ | refine WS_store rfl ?_ | (refine V_cond ?_ ?_ <;> intro hc <;> try (cases hc; done)))
      · have hi : i < st.2.length := by simpa using hc
        obtain ⟨p, hp⟩ : ∃ p, st.2[i.toNat]? = some p := ⟨st.2[i.toNat]'(by omega), List.getElem?_eq_getElem _⟩
        obtain ⟨hp1, hp2⟩ := hsok p (List.mem_of_getElem? hp)
        obtain ⟨hc1, hc2⟩ := stepCells_at _ _ _ hp
        rcases hS with ⟨_, hz, _⟩ | ⟨bS, hbS, hvS, oS, _, _⟩
        · omega
        simp only [Value.slice.injEq] at hvS
        obtain ⟨rfl, _, _⟩ := hvS
        have oS' : ObjIs h' bS (stepCells st.2) 93 false := ⟨oS.even, eX.new _ _ oS.eq⟩
        have k1 : CellIs h' bS (0 + i.toNat * 2) (.int .i64 p.1) := ⟨by rw [oS'.cell, Nat.zero_add]; exact hc1⟩
        have k2 : CellIs h' bS (0 + i.toNat * 2 + 1) (.int .i64 p.2) := ⟨by rw [oS'.cell, Nat.zero_add]; exact hc2⟩
        have hii : 0 ≤ i ∧ i < (st.2.length : Int) := by omega
        repeat' (first | refine WS_nil ?_ | refine S_normal ?_ | refine WS_load_agg ?_ | refine WS_indexAddr (by first | decide | omega) ?_ | refine WS_alloc ?_ | refine WS_store rfl ?_)
        obtain ⟨H7, hH7⟩ : ∃ H, H = ((h'.push (IObj.cells [Value.int IntKind.i64 0, Value.int IntKind.i64 0] 93 true)).put h'.fresh [Value.int IntKind.i64 p.1, Value.int IntKind.i64 p.2] 93 true) := ⟨_, rfl⟩
        have e7 : Ext h' H7 := hH7 ▸ (Ext.push _ _).putObj (Nat.le_refl _)
        have x7 : ObjIs H7 h'.fresh [Value.int IntKind.i64 p.1, Value.int IntKind.i64 p.2] 93 true := hH7 ▸ inferInstance
        have f7 : H7.fresh = h'.fresh + 2 := by rw [hH7, putObj_fresh, push_fresh]
        rw [← hH7]
        have hO7 := hO.ext e7
        have hdl : (doSteps (eyeS N) (st.2.take i.toNat)).length = xs.length := by rw [doSteps_len, eyeS_length]; omega
        have hd64 : All64 (doSteps (eyeS N) (st.2.take i.toNat)) := doSteps_64 _ _ (eyeS_lt hN1)
        obtain ⟨rb, y, hrb, hvr, orb⟩ := hO7.at (by rw [u64s_len]; omega)
        have hlb := hbl rb (by rw [hvr]; rfl)
        rw [u64s_len, hdl] at hvr
        have w7 : ObjIs H7 H5.fresh [Value.int IntKind.i64 N, Value.slice (some (ad rb 0)) xs.length xs.length] 50 true := by rw [← hvr]; exact ⟨w5.even, e7.new _ _ w5.eq⟩
        have w7' := w7
        have n1 : NeB H5.fresh rb := .of w5.even orb.even (by omega)
        have n2 : NeB h'.fresh rb := .of x7.even orb.even (by omega)
        have m0 : CellIs H7 H5.fresh (0 + 1) (.slice (some (ad rb 0)) xs.length xs.length) := ⟨by rw [w7.cell]; rfl⟩
        have m1 : CellIs H7 h'.fresh (0 + 0) (.int .i64 p.1) := ⟨by rw [x7.cell]; rfl⟩
        have m2 : CellIs H7 h'.fresh (0 + 1) (.int .i64 p.2) := ⟨by rw [x7.cell]; rfl⟩
        have m3 : CellIs H7 rb (0 + (p.1 : Int).toNat * 1) (.int .u64 ((doSteps (eyeS N) (st.2.take i.toNat)).getD p.1 0 : Nat)) := by rw [Int.toNat_natCast]; exact cell_u64 orb (by omega)
        have m4 : CellIs H7 rb (0 + (p.2 : Int).toNat * 1) (.int .u64 ((doSteps (eyeS N) (st.2.take i.toNat)).getD p.2 0 : Nat)) := by rw [Int.toNat_natCast]; exact cell_u64 orb (by omega)
        have z1 : SetIs (u64s (doSteps (eyeS N) (st.2.take i.toNat))) (0 + (p.2 : Int).toNat * 1) [.int .u64 (((doSteps (eyeS N) (st.2.take i.toNat)).getD p.2 0 ^^^ (doSteps (eyeS N) (st.2.take i.toNat)).getD p.1 0 : Nat) : Int)] (u64s (addStep (doSteps (eyeS N) (st.2.take i.toNat)) p.1 p.2)) := by rw [Int.toNat_natCast]; exact set_u64 _ (by omega)
        rw [← xor_u64 (hd64.get p.2) (hd64.get p.1)] at z1
        have b1 : 0 ≤ (p.1 : Int) ∧ (p.1 : Int) < (xs.length : Int) := by omega
        have b2 : 0 ≤ (p.2 : Int) ∧ (p.2 : Int) < (xs.length : Int) := by omega
        refine V_draw (plan := [.take 0, .take 1, .take 2, .take 3, .take 4, .take 5, .take 6, .take 7, .take 8, .take 9, .take 10, .take 11, .take 12, .take 13, .one 14]) (by kernel_rfl) ?_
        repeat' (first | refine V_region ?_ | refine WS_nil ?_ | refine S_normal ?_ | refine B_normal ?_ | refine WS_move ?_ | refine WS_addi (by omega) ?_ | refine WS_arith rfl ?_ | refine WS_fieldAddr ?_ | refine WS_indexAddr (by first | decide | omega) ?_ | refine WS_store rfl ?_ | refine WDK_go ?_ | refine WDT_go ?_ | refine WD_nil ?_ | refine WD_load rfl ?_ | refine WD_take rfl rfl ?_ | refine WD_drop rfl rfl ?_)
        refine ⟨_, ?_, i + 1, rfl, by omega, by omega, inferInstance, inferInstance, inferInstance, inferInstance, inferInstance, (eX.trans e7).putObj (by omega), ?_, ?_, by rw [putObj_fresh]; omega⟩
        · omega
        · rw [hvr]; infer_instance
        · rw [toNat_succ hi0, doSteps_take hp, hvr]
          exact .inr ⟨rb, y, hrb, by rw [u64s_len, addStep_len, hdl], inferInstance⟩
      · have hi : i = st.2.length := by simp at hc; omega
        have k0 : CellIs h' H5.fresh 0 _ := ⟨by rw [w5.cell]; rfl⟩
        have k1 : CellIs h' H5.fresh (0 + 1) _ := ⟨by rw [w5.cell]; rfl⟩
        have kr : RowIs h' H5.fresh 0 2 _ := inferInstance
        skip
        refine retK_ct ⟨(e14.trans eX).putObj (by omega), ?_⟩ (.inr rfl)
        rw [if_pos hck]
        rw [hi, Int.toNat_natCast, List.take_length] at hO
        refine ⟨_, rfl, (hO.lower (by omega)).put_ne (fun hh => by have := hbl _ hh; omega) r2.even⟩
instance : CallIs Try.prog 20 := .of Try.func20 rfl rfl
end Go.Ideal

-- Pa
set_option linter.unusedSimpArgs false
set_option linter.unusedVariables false
namespace Go.Ideal
open Go Go.Proofs
theorem getD_set (rows : List Nat) (i k w : Nat) (hi : i < rows.length) : (rows.set i w).getD k 0 = if k = i then w else rows.getD k 0 := by
  simp only [List.getD_eq_getElem?_getD, List.getElem?_set]
  by_cases h : i = k
  · subst h; simp [hi]
  · rw [if_neg h, if_neg (fun hh => h hh.symm)]
theorem addRows_get (j r : Nat) : ∀ (n k : Nat) (rows : List Nat), r < k → k + n ≤ rows.length → ∀ i, (addRows j r k n rows).getD i 0 = if k ≤ i ∧ i < k + n ∧ bitAt (rows.getD i 0) j = true then rows.getD i 0 ^^^ rows.getD r 0 else rows.getD i 0 := by
  intro n
  induction n with
  | zero => intro k rows _ _ i; rw [addRows, if_neg (by omega)]
  | succ n ih =>
    intro k rows hr hk i
    rw [addRows]
    by_cases hb : bitAt (rows.getD k 0) j = true
    · rw [if_pos hb, ih (k + 1) _ (by omega) (by simp; omega) i]
      rw [getD_set _ _ _ _ (by omega), getD_set _ _ _ _ (by omega), if_neg (show ¬ r = k by omega)]
      by_cases hik : i = k
      · subst hik
        rw [if_neg (by omega), if_pos rfl, if_pos ⟨Nat.le_refl _, by omega, hb⟩]
      · rw [if_neg hik]
        by_cases h2 : k + 1 ≤ i ∧ i < k + 1 + n ∧ bitAt (rows.getD i 0) j = true
        · rw [if_pos h2, if_pos ⟨by omega, by omega, h2.2.2⟩]
        · rw [if_neg h2, if_neg (by rintro ⟨a, b, c⟩; exact h2 ⟨by omega, by omega, c⟩)]
    · rw [if_neg hb, ih (k + 1) _ (by omega) (by omega) i]
      by_cases hik : i = k
      · subst hik
        rw [if_neg (by omega), if_neg (by rintro ⟨_, _, c⟩; exact hb c)]
      · by_cases h2 : k + 1 ≤ i ∧ i < k + 1 + n ∧ bitAt (rows.getD i 0) j = true
        · rw [if_pos h2, if_pos ⟨by omega, by omega, h2.2.2⟩]
        · rw [if_neg h2, if_neg (by rintro ⟨a, b, c⟩; exact h2 ⟨by omega, by omega, c⟩)]
theorem addBoth_get (j r : Nat) : ∀ (n k : Nat) (st : List Nat × List Nat), k + n ≤ st.1.length → ∀ i, (addBoth j r k n st).1.getD i 0 = if k ≤ i ∧ i < k + n ∧ i ≠ r ∧ bitAt (st.1.getD i 0) j = true then st.1.getD i 0 ^^^ st.1.getD r 0 else st.1.getD i 0 := by
  intro n
  induction n with
  | zero => intro k st _ i; rw [addBoth, if_neg (by omega)]
  | succ n ih =>
    intro k st hk i
    rw [addBoth]
    by_cases hb : k ≠ r ∧ bitAt (st.1.getD k 0) j = true
    · rw [if_pos hb, ih (k + 1) _ (by simp; omega) i]
      simp only
      rw [getD_set _ _ _ _ (by omega), getD_set _ _ _ _ (by omega), if_neg (show ¬ r = k from fun h => hb.1 h.symm)]
      by_cases hik : i = k
      · subst hik
        rw [if_neg (by omega), if_pos rfl, if_pos ⟨Nat.le_refl _, by omega, hb⟩]
      · rw [if_neg hik]
        by_cases h2 : k + 1 ≤ i ∧ i < k + 1 + n ∧ i ≠ r ∧ bitAt (st.1.getD i 0) j = true
        · rw [if_pos h2, if_pos ⟨by omega, by omega, h2.2.2⟩]
        · rw [if_neg h2, if_neg (by rintro ⟨a, b, c⟩; exact h2 ⟨by omega, by omega, c⟩)]
    · rw [if_neg hb, ih (k + 1) _ (by omega) i]
      by_cases hik : i = k
      · subst hik
        rw [if_neg (by omega), if_neg (by rintro ⟨_, _, c⟩; exact hb c)]
      · by_cases h2 : k + 1 ≤ i ∧ i < k + 1 + n ∧ i ≠ r ∧ bitAt (st.1.getD i 0) j = true
        · rw [if_pos h2, if_pos ⟨by omega, by omega, h2.2.2⟩]
        · rw [if_neg h2, if_neg (by rintro ⟨a, b, c⟩; exact h2 ⟨by omega, by omega, c⟩)]
theorem findRow_congr {r r' : List Nat} {j : Nat} : ∀ (n i : Nat), (∀ k, i ≤ k → r.getD k 0 = r'.getD k 0) → findRow r j i n = findRow r' j i n := by
  intro n
  induction n with
  | zero => intro i _; rfl
  | succ n ih => intro i h; rw [findRow, findRow, h i (Nat.le_refl _), ih (i + 1) fun k hk => h k (by omega)]
theorem swap_get {rows : List Nat} {i k : Nat} (hi : i < rows.length) (hk : k < rows.length) (x : Nat) : (swapRows rows i k).getD x 0 = if x = k then rows.getD i 0 else if x = i then rows.getD k 0 else rows.getD x 0 := by
  rw [swapRows, getD_set _ _ _ _ (by simpa using hk), getD_set _ _ _ _ hi]
theorem rank_same (xs w : List Nat) : ∀ j, (rankK xs j).2 = (refK xs w j).2 ∧ ∀ i, (rankK xs j).2 ≤ i → (rankK xs j).1.getD i 0 = (refK xs w j).1.1.getD i 0 := by
  intro j
  induction j with
  | zero => exact ⟨rfl, fun _ _ => rfl⟩
  | succ j ih =>
    have l1 := rankK_len xs j
    have l2 := (refK_len xs w j).1
    rw [rankK, refK]
    generalize rankK xs j = A at *
    generalize refK xs w j = B at *
    obtain ⟨h1, h2⟩ := ih
    unfold rankStep refStep
    have hf : findRow B.1.1 j B.2 (B.1.1.length - B.2) = findRow A.1 j A.2 (A.1.length - A.2) := by
      rw [← h1, l1, l2]
      exact (findRow_congr _ _ h2).symm
    rw [hf]
    cases hfr : findRow A.1 j A.2 (A.1.length - A.2) with
    | none => exact ⟨h1, h2⟩
    | some i =>
      obtain ⟨g1, g2, g3⟩ := findRow_some _ _ _ hfr
      simp only
      refine ⟨by rw [h1], fun x hx => ?_⟩
      rw [addRows_get _ _ _ _ _ (by omega) (by rw [swapRows_len]; omega), ← h1, addBoth_get _ _ _ _ _ (by simp only [swapRows_len]; omega)]
      simp only
      rw [swap_get (by omega) (by omega), swap_get (by omega) (by omega), swap_get (by omega) (by omega), swap_get (by omega) (by omega)]
      have e1 : B.1.1.getD i 0 = A.1.getD i 0 := (h2 i (by omega)).symm
      have e2 : B.1.1.getD A.2 0 = A.1.getD A.2 0 := (h2 _ (by omega)).symm
      have e3 : B.1.1.getD x 0 = A.1.getD x 0 := (h2 _ (by omega)).symm
      rw [e1, e2, e3, l1, l2]
      simp only [if_true, show ¬ x = A.2 by omega, if_false]
      congr 1
      apply propext
      constructor
      · rintro ⟨_, b, c⟩; exact ⟨by omega, by omega, by omega, c⟩
      · rintro ⟨_, b, _, c⟩; exact ⟨by omega, by omega, c⟩
end Go.Ideal

-- Pb
set_option linter.unusedSimpArgs false
set_option linter.unusedVariables false
namespace Go.Ideal
open Go Go.Proofs
/-! ### Parities of bits -/
def xorB (f : Nat → Bool) : Nat → Bool
  | 0 => false
  | k + 1 => (xorB f k) ^^ (f k)
theorem xorB_congr {f g : Nat → Bool} : ∀ k, (∀ j, j < k → f j = g j) → xorB f k = xorB g k := by
  intro k
  induction k with
  | zero => intro _; rfl
  | succ k ih => intro h; simp only [xorB, ih fun j hj => h j (by omega), h k (by omega)]
theorem xorB_more {f : Nat → Bool} {n : Nat} : ∀ m, n ≤ m → (∀ j, n ≤ j → f j = false) → xorB f m = xorB f n := by
  intro m hm hf
  induction hm with
  | refl => rfl
  | step hm ih => rw [xorB, ih, hf _ hm]; simp
theorem testBit_xorK (f : Nat → Nat) (b : Nat) : ∀ k, (xorK f k).testBit b = xorB (fun j => (f j).testBit b) k := by
  intro k
  induction k with
  | zero => simp [xorK, xorB]
  | succ k ih => simp only [xorK, xorB, Nat.testBit_xor, ih]
theorem bit_testBit (x k : Nat) : (x >>> k) &&& 1 = (x.testBit k).toNat := by
  rw [Nat.testBit_eq_decide_div_mod_eq, Nat.shiftRight_eq_div_pow, Nat.and_one_is_mod]
  rcases Nat.mod_two_eq_zero_or_one (x / 2 ^ k) with h | h <;> simp [h]
theorem oddK_bits (x : Nat) : ∀ k, oddK x k = (xorB (fun i => x.testBit i) k).toNat := by
  intro k
  induction k with
  | zero => rfl
  | succ k ih =>
    rw [oddK, ih, bit_testBit, xorB]
    cases xorB (fun i => x.testBit i) k <;> cases x.testBit k <;> rfl
theorem testBit_orK {f : Nat → Nat} (b : Nat) : ∀ k, (∀ j, f j ≤ 1) → (orK f k).testBit b = (decide (b < k) && decide (f b = 1)) := by
  intro k
  induction k with
  | zero => intro _; simp [orK]
  | succ k ih =>
    intro hf
    rw [orK, Nat.testBit_or, ih hf, Nat.testBit_shiftLeft]
    by_cases hb : b < k
    · have : ¬ b ≥ k := by omega
      simp [hb, this, show b < k + 1 by omega]
    · by_cases hk : b = k
      · subst hk
        have h1 := hf b
        have : f b = 0 ∨ f b = 1 := by omega
        rcases this with h | h <;> simp [h]
      · have h1 := hf k
        have h2 : (f k).testBit (b - k) = false := Nat.testBit_lt_two_pow (Nat.lt_of_le_of_lt h1 (by
          have : 2 ^ 1 ≤ 2 ^ (b - k) := Nat.pow_le_pow_right (by decide) (by omega)
          omega))
        simp [hb, h2, show ¬ b < k + 1 by omega]
end Go.Ideal

-- Pc
set_option linter.unusedSimpArgs false
set_option linter.unusedVariables false
namespace Go.Ideal
open Go Go.Proofs
theorem toNat_eq_one (b : Bool) : (decide (b.toNat = 1)) = b := by cases b <;> rfl
theorem turnedRow_bit {n : Nat} {ys : List Nat} {b i : Nat} : (turnedRow n ys b).testBit i = (decide (i < n) && (ys.getD i 0).testBit b) := by
  rw [turnedRow, testBit_orK i n (fun j => bit_le _)]
  congr 1
  rw [bit_testBit, toNat_eq_one]
theorem turnedS_getD {n k b : Nat} {ys : List Nat} (hb : b < k) : (turnedS n ys k).getD b 0 = turnedRow n ys b := by
  simp [turnedS, List.getD_eq_getElem?_getD, hb]
theorem mulRow_bits {r : Nat} {ys : List Nat} {n b : Nat} : (mulRow r ys n).testBit b = xorB (fun j => r.testBit j && (ys.getD j 0).testBit b) n := by
  rw [mulRow, testBit_xorK]
  refine xorB_congr n fun j _ => ?_
  rw [bit_testBit]
  cases r.testBit j
  · simp
  · simp
theorem mulRow_eq {n r : Nat} {ys : List Nat} (hn : n ≤ 64) (hb : ∀ y ∈ ys, y < 2 ^ n) : mulRow r ys n = orK (fun j => oddS (r &&& (turnedS n ys n).getD j 0)) n := by
  apply Nat.eq_of_testBit_eq
  intro b
  rw [mulRow_bits, testBit_orK (f := fun j => oddS (r &&& (turnedS n ys n).getD j 0)) b n (fun j => oddK_le _ _)]
  by_cases h : b < n
  · rw [turnedS_getD h, oddS, oddK_bits, toNat_eq_one]
    simp only [h, decide_true, Bool.true_and]
    rw [xorB_more 64 hn (fun j hj => by rw [Nat.testBit_and, turnedRow_bit]; simp [show ¬ j < n by omega])]
    refine xorB_congr n fun j hj => ?_
    rw [Nat.testBit_and, turnedRow_bit]; simp [hj]
  · simp only [h, decide_false, Bool.false_and]
    have : ∀ j, j < n → (r.testBit j && (ys.getD j 0).testBit b) = false := by
      intro j _
      have h1 : ys.getD j 0 < 2 ^ n := by
        rw [List.getD_eq_getElem?_getD]
        cases hj : ys[j]? with
        | none => exact Nat.pow_pos (by decide)
        | some y => exact hb y (List.mem_of_getElem? hj)
      rw [Nat.testBit_lt_two_pow (Nat.lt_of_lt_of_le h1 (Nat.pow_le_pow_right (by decide) (by omega)))]; simp
    rw [xorB_congr (g := fun _ => false) n this]
    exact xorB_more n (Nat.zero_le n) (fun _ _ => rfl)
theorem below_lt {N : Int} {x : Nat} (h0 : 0 ≤ N) (hx : x < 2 ^ 64) (h : belowS N x = true) : x < 2 ^ N.toNat := by
  simp only [belowS, Bool.or_eq_true, decide_eq_true_eq] at h
  rcases h with h | h
  · exact Nat.lt_of_lt_of_le hx (Nat.pow_le_pow_right (by decide) (by omega))
  · rw [Nat.shiftRight_eq_div_pow] at h
    exact (Nat.div_eq_zero_iff_lt (Nat.pow_pos (by decide))).1 h
theorem mul_same {M : Int} {xs ys : List Nat} (hx : checkS M xs = 0) (hy : checkS M ys = 0) (h64 : ∀ y ∈ ys, y < 2 ^ 64) : mulS xs ys xs.length = mulRefS M.toNat xs (turnedS M.toNat ys M.toNat) M.toNat := by
  obtain ⟨h0, h1, h2, _⟩ := checkS_zero hx
  obtain ⟨_, _, h3, h4⟩ := checkS_zero hy
  have hl : xs.length = M.toNat := by omega
  have hl2 : ys.length = M.toNat := by omega
  apply List.ext_getElem
  · simp [mulS, mulRefS]; omega
  · intro i g1 g2
    simp only [mulS, mulRefS, List.getElem_map, List.getElem_take, List.getElem_range, mulRefRow]
    have hi : i < xs.length := by simp [mulS] at g1; omega
    refine (congrArg (mulRow _ ys) hl2).trans ((mulRow_eq (by omega) (fun y hy' => below_lt h0 (h64 y hy') (h4 y hy'))).trans ?_)
    rw [List.getD_eq_getElem?_getD, List.getElem?_eq_getElem hi]; rfl
end Go.Ideal

-- Pd
set_option linter.unusedSimpArgs false
set_option linter.unusedVariables false
namespace Go.Ideal
open Go Go.Proofs
theorem xorB_xor (f g : Nat → Bool) : ∀ k, xorB (fun j => (f j) ^^ (g j)) k = ((xorB f k) ^^ (xorB g k)) := by
  intro k
  induction k with
  | zero => rfl
  | succ k ih =>
    simp only [xorB, ih]
    cases xorB f k <;> cases xorB g k <;> cases f k <;> cases g k <;> rfl
theorem mulRow_xor (a b : Nat) (X : List Nat) (n : Nat) : mulRow (a ^^^ b) X n = mulRow a X n ^^^ mulRow b X n := by
  apply Nat.eq_of_testBit_eq
  intro x
  rw [Nat.testBit_xor, mulRow_bits, mulRow_bits, mulRow_bits, ← xorB_xor]
  refine xorB_congr n fun j _ => ?_
  rw [Nat.testBit_xor]
  cases a.testBit j <;> cases b.testBit j <;> simp
theorem xorB_one {f : Nat → Bool} {i : Nat} : ∀ n, i < n → xorB (fun j => decide (i = j) && f j) n = f i := by
  intro n
  induction n with
  | zero => intro h; omega
  | succ n ih =>
    intro h
    rw [xorB]
    by_cases hi : i = n
    · subst hi
      have : xorB (fun j => decide (i = j) && f j) i = false := by
        rw [xorB_congr (g := fun _ => false) i (fun j hj => by simp [show ¬ i = j by omega])]
        exact xorB_more i (Nat.zero_le _) (fun _ _ => rfl)
      rw [this]; simp
    · rw [ih (by omega)]; simp [hi]
theorem mulRow_unit {X : List Nat} {n i : Nat} (hi : i < n) : mulRow (2 ^ i) X n = X.getD i 0 := by
  apply Nat.eq_of_testBit_eq
  intro b
  rw [mulRow_bits, ← xorB_one (f := fun j => (X.getD j 0).testBit b) n hi]
  refine xorB_congr n fun j _ => ?_
  rw [Nat.testBit_two_pow]
theorem addStep_get {rows : List Nat} {f t : Nat} (ht : t < rows.length) (i : Nat) : (addStep rows f t).getD i 0 = if i = t then rows.getD t 0 ^^^ rows.getD f 0 else rows.getD i 0 := by
  rw [addStep, getD_set _ _ _ _ ht]
/-- cur = E X -/
def Rel (E X cur : List Nat) (n : Nat) : Prop := ∀ i, i < n → cur.getD i 0 = mulRow (E.getD i 0) X n
theorem eyeS_get {n : Int} {i : Nat} (hi : i < n.toNat) : (eyeS n).getD i 0 = 2 ^ i := by
  simp [eyeS, List.getD_eq_getElem?_getD, hi]
theorem Rel.eye {N : Int} {X : List Nat} {n : Nat} (hn : n = N.toNat) : Rel (eyeS N) X X n := fun i hi => by
  rw [eyeS_get (by omega), mulRow_unit hi]
theorem Rel.add {E X cur : List Nat} {n f t : Nat} (h : Rel E X cur n) (hE : E.length = n) (hc : cur.length = n) (hf : f < n) (ht : t < n) : Rel (addStep E f t) X (addStep cur f t) n := fun i hi => by
  rw [addStep_get (by omega), addStep_get (by omega)]
  split
  · rw [mulRow_xor, ← h t ht, ← h f hf]
  · exact h i hi
theorem Rel.steps {X : List Nat} {n : Nat} : ∀ (l : List (Nat × Nat)) (E cur : List Nat), Rel E X cur n → E.length = n → cur.length = n → StOk n l → Rel (doSteps E l) X (doSteps cur l) n := by
  intro l
  induction l with
  | nil => intro E cur h _ _ _; exact h
  | cons p l ih =>
    intro E cur h hE hc hok
    obtain ⟨h1, h2⟩ := hok p List.mem_cons_self
    exact ih _ _ (h.add hE hc h1 h2) (by rw [addStep_len]; exact hE) (by rw [addStep_len]; exact hc) (fun q hq => hok q (List.mem_cons_of_mem _ hq))
theorem doSteps_append (rows : List Nat) (l l' : List (Nat × Nat)) : doSteps rows (l ++ l') = doSteps (doSteps rows l) l' := by simp [doSteps, List.foldl_append]
theorem fixK_steps {X : List Nat} {j n : Nat} : ∀ (f i : Nat) (st st' : RSt), st.1 = doSteps X st.2 → fixK j n f i st = some st' → st'.1 = doSteps X st'.2 := by
  intro f
  induction f with
  | zero => intro i st st' _ h; cases h
  | succ f ih =>
    intro i st st' hs h
    rw [fixK] at h
    split at h
    · obtain rfl := Option.some.inj h; exact hs
    · split at h
      · cases h
      · refine ih _ _ _ ?_ h
        split
        · simp only; rw [doSteps_append, ← hs]; rfl
        · exact hs
theorem clearK_steps {X : List Nat} {j : Nat} : ∀ (m k : Nat) (st : RSt), st.1 = doSteps X st.2 → (clearK j k m st).1 = doSteps X (clearK j k m st).2 := by
  intro m
  induction m with
  | zero => intro k st hs; exact hs
  | succ m ih =>
    intro k st hs
    rw [clearK]
    refine ih _ _ ?_
    split
    · simp only; rw [doSteps_append, ← hs]; rfl
    · exact hs
theorem redK_steps (X : List Nat) : ∀ (j : Nat) (st : RSt), redK X j = some st → st.1 = doSteps X st.2 := by
  intro j
  induction j with
  | zero => intro st h; simp only [redK, Option.some.injEq] at h; subst h; rfl
  | succ j ih =>
    intro st h
    simp only [redK, Option.bind_eq_some_iff, Option.map_eq_some_iff] at h
    obtain ⟨s1, h1, s2, h2, rfl⟩ := h
    exact clearK_steps _ _ _ (fixK_steps _ _ _ _ (ih _ h1) h2)
end Go.Ideal

-- Pe
set_option linter.unusedSimpArgs false
set_option linter.unusedVariables false
namespace Go.Ideal
open Go Go.Proofs
theorem mulRow_addStep {X : List Nat} {n f t : Nat} (hX : X.length = n) (ht : t < n) (c : Nat) : mulRow c (addStep X f t) n = mulRow c X n ^^^ (if c.testBit t = true then X.getD f 0 else 0) := by
  apply Nat.eq_of_testBit_eq
  intro b
  rw [Nat.testBit_xor, mulRow_bits, mulRow_bits]
  have h1 : xorB (fun j => decide (t = j) && (c.testBit j && (X.getD f 0).testBit b)) n = (c.testBit t && (X.getD f 0).testBit b) := xorB_one (f := fun j => c.testBit j && (X.getD f 0).testBit b) n ht
  have h2 : (if c.testBit t = true then X.getD f 0 else 0).testBit b = (c.testBit t && (X.getD f 0).testBit b) := by
    cases c.testBit t <;> simp
  rw [h2, ← h1, ← xorB_xor]
  refine xorB_congr n fun j _ => ?_
  rw [addStep_get (by omega)]
  by_cases hj : j = t
  · subst hj
    rw [if_pos rfl, Nat.testBit_xor]
    cases c.testBit j <;> simp
  · rw [if_neg hj]; simp [show ¬ t = j from fun h => hj h.symm]
def Indep (X : List Nat) (n : Nat) : Prop := ∀ c, c < 2 ^ n → mulRow c X n = 0 → c = 0
theorem Indep.of_add {X : List Nat} {n f t : Nat} (hX : X.length = n) (hf : f < n) (ht : t < n) (hft : f ≠ t) (h : Indep (addStep X f t) n) : Indep X n := by
  intro c hc hz
  by_cases hb : c.testBit t = true
  · have h1 : mulRow (c ^^^ 2 ^ f) (addStep X f t) n = 0 := by
      rw [mulRow_xor, mulRow_addStep hX ht, if_pos hb, hz, mulRow_unit hf, addStep_get (by omega), if_neg hft]
      simp
    have h2 := h _ (Nat.xor_lt_two_pow hc (Nat.pow_lt_pow_right (by decide) hf)) h1
    have h3 : (c ^^^ 2 ^ f).testBit t = true := by
      rw [Nat.testBit_xor, hb, Nat.testBit_two_pow]; simp [hft]
    rw [h2] at h3; simp at h3
  · have h1 : mulRow c (addStep X f t) n = 0 := by rw [mulRow_addStep hX ht, if_neg hb, hz]; rfl
    exact h c hc h1
theorem Indep.eye {N : Int} {n : Nat} (hn : n = N.toNat) : Indep (eyeS N) n := by
  intro c hc hz
  apply Nat.eq_of_testBit_eq
  intro b
  by_cases hb : b < n
  · have h1 : (mulRow c (eyeS N) n).testBit b = c.testBit b := by
      rw [mulRow_bits, ← xorB_one (f := fun j => c.testBit j) n hb]
      refine xorB_congr n fun j hj => ?_
      rw [eyeS_get (by omega), Nat.testBit_two_pow]
      by_cases hjb : b = j
      · subst hjb; simp
      · simp [hjb, show ¬ j = b from fun h => hjb h.symm]
    rw [← h1, hz]
  · rw [Nat.testBit_lt_two_pow (Nat.lt_of_lt_of_le hc (Nat.pow_le_pow_right (by decide) (by omega)))]; simp
end Go.Ideal

-- Pf
set_option linter.unusedSimpArgs false
set_option linter.unusedVariables false
namespace Go.Ideal
open Go Go.Proofs
def StNe (l : List (Nat × Nat)) : Prop := ∀ p ∈ l, p.1 ≠ p.2
theorem StNe.add {l : List (Nat × Nat)} (h : StNe l) {a b : Nat} (hab : a ≠ b) : StNe (l ++ [(a, b)]) := fun p hp => by
  rcases List.mem_append.1 hp with h1 | h1
  · exact h p h1
  · simp at h1; subst h1; exact hab
theorem fixK_ne {j n : Nat} : ∀ (f i : Nat) (st st' : RSt), j ≤ i → StNe st.2 → fixK j n f i st = some st' → StNe st'.2 := by
  intro f
  induction f with
  | zero => intro i st st' _ _ h; cases h
  | succ f ih =>
    intro i st st' hi hs h
    rw [fixK] at h
    split at h
    · obtain rfl := Option.some.inj h; exact hs
    · split at h
      · cases h
      · refine ih _ _ _ (by omega) ?_ h
        split
        · exact hs.add (by omega)
        · exact hs
theorem clearK_ne {j : Nat} : ∀ (m k : Nat) (st : RSt), StNe st.2 → StNe (clearK j k m st).2 := by
  intro m
  induction m with
  | zero => intro k st hs; exact hs
  | succ m ih =>
    intro k st hs
    rw [clearK]
    refine ih _ _ ?_
    split
    · rename_i hh; exact hs.add (fun h => hh.1 h.symm)
    · exact hs
theorem redK_ne (xs : List Nat) : ∀ (j : Nat) (st : RSt), redK xs j = some st → StNe st.2 := by
  intro j
  induction j with
  | zero => intro st h; simp only [redK, Option.some.injEq] at h; subst h; intro p hp; simp at hp
  | succ j ih =>
    intro st h
    simp only [redK, Option.bind_eq_some_iff, Option.map_eq_some_iff] at h
    obtain ⟨s1, h1, s2, h2, rfl⟩ := h
    exact clearK_ne _ _ _ (fixK_ne _ _ _ _ (Nat.le_refl _) (ih _ h1) h2)
theorem Indep.of_steps {n : Nat} : ∀ (l : List (Nat × Nat)) (X : List Nat), X.length = n → StOk n l → StNe l → Indep (doSteps X l) n → Indep X n := by
  intro l
  induction l with
  | nil => intro X _ _ _ h; exact h
  | cons p l ih =>
    intro X hX hok hne h
    obtain ⟨h1, h2⟩ := hok p List.mem_cons_self
    exact (ih _ (by rw [addStep_len]; exact hX) (fun q hq => hok q (List.mem_cons_of_mem _ hq)) (fun q hq => hne q (List.mem_cons_of_mem _ hq)) h).of_add hX h1 h2 (hne p List.mem_cons_self)
end Go.Ideal

-- Pg
set_option linter.unusedSimpArgs false
set_option linter.unusedVariables false
namespace Go.Ideal
open Go Go.Proofs
theorem bitAt_tb (x k : Nat) : bitAt x k = x.testBit k := by
  unfold bitAt
  rw [bit_testBit]
  cases x.testBit k <;> rfl
/-- the columns below j are those of the matrix that changes nothing -/
def Cols (cur : List Nat) (j n : Nat) : Prop := ∀ c, c < j → ∀ i, i < n → (cur.getD i 0).testBit c = decide (i = c)
theorem fixK_cols {j n : Nat} (hj : j < n) : ∀ (f i : Nat) (st st' : RSt), j ≤ i → i < n → st.1.length = n → Cols st.1 j n → fixK j n f i st = some st' → Cols st'.1 j n ∧ st'.1.length = n ∧ (st'.1.getD j 0).testBit j = true := by
  intro f
  induction f with
  | zero => intro i st st' _ _ _ _ h; cases h
  | succ f ih =>
    intro i st st' hi hin hl hC h
    rw [fixK] at h
    split at h
    · rename_i hb
      obtain rfl := Option.some.inj h
      exact ⟨hC, hl, by rw [← bitAt_tb]; exact hb⟩
    · split at h
      · cases h
      · refine ih _ _ _ (by omega) (by omega) ?_ ?_ h
        · split
          · simp only; rw [addStep_len]; exact hl
          · exact hl
        · split
          · intro c hc x hx
            simp only
            rw [addStep_get (by omega)]
            split
            · rename_i hxj
              subst hxj
              rw [Nat.testBit_xor, hC c hc _ hx, hC c hc _ (by omega)]
              simp [show ¬ x = c by omega, show ¬ i + 1 = c by omega]
            · exact hC c hc x hx
          · exact hC
theorem clearK_cols {j n : Nat} (hj : j < n) : ∀ (m k : Nat) (st : RSt), k + m = n → st.1.length = n → Cols st.1 j n → (st.1.getD j 0).testBit j = true → (∀ i, i < k → i ≠ j → (st.1.getD i 0).testBit j = false) → Cols (clearK j k m st).1 (j + 1) n ∧ (clearK j k m st).1.length = n := by
  intro m
  induction m with
  | zero =>
    intro k st hk hl hC hb hd
    refine ⟨fun c hc i hi => ?_, hl⟩
    by_cases hcj : c < j
    · exact hC c hcj i hi
    · have : c = j := by omega
      subst this
      rw [clearK]
      by_cases hic : i = c
      · subst hic; rw [hb]; simp
      · rw [hd i (by omega) hic]; simp [hic]
  | succ m ih =>
    intro k st hk hl hC hb hd
    rw [clearK]
    by_cases hh : k ≠ j ∧ bitAt (st.1.getD k 0) j = true
    · rw [if_pos hh]
      refine ih _ _ (by omega) (by simp only; rw [addStep_len]; exact hl) ?_ ?_ ?_
      · intro c hc i hi
        simp only
        rw [addStep_get (by omega)]
        split
        · rename_i hik
          subst hik
          rw [Nat.testBit_xor, hC c hc _ hi, hC c hc _ hj]
          simp [show ¬ j = c by omega]
        · exact hC c hc i hi
      · simp only; rw [addStep_get (by omega), if_neg (fun h => hh.1 h.symm)]; exact hb
      · intro i hi hij
        simp only
        rw [addStep_get (by omega)]
        split
        · have h1 := hh.2
          rw [bitAt_tb] at h1
          rw [Nat.testBit_xor, h1, hb]; rfl
        · exact hd i (by omega) hij
    · rw [if_neg hh]
      refine ih _ _ (by omega) hl hC hb ?_
      intro i hi hij
      by_cases hik : i = k
      · subst hik
        cases hx : (st.1.getD i 0).testBit j with
        | false => rfl
        | true => exact absurd ⟨hij, by rw [bitAt_tb]; exact hx⟩ hh
      · exact hd i (by omega) hij
theorem redK_cols (X : List Nat) : ∀ (j : Nat) (st : RSt), j ≤ X.length → redK X j = some st → Cols st.1 j X.length ∧ st.1.length = X.length := by
  intro j
  induction j with
  | zero => intro st _ h; simp only [redK, Option.some.injEq] at h; subst h; exact ⟨fun c hc => absurd hc (Nat.not_lt_zero c), rfl⟩
  | succ j ih =>
    intro st hj h
    simp only [redK, Option.bind_eq_some_iff, Option.map_eq_some_iff] at h
    obtain ⟨s1, h1, s2, h2, rfl⟩ := h
    obtain ⟨hC, hl⟩ := ih _ (by omega) h1
    obtain ⟨hC2, hl2, hb⟩ := fixK_cols (by omega) _ _ _ _ (Nat.le_refl _) (by omega) hl hC h2
    exact clearK_cols (by omega) _ _ _ (by omega) hl2 hC2 hb (fun i hi => absurd hi (Nat.not_lt_zero i))
end Go.Ideal

-- Ph
set_option linter.unusedSimpArgs false
set_option linter.unusedVariables false
namespace Go.Ideal
open Go Go.Proofs
theorem addBoth_get2 (j r : Nat) : ∀ (n k : Nat) (st : List Nat × List Nat), k + n ≤ st.1.length → st.2.length = st.1.length → ∀ i, (addBoth j r k n st).2.getD i 0 = if k ≤ i ∧ i < k + n ∧ i ≠ r ∧ bitAt (st.1.getD i 0) j = true then st.2.getD i 0 ^^^ st.2.getD r 0 else st.2.getD i 0 := by
  intro n
  induction n with
  | zero => intro k st _ _ i; rw [addBoth, if_neg (by omega)]
  | succ n ih =>
    intro k st hk hl i
    rw [addBoth]
    by_cases hb : k ≠ r ∧ bitAt (st.1.getD k 0) j = true
    · rw [if_pos hb, ih (k + 1) _ (by simp; omega) (by simpa using hl) i]
      simp only
      rw [getD_set _ _ _ _ (by omega), getD_set _ _ _ _ (by omega), getD_set _ _ _ _ (by omega), if_neg (show ¬ r = k from fun h => hb.1 h.symm)]
      by_cases hik : i = k
      · subst hik
        rw [if_neg (by omega), if_pos rfl, if_pos ⟨Nat.le_refl _, by omega, hb⟩]
      · rw [if_neg hik, if_neg hik]
        by_cases h2 : k + 1 ≤ i ∧ i < k + 1 + n ∧ i ≠ r ∧ bitAt (st.1.getD i 0) j = true
        · rw [if_pos h2, if_pos ⟨by omega, by omega, h2.2.2⟩]
        · rw [if_neg h2, if_neg (by rintro ⟨a, b, c⟩; exact h2 ⟨by omega, by omega, c⟩)]
    · rw [if_neg hb, ih (k + 1) _ (by omega) hl i]
      by_cases hik : i = k
      · subst hik
        rw [if_neg (by omega), if_neg (by rintro ⟨_, _, c⟩; exact hb c)]
      · by_cases h2 : k + 1 ≤ i ∧ i < k + 1 + n ∧ i ≠ r ∧ bitAt (st.1.getD i 0) j = true
        · rw [if_pos h2, if_pos ⟨by omega, by omega, h2.2.2⟩]
        · rw [if_neg h2, if_neg (by rintro ⟨a, b, c⟩; exact h2 ⟨by omega, by omega, c⟩)]
theorem findRow_none {rows : List Nat} {j : Nat} : ∀ (n i : Nat), findRow rows j i n = none → ∀ k, i ≤ k → k < i + n → bitAt (rows.getD k 0) j = false := by
  intro n
  induction n with
  | zero => intro i _ k h1 h2; omega
  | succ n ih =>
    intro i h k h1 h2
    rw [findRow] at h
    split at h
    · cases h
    · rename_i hb
      by_cases hk : k = i
      · subst hk; simpa using hb
      · exact ih _ h k (by omega) (by omega)
/-- on the reference's side: E X is kept; as long as no column failed the columns are unit columns -/
theorem refK_inv (X W : List Nat) (hW : W.length = X.length) (hR : Rel W X X X.length) : ∀ j, j ≤ X.length →
    Rel (refK X W j).1.2 X (refK X W j).1.1 X.length ∧ (refK X W j).2 ≤ j ∧ ((refK X W j).2 = j → Cols (refK X W j).1.1 j X.length) := by
  intro j
  induction j with
  | zero => intro _; exact ⟨hR, Nat.le_refl _, fun _ c hc => absurd hc (Nat.not_lt_zero c)⟩
  | succ j ih =>
    intro hj
    obtain ⟨h1, h2, h3⟩ := ih (by omega)
    have l1 := (refK_len X W j).1
    have l2 := (refK_len X W j).2
    rw [refK]
    generalize refK X W j = B at *
    unfold refStep
    cases hfr : findRow B.1.1 j B.2 (B.1.1.length - B.2) with
    | none => exact ⟨h1, by simp only; omega, fun h => by simp only at h; omega⟩
    | some i =>
      obtain ⟨g1, g2, g3⟩ := findRow_some _ _ _ hfr
      simp only
      have s1 := fun x => swap_get (rows := B.1.1) (i := i) (k := B.2) (by omega) (by omega) x
      have s2 := fun x => swap_get (rows := B.1.2) (i := i) (k := B.2) (by omega) (by omega) x
      have a1 := fun x => addBoth_get j B.2 B.1.1.length 0 (swapRows B.1.1 i B.2, swapRows B.1.2 i B.2) (by simp [swapRows_len]) x
      have a2 := fun x => addBoth_get2 j B.2 B.1.1.length 0 (swapRows B.1.1 i B.2, swapRows B.1.2 i B.2) (by simp [swapRows_len]) (by simp only [swapRows_len]; omega) x
      have hsw : Rel (swapRows B.1.2 i B.2) X (swapRows B.1.1 i B.2) X.length := fun x hx => by
        rw [s1, s2]
        split
        · exact h1 i (by omega)
        · split
          · exact h1 _ (by omega)
          · exact h1 x hx
      refine ⟨fun x hx => ?_, by omega, fun hk c hc x hx => ?_⟩
      · rw [a1, a2]
        simp only
        split
        · rw [mulRow_xor, ← hsw x hx, ← hsw B.2 (by omega)]
        · exact hsw x hx
      · have hkj : B.2 = j := by omega
        have hC := h3 hkj
        have hCs : ∀ c, c < j → ∀ x, x < X.length → ((swapRows B.1.1 i B.2).getD x 0).testBit c = decide (x = c) := by
          intro c hc x hx
          rw [s1]
          split
          · rename_i hxk; rw [hC c hc i (by omega)]; simp [show ¬ i = c by omega, show ¬ x = c by omega]
          · split
            · rename_i hxi; rw [hC c hc _ (by omega)]; simp [show ¬ B.2 = c by omega, show ¬ x = c by omega]
            · exact hC c hc x hx
        have hpiv : ((swapRows B.1.1 i B.2).getD B.2 0).testBit j = true := by
          rw [s1, if_pos rfl, ← bitAt_tb]; exact g3
        rw [a1]
        simp only
        by_cases hcj : c < j
        · split
          · rename_i hh
            rw [Nat.testBit_xor, hCs c hcj x hx, hCs c hcj _ (by omega)]
            simp [show ¬ B.2 = c by omega]
          · exact hCs c hcj x hx
        · have hc2 : c = j := by omega
          subst hc2
          by_cases hxk : x = B.2
          · rw [if_neg (by rintro ⟨_, _, h, _⟩; exact h hxk), hxk, hpiv]; simp [hkj]
          · by_cases hbx : bitAt ((swapRows B.1.1 i B.2).getD x 0) c = true
            · rw [if_pos ⟨Nat.zero_le _, by omega, hxk, hbx⟩, Nat.testBit_xor, hpiv, ← bitAt_tb, hbx]
              simp [show ¬ x = c by omega]
            · rw [if_neg (by rintro ⟨_, _, _, h⟩; exact hbx h), ← bitAt_tb]
              simp only [Bool.not_eq_true] at hbx
              rw [hbx]; simp [show ¬ x = c by omega]
end Go.Ideal

-- Pi
set_option linter.unusedSimpArgs false
set_option linter.unusedVariables false
namespace Go.Ideal
open Go Go.Proofs
def dotB (n r v : Nat) : Bool := xorB (fun c => r.testBit c && v.testBit c) n
theorem dotB_xor (n a b v : Nat) : dotB n (a ^^^ b) v = ((dotB n a v) ^^ (dotB n b v)) := by
  unfold dotB
  rw [← xorB_xor]
  refine xorB_congr n fun c _ => ?_
  rw [Nat.testBit_xor]
  cases a.testBit c <;> cases b.testBit c <;> cases v.testBit c <;> rfl
theorem dotB_unit {n i v : Nat} (hi : i < n) : dotB n (2 ^ i) v = v.testBit i := by
  unfold dotB
  rw [← xorB_one (f := fun c => v.testBit c) n hi]
  refine xorB_congr n fun c _ => ?_
  rw [Nat.testBit_two_pow]
/-- v is taken to nought by all rows -/
def Ker (R : List Nat) (v n : Nat) : Prop := ∀ i, i < n → dotB n (R.getD i 0) v = false
theorem kerVec {cur : List Nat} {j n : Nat} (hj : j < n) (hC : Cols cur j n) (h0 : ∀ k, j ≤ k → k < n → (cur.getD k 0).testBit j = false) : ∃ v, v.testBit j = true ∧ Ker cur v n := by
  have hle : ∀ b : Nat, (if b = j then 1 else ((cur.getD b 0).testBit j).toNat) ≤ 1 := fun b => by
    split
    · exact Nat.le_refl _
    · cases (cur.getD b 0).testBit j <;> decide
  have hb : ∀ b, (orK (fun b => if b = j then 1 else ((cur.getD b 0).testBit j).toNat) (j + 1)).testBit b = (decide (b < j + 1) && decide ((if b = j then 1 else ((cur.getD b 0).testBit j).toNat) = 1)) := fun b => testBit_orK b _ hle
  refine ⟨_, by rw [hb]; simp, fun i hi => ?_⟩
  unfold dotB
  rw [xorB_more (n := j + 1) n (by omega) (fun c hc => by rw [hb]; simp [show ¬ c < j + 1 by omega]), xorB]
  have hvj : (orK (fun b => if b = j then 1 else ((cur.getD b 0).testBit j).toNat) (j + 1)).testBit j = true := by rw [hb]; simp
  rw [hvj, Bool.and_true]
  by_cases hij : i < j
  · rw [xorB_congr (g := fun c => decide (i = c) && (orK (fun b => if b = j then 1 else ((cur.getD b 0).testBit j).toNat) (j + 1)).testBit c) j (fun c hc => by rw [hC c hc i hi]), xorB_one j hij, hb]
    rw [if_neg (show ¬ i = j by omega)]
    simp only [show i < j + 1 by omega, decide_true, Bool.true_and]
    cases (cur.getD i 0).testBit j <;> rfl
  · rw [xorB_congr (g := fun _ => false) j (fun c hc => by rw [hC c hc i hi]; simp [show ¬ i = c by omega]), xorB_more (n := 0) j (Nat.zero_le _) (fun _ _ => rfl), h0 i (by omega) hi]
    rfl
theorem Ker.add {X : List Nat} {v n f t : Nat} (hX : X.length = n) (hf : f < n) (ht : t < n) (h : Ker X v n) : Ker (addStep X f t) v n := fun i hi => by
  rw [addStep_get (by omega)]
  split
  · rw [dotB_xor, h t ht, h f hf]; rfl
  · exact h i hi
theorem Ker.of_add {X : List Nat} {v n f t : Nat} (hX : X.length = n) (hf : f < n) (ht : t < n) (hft : f ≠ t) (h : Ker (addStep X f t) v n) : Ker X v n := fun i hi => by
  have h1 := h i hi
  have h2 := h f hf
  rw [addStep_get (by omega)] at h1 h2
  rw [if_neg hft] at h2
  split at h1
  · rename_i hit
    subst hit
    rw [dotB_xor, h2] at h1
    simpa using h1
  · exact h1
theorem Ker.steps {v n : Nat} : ∀ (l : List (Nat × Nat)) (X : List Nat), X.length = n → StOk n l → Ker X v n → Ker (doSteps X l) v n := by
  intro l
  induction l with
  | nil => intro X _ _ h; exact h
  | cons p l ih =>
    intro X hX hok h
    obtain ⟨h1, h2⟩ := hok p List.mem_cons_self
    exact ih _ (by rw [addStep_len]; exact hX) (fun q hq => hok q (List.mem_cons_of_mem _ hq)) (h.add hX h1 h2)
theorem Ker.of_steps {v n : Nat} : ∀ (l : List (Nat × Nat)) (X : List Nat), X.length = n → StOk n l → StNe l → Ker (doSteps X l) v n → Ker X v n := by
  intro l
  induction l with
  | nil => intro X _ _ _ h; exact h
  | cons p l ih =>
    intro X hX hok hne h
    obtain ⟨h1, h2⟩ := hok p List.mem_cons_self
    exact (ih _ (by rw [addStep_len]; exact hX) (fun q hq => hok q (List.mem_cons_of_mem _ hq)) (fun q hq => hne q (List.mem_cons_of_mem _ hq)) h).of_add hX h1 h2 (hne p List.mem_cons_self)
/-- the reference's step keeps what is taken to nought -/
theorem Ker.refStep {B : (List Nat × List Nat) × Nat} {j v n : Nat} (hl : B.1.1.length = n) (hd : B.2 ≤ j) (hj : j < n) : Ker (refStep j B).1.1 v n ↔ Ker B.1.1 v n := by
  unfold Go.Ideal.refStep
  cases hfr : findRow B.1.1 j B.2 (B.1.1.length - B.2) with
  | none => exact Iff.rfl
  | some i =>
    obtain ⟨g1, g2, g3⟩ := findRow_some _ _ _ hfr
    simp only
    have s1 := fun x => swap_get (rows := B.1.1) (i := i) (k := B.2) (by omega) (by omega) x
    have a1 := fun x => addBoth_get j B.2 B.1.1.length 0 (swapRows B.1.1 i B.2, swapRows B.1.2 i B.2) (by simp [swapRows_len]) x
    simp only at a1
    have key : Ker (swapRows B.1.1 i B.2) v n ↔ Ker B.1.1 v n := by
      constructor
      · intro h x hx
        by_cases hx1 : x = B.2
        · have := h i (by omega)
          rw [s1] at this
          by_cases hi : i = B.2
          · rw [if_pos hi] at this; rw [hx1, ← hi]; exact this
          · rw [if_neg hi, if_pos rfl] at this; rw [hx1]; exact this
        · by_cases hx2 : x = i
          · have := h B.2 (by omega)
            rw [s1, if_pos rfl] at this
            rw [hx2]; exact this
          · have := h x hx
            rw [s1, if_neg hx1, if_neg hx2] at this
            exact this
      · intro h x hx
        rw [s1]
        split
        · exact h i (by omega)
        · split
          · exact h _ (by omega)
          · exact h x hx
    rw [← key]
    have hr : (addBoth j B.2 0 B.1.1.length (swapRows B.1.1 i B.2, swapRows B.1.2 i B.2)).1.getD B.2 0 = (swapRows B.1.1 i B.2).getD B.2 0 := by
      rw [a1, if_neg (by rintro ⟨_, _, h, _⟩; exact h rfl)]
    constructor
    · intro h x hx
      have h1 := h x hx
      have h2 := h B.2 (by omega)
      rw [hr] at h2
      rw [a1] at h1
      split at h1
      · rw [dotB_xor, h2] at h1; simpa using h1
      · exact h1
    · intro h x hx
      rw [a1]
      split
      · rw [dotB_xor, h x hx, h B.2 (by omega)]; rfl
      · exact h x hx
theorem Ker.ref {X W : List Nat} {v : Nat} (hW : W.length = X.length) : ∀ j, j ≤ X.length → ((refK X W j).2 ≤ j) ∧ (Ker (refK X W j).1.1 v X.length ↔ Ker X v X.length) := by
  intro j
  induction j with
  | zero => intro _; exact ⟨Nat.le_refl _, Iff.rfl⟩
  | succ j ih =>
    intro hj
    obtain ⟨h1, h2⟩ := ih (by omega)
    have l1 := (refK_len X W j).1
    rw [refK]
    refine ⟨?_, (Ker.refStep l1 h1 (by omega)).trans h2⟩
    unfold Go.Ideal.refStep
    split
    · omega
    · simp only; omega
def GLt (R : List Nat) (n : Nat) : Prop := ∀ i, R.getD i 0 < 2 ^ n
theorem GLt.add {X : List Nat} {n f t : Nat} (h : GLt X n) (ht : t < X.length) : GLt (addStep X f t) n := fun i => by
  rw [addStep_get ht]
  split
  · exact Nat.xor_lt_two_pow (h t) (h f)
  · exact h i
theorem GLt.steps {n m : Nat} : ∀ (l : List (Nat × Nat)) (X : List Nat), X.length = m → StOk m l → GLt X n → GLt (doSteps X l) n := by
  intro l
  induction l with
  | nil => intro X _ _ h; exact h
  | cons p l ih =>
    intro X hX hok h
    obtain ⟨h1, h2⟩ := hok p List.mem_cons_self
    exact ih _ (by rw [addStep_len]; exact hX) (fun q hq => hok q (List.mem_cons_of_mem _ hq)) (h.add (by omega))
theorem GLt.ref {X W : List Nat} {n : Nat} (hW : W.length = X.length) (hX : GLt X n) (hW2 : GLt W n) : ∀ j, j ≤ X.length → GLt (refK X W j).1.1 n ∧ GLt (refK X W j).1.2 n := by
  intro j
  induction j with
  | zero => intro _; exact ⟨hX, hW2⟩
  | succ j ih =>
    intro hj
    obtain ⟨h1, h2⟩ := ih (by omega)
    have l1 := (refK_len X W j).1
    have l2 := (refK_len X W j).2
    rw [refK]
    generalize refK X W j = B at *
    unfold Go.Ideal.refStep
    cases hfr : findRow B.1.1 j B.2 (B.1.1.length - B.2) with
    | none => exact ⟨h1, h2⟩
    | some i =>
      obtain ⟨g1, g2, g3⟩ := findRow_some _ _ _ hfr
      simp only
      have s1 := fun x => swap_get (rows := B.1.1) (i := i) (k := B.2) (by omega) (by omega) x
      have s2 := fun x => swap_get (rows := B.1.2) (i := i) (k := B.2) (by omega) (by omega) x
      have t1 : GLt (swapRows B.1.1 i B.2) n := fun x => by
        rw [s1]; split
        · exact h1 _
        · split
          · exact h1 _
          · exact h1 _
      have t2 : GLt (swapRows B.1.2 i B.2) n := fun x => by
        rw [s2]; split
        · exact h2 _
        · split
          · exact h2 _
          · exact h2 _
      have a1 := fun x => addBoth_get j B.2 B.1.1.length 0 (swapRows B.1.1 i B.2, swapRows B.1.2 i B.2) (by simp [swapRows_len]) x
      have a2 := fun x => addBoth_get2 j B.2 B.1.1.length 0 (swapRows B.1.1 i B.2, swapRows B.1.2 i B.2) (by simp [swapRows_len]) (by simp only [swapRows_len]; omega) x
      refine ⟨fun x => ?_, fun x => ?_⟩
      · rw [a1]; simp only; split
        · exact Nat.xor_lt_two_pow (t1 _) (t1 _)
        · exact t1 _
      · rw [a2]; simp only; split
        · exact Nat.xor_lt_two_pow (t2 _) (t2 _)
        · exact t2 _
theorem cols_eye {R : List Nat} {n : Nat} (hC : Cols R n n) (hl : GLt R n) {i : Nat} (hi : i < n) : R.getD i 0 = 2 ^ i := by
  apply Nat.eq_of_testBit_eq
  intro b
  rw [Nat.testBit_two_pow]
  by_cases hb : b < n
  · exact hC b hb i hi
  · rw [Nat.testBit_lt_two_pow (Nat.lt_of_lt_of_le (hl i) (Nat.pow_le_pow_right (by decide) (by omega)))]
    simp [show ¬ i = b by omega]
theorem no_ker_eye {R : List Nat} {n j v : Nat} (hC : Cols R n n) (hl : GLt R n) (hj : j < n) (hv : v.testBit j = true) (hk : Ker R v n) : False := by
  have h1 := hk j hj
  rw [cols_eye hC hl hj, dotB_unit hj, hv] at h1
  cases h1
theorem fixK_none {j n : Nat} : ∀ (f i : Nat) (st : RSt), f = n - i → j ≤ i → i < n → st.1.length = n → fixK j n f i st = none → bitAt (st.1.getD j 0) j = false ∧ ∀ k, i < k → k < n → bitAt (st.1.getD k 0) j = false := by
  intro f
  induction f with
  | zero => intro i st hf _ hi _ _; omega
  | succ f ih =>
    intro i st hf hji hi hl h
    rw [fixK] at h
    split at h
    · cases h
    · rename_i hb
      refine ⟨by simpa using hb, ?_⟩
      split at h
      · intro k h1 h2; omega
      · split at h
        · rename_i hb2
          have := (ih (i + 1) _ (by omega) (by omega) (by omega) (by simp only; rw [addStep_len]; exact hl) h).1
          simp only at this
          rw [addStep_get (by omega), if_pos rfl, bitAt_tb, Nat.testBit_xor, ← bitAt_tb, ← bitAt_tb, hb2] at this
          simp only [Bool.not_eq_true] at hb
          rw [hb] at this
          cases this
        · rename_i hb2
          intro k h1 h2
          by_cases hk : k = i + 1
          · subst hk; simpa using hb2
          · exact (ih (i + 1) st (by omega) (by omega) (by omega) hl h).2 k (by omega) h2
theorem redK_first {xs : List Nat} : ∀ m, m ≤ xs.length → redK xs m = none → ∃ j st, j < m ∧ redK xs j = some st ∧ fixK j xs.length (xs.length - j) j st = none := by
  intro m
  induction m with
  | zero => intro _ h; cases h
  | succ m ih =>
    intro hm h
    cases hr : redK xs m with
    | none =>
      obtain ⟨j, st, h1, h2, h3⟩ := ih (by omega) hr
      exact ⟨j, st, by omega, h2, h3⟩
    | some st =>
      rw [redK, hr] at h
      simp only [Option.bind_some, Option.map_eq_none_iff] at h
      exact ⟨m, st, by omega, hr, h⟩
theorem refK_first {X W : List Nat} (hW : W.length = X.length) : ∀ m, m ≤ X.length → (refK X W m).2 < m → ∃ j, j < m ∧ (refK X W j).2 = j ∧ findRow (refK X W j).1.1 j j (X.length - j) = none := by
  intro m
  induction m with
  | zero => intro _ h; omega
  | succ m ih =>
    intro hm h
    have hle := (Ker.ref (v := 0) hW m (by omega)).1
    have l1 := (refK_len X W m).1
    by_cases hlt : (refK X W m).2 < m
    · obtain ⟨j, h1, h2⟩ := ih (by omega) hlt
      exact ⟨j, by omega, h2⟩
    · have heq : (refK X W m).2 = m := by omega
      refine ⟨m, by omega, heq, ?_⟩
      rw [refK] at h
      unfold Go.Ideal.refStep at h
      rw [l1, heq] at h
      cases hfr : findRow (refK X W m).1.1 m m (X.length - m) with
      | none => rfl
      | some i => rw [hfr] at h; simp only at h; omega
theorem inverse_same {N : Int} {xs : List Nat} (hn : N.toNat = xs.length) (hlt : GLt xs xs.length) :
    match redK xs xs.length with
    | none => (refK xs (eyeS N) xs.length).2 < xs.length
    | some st => ¬ (refK xs (eyeS N) xs.length).2 < xs.length ∧ (refK xs (eyeS N) xs.length).1.2 = doSteps (eyeS N) st.2 := by
  have hW : (eyeS N).length = xs.length := by simp [eyeS, hn]
  have hWl : GLt (eyeS N) xs.length := fun i => by
    by_cases hi : i < N.toNat
    · rw [eyeS_get hi]; exact Nat.pow_lt_pow_right (by decide) (by omega)
    · rw [List.getD_eq_getElem?_getD, List.getElem?_eq_none (by omega)]; exact Nat.pow_pos (by decide)
  have hrel : Rel (eyeS N) xs xs xs.length := Rel.eye hn.symm
  obtain ⟨r1, r2, r3⟩ := refK_inv xs (eyeS N) hW hrel xs.length (Nat.le_refl _)
  obtain ⟨b1, b2⟩ := GLt.ref hW hlt hWl xs.length (Nat.le_refl _)
  cases hr : redK xs xs.length with
  | none =>
    simp only
    apply Decidable.byContradiction
    intro hc
    have heq : (refK xs (eyeS N) xs.length).2 = xs.length := by omega
    obtain ⟨j, st, hj, hs, hf⟩ := redK_first _ (Nat.le_refl _) hr
    obtain ⟨hC, hl⟩ := redK_cols xs j st (by omega) hs
    obtain ⟨f1, f2⟩ := fixK_none _ _ _ rfl (Nat.le_refl _) hj hl hf
    obtain ⟨v, hv, hk⟩ := kerVec hj hC (fun k h1 h2 => by
      rw [← bitAt_tb]
      by_cases hkj : k = j
      · subst hkj; exact f1
      · exact f2 k (by omega) h2)
    rw [redK_steps xs j st hs] at hk
    have hkx : Ker xs v xs.length := hk.of_steps _ _ rfl (redK_ok xs j st (by omega) hs) (redK_ne xs j st hs)
    exact no_ker_eye (r3 heq) b1 hj hv ((Ker.ref hW xs.length (Nat.le_refl _)).2.2 hkx)
  | some st =>
    simp only
    obtain ⟨hC, hl⟩ := redK_cols xs _ st (Nat.le_refl _) hr
    have hst := redK_steps xs _ st hr
    have hok := redK_ok xs _ st (Nat.le_refl _) hr
    have hne := redK_ne xs _ st hr
    have hcl : GLt st.1 xs.length := by rw [hst]; exact hlt.steps _ _ rfl hok
    have hnot : ¬ (refK xs (eyeS N) xs.length).2 < xs.length := by
      intro hlt2
      obtain ⟨j, hj, hjd, hfr⟩ := refK_first hW _ (Nat.le_refl _) hlt2
      obtain ⟨q1, q2, q3⟩ := refK_inv xs (eyeS N) hW hrel j (by omega)
      obtain ⟨v, hv, hk⟩ := kerVec hj (q3 hjd) (fun k h1 h2 => by
        rw [← bitAt_tb]
        exact findRow_none _ _ hfr k h1 (by omega))
      have hkx : Ker xs v xs.length := (Ker.ref hW j (by omega)).2.1 hk
      have hk2 := hkx.steps st.2 _ rfl hok
      rw [← hst] at hk2
      exact no_ker_eye hC hcl hj hv hk2
    refine ⟨hnot, ?_⟩
    have heq : (refK xs (eyeS N) xs.length).2 = xs.length := by omega
    have hEr : Rel (doSteps (eyeS N) st.2) xs st.1 xs.length := by rw [hst]; exact Rel.steps _ _ _ hrel hW rfl hok
    have hind : Indep xs xs.length := by
      refine Indep.of_steps st.2 xs rfl hok hne ?_
      rw [← hst]
      have : st.1 = eyeS N := by
        apply List.ext_getElem
        · omega
        · intro i g1 g2
          have h1 := cols_eye hC hcl (i := i) (by omega)
          have h2 := eyeS_get (n := N) (i := i) (by omega)
          rw [List.getD_eq_getElem?_getD, List.getElem?_eq_getElem g1] at h1
          rw [List.getD_eq_getElem?_getD, List.getElem?_eq_getElem g2] at h2
          simp only [Option.getD_some] at h1 h2
          rw [h1, h2]
      rw [this]
      exact Indep.eye hn.symm
    have hEl : GLt (doSteps (eyeS N) st.2) xs.length := hWl.steps _ _ hW hok
    have lW := (refK_len xs (eyeS N) xs.length).2
    have lE : (doSteps (eyeS N) st.2).length = xs.length := by rw [doSteps_len]; exact hW
    apply List.ext_getElem
    · omega
    · intro i g1 g2
      have hi : i < xs.length := by omega
      have h1 := r1 i hi
      have h2 := hEr i hi
      rw [cols_eye (r3 heq) b1 hi] at h1
      rw [cols_eye hC hcl hi] at h2
      have h3 : mulRow ((refK xs (eyeS N) xs.length).1.2.getD i 0 ^^^ (doSteps (eyeS N) st.2).getD i 0) xs xs.length = 0 := by
        rw [mulRow_xor, ← h1, ← h2, Nat.xor_self]
      have h4 := hind _ (Nat.xor_lt_two_pow (b2 i) (hEl i)) h3
      have h5 : (refK xs (eyeS N) xs.length).1.2.getD i 0 = (doSteps (eyeS N) st.2).getD i 0 := by
        have h6 : ((refK xs (eyeS N) xs.length).1.2.getD i 0 ^^^ (doSteps (eyeS N) st.2).getD i 0) ^^^ (doSteps (eyeS N) st.2).getD i 0 = 0 ^^^ (doSteps (eyeS N) st.2).getD i 0 := by rw [h4]
        rw [Nat.xor_assoc, Nat.xor_self, Nat.xor_zero, Nat.zero_xor] at h6
        exact h6
      rw [List.getD_eq_getElem?_getD, List.getElem?_eq_getElem g1, List.getD_eq_getElem?_getD, List.getElem?_eq_getElem g2] at h5
      simpa using h5
end Go.Ideal

-- Pj
set_option linter.unusedSimpArgs false
set_option linter.unusedVariables false
namespace Go.Ideal
open Go Go.Proofs
/-! ### OnesCount64 counts: its last bit is the parity -/
def q1 (d : Nat) : Nat := (d / 2 &&& 85) + (d &&& 85)
def q2 (d : Nat) : Nat := (d / 4 &&& 51) + (d &&& 51)
def q3 (d : Nat) : Nat := d / 16 + d % 16
/-- each half byte is 4 at most -/
def Small : Nat → Nat → Prop
  | 0, _ => True
  | n + 1, x => x % 16 ≤ 4 ∧ x / 16 % 16 ≤ 4 ∧ Small n (x / 256)
theorem Small.low : ∀ n x, x < 256 ^ n → Small n x → x % 16 ≤ 4 := by
  intro n
  cases n with
  | zero => intro x hx _; simp at hx; subst hx; decide
  | succ n => intro x _ h; exact h.1
end Go.Ideal

-- Lp
set_option linter.unusedSimpArgs false
set_option linter.unusedVariables false
namespace Go.Ideal
open Go Go.Proofs
/-! ### What the functions answer, as a matrix of plain numbers and an error -/
def MatV (h : IHp) (v : Value) (n : Int) (rows : List Nat) : Prop := ∃ a l c, v = .agg [.int .i64 n, .slice a l c].toArray ∧ SlIs h a l c (u64s rows) ∧ All64 rows
theorem MatV.ext {h h' : IHp} (e : Ext h h') {v : Value} {n : Int} {rows : List Nat} (m : MatV h v n rows) : MatV h' v n rows := by
  obtain ⟨a, l, c, h1, h2, h3⟩ := m
  exact ⟨a, l, c, h1, h2.ext e, h3⟩
theorem MatV.nil (h : IHp) : MatV h (.agg [.int .i64 0, .slice none 0 0].toArray) 0 [] := ⟨none, 0, 0, rfl, ⟨rfl, Nat.le_refl _, rfl⟩, fun x hx => by simp at hx⟩
theorem MatV.own {h : IHp} {sl : Value} {n : Int} {rows : List Nat} {lo : Nat} {t : TypeId} (o : Own lo h sl (u64s rows) t) (h64 : All64 rows) : MatV h (.agg [.int .i64 n, sl].toArray) n rows := by
  obtain ⟨a, rfl⟩ := o.isSlice
  exact ⟨a, _, _, rfl, o.getSl, h64⟩
theorem checkS_or (N : Int) (xs : List Nat) : checkS N xs = 0 ∨ checkS N xs = 2 := by
  unfold checkS
  split
  · exact .inr rfl
  · split
    · exact .inl rfl
    · exact .inr rfl
/-- its slice lies in a block of its own that is not below lo -/
def NewM (lo : Nat) (m : Value) : Prop := ∀ x a l c, m = .agg [x, .slice (some a) l c].toArray → lo ≤ a.block ∧ a.block % 2 = 0 ∧ a.spot = none ∧ c = l
theorem NewM.nil {lo : Nat} {n : Int} : NewM lo (.agg [.int .i64 n, .slice none 0 0].toArray) := fun x a l c h => by simp at h
theorem NewM.own {lo : Nat} {h : IHp} {sl : Value} {n : Int} {vs : List Value} {t : TypeId} (o : Own lo h sl vs t) : NewM lo (.agg [.int .i64 n, sl].toArray) := fun x a l c hm => by
  simp only [Value.agg.injEq, List.toArray, Array.mk.injEq] at hm
  simp at hm
  obtain ⟨_, rfl⟩ := hm
  rcases o with ⟨h1, _⟩ | ⟨b, y, h1, h2, h3⟩
  · simp at h1
  · simp only [Value.slice.injEq, Option.some.injEq] at h2
    obtain ⟨rfl, rfl, rfl⟩ := h2
    exact ⟨h1, h3.even, rfl, rfl⟩
theorem row_put {h : IHp} {b b' n : Nat} {o : IObj} (hn : NeB b' b) : ∀ {off : Nat} {vs : List Value}, h.row b' off n = some vs → (h.putObj b o).row b' off n = some vs := by
  induction n with
  | zero => intro off vs hr; exact hr
  | succ n ih =>
    intro off vs hr
    simp only [IHp.row, Option.bind_eq_some_iff] at hr ⊢
    obtain ⟨v, hv, vs', hvs, h3⟩ := hr
    exact ⟨v, (CellIs.put_ne (n := hn) (i := ⟨hv⟩)).eq, vs', ih hvs, h3⟩
theorem SlIs.put {h : IHp} {a : Option Addr} {l c b : Nat} {vs : List Value} {o : IObj} (x : SlIs h a l c vs) (hn : ∀ d, a = some d → NeB d.block b) : SlIs (h.putObj b o) a l c vs := by
  obtain ⟨h1, h2, h3⟩ := x
  refine ⟨h1, h2, ?_⟩
  cases a with
  | none => exact h3
  | some d => exact row_put (hn d rfl) h3
theorem MatV.put {h : IHp} {b lo : Nat} {o : IObj} {m : Value} {n : Int} {rows : List Nat} (mv : MatV h m n rows) (nm : NewM lo m) (hb : b < lo) (he : b % 2 = 0) : MatV (h.putObj b o) m n rows := by
  obtain ⟨a, l, c, rfl, h2, h3⟩ := mv
  refine ⟨a, l, c, rfl, h2.put fun d hd => ?_, h3⟩
  subst hd
  obtain ⟨g1, g2, _⟩ := nm _ d l c rfl
  exact .of g2 he (by omega)
def mulR (M N : Int) (xs ys : List Nat) : Int × List Nat × Int := if checkS M xs = 0 ∧ checkS N ys = 0 ∧ M = N then (M, mulS xs ys xs.length, 0) else (0, [], 2)
def invR (N : Int) (xs : List Nat) : Int × List Nat × Int := if checkS N xs = 0 then (match redK xs xs.length with | none => (0, [], 200) | some st => (N, doSteps (eyeS N) st.2, 0)) else (0, [], 2)
def rankR (N : Int) (xs : List Nat) : Int × Int := if checkS N xs = 0 then (((rankK xs xs.length).2 : Nat), 0) else (0, 2)
theorem mulR_len (M N : Int) (xs ys : List Nat) : (mulR M N xs ys).2.1.length < 2 ^ 62 := by
  unfold mulR; split
  · rename_i h; have := checkS_zero h.1; simp [mulS]; omega
  · simp
theorem invR_len (N : Int) (xs : List Nat) : (invR N xs).2.1.length < 2 ^ 62 := by
  unfold invR; split
  · rename_i h; have := checkS_zero h
    split
    · simp
    · simp only [doSteps_len, eyeS_length]; omega
  · simp
/-- an answer: a matrix and an error -/
def AnsM (lo : Nat) (h : IHp) (v : Value) (r : Int × List Nat × Int) : Prop := ∃ m, v = .tuple [m, .int .i64 r.2.2].toArray ∧ MatV h m r.1 r.2.1 ∧ NewM lo m
theorem Same_w {A B : Value} {M N : Int} {xs ys : List Nat} {h : IHp} (ha : MatV h A M xs) (hb : MatV h B N ys) (hl : xs.length < 2 ^ 62) : EvX Try.prog 25 [A, B].toArray h (fun v h' => v = .bool (decide (M = N ∧ xs = ys)) ∧ Ext h h') := by
  obtain ⟨a, la, ca, rfl, h1, h3⟩ := ha
  obtain ⟨b, lb, cb, rfl, h4, h6⟩ := hb
  exact Same_spec M N a b la ca lb cb xs ys h h1 h4 (by have := h1.1; rw [u64s_len] at this; omega)
theorem Same_t {A B : Value} {M : Int} {xs : List Nat} {h : IHp} (ha : MatV h A M xs) (hb : MatV h B M xs) (hl : xs.length < 2 ^ 62) : EvX Try.prog 25 [A, B].toArray h (fun v h' => v = .bool true ∧ Ext h h') := by
  refine (Same_w ha hb hl).mono ?_
  rintro v h' ⟨rfl, e⟩
  exact ⟨by simp, e⟩
theorem mulS_64 {xs ys : List Nat} (h : All64 ys) (k : Nat) : All64 (mulS xs ys k) := fun x hx => by
  simp only [mulS, List.mem_map] at hx
  obtain ⟨r, _, rfl⟩ := hx
  exact mulRow_lt h _
theorem Mul_rw {A B : Value} {M N : Int} {xs ys : List Nat} {h : IHp} (ha : MatV h A M xs) (hb : MatV h B N ys) : EvX Try.prog 22 [A, B].toArray h (fun v h' => Ext h h' ∧ AnsM h.fresh h' v (mulR M N xs ys)) := by
  obtain ⟨a, la, ca, rfl, h1, h3⟩ := ha
  obtain ⟨b, lb, cb, rfl, h4, h6⟩ := hb
  refine (Mul_ref M N a b la ca lb cb xs ys h h1 h4 h3 h6).mono ?_
  rintro v h' ⟨e, hv⟩
  refine ⟨e, ?_⟩
  unfold mulR
  split at hv
  · rename_i hn
    obtain ⟨sl, rfl, hL⟩ := hv
    rw [if_pos hn]
    obtain ⟨c1, c2, rfl⟩ := hn
    rw [← mul_same c1 c2 h6] at hL
    exact ⟨_, rfl, MatV.own hL.own (mulS_64 h6 _), NewM.own hL.own⟩
  · rename_i hn
    subst hv
    rw [if_neg hn]
    exact ⟨_, rfl, MatV.nil _, NewM.nil⟩
theorem glt_of {N : Int} {xs : List Nat} (hck : checkS N xs = 0) (h64 : All64 xs) : N.toNat = xs.length ∧ GLt xs xs.length := by
  obtain ⟨h0, h1, h2, h3⟩ := checkS_zero hck
  have hl : N.toNat = xs.length := by omega
  refine ⟨hl, fun i => ?_⟩
  rw [List.getD_eq_getElem?_getD]
  cases hi : xs[i]? with
  | none => exact Nat.pow_pos (by decide)
  | some y =>
    have := below_lt h0 (h64 y (List.mem_of_getElem? hi)) (h3 y (List.mem_of_getElem? hi))
    rw [hl] at this; exact this
theorem Inverse_rw {A : Value} {N : Int} {xs : List Nat} {h : IHp} (ha : MatV h A N xs) : EvX Try.prog 23 [A].toArray h (fun v h' => Ext h h' ∧ AnsM h.fresh h' v (invR N xs)) := by
  obtain ⟨a, la, ca, rfl, h1, h3⟩ := ha
  refine (Inverse_ref N a la ca xs h h1 h3).mono ?_
  rintro v h' ⟨e, hv⟩
  refine ⟨e, ?_⟩
  unfold invR
  by_cases hn : checkS N xs = 0
  · rw [if_pos hn] at hv ⊢
    obtain ⟨g1, g2⟩ := glt_of hn h3
    have hs := inverse_same g1 g2
    cases hr : redK xs xs.length with
    | none =>
      rw [hr] at hs
      simp only at hs
      rw [if_pos hs] at hv
      subst hv; exact ⟨_, rfl, MatV.nil _, NewM.nil⟩
    | some st =>
      rw [hr] at hs
      simp only at hs
      rw [if_neg hs.1] at hv
      obtain ⟨sl, rfl, hL⟩ := hv
      rw [hs.2] at hL
      have h64 := checkS_zero hn
      exact ⟨_, rfl, MatV.own hL (doSteps_64 _ _ (eyeS_lt (by omega))), NewM.own hL⟩
  · rw [if_neg hn] at hv ⊢
    subst hv
    exact ⟨_, rfl, MatV.nil _, NewM.nil⟩
theorem Rank_w {A : Value} {N : Int} {xs : List Nat} {h : IHp} (ha : MatV h A N xs) : EvX Try.prog 18 [A].toArray h (fun v h' => Ext h h' ∧ v = .tuple [.int .i64 (rankR N xs).1, .int .i64 (rankR N xs).2].toArray) := by
  obtain ⟨a, la, ca, rfl, h1, h3⟩ := ha
  refine (Rank_spec N a la ca xs h h1 h3).mono ?_
  rintro v h' ⟨e, rfl⟩
  refine ⟨e, ?_⟩
  unfold rankR
  split
  · rfl
  · rename_i hn
    have := checkS_or N xs
    rw [show checkS N xs = 2 by omega]
theorem Rank_rw {A : Value} {N : Int} {xs : List Nat} {h : IHp} (ha : MatV h A N xs) : EvX Try.prog 24 [A].toArray h (fun v h' => Ext h h' ∧ v = .tuple [.int .i64 (rankR N xs).1, .int .i64 (rankR N xs).2].toArray) := by
  obtain ⟨a, la, ca, rfl, h1, h3⟩ := ha
  refine (Rank_ref N a la ca xs h h1 h3).mono ?_
  rintro v h' ⟨e, rfl⟩
  refine ⟨e, ?_⟩
  unfold rankR
  split
  · rw [(rank_same xs _ xs.length).1]
  · rfl
end Go.Ideal

-- Al
set_option linter.unusedSimpArgs false
set_option linter.unusedVariables false
namespace Go.Ideal
open Go Go.Proofs
theorem alive20_ran (old : Nat → Nat → Option Value) (o1 o2 : IObj) : (icall Try.prog 400 (.fn 17) #[] ⟨old, [o1, o2]⟩).map (fun r => (veq r.1 (.bool true), r.2.old, r.2.new.take 2)) = some (true, old, [o1, o2]) := by kernel_rfl
theorem alive20 {h : IHp} {o1 o2 : IObj} (hn : h.new = [o1, o2]) : EvX Try.prog 17 [].toArray h (fun v h' => v = .bool true ∧ Ext h h') := by
  obtain ⟨old, new⟩ := h
  simp only at hn
  subst hn
  exact EvX_ran (alive20_ran old o1 o2)
instance : CallIs Try.prog 17 := .of Try.func17 rfl rfl
end Go.Ideal

-- Ca
set_option linter.unusedSimpArgs false
set_option linter.unusedVariables false
namespace Go.Ideal
open Go Go.Proofs
/-! ### What is known of the gates -/
structure KE where
  name : ByteArray
  arity : Int
  halves : Int
  cliff : Bool
  diag : Bool
  back : ByteArray
def KT : List KE := [
  ⟨(⟨#[105]⟩ : ByteArray), 1, 0, true, true, (⟨#[105]⟩ : ByteArray)⟩,
  ⟨(⟨#[120]⟩ : ByteArray), 1, 0, true, false, (⟨#[120]⟩ : ByteArray)⟩,
  ⟨(⟨#[121]⟩ : ByteArray), 1, 0, true, false, (⟨#[121]⟩ : ByteArray)⟩,
  ⟨(⟨#[122]⟩ : ByteArray), 1, 0, true, true, (⟨#[122]⟩ : ByteArray)⟩,
  ⟨(⟨#[104]⟩ : ByteArray), 1, 1, true, false, (⟨#[104]⟩ : ByteArray)⟩,
  ⟨(⟨#[115]⟩ : ByteArray), 1, 0, true, true, (⟨#[115, 100, 103]⟩ : ByteArray)⟩,
  ⟨(⟨#[115, 100, 103]⟩ : ByteArray), 1, 0, true, true, (⟨#[115]⟩ : ByteArray)⟩,
  ⟨(⟨#[116]⟩ : ByteArray), 1, 0, false, true, (⟨#[116, 100, 103]⟩ : ByteArray)⟩,
  ⟨(⟨#[116, 100, 103]⟩ : ByteArray), 1, 0, false, true, (⟨#[116]⟩ : ByteArray)⟩,
  ⟨(⟨#[118]⟩ : ByteArray), 1, 1, true, false, (⟨#[118, 100, 103]⟩ : ByteArray)⟩,
  ⟨(⟨#[118, 100, 103]⟩ : ByteArray), 1, 1, true, false, (⟨#[118]⟩ : ByteArray)⟩,
  ⟨(⟨#[119]⟩ : ByteArray), 1, 0, true, true, (⟨#[119, 100, 103]⟩ : ByteArray)⟩,
  ⟨(⟨#[119, 100, 103]⟩ : ByteArray), 1, 0, true, true, (⟨#[119]⟩ : ByteArray)⟩,
  ⟨(⟨#[99, 120]⟩ : ByteArray), 2, 0, true, false, (⟨#[99, 120]⟩ : ByteArray)⟩,
  ⟨(⟨#[99, 121]⟩ : ByteArray), 2, 0, true, false, (⟨#[99, 121]⟩ : ByteArray)⟩,
  ⟨(⟨#[99, 122]⟩ : ByteArray), 2, 0, true, true, (⟨#[99, 122]⟩ : ByteArray)⟩,
  ⟨(⟨#[99, 104]⟩ : ByteArray), 2, 1, false, false, (⟨#[99, 104]⟩ : ByteArray)⟩,
  ⟨(⟨#[99, 115]⟩ : ByteArray), 2, 0, false, true, (⟨#[99, 115, 100, 103]⟩ : ByteArray)⟩,
  ⟨(⟨#[99, 115, 100, 103]⟩ : ByteArray), 2, 0, false, true, (⟨#[99, 115]⟩ : ByteArray)⟩,
  ⟨(⟨#[115, 119, 97, 112]⟩ : ByteArray), 2, 0, true, false, (⟨#[115, 119, 97, 112]⟩ : ByteArray)⟩,
  ⟨(⟨#[105, 115, 119, 97, 112]⟩ : ByteArray), 2, 0, true, false, (⟨#[105, 115, 119, 97, 112, 100, 103]⟩ : ByteArray)⟩,
  ⟨(⟨#[105, 115, 119, 97, 112, 100, 103]⟩ : ByteArray), 2, 0, true, false, (⟨#[105, 115, 119, 97, 112]⟩ : ByteArray)⟩,
  ⟨(⟨#[99, 99, 120]⟩ : ByteArray), 3, 0, false, false, (⟨#[99, 99, 120]⟩ : ByteArray)⟩,
  ⟨(⟨#[99, 99, 122]⟩ : ByteArray), 3, 0, false, true, (⟨#[99, 99, 122]⟩ : ByteArray)⟩,
  ⟨(⟨#[99, 115, 119, 97, 112]⟩ : ByteArray), 3, 0, false, false, (⟨#[99, 115, 119, 97, 112]⟩ : ByteArray)⟩]
def krow (e : KE) (c : Value) : ByteArray × Value := (e.name, .agg [.int .i64 e.arity, .int .i64 e.halves, .bool e.cliff, .bool e.diag, .string e.back, c].toArray)
def kOf (b : ByteArray) : Option KE := KT.find? fun e => beqS b e.name
def arityS (b : ByteArray) : Int := match kOf b with | some e => e.arity | none => 0
def halvesS (b : ByteArray) : Int := match kOf b with | some e => e.halves | none => 0
def cliffS (b : ByteArray) : Bool := match kOf b with | some e => e.cliff | none => false
def diagS (b : ByteArray) : Bool := match kOf b with | some e => e.diag | none => false
def backS (b : ByteArray) : ByteArray × Int := match kOf b with | some e => (e.back, 0) | none => (⟨#[]⟩, 80)
def IsFn (v : Value) : Prop := ∃ f a b, v = .func (.func f) a b
theorem flip_spec (b : Int) (a : Option Addr) (l c : Nat) (h : IHp) : EvX Try.prog 76 [.int .i64 b, .slice a l c].toArray h (fun v h' => Ext h h' ∧ IsFn v) := by
  refine EvX_of Try.func76 rfl (by show 2 ≤ 6; decide) ?_
  repeat' (first | refine V_seq ?_ | refine V_region ?_ | refine WS_nil ?_ | refine S_normal ?_ | refine V_ret ?_ | refine WS_assign ?_ | refine WS_box rfl ?_ | refine WS_makeFunc ?_)
  exact retK_1 ⟨(Ext.push _ _).push' _, _, _, _, rfl⟩ (.inr rfl)
instance : CallIs Try.prog 76 := .of Try.func76 rfl rfl
theorem last_spec (b c : Int) (h : IHp) : EvX Try.prog 77 [.int .i64 b, .int .i64 c].toArray h (fun v h' => Ext h h' ∧ IsFn v) := by
  refine EvX_of Try.func77 rfl (by show 2 ≤ 6; decide) ?_
  repeat' (first | refine V_seq ?_ | refine V_region ?_ | refine WS_nil ?_ | refine S_normal ?_ | refine V_ret ?_ | refine WS_assign ?_ | refine WS_box rfl ?_ | refine WS_makeFunc ?_)
  exact retK_1 ⟨(Ext.push _ _).push' _, _, _, _, rfl⟩ (.inr rfl)
instance : CallIs Try.prog 77 := .of Try.func77 rfl rfl
theorem mixed_spec (b c d : Int) (h : IHp) : EvX Try.prog 78 [.int .i64 b, .int .i64 c, .int .i64 d].toArray h (fun v h' => Ext h h' ∧ IsFn v) := by
  refine EvX_of Try.func78 rfl (by show 3 ≤ 8; decide) ?_
  repeat' (first | refine V_seq ?_ | refine V_region ?_ | refine WS_nil ?_ | refine S_normal ?_ | refine V_ret ?_ | refine WS_assign ?_ | refine WS_box rfl ?_ | refine WS_makeFunc ?_)
  exact retK_1 ⟨((Ext.push _ _).push' _).push' _, _, _, _, rfl⟩ (.inr rfl)
instance : CallIs Try.prog 78 := .of Try.func78 rfl rfl
theorem swapped_spec (b c d : Int) (h : IHp) : EvX Try.prog 79 [.int .i64 b, .int .i64 c, .int .i64 d].toArray h (fun v h' => Ext h h' ∧ IsFn v) := by
  refine EvX_of Try.func79 rfl (by show 3 ≤ 8; decide) ?_
  repeat' (first | refine V_seq ?_ | refine V_region ?_ | refine WS_nil ?_ | refine S_normal ?_ | refine V_ret ?_ | refine WS_assign ?_ | refine WS_box rfl ?_ | refine WS_makeFunc ?_)
  exact retK_1 ⟨((Ext.push _ _).push' _).push' _, _, _, _, rfl⟩ (.inr rfl)
instance : CallIs Try.prog 79 := .of Try.func79 rfl rfl
def rowsOf (es : List KE) (cs : List Value) : List (ByteArray × Value) := List.zipWith krow es cs
theorem look_none {b : ByteArray} : ∀ (es : List KE) (cs : List Value), (es.all fun e => !beqS b e.name) = true → lookB b (rowsOf es cs) = none := by
  intro es
  induction es with
  | nil => intro cs _; rfl
  | cons e es ih =>
    intro cs h
    simp only [List.all_cons, Bool.and_eq_true, Bool.not_eq_true'] at h
    cases cs with
    | nil => rfl
    | cons c cs => simp only [rowsOf, List.zipWith_cons_cons, krow, lookB, h.1, Bool.false_eq_true, if_false]; exact ih cs h.2
theorem look_some {b : ByteArray} : ∀ (es : List KE) (cs : List Value), cs.length = es.length → match es.find? (fun e => beqS b e.name) with
    | none => lookB b (rowsOf es cs) = none
    | some e => ∃ c ∈ cs, lookB b (rowsOf es cs) = some (krow e c).2 := by
  intro es
  induction es with
  | nil => intro cs h; cases cs <;> simp [rowsOf, lookB] at h ⊢
  | cons e es ih =>
    intro cs h
    cases cs with
    | nil => simp at h
    | cons c cs =>
      simp only [List.length_cons, Nat.add_right_cancel_iff] at h
      rw [List.find?_cons]
      cases hb : beqS b e.name with
      | true => exact ⟨c, List.mem_cons_self, by simp [rowsOf, krow, lookB, hb]⟩
      | false =>
        have h1 := ih cs h
        cases hf : es.find? (fun e => beqS b e.name) with
        | none => rw [hf] at h1; simp only at h1 ⊢; simpa [rowsOf, krow, lookB, hb] using h1
        | some e' =>
          rw [hf] at h1
          obtain ⟨c', h2, h3⟩ := h1
          exact ⟨c', List.mem_cons_of_mem _ h2, by simpa [rowsOf, krow, lookB, hb] using h3⟩
/-- the map, as far as it is built -/
structure KInv (h0 H : IHp) (m n : Nat) (cs : List Value) : Prop where
  ext : Ext h0 H
  lo : h0.fresh ≤ m
  map : MapIs H m (rowsOf (KT.take n) cs)
  len : cs.length = n
  fns : ∀ c ∈ cs, IsFn c
theorem KInv.grow {h0 H H' : IHp} {m n : Nat} {cs : List Value} (k : KInv h0 H m n cs) (e : Ext H H') : KInv h0 H' m n cs := ⟨k.ext.trans e, k.lo, k.map.ext e, k.len, k.fns⟩
theorem KInv.add {h0 H H' : IHp} {m n : Nat} {cs : List Value} {c : Value} {e : KE} {b : ByteArray} {v : Value} (k : KInv h0 H m n cs) (he : KT[n]? = some e) (hb : (b, v) = krow e c) (hc : IsFn c)
    (hH : H' = H.putObj m (.map (ents (rowsOf (KT.take n) cs ++ [(b, v)]) 0) (rowsOf (KT.take n) cs ++ [(b, v)]).length)) : KInv h0 H' m (n + 1) (cs ++ [c]) := by
  have hn : n < KT.length := (List.getElem?_eq_some_iff.1 he).1
  have hr : rowsOf (KT.take (n + 1)) (cs ++ [c]) = rowsOf (KT.take n) cs ++ [(b, v)] := by
    rw [List.take_add_one, he, rowsOf, rowsOf, hb]
    simp only [Option.toList_some]
    rw [List.zipWith_append (by rw [List.length_take, k.len]; omega)]
    rfl
  refine ⟨by rw [hH]; exact k.ext.putObj k.lo, k.lo, ?_, by simp [k.len], fun c' hc' => ?_⟩
  · rw [hr, hH]
    refine ⟨k.map.even, ?_⟩
    have := (List.getElem?_eq_some_iff.1 k.map.eq).1
    simp [IHp.putObj, this]
  · rcases List.mem_append.1 hc' with h1 | h1
    · exact k.fns c' h1
    · simp at h1; subst h1; exact hc
set_option maxHeartbeats 4000000 in
theorem kinds_spec (h : IHp) : EvX Try.prog 59 [].toArray h (fun v h' => Ext h h' ∧ ∃ m cs, v = .map (some m) ∧ h.fresh ≤ m ∧ MapIs h' m (rowsOf KT cs) ∧ cs.length = 25 ∧ ∀ c ∈ cs, IsFn c) := by
  refine EvX_of Try.func59 rfl (by show 0 ≤ 56; decide) ?_
  repeat (first | refine V_seq ?_ | refine V_region ?_ | refine WS_nil ?_ | refine S_normal ?_ | refine WS_assign ?_)
  refine WS_makeMap ?_
  refine WS_gen ?_
  intro H0 hH0
  have k0 : KInv h H0 h.fresh 0 [] := ⟨hH0 ▸ Ext.push _ _, Nat.le_refl _, ⟨by unfold IHp.fresh; omega, by rw [hH0]; exact obj_push h _⟩, rfl, fun c hc => by simp at hc⟩
  generalize h.fresh = m at *
  clear hH0
  repeat (refine WS_buildSlice (by decide) rfl rfl (by simp [Value.cells]) ?_)
  refine WS_gen ?_
  intro G hG
  have k0 := k0.grow (H' := G) (hG ▸ Ext.push _ _)
  clear hG
  refine WS_call (flip_spec _ _ _ _ _) ?_
  rintro _ G ⟨eG, f, a, b, rfl⟩
  have k0 := k0.grow eG
  repeat (refine WS_build ?_)
  refine WS_insert (mi := k0.map) (look_none _ _ (by decide +kernel)) ?_
  refine WS_gen ?_
  intro H1 hH
  have k1 := k0.add (e := ⟨(⟨#[105]⟩ : ByteArray), 1, 0, true, true, (⟨#[105]⟩ : ByteArray)⟩) rfl rfl ⟨_, _, _, rfl⟩ hH
  refine WS_live1 1 ?_
  intro s g1
  clear hH
  repeat (refine WS_buildSlice (by decide) rfl rfl (by simp [Value.cells]) ?_)
  refine WS_gen ?_
  intro G hG
  have k1 := k1.grow (H' := G) (hG ▸ Ext.push _ _)
  clear hG
  refine WS_call (flip_spec _ _ _ _ _) ?_
  rintro _ G ⟨eG, f, a, b, rfl⟩
  have k1 := k1.grow eG
  repeat (refine WS_build ?_)
  refine WS_insert (mi := k1.map) (look_none _ _ (by decide +kernel)) ?_
  refine WS_gen ?_
  intro H2 hH
  have k2 := k1.add (e := ⟨(⟨#[120]⟩ : ByteArray), 1, 0, true, false, (⟨#[120]⟩ : ByteArray)⟩) rfl rfl ⟨_, _, _, rfl⟩ hH
  refine WS_live1 1 ?_
  intro s g1
  clear hH
  repeat (refine WS_buildSlice (by decide) rfl rfl (by simp [Value.cells]) ?_)
  refine WS_gen ?_
  intro G hG
  have k2 := k2.grow (H' := G) (hG ▸ Ext.push _ _)
  clear hG
  refine WS_call (flip_spec _ _ _ _ _) ?_
  rintro _ G ⟨eG, f, a, b, rfl⟩
  have k2 := k2.grow eG
  repeat (refine WS_build ?_)
  refine WS_insert (mi := k2.map) (look_none _ _ (by decide +kernel)) ?_
  refine WS_gen ?_
  intro H3 hH
  have k3 := k2.add (e := ⟨(⟨#[121]⟩ : ByteArray), 1, 0, true, false, (⟨#[121]⟩ : ByteArray)⟩) rfl rfl ⟨_, _, _, rfl⟩ hH
  refine WS_live1 1 ?_
  intro s g1
  clear hH
  skip
  refine WS_call (last_spec _ _ _) ?_
  rintro _ G ⟨eG, f, a, b, rfl⟩
  have k3 := k3.grow eG
  repeat (refine WS_build ?_)
  refine WS_insert (mi := k3.map) (look_none _ _ (by decide +kernel)) ?_
  refine WS_gen ?_
  intro H4 hH
  have k4 := k3.add (e := ⟨(⟨#[122]⟩ : ByteArray), 1, 0, true, true, (⟨#[122]⟩ : ByteArray)⟩) rfl rfl ⟨_, _, _, rfl⟩ hH
  refine WS_live1 1 ?_
  intro s g1
  clear hH
  skip
  refine WS_call (mixed_spec _ _ _ _) ?_
  rintro _ G ⟨eG, f, a, b, rfl⟩
  have k4 := k4.grow eG
  repeat (refine WS_build ?_)
  refine WS_insert (mi := k4.map) (look_none _ _ (by decide +kernel)) ?_
  refine WS_gen ?_
  intro H5 hH
  have k5 := k4.add (e := ⟨(⟨#[104]⟩ : ByteArray), 1, 1, true, false, (⟨#[104]⟩ : ByteArray)⟩) rfl rfl ⟨_, _, _, rfl⟩ hH
  refine WS_live1 1 ?_
  intro s g1
  clear hH
  skip
  refine WS_call (last_spec _ _ _) ?_
  rintro _ G ⟨eG, f, a, b, rfl⟩
  have k5 := k5.grow eG
  repeat (refine WS_build ?_)
  refine WS_insert (mi := k5.map) (look_none _ _ (by decide +kernel)) ?_
  refine WS_gen ?_
  intro H6 hH
  have k6 := k5.add (e := ⟨(⟨#[115]⟩ : ByteArray), 1, 0, true, true, (⟨#[115, 100, 103]⟩ : ByteArray)⟩) rfl rfl ⟨_, _, _, rfl⟩ hH
  refine WS_live1 1 ?_
  intro s g1
  clear hH
  skip
  refine WS_call (last_spec _ _ _) ?_
  rintro _ G ⟨eG, f, a, b, rfl⟩
  have k6 := k6.grow eG
  repeat (refine WS_build ?_)
  refine WS_insert (mi := k6.map) (look_none _ _ (by decide +kernel)) ?_
  refine WS_gen ?_
  intro H7 hH
  have k7 := k6.add (e := ⟨(⟨#[115, 100, 103]⟩ : ByteArray), 1, 0, true, true, (⟨#[115]⟩ : ByteArray)⟩) rfl rfl ⟨_, _, _, rfl⟩ hH
  refine WS_live1 1 ?_
  intro s g1
  clear hH
  skip
  refine WS_call (last_spec _ _ _) ?_
  rintro _ G ⟨eG, f, a, b, rfl⟩
  have k7 := k7.grow eG
  repeat (refine WS_build ?_)
  refine WS_insert (mi := k7.map) (look_none _ _ (by decide +kernel)) ?_
  refine WS_gen ?_
  intro H8 hH
  have k8 := k7.add (e := ⟨(⟨#[116]⟩ : ByteArray), 1, 0, false, true, (⟨#[116, 100, 103]⟩ : ByteArray)⟩) rfl rfl ⟨_, _, _, rfl⟩ hH
  refine WS_live1 1 ?_
  intro s g1
  clear hH
  skip
  refine WS_call (last_spec _ _ _) ?_
  rintro _ G ⟨eG, f, a, b, rfl⟩
  have k8 := k8.grow eG
  repeat (refine WS_build ?_)
  refine WS_insert (mi := k8.map) (look_none _ _ (by decide +kernel)) ?_
  refine WS_gen ?_
  intro H9 hH
  have k9 := k8.add (e := ⟨(⟨#[116, 100, 103]⟩ : ByteArray), 1, 0, false, true, (⟨#[116]⟩ : ByteArray)⟩) rfl rfl ⟨_, _, _, rfl⟩ hH
  refine WS_live1 1 ?_
  intro s g1
  clear hH
  skip
  refine WS_call (mixed_spec _ _ _ _) ?_
  rintro _ G ⟨eG, f, a, b, rfl⟩
  have k9 := k9.grow eG
  repeat (refine WS_build ?_)
  refine WS_insert (mi := k9.map) (look_none _ _ (by decide +kernel)) ?_
  refine WS_gen ?_
  intro H10 hH
  have k10 := k9.add (e := ⟨(⟨#[118]⟩ : ByteArray), 1, 1, true, false, (⟨#[118, 100, 103]⟩ : ByteArray)⟩) rfl rfl ⟨_, _, _, rfl⟩ hH
  refine WS_live1 1 ?_
  intro s g1
  clear hH
  skip
  refine WS_call (mixed_spec _ _ _ _) ?_
  rintro _ G ⟨eG, f, a, b, rfl⟩
  have k10 := k10.grow eG
  repeat (refine WS_build ?_)
  refine WS_insert (mi := k10.map) (look_none _ _ (by decide +kernel)) ?_
  refine WS_gen ?_
  intro H11 hH
  have k11 := k10.add (e := ⟨(⟨#[118, 100, 103]⟩ : ByteArray), 1, 1, true, false, (⟨#[118]⟩ : ByteArray)⟩) rfl rfl ⟨_, _, _, rfl⟩ hH
  refine WS_live1 1 ?_
  intro s g1
  clear hH
  repeat (refine WS_buildSlice (by decide) rfl rfl (by simp [Value.cells]) ?_)
  refine WS_gen ?_
  intro G hG
  have k11 := k11.grow (H' := G) (hG ▸ Ext.push _ _)
  clear hG
  refine WS_call (flip_spec _ _ _ _ _) ?_
  rintro _ G ⟨eG, f, a, b, rfl⟩
  have k11 := k11.grow eG
  repeat (refine WS_build ?_)
  refine WS_insert (mi := k11.map) (look_none _ _ (by decide +kernel)) ?_
  refine WS_gen ?_
  intro H12 hH
  have k12 := k11.add (e := ⟨(⟨#[119]⟩ : ByteArray), 1, 0, true, true, (⟨#[119, 100, 103]⟩ : ByteArray)⟩) rfl rfl ⟨_, _, _, rfl⟩ hH
  refine WS_live1 1 ?_
  intro s g1
  clear hH
  repeat (refine WS_buildSlice (by decide) rfl rfl (by simp [Value.cells]) ?_)
  refine WS_gen ?_
  intro G hG
  have k12 := k12.grow (H' := G) (hG ▸ Ext.push _ _)
  clear hG
  refine WS_call (flip_spec _ _ _ _ _) ?_
  rintro _ G ⟨eG, f, a, b, rfl⟩
  have k12 := k12.grow eG
  repeat (refine WS_build ?_)
  refine WS_insert (mi := k12.map) (look_none _ _ (by decide +kernel)) ?_
  refine WS_gen ?_
  intro H13 hH
  have k13 := k12.add (e := ⟨(⟨#[119, 100, 103]⟩ : ByteArray), 1, 0, true, true, (⟨#[119]⟩ : ByteArray)⟩) rfl rfl ⟨_, _, _, rfl⟩ hH
  refine WS_live1 1 ?_
  intro s g1
  clear hH
  skip
  refine WS_call (swapped_spec _ _ _ _) ?_
  rintro _ G ⟨eG, f, a, b, rfl⟩
  have k13 := k13.grow eG
  repeat (refine WS_build ?_)
  refine WS_insert (mi := k13.map) (look_none _ _ (by decide +kernel)) ?_
  refine WS_gen ?_
  intro H14 hH
  have k14 := k13.add (e := ⟨(⟨#[99, 120]⟩ : ByteArray), 2, 0, true, false, (⟨#[99, 120]⟩ : ByteArray)⟩) rfl rfl ⟨_, _, _, rfl⟩ hH
  refine WS_live1 1 ?_
  intro s g1
  clear hH
  repeat (refine WS_build ?_)
  refine WS_insert (mi := k14.map) (look_none _ _ (by decide +kernel)) ?_
  refine WS_gen ?_
  intro H15 hH
  have k15 := k14.add (e := ⟨(⟨#[99, 121]⟩ : ByteArray), 2, 0, true, false, (⟨#[99, 121]⟩ : ByteArray)⟩) rfl rfl ⟨_, _, _, rfl⟩ hH
  refine WS_live1 1 ?_
  intro s g1
  clear hH
  skip
  refine WS_call (last_spec _ _ _) ?_
  rintro _ G ⟨eG, f, a, b, rfl⟩
  have k15 := k15.grow eG
  repeat (refine WS_build ?_)
  refine WS_insert (mi := k15.map) (look_none _ _ (by decide +kernel)) ?_
  refine WS_gen ?_
  intro H16 hH
  have k16 := k15.add (e := ⟨(⟨#[99, 122]⟩ : ByteArray), 2, 0, true, true, (⟨#[99, 122]⟩ : ByteArray)⟩) rfl rfl ⟨_, _, _, rfl⟩ hH
  refine WS_live1 1 ?_
  intro s g1
  clear hH
  repeat (refine WS_build ?_)
  refine WS_insert (mi := k16.map) (look_none _ _ (by decide +kernel)) ?_
  refine WS_gen ?_
  intro H17 hH
  have k17 := k16.add (e := ⟨(⟨#[99, 104]⟩ : ByteArray), 2, 1, false, false, (⟨#[99, 104]⟩ : ByteArray)⟩) rfl rfl ⟨_, _, _, rfl⟩ hH
  refine WS_live1 1 ?_
  intro s g1
  clear hH
  skip
  refine WS_call (last_spec _ _ _) ?_
  rintro _ G ⟨eG, f, a, b, rfl⟩
  have k17 := k17.grow eG
  repeat (refine WS_build ?_)
  refine WS_insert (mi := k17.map) (look_none _ _ (by decide +kernel)) ?_
  refine WS_gen ?_
  intro H18 hH
  have k18 := k17.add (e := ⟨(⟨#[99, 115]⟩ : ByteArray), 2, 0, false, true, (⟨#[99, 115, 100, 103]⟩ : ByteArray)⟩) rfl rfl ⟨_, _, _, rfl⟩ hH
  refine WS_live1 1 ?_
  intro s g1
  clear hH
  skip
  refine WS_call (last_spec _ _ _) ?_
  rintro _ G ⟨eG, f, a, b, rfl⟩
  have k18 := k18.grow eG
  repeat (refine WS_build ?_)
  refine WS_insert (mi := k18.map) (look_none _ _ (by decide +kernel)) ?_
  refine WS_gen ?_
  intro H19 hH
  have k19 := k18.add (e := ⟨(⟨#[99, 115, 100, 103]⟩ : ByteArray), 2, 0, false, true, (⟨#[99, 115]⟩ : ByteArray)⟩) rfl rfl ⟨_, _, _, rfl⟩ hH
  refine WS_live1 1 ?_
  intro s g1
  clear hH
  skip
  refine WS_call (swapped_spec _ _ _ _) ?_
  rintro _ G ⟨eG, f, a, b, rfl⟩
  have k19 := k19.grow eG
  repeat (refine WS_build ?_)
  refine WS_insert (mi := k19.map) (look_none _ _ (by decide +kernel)) ?_
  refine WS_gen ?_
  intro H20 hH
  have k20 := k19.add (e := ⟨(⟨#[115, 119, 97, 112]⟩ : ByteArray), 2, 0, true, false, (⟨#[115, 119, 97, 112]⟩ : ByteArray)⟩) rfl rfl ⟨_, _, _, rfl⟩ hH
  refine WS_live1 1 ?_
  intro s g1
  clear hH
  skip
  refine WS_call (swapped_spec _ _ _ _) ?_
  rintro _ G ⟨eG, f, a, b, rfl⟩
  have k20 := k20.grow eG
  repeat (refine WS_build ?_)
  refine WS_insert (mi := k20.map) (look_none _ _ (by decide +kernel)) ?_
  refine WS_gen ?_
  intro H21 hH
  have k21 := k20.add (e := ⟨(⟨#[105, 115, 119, 97, 112]⟩ : ByteArray), 2, 0, true, false, (⟨#[105, 115, 119, 97, 112, 100, 103]⟩ : ByteArray)⟩) rfl rfl ⟨_, _, _, rfl⟩ hH
  refine WS_live1 1 ?_
  intro s g1
  clear hH
  skip
  refine WS_call (swapped_spec _ _ _ _) ?_
  rintro _ G ⟨eG, f, a, b, rfl⟩
  have k21 := k21.grow eG
  repeat (refine WS_build ?_)
  refine WS_insert (mi := k21.map) (look_none _ _ (by decide +kernel)) ?_
  refine WS_gen ?_
  intro H22 hH
  have k22 := k21.add (e := ⟨(⟨#[105, 115, 119, 97, 112, 100, 103]⟩ : ByteArray), 2, 0, true, false, (⟨#[105, 115, 119, 97, 112]⟩ : ByteArray)⟩) rfl rfl ⟨_, _, _, rfl⟩ hH
  refine WS_live1 1 ?_
  intro s g1
  clear hH
  skip
  refine WS_call (swapped_spec _ _ _ _) ?_
  rintro _ G ⟨eG, f, a, b, rfl⟩
  have k22 := k22.grow eG
  repeat (refine WS_build ?_)
  refine WS_insert (mi := k22.map) (look_none _ _ (by decide +kernel)) ?_
  refine WS_gen ?_
  intro H23 hH
  have k23 := k22.add (e := ⟨(⟨#[99, 99, 120]⟩ : ByteArray), 3, 0, false, false, (⟨#[99, 99, 120]⟩ : ByteArray)⟩) rfl rfl ⟨_, _, _, rfl⟩ hH
  refine WS_live1 1 ?_
  intro s g1
  clear hH
  skip
  refine WS_call (last_spec _ _ _) ?_
  rintro _ G ⟨eG, f, a, b, rfl⟩
  have k23 := k23.grow eG
  repeat (refine WS_build ?_)
  refine WS_insert (mi := k23.map) (look_none _ _ (by decide +kernel)) ?_
  refine WS_gen ?_
  intro H24 hH
  have k24 := k23.add (e := ⟨(⟨#[99, 99, 122]⟩ : ByteArray), 3, 0, false, true, (⟨#[99, 99, 122]⟩ : ByteArray)⟩) rfl rfl ⟨_, _, _, rfl⟩ hH
  refine WS_live1 1 ?_
  intro s g1
  clear hH
  skip
  refine WS_call (swapped_spec _ _ _ _) ?_
  rintro _ G ⟨eG, f, a, b, rfl⟩
  have k24 := k24.grow eG
  repeat (refine WS_build ?_)
  refine WS_insert (mi := k24.map) (look_none _ _ (by decide +kernel)) ?_
  refine WS_gen ?_
  intro H25 hH
  have k25 := k24.add (e := ⟨(⟨#[99, 115, 119, 97, 112]⟩ : ByteArray), 3, 0, false, false, (⟨#[99, 115, 119, 97, 112]⟩ : ByteArray)⟩) rfl rfl ⟨_, _, _, rfl⟩ hH
  refine WS_live1 1 ?_
  intro s g1
  clear hH
  repeat (first | refine WS_nil ?_ | refine S_normal ?_ | refine V_ret ?_ | refine WS_move ?_ | refine WS_assign ?_)
  exact retK_1 ⟨k25.ext, _, _, rfl, Nat.le_refl _, k25.map, k25.len, k25.fns⟩ (.inr rfl)
instance : CallIs Try.prog 59 := .of Try.func59 rfl rfl
theorem look_row (b : ByteArray) {cs : List Value} (hl : cs.length = 25) : ∃ c, (lookB b (rowsOf KT cs)).getD (.agg [.int .i64 0, .int .i64 0, .bool false, .bool false, .string ByteArray.empty, .nilFunc].toArray) = .agg [.int .i64 (arityS b), .int .i64 (halvesS b), .bool (cliffS b), .bool (diagS b), .string (backS b).1, c].toArray ∧ (lookB b (rowsOf KT cs)).isSome = (kOf b).isSome := by
  have h := look_some (b := b) KT cs hl
  unfold arityS halvesS cliffS diagS backS
  cases hk : kOf b with
  | none => unfold kOf at hk; rw [hk] at h; simp only at h; rw [h]; exact ⟨_, rfl, rfl⟩
  | some e => unfold kOf at hk; rw [hk] at h; obtain ⟨c, _, h⟩ := h; rw [h]; exact ⟨c, rfl, rfl⟩
theorem gateArity_spec (b : ByteArray) (h : IHp) : EvX Try.prog 73 [.string b].toArray h (fun v h' => v = .int .i64 (arityS b) ∧ Ext h h') := by
  refine EvX_of Try.func73 rfl (by show 1 ≤ 7; decide) ?_
  repeat' (first | refine V_seq ?_ | refine V_region ?_ | refine WS_nil ?_ | refine S_normal ?_ | refine WS_assign ?_)
  refine WS_call (kinds_spec h) ?_
  rintro _ H ⟨eH, m, cs, rfl, hm, hmap, hl, _⟩
  obtain ⟨c, hc, _⟩ := look_row b hl
  repeat' (refine WS_move ?_)
  refine WS_lookup (mi := hmap) ?_
  rw [hc]
  repeat' (first | refine WS_nil ?_ | refine S_normal ?_ | refine V_ret ?_ | refine WS_assign ?_ | refine WS_field ?_)
  exact retK_1 ⟨rfl, eH⟩ (.inr rfl)
instance : CallIs Try.prog 73 := .of Try.func73 rfl rfl
theorem gateHalves_spec (b : ByteArray) (h : IHp) : EvX Try.prog 72 [.string b].toArray h (fun v h' => v = .int .i64 (halvesS b) ∧ Ext h h') := by
  refine EvX_of Try.func72 rfl (by show 1 ≤ 7; decide) ?_
  repeat' (first | refine V_seq ?_ | refine V_region ?_ | refine WS_nil ?_ | refine S_normal ?_ | refine WS_assign ?_)
  refine WS_call (kinds_spec h) ?_
  rintro _ H ⟨eH, m, cs, rfl, hm, hmap, hl, _⟩
  obtain ⟨c, hc, _⟩ := look_row b hl
  repeat' (refine WS_move ?_)
  refine WS_lookup (mi := hmap) ?_
  rw [hc]
  repeat' (first | refine WS_nil ?_ | refine S_normal ?_ | refine V_ret ?_ | refine WS_assign ?_ | refine WS_field ?_)
  exact retK_1 ⟨rfl, eH⟩ (.inr rfl)
instance : CallIs Try.prog 72 := .of Try.func72 rfl rfl
instance : CallIs Try.prog 35 := .of Try.func35 rfl rfl
end Go.Ideal

-- Cb
set_option linter.unusedSimpArgs false
set_option linter.unusedVariables false
namespace Go.Ideal
open Go Go.Proofs
/-! ### The reference's switches over the names -/
theorem kOf_mem {b : ByteArray} {e : KE} (h : kOf b = some e) : e ∈ KT ∧ b = e.name := by
  unfold kOf at h
  have h2 := List.find?_some h
  exact ⟨List.mem_of_find?_eq_some h, beqS_iff.1 h2⟩
theorem halvesS_01 (b : ByteArray) : halvesS b = 0 ∨ halvesS b = 1 := by
  unfold halvesS
  cases h : kOf b with
  | none => exact .inl rfl
  | some e =>
    have hall : (KT.all fun e => e.halves == 0 || e.halves == 1) = true := by decide +kernel
    rw [List.all_eq_true] at hall
    have := hall e (kOf_mem h).1
    simpa using this
instance : CallIs Try.prog 64 := .of Try.func64 rfl rfl
instance : CallIs Try.prog 83 := .of Try.func83 rfl rfl
end Go.Ideal
