/- Part 4 of what the proof stands on: an interpreter over an ideal memory that is proved sound, steps over it, and contracts of the functions that are called. No condition: no law is claimed here. -/
import Derived.Test.YtbkldjahedmeiaaC3
import Derived.Carry
import Derived.OpenShut
-- Lm
set_option linter.unusedSimpArgs false
set_option linter.unusedVariables false
namespace Go.Ideal
open Go Go.Proofs
def stepCells (st : List (Nat × Nat)) : List Value := (st.map fun p => [Value.int .i64 p.1, Value.int .i64 p.2]).flatten
theorem stepCells_add (st : List (Nat × Nat)) (a b : Nat) : stepCells (st ++ [(a, b)]) = stepCells st ++ [.int .i64 a, .int .i64 b] := by simp [stepCells]
theorem retK_0 {P : Program} {E : Env} {s : Nat → Value} {h : IHp} {Φ : Value → IHp → Prop} (k : Φ (.tuple #[]) h) {e : IExit} (he : e = .normal ∨ e = .ret) : retK P E [] Φ e s h := by
  unfold retK; exact ⟨he, [], rfl, k⟩
def addStep (rows : List Nat) (f t : Nat) : List Nat := rows.set t (rows.getD t 0 ^^^ rows.getD f 0)
theorem addStep_len (rows : List Nat) (f t : Nat) : (addStep rows f t).length = rows.length := by simp [addStep]
theorem All64.addStep {rows : List Nat} (h : All64 rows) (f t : Nat) : All64 (addStep rows f t) := h.set (Nat.xor_lt_two_pow (h.get t) (h.get f))
theorem add_spec (f t n rb p4 p5 lo k : Nat) (y : Bool) (rows : List Nat) (st : List (Nat × Nat)) (sv : Value) (h : IHp) (hn : rows.length = n) (hf : f < n) (ht : t < n) (h64 : All64 rows) (h4 : rb < p4) (h5 : p4 < p5) (hlo : p5 < lo) (hlo2 : lo ≤ h.fresh) (hk : st.length = k) (hk2 : k ≤ 2 ^ 20)
    (or_ : ObjIs h rb (u64s rows) 42 y) (o4 : ObjIs h p4 [.slice (some (ad rb 0)) n n] 51 true) (o5 : ObjIs h p5 [sv] 120 true) (hs : LstM 2 lo h sv k (stepCells st) 127) :
    EvX Try.prog 112 [.int .i64 f, .int .i64 t, .pointer (some (ad p4 0)), .pointer (some (ad p5 0))].toArray h (fun v h' => (∃ sv', ObjIs h' p5 [sv'] 120 true ∧ LstM 2 lo h' sv' (k + 1) (stepCells (st ++ [(f, t)])) 127) ∧ ObjIs h' rb (u64s (addStep rows f t)) 42 y ∧ ObjIs h' p4 [.slice (some (ad rb 0)) n n] 51 true ∧ (∀ h0, Ext h0 h → h0.fresh ≤ rb → Ext h0 h') ∧ h.fresh ≤ h'.fresh) := by
  have n1 : NeB p4 rb := .of o4.even or_.even (by omega)
  have n2 : NeB p5 rb := .of o5.even or_.even (by omega)
  have n3 : NeB rb p5 := n2.symm
  have n4 : NeB p4 p5 := .of o4.even o5.even (by omega)
  have c1 : CellIs h rb (0 + (t : Int).toNat * 1) (.int .u64 (rows.getD t 0 : Nat)) := by rw [Int.toNat_natCast]; exact cell_u64 or_ (by omega)
  have c2 : CellIs h rb (0 + (f : Int).toNat * 1) (.int .u64 (rows.getD f 0 : Nat)) := by rw [Int.toNat_natCast]; exact cell_u64 or_ (by omega)
  have s1 : SetIs (u64s rows) (0 + (t : Int).toNat * 1) [.int .u64 ((rows.getD t 0 ^^^ rows.getD f 0 : Nat) : Int)] (u64s (addStep rows f t)) := by rw [Int.toNat_natCast]; exact set_u64 _ (by omega)
  rw [← xor_u64 (h64.get t) (h64.get f)] at s1
  have hb1 : 0 ≤ (t : Int) ∧ (t : Int) < (n : Int) := by omega
  have hb2 : 0 ≤ (f : Int) ∧ (f : Int) < (n : Int) := by omega
  obtain ⟨asv, rfl⟩ := hs.isSlice
  refine EvX_of Try.func112 rfl (by show 4 ≤ 22; decide) ?_
  repeat' (first | (first | refine V_seq ?_ | refine V_region ?_ | refine WS_nil ?_ | refine S_normal ?_ | refine V_block ?_ | refine B_normal ?_ | refine V_skip ?_ | refine V_exit ?_ | refine V_ret ?_ | refine S_exit ?_ | refine S_ret ?_ | refine B_exit ?_ | refine B_ret ?_ | refine B_pass rfl ?_ | refine C_normal ?_ | refine C_exit ?_ | refine C_ret ?_ | refine WS_off rfl (by first | rfl | assumption) ?_ | refine WS_on rfl (by first | rfl | assumption) ?_ | refine WS_move ?_ | refine WS_assign ?_ | refine WS_pick_t (by first | rfl | assumption) ?_ | refine WS_pick_f (by first | rfl | assumption) ?_ | refine WS_isnil ?_ | refine WS_notnil ?_ | refine WS_cmp rfl ?_ | refine WS_addi (by omega) ?_ | refine WS_subi (by omega) ?_ | refine WS_arith rfl ?_ | refine WS_not ?_ | refine WS_neg ?_ | refine WS_convert ?_ | refine WS_len_slice ?_ | refine WS_len_string ?_ | refine WS_fieldAddr ?_ | refine WS_load ?_ | refine WS_load_agg ?_ | refine WS_box_agg rfl ?_ | refine WS_box rfl ?_ | refine WS_makeFunc ?_ | refine WS_extract ?_ | refine WS_field ?_ | refine WS_build ?_ | refine WS_zero ?_ | refine WS_shift (by first | decide | omega) rfl ?_ | refine WS_strcmp rfl ?_ | refine WS_indexAddr (by first | decide | omega) ?_ | refine WS_alloc ?_ | refine WS_store rfl ?_ | refine WS_buildSlice (by decide) rfl rfl (by simp [Value.cells]) ?_ | refine WDK_go ?_ | refine WDT_go ?_ | refine WD_nil ?_ | refine WD_take_off rfl rfl (by first | rfl | assumption) ?_ | refine WD_load rfl ?_ | refine WD_load_on rfl rfl (by first | rfl | assumption) ?_ | refine WD_load_agg rfl ?_ | refine WD_load_agg_on rfl rfl (by first | rfl | assumption) ?_ | refine WD_take rfl rfl ?_ | refine WD_take_on rfl rfl (by first | rfl | assumption) rfl ?_ | refine WD_drop rfl rfl ?_ | refine WD_one rfl ?_ | refine WD_virt rfl rfl ?_) | (refine WS_guard rfl ?_ ?_ <;> intro hg) | (refine V_cond ?_ ?_ <;> intro hc <;> try (cases hc; done)))
  refine V_draw (plan := [.take 0, .take 1, .take 2, .take 3, .take 4, .take 5, .take 6, .take 7, .take 8, .take 9, .one 10]) (by kernel_rfl) ?_
  repeat' (first | (first | refine V_seq ?_ | refine V_region ?_ | refine WS_nil ?_ | refine S_normal ?_ | refine V_block ?_ | refine B_normal ?_ | refine V_skip ?_ | refine V_exit ?_ | refine V_ret ?_ | refine S_exit ?_ | refine S_ret ?_ | refine B_exit ?_ | refine B_ret ?_ | refine B_pass rfl ?_ | refine C_normal ?_ | refine C_exit ?_ | refine C_ret ?_ | refine WS_off rfl (by first | rfl | assumption) ?_ | refine WS_on rfl (by first | rfl | assumption) ?_ | refine WS_move ?_ | refine WS_assign ?_ | refine WS_pick_t (by first | rfl | assumption) ?_ | refine WS_pick_f (by first | rfl | assumption) ?_ | refine WS_isnil ?_ | refine WS_notnil ?_ | refine WS_cmp rfl ?_ | refine WS_addi (by omega) ?_ | refine WS_subi (by omega) ?_ | refine WS_arith rfl ?_ | refine WS_not ?_ | refine WS_neg ?_ | refine WS_convert ?_ | refine WS_len_slice ?_ | refine WS_len_string ?_ | refine WS_fieldAddr ?_ | refine WS_load ?_ | refine WS_load_agg ?_ | refine WS_box_agg rfl ?_ | refine WS_box rfl ?_ | refine WS_makeFunc ?_ | refine WS_extract ?_ | refine WS_field ?_ | refine WS_build ?_ | refine WS_zero ?_ | refine WS_shift (by first | decide | omega) rfl ?_ | refine WS_strcmp rfl ?_ | refine WS_indexAddr (by first | decide | omega) ?_ | refine WS_alloc ?_ | refine WS_store rfl ?_ | refine WS_buildSlice (by decide) rfl rfl (by simp [Value.cells]) ?_ | refine WDK_go ?_ | refine WDT_go ?_ | refine WD_nil ?_ | refine WD_take_off rfl rfl (by first | rfl | assumption) ?_ | refine WD_load rfl ?_ | refine WD_load_on rfl rfl (by first | rfl | assumption) ?_ | refine WD_load_agg rfl ?_ | refine WD_load_agg_on rfl rfl (by first | rfl | assumption) ?_ | refine WD_take rfl rfl ?_ | refine WD_take_on rfl rfl (by first | rfl | assumption) rfl ?_ | refine WD_drop rfl rfl ?_ | refine WD_one rfl ?_ | refine WD_virt rfl rfl ?_) | (refine WS_guard rfl ?_ ?_ <;> intro hg) | (refine V_cond ?_ ?_ <;> intro hc <;> try (cases hc; done)))
  obtain ⟨H1, hH1⟩ : ∃ H, H = h.put rb (u64s (addStep rows f t)) 42 y := ⟨_, rfl⟩
  have f1 : H1.fresh = h.fresh := by rw [hH1, putObj_fresh]
  have q1 : ObjIs H1 rb (u64s (addStep rows f t)) 42 y := hH1 ▸ inferInstance
  have q4 : ObjIs H1 p4 [.slice (some (ad rb 0)) n n] 51 true := hH1 ▸ inferInstance
  have q5 : ObjIs H1 p5 [.slice asv k k] 120 true := hH1 ▸ inferInstance
  have hs1 : LstM 2 lo H1 (.slice asv k k) k (stepCells st) 127 := hH1 ▸ hs.put (fun hh => by have := (hs.block hh).1; omega) or_.even
  have hE1 : ∀ h0, Ext h0 h → h0.fresh ≤ rb → Ext h0 H1 := fun h0 e l => hH1 ▸ e.putObj l
  show WS Try.prog _ _ _ _ _ ((h.put rb (u64s (addStep rows f t)) 42 y).push (IObj.cells [Value.int IntKind.i64 ↑f, Value.int IntKind.i64 ↑t] 127 true))
  rw [show (h.put (ad rb 0).block (u64s (addStep rows f t)) 42 y) = H1 from hH1.symm]
  have c3 : CellIs (H1.push (IObj.cells [Value.int IntKind.i64 ↑f, Value.int IntKind.i64 ↑t] 127 true)) H1.fresh 0 (.int .i64 f) := inferInstance
  refine WS_appendM (m := 2) (lo := lo) (hs1.ext (Ext.push _ _)) (by rw [push_fresh]; omega) (by omega) ?_
  intro v' h2 hL2 m2 hb
  rw [push_fresh] at hb
  have nb5 : blockOf (.slice asv k k) ≠ some p5 := fun hh => by have := (hs1.block hh).1; omega
  have r5 : ObjIs h2 p5 [.slice asv k k] 120 true := m2.obj inferInstance nb5
  have r4 : ObjIs h2 p4 [.slice (some (ad rb 0)) n n] 51 true := m2.obj inferInstance (fun hh => by have := (hs1.block hh).1; omega)
  have r1 : ObjIs h2 rb (u64s (addStep rows f t)) 42 y := m2.obj inferInstance (fun hh => by have := (hs1.block hh).1; omega)
  obtain ⟨a2, rfl⟩ := hL2.isSlice
  repeat' (first | (first | refine V_seq ?_ | refine V_region ?_ | refine WS_nil ?_ | refine S_normal ?_ | refine V_block ?_ | refine B_normal ?_ | refine V_skip ?_ | refine V_exit ?_ | refine V_ret ?_ | refine S_exit ?_ | refine S_ret ?_ | refine B_exit ?_ | refine B_ret ?_ | refine B_pass rfl ?_ | refine C_normal ?_ | refine C_exit ?_ | refine C_ret ?_ | refine WS_off rfl (by first | rfl | assumption) ?_ | refine WS_on rfl (by first | rfl | assumption) ?_ | refine WS_move ?_ | refine WS_assign ?_ | refine WS_pick_t (by first | rfl | assumption) ?_ | refine WS_pick_f (by first | rfl | assumption) ?_ | refine WS_isnil ?_ | refine WS_notnil ?_ | refine WS_cmp rfl ?_ | refine WS_addi (by omega) ?_ | refine WS_subi (by omega) ?_ | refine WS_arith rfl ?_ | refine WS_not ?_ | refine WS_neg ?_ | refine WS_convert ?_ | refine WS_len_slice ?_ | refine WS_len_string ?_ | refine WS_fieldAddr ?_ | refine WS_load ?_ | refine WS_load_agg ?_ | refine WS_box_agg rfl ?_ | refine WS_box rfl ?_ | refine WS_makeFunc ?_ | refine WS_extract ?_ | refine WS_field ?_ | refine WS_build ?_ | refine WS_zero ?_ | refine WS_shift (by first | decide | omega) rfl ?_ | refine WS_strcmp rfl ?_ | refine WS_indexAddr (by first | decide | omega) ?_ | refine WS_alloc ?_ | refine WS_store rfl ?_ | refine WS_buildSlice (by decide) rfl rfl (by simp [Value.cells]) ?_ | refine WDK_go ?_ | refine WDT_go ?_ | refine WD_nil ?_ | refine WD_take_off rfl rfl (by first | rfl | assumption) ?_ | refine WD_load rfl ?_ | refine WD_load_on rfl rfl (by first | rfl | assumption) ?_ | refine WD_load_agg rfl ?_ | refine WD_load_agg_on rfl rfl (by first | rfl | assumption) ?_ | refine WD_take rfl rfl ?_ | refine WD_take_on rfl rfl (by first | rfl | assumption) rfl ?_ | refine WD_drop rfl rfl ?_ | refine WD_one rfl ?_ | refine WD_virt rfl rfl ?_) | (refine WS_guard rfl ?_ ?_ <;> intro hg) | (refine V_cond ?_ ?_ <;> intro hc <;> try (cases hc; done)))
  have nv : blockOf (.slice a2 (k + 1) (k + 1)) ≠ some p5 := fun hh => by rw [hb] at hh; have := Option.some.inj hh; omega
  refine retK_0 ⟨⟨_, inferInstance, ?_⟩, inferInstance, inferInstance, ?_, ?_⟩ (.inl rfl)
  · rw [stepCells_add]; exact hL2.put nv o5.even
  · intro h0 e l
    have e2 : Ext h0 (H1.push (IObj.cells [Value.int IntKind.i64 ↑f, Value.int IntKind.i64 ↑t] 127 true)) := (hE1 h0 e l).push' _
    have e3 : Ext h0 h2 := m2.extM e2 (((hs1.ext (Ext.push _ _))).lower (by omega))
    exact e3.putObj (by omega)
  · rw [putObj_fresh]
    have := m2.len
    have h3 : (H1.push (IObj.cells [Value.int IntKind.i64 ↑f, Value.int IntKind.i64 ↑t] 127 true)).fresh = h.fresh + 2 := by rw [push_fresh, f1]
    unfold IHp.fresh at *
    omega
instance : CallIs Try.prog 112 := .of Try.func112 rfl rfl
end Go.Ideal

-- Ln
set_option linter.unusedSimpArgs false
set_option linter.unusedVariables false
namespace Go.Ideal
open Go Go.Proofs
abbrev RSt := List Nat × List (Nat × Nat)
/-- until row j has bit j: rows behind it are added -/
def fixK (j n : Nat) : Nat → Nat → RSt → Option RSt
  | 0, _, _ => none
  | f + 1, i, st => if bitAt (st.1.getD j 0) j = true then some st else if i + 1 = n then none else fixK j n f (i + 1) (if bitAt (st.1.getD (i + 1) 0) j = true then (addStep st.1 (i + 1) j, st.2 ++ [(i + 1, j)]) else st)
def clearK (j : Nat) : Nat → Nat → RSt → RSt
  | _, 0, st => st
  | k, m + 1, st => clearK j (k + 1) m (if k ≠ j ∧ bitAt (st.1.getD k 0) j = true then (addStep st.1 j k, st.2 ++ [(j, k)]) else st)
def redK (xs : List Nat) : Nat → Option RSt
  | 0 => some (xs, [])
  | j + 1 => (redK xs j).bind fun st => (fixK j xs.length (xs.length - j) j st).map (clearK j 0 xs.length)
theorem redK_none {xs : List Nat} {j : Nat} (h : redK xs j = none) : ∀ n, j ≤ n → redK xs n = none := by
  intro n hn
  induction hn with
  | refl => exact h
  | step _ ih => rw [redK, ih]; rfl
theorem bit_one {r : Nat} {j : Int} (hj : 0 ≤ j) (hr : r < 2 ^ 64) (h : decide (ibits BinOp.and IntKind.u64 ((r : Int).fdiv (2 ^ min j.toNat IntKind.u64.bits)) 1 = 1) = true) : bitAt r j.toNat = true := by
  rw [shr_u64 hj hr, and1_u64 (shr_lt _ hr)] at h
  have h1 : r >>> j.toNat &&& 1 = 1 := Int.ofNat_inj.mp (show ((r >>> j.toNat &&& 1 : Nat) : Int) = ((1 : Nat) : Int) from of_decide_eq_true h)
  unfold bitAt; rw [h1]; rfl
theorem bit_not_one {r : Nat} {j : Int} (hj : 0 ≤ j) (hr : r < 2 ^ 64) (h : decide (ibits BinOp.and IntKind.u64 ((r : Int).fdiv (2 ^ min j.toNat IntKind.u64.bits)) 1 = 1) = false) : bitAt r j.toNat = false := by
  rw [shr_u64 hj hr, and1_u64 (shr_lt _ hr)] at h
  rcases bit_cases r j.toNat with h1 | h1
  · unfold bitAt; rw [h1]; rfl
  · exact absurd (congrArg (Nat.cast (R := Int)) h1) (of_decide_eq_false h)
theorem bit_zero {r : Nat} {j : Int} (hj : 0 ≤ j) (hr : r < 2 ^ 64) (h : decide (ibits BinOp.and IntKind.u64 ((r : Int).fdiv (2 ^ min j.toNat IntKind.u64.bits)) 1 = 0) = true) : bitAt r j.toNat = false := by
  rw [shr_u64 hj hr, and1_u64 (shr_lt _ hr)] at h
  have h1 : r >>> j.toNat &&& 1 = 0 := Int.ofNat_inj.mp (show ((r >>> j.toNat &&& 1 : Nat) : Int) = ((0 : Nat) : Int) from of_decide_eq_true h)
  unfold bitAt; rw [h1]; rfl
theorem bit_not_zero {r : Nat} {j : Int} (hj : 0 ≤ j) (hr : r < 2 ^ 64) (h : decide (ibits BinOp.and IntKind.u64 ((r : Int).fdiv (2 ^ min j.toNat IntKind.u64.bits)) 1 = 0) = false) : bitAt r j.toNat = true := by
  rw [shr_u64 hj hr, and1_u64 (shr_lt _ hr)] at h
  rcases bit_cases r j.toNat with h1 | h1
  · exact absurd (congrArg (Nat.cast (R := Int)) h1) (of_decide_eq_false h)
  · unfold bitAt; rw [h1]; rfl
set_option maxHeartbeats 2000000 in
theorem reduced_spec (N : Int) (a : Option Addr) (len cap : Nat) (xs : List Nat) (h : IHp) (hx : SlIs h a len cap (u64s xs)) (h64 : All64 xs) (hck : checkS N xs = 0) :
    EvX Try.prog 71 [.agg [.int .i64 N, .slice a len cap].toArray].toArray h (fun v h' => Ext h h' ∧ match redK xs xs.length with
      | none => v = .tuple [.slice none 0 0, .bool false].toArray
      | some st => ∃ sv, v = .tuple [sv, .bool true].toArray ∧ LstM 2 h.fresh h' sv st.2.length (stepCells st.2) 127) := by
  have hlen : xs.length = len := by have := hx.1; simpa [u64s] using this
  obtain ⟨hN0, hN1, hN2, _⟩ := checkS_zero hck
  refine EvX_of Try.func71 rfl (by show 1 ≤ 71; decide) ?_
  repeat' (first | (first | refine V_seq ?_ | refine V_region ?_ | refine WS_nil ?_ | refine S_normal ?_ | refine V_block ?_ | refine B_normal ?_ | refine V_skip ?_ | refine V_exit ?_ | refine V_ret ?_ | refine S_exit ?_ | refine S_ret ?_ | refine B_exit ?_ | refine B_ret ?_ | refine B_pass rfl ?_ | refine C_normal ?_ | refine C_exit ?_ | refine C_ret ?_ | refine WS_off rfl (by first | rfl | assumption) ?_ | refine WS_on rfl (by first | rfl | assumption) ?_ | refine WS_move ?_ | refine WS_assign ?_ | refine WS_pick_t (by first | rfl | assumption) ?_ | refine WS_pick_f (by first | rfl | assumption) ?_ | refine WS_isnil ?_ | refine WS_notnil ?_ | refine WS_cmp rfl ?_ | refine WS_addi (by omega) ?_ | refine WS_subi (by omega) ?_ | refine WS_arith rfl ?_ | refine WS_not ?_ | refine WS_neg ?_ | refine WS_convert ?_ | refine WS_len_slice ?_ | refine WS_len_string ?_ | refine WS_fieldAddr ?_ | refine WS_load ?_ | refine WS_load_agg ?_ | refine WS_box_agg rfl ?_ | refine WS_box rfl ?_ | refine WS_makeFunc ?_ | refine WS_extract ?_ | refine WS_field ?_ | refine WS_build ?_ | refine WS_zero ?_ | refine WS_shift (by first | decide | omega) rfl ?_ | refine WS_strcmp rfl ?_ | refine WS_indexAddr (by first | decide | omega) ?_ | refine WS_alloc ?_ | refine WS_store rfl ?_ | refine WS_buildSlice (by decide) rfl rfl (by simp [Value.cells]) ?_ | refine WDK_go ?_ | refine WDT_go ?_ | refine WD_nil ?_ | refine WD_take_off rfl rfl (by first | rfl | assumption) ?_ | refine WD_load rfl ?_ | refine WD_load_on rfl rfl (by first | rfl | assumption) ?_ | refine WD_load_agg rfl ?_ | refine WD_load_agg_on rfl rfl (by first | rfl | assumption) ?_ | refine WD_take rfl rfl ?_ | refine WD_take_on rfl rfl (by first | rfl | assumption) rfl ?_ | refine WD_drop rfl rfl ?_ | refine WD_one rfl ?_ | refine WD_virt rfl rfl ?_) | (refine WS_guard rfl ?_ ?_ <;> intro hg) | (refine V_cond ?_ ?_ <;> intro hc <;> try (cases hc; done)))
  obtain ⟨H, hH⟩ : ∃ H, H = h.push (IObj.cells [Value.int IntKind.i64 N, Value.slice a len cap] 53 true) := ⟨_, rfl⟩
  have f0 : H.fresh = h.fresh + 2 := by rw [hH, push_fresh]
  have e0 : Ext h H := hH ▸ Ext.push _ _
  have b0 : ObjIs H h.fresh [.int .i64 N, .slice a len cap] 53 true := hH ▸ inferInstance
  rw [← hH]
  refine WS_call (Clone_spec a len cap (u64s xs) H (hx.ext e0) (by omega)) ?_
  rintro v H2 ⟨eX2, hO⟩
  have g2 := eX2.fresh
  obtain ⟨av, rfl⟩ := hO.isSlice
  have n02 : NeB h.fresh H2.fresh := .fresh (by omega)
  have b2 : ObjIs H2 h.fresh [.int .i64 N, .slice a len cap] 53 true := inferInstance
  repeat' (first | (first | refine V_seq ?_ | refine V_region ?_ | refine WS_nil ?_ | refine S_normal ?_ | refine V_block ?_ | refine B_normal ?_ | refine V_skip ?_ | refine V_exit ?_ | refine V_ret ?_ | refine S_exit ?_ | refine S_ret ?_ | refine B_exit ?_ | refine B_ret ?_ | refine B_pass rfl ?_ | refine C_normal ?_ | refine C_exit ?_ | refine C_ret ?_ | refine WS_off rfl (by first | rfl | assumption) ?_ | refine WS_on rfl (by first | rfl | assumption) ?_ | refine WS_move ?_ | refine WS_assign ?_ | refine WS_pick_t (by first | rfl | assumption) ?_ | refine WS_pick_f (by first | rfl | assumption) ?_ | refine WS_isnil ?_ | refine WS_notnil ?_ | refine WS_cmp rfl ?_ | refine WS_addi (by omega) ?_ | refine WS_subi (by omega) ?_ | refine WS_arith rfl ?_ | refine WS_not ?_ | refine WS_neg ?_ | refine WS_convert ?_ | refine WS_len_slice ?_ | refine WS_len_string ?_ | refine WS_fieldAddr ?_ | refine WS_load ?_ | refine WS_load_agg ?_ | refine WS_box_agg rfl ?_ | refine WS_box rfl ?_ | refine WS_makeFunc ?_ | refine WS_extract ?_ | refine WS_field ?_ | refine WS_build ?_ | refine WS_zero ?_ | refine WS_shift (by first | decide | omega) rfl ?_ | refine WS_strcmp rfl ?_ | refine WS_indexAddr (by first | decide | omega) ?_ | refine WS_alloc ?_ | refine WS_store rfl ?_ | refine WS_buildSlice (by decide) rfl rfl (by simp [Value.cells]) ?_ | refine WDK_go ?_ | refine WDT_go ?_ | refine WD_nil ?_ | refine WD_take_off rfl rfl (by first | rfl | assumption) ?_ | refine WD_load rfl ?_ | refine WD_load_on rfl rfl (by first | rfl | assumption) ?_ | refine WD_load_agg rfl ?_ | refine WD_load_agg_on rfl rfl (by first | rfl | assumption) ?_ | refine WD_take rfl rfl ?_ | refine WD_take_on rfl rfl (by first | rfl | assumption) rfl ?_ | refine WD_drop rfl rfl ?_ | refine WD_one rfl ?_ | refine WD_virt rfl rfl ?_) | (refine WS_guard rfl ?_ ?_ <;> intro hg) | (refine V_cond ?_ ?_ <;> intro hc <;> try (cases hc; done)))
  obtain ⟨H3, hH3⟩ : ∃ H, H = ((H2.push (IObj.cells [Value.slice none 0 0] 51 true)).put H2.fresh [Value.slice av (u64s xs).length (u64s xs).length] 51 true) := ⟨_, rfl⟩
  have f3 : H3.fresh = H2.fresh + 2 := by rw [hH3, putObj_fresh, push_fresh]
  have e3 : Ext H2 H3 := hH3 ▸ (Ext.push _ _).putObj (Nat.le_refl _)
  have o3 : ObjIs H3 H2.fresh [Value.slice av (u64s xs).length (u64s xs).length] 51 true := hH3 ▸ inferInstance
  rw [← hH3]
  obtain ⟨H4, hH4⟩ : ∃ H, H = H3.push (IObj.cells [Value.slice none 0 0] 120 true) := ⟨_, rfl⟩
  have f4 : H4.fresh = H3.fresh + 2 := by rw [hH4, push_fresh]
  have e4 : Ext H3 H4 := hH4 ▸ Ext.push _ _
  have o4 : ObjIs H4 H3.fresh [Value.slice none 0 0] 120 true := hH4 ▸ inferInstance
  have o34 : ObjIs H4 H2.fresh [Value.slice av (u64s xs).length (u64s xs).length] 51 true := ⟨o3.even, e4.new _ _ o3.eq⟩
  rw [← hH4]
  have e04 : Ext H H4 := (eX2.trans e3).trans e4
  have b4 : ObjIs H4 h.fresh [.int .i64 N, .slice a len cap] 53 true := ⟨b0.even, e04.new _ _ b0.eq⟩
  have hO4 : Own H.fresh H4 _ (u64s xs) 42 := (hO.ext e3).ext e4
  repeat' (first | (first | refine V_seq ?_ | refine V_region ?_ | refine WS_nil ?_ | refine S_normal ?_ | refine V_block ?_ | refine B_normal ?_ | refine V_skip ?_ | refine V_exit ?_ | refine V_ret ?_ | refine S_exit ?_ | refine S_ret ?_ | refine B_exit ?_ | refine B_ret ?_ | refine B_pass rfl ?_ | refine C_normal ?_ | refine C_exit ?_ | refine C_ret ?_ | refine WS_off rfl (by first | rfl | assumption) ?_ | refine WS_on rfl (by first | rfl | assumption) ?_ | refine WS_move ?_ | refine WS_assign ?_ | refine WS_pick_t (by first | rfl | assumption) ?_ | refine WS_pick_f (by first | rfl | assumption) ?_ | refine WS_isnil ?_ | refine WS_notnil ?_ | refine WS_cmp rfl ?_ | refine WS_addi (by omega) ?_ | refine WS_subi (by omega) ?_ | refine WS_arith rfl ?_ | refine WS_not ?_ | refine WS_neg ?_ | refine WS_convert ?_ | refine WS_len_slice ?_ | refine WS_len_string ?_ | refine WS_fieldAddr ?_ | refine WS_load ?_ | refine WS_load_agg ?_ | refine WS_box_agg rfl ?_ | refine WS_box rfl ?_ | refine WS_makeFunc ?_ | refine WS_extract ?_ | refine WS_field ?_ | refine WS_build ?_ | refine WS_zero ?_ | refine WS_shift (by first | decide | omega) rfl ?_ | refine WS_strcmp rfl ?_ | refine WS_indexAddr (by first | decide | omega) ?_ | refine WS_alloc ?_ | refine WS_store rfl ?_ | refine WS_buildSlice (by decide) rfl rfl (by simp [Value.cells]) ?_ | refine WDK_go ?_ | refine WDT_go ?_ | refine WD_nil ?_ | refine WD_take_off rfl rfl (by first | rfl | assumption) ?_ | refine WD_load rfl ?_ | refine WD_load_on rfl rfl (by first | rfl | assumption) ?_ | refine WD_load_agg rfl ?_ | refine WD_load_agg_on rfl rfl (by first | rfl | assumption) ?_ | refine WD_take rfl rfl ?_ | refine WD_take_on rfl rfl (by first | rfl | assumption) rfl ?_ | refine WD_drop rfl rfl ?_ | refine WD_one rfl ?_ | refine WD_virt rfl rfl ?_) | (refine WS_guard rfl ?_ ?_ <;> intro hg) | (refine V_cond ?_ ?_ <;> intro hc <;> try (cases hc; done)))
  by_cases hz : xs.length = 0
  · have hx0 : xs = [] := List.eq_nil_of_length_eq_zero hz
    subst hx0
    have hN00 : N = 0 := by simpa using hN2.symm
    subst hN00
    refine V_loop (fun d s h' => Get s 16 (.int .i64 0) ∧ Get s 15 (.int .i64 0) ∧ Get s 5 (.pointer (some (ad H3.fresh 0))) ∧ h' = H4) 0 ⟨inferInstance, inferInstance, inferInstance, rfl⟩ ?_
    rintro d s h' ⟨g16, g15, g5, rfl⟩
    repeat' (first | (first | refine V_seq ?_ | refine V_region ?_ | refine WS_nil ?_ | refine S_normal ?_ | refine V_block ?_ | refine B_normal ?_ | refine V_skip ?_ | refine V_exit ?_ | refine V_ret ?_ | refine S_exit ?_ | refine S_ret ?_ | refine B_exit ?_ | refine B_ret ?_ | refine B_pass rfl ?_ | refine C_normal ?_ | refine C_exit ?_ | refine C_ret ?_ | refine WS_off rfl (by first | rfl | assumption) ?_ | refine WS_on rfl (by first | rfl | assumption) ?_ | refine WS_move ?_ | refine WS_assign ?_ | refine WS_pick_t (by first | rfl | assumption) ?_ | refine WS_pick_f (by first | rfl | assumption) ?_ | refine WS_isnil ?_ | refine WS_notnil ?_ | refine WS_cmp rfl ?_ | refine WS_addi (by omega) ?_ | refine WS_subi (by omega) ?_ | refine WS_arith rfl ?_ | refine WS_not ?_ | refine WS_neg ?_ | refine WS_convert ?_ | refine WS_len_slice ?_ | refine WS_len_string ?_ | refine WS_fieldAddr ?_ | refine WS_load ?_ | refine WS_load_agg ?_ | refine WS_box_agg rfl ?_ | refine WS_box rfl ?_ | refine WS_makeFunc ?_ | refine WS_extract ?_ | refine WS_field ?_ | refine WS_build ?_ | refine WS_zero ?_ | refine WS_shift (by first | decide | omega) rfl ?_ | refine WS_strcmp rfl ?_ | refine WS_indexAddr (by first | decide | omega) ?_ | refine WS_alloc ?_ | refine WS_store rfl ?_ | refine WS_buildSlice (by decide) rfl rfl (by simp [Value.cells]) ?_ | refine WDK_go ?_ | refine WDT_go ?_ | refine WD_nil ?_ | refine WD_take_off rfl rfl (by first | rfl | assumption) ?_ | refine WD_load rfl ?_ | refine WD_load_on rfl rfl (by first | rfl | assumption) ?_ | refine WD_load_agg rfl ?_ | refine WD_load_agg_on rfl rfl (by first | rfl | assumption) ?_ | refine WD_take rfl rfl ?_ | refine WD_take_on rfl rfl (by first | rfl | assumption) rfl ?_ | refine WD_drop rfl rfl ?_ | refine WD_one rfl ?_ | refine WD_virt rfl rfl ?_) | (refine WS_guard rfl ?_ ?_ <;> intro hg) | (refine V_cond ?_ ?_ <;> intro hc <;> try (cases hc; done)))
    refine retK_2 ⟨e0.trans e04, ?_⟩ (.inr rfl)
    exact ⟨_, rfl, .inl ⟨rfl, rfl, rfl⟩⟩
  · obtain ⟨rb, y, hrb, hv, orb⟩ := hO4.at (by rw [u64s_len]; omega)
    have hrb2 : rb < H2.fresh := (hO.block (by rw [hv]; rfl)).2
    simp only [Value.slice.injEq] at hv
    obtain ⟨rfl, _, _⟩ := hv
    rw [u64s_len] at o34 ⊢
    have n4 : NeB H2.fresh rb := .of o34.even orb.even (by omega)
    let FV : Value := Value.func (Fn.func 112) #[] #[Value.pointer (some (ad H2.fresh 0)), Value.pointer (some (ad H3.fresh 0))]
    -- what is kept all the way
    let Inv : List Nat × List (Nat × Nat) → Value → (Nat → Value) → IHp → Prop := fun st sv s h' => All64 st.1 ∧ st.1.length = xs.length ∧ Get s 15 (.int .i64 N) ∧ Get s 1 (.pointer (some (ad h.fresh 0))) ∧ Get s 4 (.pointer (some (ad H2.fresh 0))) ∧ Get s 5 (.pointer (some (ad H3.fresh 0))) ∧ Get s 6 FV ∧ Ext H h' ∧ ObjIs h' rb (u64s st.1) 42 y ∧ ObjIs h' H2.fresh [.slice (some (ad rb 0)) xs.length xs.length] 51 true ∧ ObjIs h' H3.fresh [sv] 120 true ∧ LstM 2 H4.fresh h' sv st.2.length (stepCells st.2) 127 ∧ H4.fresh ≤ h'.fresh
    refine V_loop (fun d s h' => ∃ (j : Int) (st : RSt) (sv : Value), d = (N - j).toNat ∧ 0 ≤ j ∧ j ≤ N ∧ redK xs j.toNat = some st ∧ st.2.length ≤ 128 * j.toNat ∧ Get s 16 (.int .i64 j) ∧ Inv st sv s h') N.toNat
      ⟨0, (xs, []), .slice none 0 0, by omega, by omega, by omega, rfl, by simp, inferInstance, h64, rfl, inferInstance, inferInstance, inferInstance, inferInstance, inferInstance, e04, orb, o34, o4, .inl ⟨rfl, rfl, rfl⟩, Nat.le_refl _⟩ ?_
    rintro d s h' ⟨j, st, sv, rfl, hj0, hj1, hred, hst, g16, h64s, hsl, g15, g1, g4, g5, g6, eX, r1, r4, r5, hL, hF⟩
    have bx : ObjIs h' h.fresh [.int .i64 N, .slice a len cap] 53 true := ⟨b0.even, eX.new _ _ b0.eq⟩
    repeat' (first | (first | refine V_seq ?_ | refine V_region ?_ | refine WS_nil ?_ | refine S_normal ?_ | refine V_block ?_ | refine B_normal ?_ | refine V_skip ?_ | refine V_exit ?_ | refine V_ret ?_ | refine S_exit ?_ | refine S_ret ?_ | refine B_exit ?_ | refine B_ret ?_ | refine B_pass rfl ?_ | refine C_normal ?_ | refine C_exit ?_ | refine C_ret ?_ | refine WS_off rfl (by first | rfl | assumption) ?_ | refine WS_on rfl (by first | rfl | assumption) ?_ | refine WS_move ?_ | refine WS_assign ?_ | refine WS_pick_t (by first | rfl | assumption) ?_ | refine WS_pick_f (by first | rfl | assumption) ?_ | refine WS_isnil ?_ | refine WS_notnil ?_ | refine WS_cmp rfl ?_ | refine WS_addi (by omega) ?_ | refine WS_subi (by omega) ?_ | refine WS_arith rfl ?_ | refine WS_not ?_ | refine WS_neg ?_ | refine WS_convert ?_ | refine WS_len_slice ?_ | refine WS_len_string ?_ | refine WS_fieldAddr ?_ | refine WS_load ?_ | refine WS_load_agg ?_ | refine WS_box_agg rfl ?_ | refine WS_box rfl ?_ | refine WS_makeFunc ?_ | refine WS_extract ?_ | refine WS_field ?_ | refine WS_build ?_ | refine WS_zero ?_ | refine WS_shift (by first | decide | omega) rfl ?_ | refine WS_strcmp rfl ?_ | refine WS_indexAddr (by first | decide | omega) ?_ | refine WS_alloc ?_ | refine WS_store rfl ?_ | refine WS_buildSlice (by decide) rfl rfl (by simp [Value.cells]) ?_ | refine WDK_go ?_ | refine WDT_go ?_ | refine WD_nil ?_ | refine WD_take_off rfl rfl (by first | rfl | assumption) ?_ | refine WD_load rfl ?_ | refine WD_load_on rfl rfl (by first | rfl | assumption) ?_ | refine WD_load_agg rfl ?_ | refine WD_load_agg_on rfl rfl (by first | rfl | assumption) ?_ | refine WD_take rfl rfl ?_ | refine WD_take_on rfl rfl (by first | rfl | assumption) rfl ?_ | refine WD_drop rfl rfl ?_ | refine WD_one rfl ?_ | refine WD_virt rfl rfl ?_) | (refine WS_guard rfl ?_ ?_ <;> intro hg) | (refine V_cond ?_ ?_ <;> intro hc <;> try (cases hc; done)))
    · have hj : j < N := by simpa using hc
      refine V_loop (fun d s h'' => ∃ (i : Int) (st' : RSt) (sv' : Value), d = (N - i).toNat ∧ j ≤ i ∧ i < N ∧ fixK j.toNat xs.length (xs.length - j.toNat) j.toNat st = fixK j.toNat xs.length (xs.length - i.toNat) i.toNat st' ∧ st'.2.length ≤ 128 * j.toNat + i.toNat ∧ Get s 8 (.int .i64 i) ∧ Get s 7 (.int .i64 j) ∧ Get s 16 (.int .i64 j) ∧ Inv st' sv' s h'') (N - j).toNat
        ⟨j, st, sv, by omega, by omega, by omega, rfl, by omega, inferInstance, inferInstance, inferInstance, h64s, hsl, inferInstance, inferInstance, inferInstance, inferInstance, inferInstance, eX, r1, r4, r5, hL, hF⟩ ?_
      rintro d s h'' ⟨i, st', sv', rfl, hi0, hi1, hfix, hst', y8, y7, y16, h64t, htl, y15, y1, y4, y5, y6, eY, q1, q4, q5, hM, hG⟩
      have by_ : ObjIs h'' h.fresh [.int .i64 N, .slice a len cap] 53 true := ⟨b0.even, eY.new _ _ b0.eq⟩
      have hbj : 0 ≤ j ∧ j < (xs.length : Int) := by omega
      have c1 : CellIs h'' rb (0 + j.toNat * 1) _ := cell_u64 (rows := st'.1) (i := j.toNat) q1 (by omega)
      have hrj := h64t.get j.toNat
      repeat' (first | (first | refine V_seq ?_ | refine V_region ?_ | refine WS_nil ?_ | refine S_normal ?_ | refine V_block ?_ | refine B_normal ?_ | refine V_skip ?_ | refine V_exit ?_ | refine V_ret ?_ | refine S_exit ?_ | refine S_ret ?_ | refine B_exit ?_ | refine B_ret ?_ | refine B_pass rfl ?_ | refine C_normal ?_ | refine C_exit ?_ | refine C_ret ?_ | refine WS_off rfl (by first | rfl | assumption) ?_ | refine WS_on rfl (by first | rfl | assumption) ?_ | refine WS_move ?_ | refine WS_assign ?_ | refine WS_pick_t (by first | rfl | assumption) ?_ | refine WS_pick_f (by first | rfl | assumption) ?_ | refine WS_isnil ?_ | refine WS_notnil ?_ | refine WS_cmp rfl ?_ | refine WS_addi (by omega) ?_ | refine WS_subi (by omega) ?_ | refine WS_arith rfl ?_ | refine WS_not ?_ | refine WS_neg ?_ | refine WS_convert ?_ | refine WS_len_slice ?_ | refine WS_len_string ?_ | refine WS_fieldAddr ?_ | refine WS_load ?_ | refine WS_load_agg ?_ | refine WS_box_agg rfl ?_ | refine WS_box rfl ?_ | refine WS_makeFunc ?_ | refine WS_extract ?_ | refine WS_field ?_ | refine WS_build ?_ | refine WS_zero ?_ | refine WS_shift (by first | decide | omega) rfl ?_ | refine WS_strcmp rfl ?_ | refine WS_indexAddr (by first | decide | omega) ?_ | refine WS_alloc ?_ | refine WS_store rfl ?_ | refine WS_buildSlice (by decide) rfl rfl (by simp [Value.cells]) ?_ | refine WDK_go ?_ | refine WDT_go ?_ | refine WD_nil ?_ | refine WD_take_off rfl rfl (by first | rfl | assumption) ?_ | refine WD_load rfl ?_ | refine WD_load_on rfl rfl (by first | rfl | assumption) ?_ | refine WD_load_agg rfl ?_ | refine WD_load_agg_on rfl rfl (by first | rfl | assumption) ?_ | refine WD_take rfl rfl ?_ | refine WD_take_on rfl rfl (by first | rfl | assumption) rfl ?_ | refine WD_drop rfl rfl ?_ | refine WD_one rfl ?_ | refine WD_virt rfl rfl ?_) | (refine WS_guard rfl ?_ ?_ <;> intro hg) | (refine V_cond ?_ ?_ <;> intro hc <;> try (cases hc; done)))
      · rename_i hcb
        have hb0 := bit_zero hj0 hrj hcb
        have hi : i + 1 = N := by simpa using hc
        refine retK_2 ⟨e0.trans eY, ?_⟩ (.inr rfl)
        have hnone : redK xs (j.toNat + 1) = none := by
          rw [redK, hred]
          simp only [Option.bind_some]
          rw [hfix, show xs.length - i.toNat = 0 + 1 by omega, fixK, if_neg (by rw [hb0]; decide), if_pos (by omega)]; rfl
        rw [redK_none hnone _ (by omega)]
      · rename_i hcb
        have hb0 := bit_zero hj0 hrj hcb
        have hi : i + 1 < N := by simp at hc; omega
        have hbi : 0 ≤ i + 1 ∧ i + 1 < (xs.length : Int) := by omega
        have c2 : CellIs h'' rb (0 + (i + 1).toNat * 1) _ := cell_u64 (rows := st'.1) (i := (i + 1).toNat) q1 (by omega)
        have hri := h64t.get (i + 1).toNat
        have hfx : ∀ w : RSt, w = (if bitAt (st'.1.getD (i + 1).toNat 0) j.toNat = true then (addStep st'.1 (i + 1).toNat j.toNat, st'.2 ++ [((i + 1).toNat, j.toNat)]) else st') → fixK j.toNat xs.length (xs.length - j.toNat) j.toNat st = fixK j.toNat xs.length (xs.length - (i + 1).toNat) (i + 1).toNat w := by
          rintro w rfl
          rw [hfix, show xs.length - i.toNat = (xs.length - (i + 1).toNat) + 1 by omega, fixK, if_neg (by rw [hb0]; decide), if_neg (by omega), show i.toNat + 1 = (i + 1).toNat by omega]
        repeat' (first | (first | refine V_seq ?_ | refine V_region ?_ | refine WS_nil ?_ | refine S_normal ?_ | refine V_block ?_ | refine B_normal ?_ | refine V_skip ?_ | refine V_exit ?_ | refine V_ret ?_ | refine S_exit ?_ | refine S_ret ?_ | refine B_exit ?_ | refine B_ret ?_ | refine B_pass rfl ?_ | refine C_normal ?_ | refine C_exit ?_ | refine C_ret ?_ | refine WS_off rfl (by first | rfl | assumption) ?_ | refine WS_on rfl (by first | rfl | assumption) ?_ | refine WS_move ?_ | refine WS_assign ?_ | refine WS_pick_t (by first | rfl | assumption) ?_ | refine WS_pick_f (by first | rfl | assumption) ?_ | refine WS_isnil ?_ | refine WS_notnil ?_ | refine WS_cmp rfl ?_ | refine WS_addi (by omega) ?_ | refine WS_subi (by omega) ?_ | refine WS_arith rfl ?_ | refine WS_not ?_ | refine WS_neg ?_ | refine WS_convert ?_ | refine WS_len_slice ?_ | refine WS_len_string ?_ | refine WS_fieldAddr ?_ | refine WS_load ?_ | refine WS_load_agg ?_ | refine WS_box_agg rfl ?_ | refine WS_box rfl ?_ | refine WS_makeFunc ?_ | refine WS_extract ?_ | refine WS_field ?_ | refine WS_build ?_ | refine WS_zero ?_ | refine WS_shift (by first | decide | omega) rfl ?_ | refine WS_strcmp rfl ?_ | refine WS_indexAddr (by first | decide | omega) ?_ | refine WS_alloc ?_ | refine WS_store rfl ?_ | refine WS_buildSlice (by decide) rfl rfl (by simp [Value.cells]) ?_ | refine WDK_go ?_ | refine WDT_go ?_ | refine WD_nil ?_ | refine WD_take_off rfl rfl (by first | rfl | assumption) ?_ | refine WD_load rfl ?_ | refine WD_load_on rfl rfl (by first | rfl | assumption) ?_ | refine WD_load_agg rfl ?_ | refine WD_load_agg_on rfl rfl (by first | rfl | assumption) ?_ | refine WD_take rfl rfl ?_ | refine WD_take_on rfl rfl (by first | rfl | assumption) rfl ?_ | refine WD_drop rfl rfl ?_ | refine WD_one rfl ?_ | refine WD_virt rfl rfl ?_) | (refine WS_guard rfl ?_ ?_ <;> intro hg) | (refine V_cond ?_ ?_ <;> intro hc <;> try (cases hc; done)))
        · have hb1 := bit_one hj0 hri hc
          have hadd := add_spec (i + 1).toNat j.toNat xs.length rb H2.fresh H3.fresh H4.fresh st'.2.length y st'.1 st'.2 sv' h'' htl (by omega) (by omega) h64t (by omega) (by omega) (by omega) hG rfl (by omega) q1 q4 q5 hM
          rw [Int.toNat_of_nonneg (by omega), Int.toNat_of_nonneg hj0] at hadd
          refine WS_callV (a := #[]) (b := #[Value.pointer (some (ad H2.fresh 0)), Value.pointer (some (ad H3.fresh 0))]) (by simpa using hadd) ?_
          rintro v7 H7 ⟨⟨sv7, u5, uL⟩, u1, u4, uE, uF⟩
          repeat' (first | (first | refine V_seq ?_ | refine V_region ?_ | refine WS_nil ?_ | refine S_normal ?_ | refine V_block ?_ | refine B_normal ?_ | refine V_skip ?_ | refine V_exit ?_ | refine V_ret ?_ | refine S_exit ?_ | refine S_ret ?_ | refine B_exit ?_ | refine B_ret ?_ | refine B_pass rfl ?_ | refine C_normal ?_ | refine C_exit ?_ | refine C_ret ?_ | refine WS_off rfl (by first | rfl | assumption) ?_ | refine WS_on rfl (by first | rfl | assumption) ?_ | refine WS_move ?_ | refine WS_assign ?_ | refine WS_pick_t (by first | rfl | assumption) ?_ | refine WS_pick_f (by first | rfl | assumption) ?_ | refine WS_isnil ?_ | refine WS_notnil ?_ | refine WS_cmp rfl ?_ | refine WS_addi (by omega) ?_ | refine WS_subi (by omega) ?_ | refine WS_arith rfl ?_ | refine WS_not ?_ | refine WS_neg ?_ | refine WS_convert ?_ | refine WS_len_slice ?_ | refine WS_len_string ?_ | refine WS_fieldAddr ?_ | refine WS_load ?_ | refine WS_load_agg ?_ | refine WS_box_agg rfl ?_ | refine WS_box rfl ?_ | refine WS_makeFunc ?_ | refine WS_extract ?_ | refine WS_field ?_ | refine WS_build ?_ | refine WS_zero ?_ | refine WS_shift (by first | decide | omega) rfl ?_ | refine WS_strcmp rfl ?_ | refine WS_indexAddr (by first | decide | omega) ?_ | refine WS_alloc ?_ | refine WS_store rfl ?_ | refine WS_buildSlice (by decide) rfl rfl (by simp [Value.cells]) ?_ | refine WDK_go ?_ | refine WDT_go ?_ | refine WD_nil ?_ | refine WD_take_off rfl rfl (by first | rfl | assumption) ?_ | refine WD_load rfl ?_ | refine WD_load_on rfl rfl (by first | rfl | assumption) ?_ | refine WD_load_agg rfl ?_ | refine WD_load_agg_on rfl rfl (by first | rfl | assumption) ?_ | refine WD_take rfl rfl ?_ | refine WD_take_on rfl rfl (by first | rfl | assumption) rfl ?_ | refine WD_drop rfl rfl ?_ | refine WD_one rfl ?_ | refine WD_virt rfl rfl ?_) | (refine WS_guard rfl ?_ ?_ <;> intro hg) | (refine V_cond ?_ ?_ <;> intro hc <;> try (cases hc; done)))
          refine ⟨_, ?_, i + 1, (addStep st'.1 (i + 1).toNat j.toNat, st'.2 ++ [((i + 1).toNat, j.toNat)]), sv7, rfl, by omega, by omega, hfx _ (by rw [if_pos hb1]), ?_, inferInstance, inferInstance, inferInstance, h64t.addStep _ _, by rw [addStep_len]; exact htl, inferInstance, inferInstance, inferInstance, inferInstance, inferInstance, uE H eY (by omega), u1, u4, u5, ?_, by omega⟩
          · omega
          · simp only [List.length_append, List.length_cons, List.length_nil]; omega
          · simpa using uL
        · have hb1 := bit_not_one hj0 hri hc
          refine ⟨_, ?_, i + 1, st', sv', rfl, by omega, by omega, hfx _ (by rw [hb1]; rfl), by omega, inferInstance, inferInstance, inferInstance, h64t, htl, inferInstance, inferInstance, inferInstance, inferInstance, inferInstance, eY, q1, q4, q5, hM, hG⟩
          omega
      · have hb1 := bit_not_zero hj0 hrj hc
        have hfx : fixK j.toNat xs.length (xs.length - j.toNat) j.toNat st = some st' := by
          rw [hfix, show xs.length - i.toNat = (xs.length - i.toNat - 1) + 1 by omega, fixK, if_pos hb1]
        refine V_loop (fun d s h3 => ∃ (k : Int) (st3 : RSt) (sv3 : Value), d = (N - k).toNat ∧ 0 ≤ k ∧ k ≤ N ∧ clearK j.toNat 0 xs.length st' = clearK j.toNat k.toNat (xs.length - k.toNat) st3 ∧ st3.2.length ≤ 128 * j.toNat + 64 + k.toNat ∧ Get s 48 (.int .i64 k) ∧ Get s 47 (.int .i64 N) ∧ Get s 7 (.int .i64 j) ∧ Get s 16 (.int .i64 j) ∧ Inv st3 sv3 s h3) N.toNat
          ⟨0, st', sv', by omega, by omega, by omega, rfl, by omega, inferInstance, inferInstance, inferInstance, inferInstance, h64t, htl, inferInstance, inferInstance, inferInstance, inferInstance, inferInstance, eY, q1, q4, q5, hM, hG⟩ ?_
        rintro d s h3 ⟨k, st3, sv3, rfl, hk0, hk1, hclr, hst3, z48, z47, z7, z16, h64u, hul, z15, z1, z4, z5, z6, eZ, t1, t4, t5, hT, hQ⟩
        have hskip : ∀ w : RSt, k < N → w = (if k.toNat ≠ j.toNat ∧ bitAt (st3.1.getD k.toNat 0) j.toNat = true then (addStep st3.1 j.toNat k.toNat, st3.2 ++ [(j.toNat, k.toNat)]) else st3) → clearK j.toNat 0 xs.length st' = clearK j.toNat (k + 1).toNat (xs.length - (k + 1).toNat) w := by
          rintro w hkN rfl
          rw [hclr, show xs.length - k.toNat = (xs.length - (k + 1).toNat) + 1 by omega, clearK, show k.toNat + 1 = (k + 1).toNat by omega]
        repeat' (first | (first | refine V_seq ?_ | refine V_region ?_ | refine WS_nil ?_ | refine S_normal ?_ | refine V_block ?_ | refine B_normal ?_ | refine V_skip ?_ | refine V_exit ?_ | refine V_ret ?_ | refine S_exit ?_ | refine S_ret ?_ | refine B_exit ?_ | refine B_ret ?_ | refine B_pass rfl ?_ | refine C_normal ?_ | refine C_exit ?_ | refine C_ret ?_ | refine WS_off rfl (by first | rfl | assumption) ?_ | refine WS_on rfl (by first | rfl | assumption) ?_ | refine WS_move ?_ | refine WS_assign ?_ | refine WS_pick_t (by first | rfl | assumption) ?_ | refine WS_pick_f (by first | rfl | assumption) ?_ | refine WS_isnil ?_ | refine WS_notnil ?_ | refine WS_cmp rfl ?_ | refine WS_addi (by omega) ?_ | refine WS_subi (by omega) ?_ | refine WS_arith rfl ?_ | refine WS_not ?_ | refine WS_neg ?_ | refine WS_convert ?_ | refine WS_len_slice ?_ | refine WS_len_string ?_ | refine WS_fieldAddr ?_ | refine WS_load ?_ | refine WS_load_agg ?_ | refine WS_box_agg rfl ?_ | refine WS_box rfl ?_ | refine WS_makeFunc ?_ | refine WS_extract ?_ | refine WS_field ?_ | refine WS_build ?_ | refine WS_zero ?_ | refine WS_shift (by first | decide | omega) rfl ?_ | refine WS_strcmp rfl ?_ | refine WS_indexAddr (by first | decide | omega) ?_ | refine WS_alloc ?_ | refine WS_store rfl ?_ | refine WS_buildSlice (by decide) rfl rfl (by simp [Value.cells]) ?_ | refine WDK_go ?_ | refine WDT_go ?_ | refine WD_nil ?_ | refine WD_take_off rfl rfl (by first | rfl | assumption) ?_ | refine WD_load rfl ?_ | refine WD_load_on rfl rfl (by first | rfl | assumption) ?_ | refine WD_load_agg rfl ?_ | refine WD_load_agg_on rfl rfl (by first | rfl | assumption) ?_ | refine WD_take rfl rfl ?_ | refine WD_take_on rfl rfl (by first | rfl | assumption) rfl ?_ | refine WD_drop rfl rfl ?_ | refine WD_one rfl ?_ | refine WD_virt rfl rfl ?_) | (refine WS_guard rfl ?_ ?_ <;> intro hg) | (refine V_cond ?_ ?_ <;> intro hc <;> try (cases hc; done)))
        · have hk : k < N := by simpa using hc
          have hkj : k.toNat ≠ j.toNat := by simp at hg; omega
          have hbk : 0 ≤ k ∧ k < (xs.length : Int) := by omega
          have d1 : CellIs h3 rb (0 + k.toNat * 1) _ := cell_u64 (rows := st3.1) (i := k.toNat) t1 (by omega)
          have hrk := h64u.get k.toNat
          repeat' (first | (first | refine V_seq ?_ | refine V_region ?_ | refine WS_nil ?_ | refine S_normal ?_ | refine V_block ?_ | refine B_normal ?_ | refine V_skip ?_ | refine V_exit ?_ | refine V_ret ?_ | refine S_exit ?_ | refine S_ret ?_ | refine B_exit ?_ | refine B_ret ?_ | refine B_pass rfl ?_ | refine C_normal ?_ | refine C_exit ?_ | refine C_ret ?_ | refine WS_off rfl (by first | rfl | assumption) ?_ | refine WS_on rfl (by first | rfl | assumption) ?_ | refine WS_move ?_ | refine WS_assign ?_ | refine WS_pick_t (by first | rfl | assumption) ?_ | refine WS_pick_f (by first | rfl | assumption) ?_ | refine WS_isnil ?_ | refine WS_notnil ?_ | refine WS_cmp rfl ?_ | refine WS_addi (by omega) ?_ | refine WS_subi (by omega) ?_ | refine WS_arith rfl ?_ | refine WS_not ?_ | refine WS_neg ?_ | refine WS_convert ?_ | refine WS_len_slice ?_ | refine WS_len_string ?_ | refine WS_fieldAddr ?_ | refine WS_load ?_ | refine WS_load_agg ?_ | refine WS_box_agg rfl ?_ | refine WS_box rfl ?_ | refine WS_makeFunc ?_ | refine WS_extract ?_ | refine WS_field ?_ | refine WS_build ?_ | refine WS_zero ?_ | refine WS_shift (by first | decide | omega) rfl ?_ | refine WS_strcmp rfl ?_ | refine WS_indexAddr (by first | decide | omega) ?_ | refine WS_alloc ?_ | refine WS_store rfl ?_ | refine WS_buildSlice (by decide) rfl rfl (by simp [Value.cells]) ?_ | refine WDK_go ?_ | refine WDT_go ?_ | refine WD_nil ?_ | refine WD_take_off rfl rfl (by first | rfl | assumption) ?_ | refine WD_load rfl ?_ | refine WD_load_on rfl rfl (by first | rfl | assumption) ?_ | refine WD_load_agg rfl ?_ | refine WD_load_agg_on rfl rfl (by first | rfl | assumption) ?_ | refine WD_take rfl rfl ?_ | refine WD_take_on rfl rfl (by first | rfl | assumption) rfl ?_ | refine WD_drop rfl rfl ?_ | refine WD_one rfl ?_ | refine WD_virt rfl rfl ?_) | (refine WS_guard rfl ?_ ?_ <;> intro hg) | (refine V_cond ?_ ?_ <;> intro hc <;> try (cases hc; done)))
          · have hb2 := bit_one hj0 hrk hc
            have hadd := add_spec j.toNat k.toNat xs.length rb H2.fresh H3.fresh H4.fresh st3.2.length y st3.1 st3.2 sv3 h3 hul (by omega) (by omega) h64u (by omega) (by omega) (by omega) hQ rfl (by omega) t1 t4 t5 hT
            rw [Int.toNat_of_nonneg hk0, Int.toNat_of_nonneg hj0] at hadd
            refine WS_callV (a := #[]) (b := #[Value.pointer (some (ad H2.fresh 0)), Value.pointer (some (ad H3.fresh 0))]) (by simpa using hadd) ?_
            rintro v7 H7 ⟨⟨sv7, u5, uL⟩, u1, u4, uE, uF⟩
            repeat' (first | (first | refine V_seq ?_ | refine V_region ?_ | refine WS_nil ?_ | refine S_normal ?_ | refine V_block ?_ | refine B_normal ?_ | refine V_skip ?_ | refine V_exit ?_ | refine V_ret ?_ | refine S_exit ?_ | refine S_ret ?_ | refine B_exit ?_ | refine B_ret ?_ | refine B_pass rfl ?_ | refine C_normal ?_ | refine C_exit ?_ | refine C_ret ?_ | refine WS_off rfl (by first | rfl | assumption) ?_ | refine WS_on rfl (by first | rfl | assumption) ?_ | refine WS_move ?_ | refine WS_assign ?_ | refine WS_pick_t (by first | rfl | assumption) ?_ | refine WS_pick_f (by first | rfl | assumption) ?_ | refine WS_isnil ?_ | refine WS_notnil ?_ | refine WS_cmp rfl ?_ | refine WS_addi (by omega) ?_ | refine WS_subi (by omega) ?_ | refine WS_arith rfl ?_ | refine WS_not ?_ | refine WS_neg ?_ | refine WS_convert ?_ | refine WS_len_slice ?_ | refine WS_len_string ?_ | refine WS_fieldAddr ?_ | refine WS_load ?_ | refine WS_load_agg ?_ | refine WS_box_agg rfl ?_ | refine WS_box rfl ?_ | refine WS_makeFunc ?_ | refine WS_extract ?_ | refine WS_field ?_ | refine WS_build ?_ | refine WS_zero ?_ | refine WS_shift (by first | decide | omega) rfl ?_ | refine WS_strcmp rfl ?_ | refine WS_indexAddr (by first | decide | omega) ?_ | refine WS_alloc ?_ | refine WS_store rfl ?_ | refine WS_buildSlice (by decide) rfl rfl (by simp [Value.cells]) ?_ | refine WDK_go ?_ | refine WDT_go ?_ | refine WD_nil ?_ | refine WD_take_off rfl rfl (by first | rfl | assumption) ?_ | refine WD_load rfl ?_ | refine WD_load_on rfl rfl (by first | rfl | assumption) ?_ | refine WD_load_agg rfl ?_ | refine WD_load_agg_on rfl rfl (by first | rfl | assumption) ?_ | refine WD_take rfl rfl ?_ | refine WD_take_on rfl rfl (by first | rfl | assumption) rfl ?_ | refine WD_drop rfl rfl ?_ | refine WD_one rfl ?_ | refine WD_virt rfl rfl ?_) | (refine WS_guard rfl ?_ ?_ <;> intro hg) | (refine V_cond ?_ ?_ <;> intro hc <;> try (cases hc; done)))
            refine ⟨_, ?_, k + 1, (addStep st3.1 j.toNat k.toNat, st3.2 ++ [(j.toNat, k.toNat)]), sv7, rfl, by omega, by omega, hskip _ hk (by rw [if_pos ⟨hkj, hb2⟩]), ?_, inferInstance, inferInstance, inferInstance, inferInstance, h64u.addStep _ _, by rw [addStep_len]; exact hul, inferInstance, inferInstance, inferInstance, inferInstance, inferInstance, uE H eZ (by omega), u1, u4, u5, ?_, by omega⟩
            · omega
            · simp only [List.length_append, List.length_cons, List.length_nil]; omega
            · simpa using uL
          · have hb2 := bit_not_one hj0 hrk hc
            refine ⟨_, ?_, k + 1, st3, sv3, rfl, by omega, by omega, hskip _ hk (by rw [if_neg (by rintro ⟨_, h2⟩; rw [hb2] at h2; cases h2)]), by omega, inferInstance, inferInstance, inferInstance, inferInstance, h64u, hul, inferInstance, inferInstance, inferInstance, inferInstance, inferInstance, eZ, t1, t4, t5, hT, hQ⟩
            omega
        · rename_i hcc
          have hk : k < N := by simpa using hcc
          have hkj : k.toNat = j.toNat := by simp at hg; omega
          refine ⟨_, ?_, k + 1, st3, sv3, rfl, by omega, by omega, hskip _ hk (by rw [if_neg (by rintro ⟨h1, _⟩; exact h1 hkj)]), by omega, inferInstance, inferInstance, inferInstance, inferInstance, h64u, hul, inferInstance, inferInstance, inferInstance, inferInstance, inferInstance, eZ, t1, t4, t5, hT, hQ⟩
          omega
        · have hk : k = N := by simp at hc; omega
          refine ⟨_, ?_, j + 1, st3, sv3, rfl, by omega, by omega, ?_, by omega, inferInstance, h64u, hul, inferInstance, inferInstance, inferInstance, inferInstance, inferInstance, eZ, t1, t4, t5, hT, hQ⟩
          · omega
          · rw [toNat_succ hj0, redK, hred]
            simp only [Option.bind_some, hfx, Option.map_some]
            rw [hclr, show xs.length - k.toNat = 0 by omega]; rfl
    · have hj : j = N := by simp at hc; omega
      refine retK_2 ⟨e0.trans eX, ?_⟩ (.inr rfl)
      rw [show xs.length = j.toNat by omega, hred]
      exact ⟨_, rfl, hL.lower (by omega)⟩
instance : CallIs Try.prog 71 := .of Try.func71 rfl rfl
end Go.Ideal

-- Lo
set_option linter.unusedSimpArgs false
set_option linter.unusedVariables false
namespace Go.Ideal
open Go Go.Proofs
def StOk (n : Nat) (l : List (Nat × Nat)) : Prop := ∀ p ∈ l, p.1 < n ∧ p.2 < n
theorem StOk.add {n : Nat} {l : List (Nat × Nat)} (h : StOk n l) {a b : Nat} (ha : a < n) (hb : b < n) : StOk n (l ++ [(a, b)]) := fun p hp => by
  rcases List.mem_append.1 hp with h1 | h1
  · exact h p h1
  · simp at h1; subst h1; exact ⟨ha, hb⟩
theorem fixK_ok {j n : Nat} (hj : j < n) : ∀ (f i : Nat) (st st' : RSt), i < n → StOk n st.2 → fixK j n f i st = some st' → StOk n st'.2 := by
  intro f
  induction f with
  | zero => intro i st st' _ _ h; cases h
  | succ f ih =>
    intro i st st' hi hs h
    rw [fixK] at h
    split at h
    · obtain rfl := Option.some.inj h; exact hs
    · split at h
      · cases h
      · refine ih _ _ _ (by omega) ?_ h
        split
        · exact hs.add (by omega) hj
        · exact hs
theorem clearK_ok {j n : Nat} (hj : j < n) : ∀ (m k : Nat) (st : RSt), k + m ≤ n → StOk n st.2 → StOk n (clearK j k m st).2 := by
  intro m
  induction m with
  | zero => intro k st _ hs; exact hs
  | succ m ih =>
    intro k st hk hs
    rw [clearK]
    refine ih _ _ (by omega) ?_
    split
    · exact hs.add hj (by omega)
    · exact hs
theorem redK_ok (xs : List Nat) : ∀ (j : Nat) (st : RSt), j ≤ xs.length → redK xs j = some st → StOk xs.length st.2 := by
  intro j
  induction j with
  | zero => intro st _ h; simp only [redK, Option.some.injEq] at h; subst h; intro p hp; simp at hp
  | succ j ih =>
    intro st hj h
    simp only [redK, Option.bind_eq_some_iff, Option.map_eq_some_iff] at h
    obtain ⟨s1, h1, s2, h2, rfl⟩ := h
    exact clearK_ok (by omega) _ _ _ (by omega) (fixK_ok (by omega) _ _ _ _ (by omega) (ih _ (by omega) h1) h2)
theorem fixK_len {j n : Nat} : ∀ (f i : Nat) (st st' : RSt), fixK j n f i st = some st' → st'.2.length ≤ st.2.length + f := by
  intro f
  induction f with
  | zero => intro i st st' h; cases h
  | succ f ih =>
    intro i st st' h
    rw [fixK] at h
    split at h
    · obtain rfl := Option.some.inj h; omega
    · split at h
      · cases h
      · have := ih _ _ _ h
        split at this
        · simp at this; omega
        · omega
theorem clearK_len {j : Nat} : ∀ (m k : Nat) (st : RSt), (clearK j k m st).2.length ≤ st.2.length + m := by
  intro m
  induction m with
  | zero => intro k st; exact Nat.le_refl _
  | succ m ih =>
    intro k st
    rw [clearK]
    have := ih (k + 1) (if k ≠ j ∧ bitAt (st.1.getD k 0) j = true then (addStep st.1 j k, st.2 ++ [(j, k)]) else st)
    split at this
    · rename_i hh; rw [if_pos hh]; simp at this ⊢; omega
    · rename_i hh; rw [if_neg hh]; omega
theorem redK_len (xs : List Nat) : ∀ (j : Nat) (st : RSt), redK xs j = some st → st.2.length ≤ j * (2 * xs.length) := by
  intro j
  induction j with
  | zero => intro st h; simp only [redK, Option.some.injEq] at h; subst h; simp
  | succ j ih =>
    intro st h
    simp only [redK, Option.bind_eq_some_iff, Option.map_eq_some_iff] at h
    obtain ⟨s1, h1, s2, h2, rfl⟩ := h
    have a1 := ih _ h1
    have a2 := fixK_len _ _ _ _ h2
    have a3 := clearK_len (j := j) xs.length 0 s2
    rw [Nat.add_one_mul]
    omega
def doSteps (rows : List Nat) (l : List (Nat × Nat)) : List Nat := l.foldl (fun r p => addStep r p.1 p.2) rows
theorem doSteps_len (l : List (Nat × Nat)) : ∀ rows : List Nat, (doSteps rows l).length = rows.length := by
  induction l with
  | nil => intro rows; rfl
  | cons p l ih => intro rows; simp only [doSteps, List.foldl_cons]; exact (ih _).trans (addStep_len _ _ _)
theorem doSteps_64 (l : List (Nat × Nat)) : ∀ rows : List Nat, All64 rows → All64 (doSteps rows l) := by
  induction l with
  | nil => intro rows h; exact h
  | cons p l ih => intro rows h; simp only [doSteps, List.foldl_cons]; exact ih _ (h.addStep _ _)
theorem doSteps_take {rows : List Nat} {l : List (Nat × Nat)} {i : Nat} {p : Nat × Nat} (hp : l[i]? = some p) : doSteps rows (l.take (i + 1)) = addStep (doSteps rows (l.take i)) p.1 p.2 := by
  simp [doSteps, List.take_add_one, hp, List.foldl_append]
theorem stepCells_at : ∀ (l : List (Nat × Nat)) (i : Nat) (p : Nat × Nat), l[i]? = some p → (stepCells l)[i * 2]? = some (.int .i64 p.1) ∧ (stepCells l)[i * 2 + 1]? = some (.int .i64 p.2) := by
  intro l
  induction l with
  | nil => intro i p h; simp at h
  | cons q l ih =>
    intro i p h
    cases i with
    | zero => simp at h; subst h; simp [stepCells]
    | succ i =>
      obtain ⟨h1, h2⟩ := ih i p (by simpa using h)
      have : stepCells (q :: l) = [.int .i64 q.1, .int .i64 q.2] ++ stepCells l := by simp [stepCells]
      rw [this, show (i + 1) * 2 = i * 2 + 2 by omega]
      constructor
      · rw [List.getElem?_append_right (by simp)]; simpa using h1
      · rw [List.getElem?_append_right (by simp)]; simpa using h2
set_option maxHeartbeats 2000000 in
theorem Inverse_spec (N : Int) (a : Option Addr) (len cap : Nat) (xs : List Nat) (h : IHp) (hx : SlIs h a len cap (u64s xs)) (h64 : All64 xs) :
    EvX Try.prog 34 [.agg [.int .i64 N, .slice a len cap].toArray].toArray h (fun v h' => Ext h h' ∧
      if checkS N xs = 0 then
        match redK xs xs.length with
        | none => v = .tuple [.agg [.int .i64 0, .slice none 0 0].toArray, .int .i64 200].toArray
        | some st => ∃ sl, v = .tuple [.agg [.int .i64 N, sl].toArray, .int .i64 0].toArray ∧ Own h.fresh h' sl (u64s (doSteps (eyeS N) st.2)) 42
      else v = .tuple [.agg [.int .i64 0, .slice none 0 0].toArray, .int .i64 (checkS N xs)].toArray) := by
  have hlen : xs.length = len := by have := hx.1; simpa [u64s] using this
  refine EvX_of Try.func34 rfl (by show 1 ≤ 53; decide) ?_
  repeat' (first | (first | refine V_seq ?_ | refine V_region ?_ | refine WS_nil ?_ | refine S_normal ?_ | refine V_block ?_ | refine B_normal ?_ | refine V_skip ?_ | refine V_exit ?_ | refine V_ret ?_ | refine S_exit ?_ | refine S_ret ?_ | refine B_exit ?_ | refine B_ret ?_ | refine B_pass rfl ?_ | refine C_normal ?_ | refine C_exit ?_ | refine C_ret ?_ | refine WS_off rfl (by first | rfl | assumption) ?_ | refine WS_on rfl (by first | rfl | assumption) ?_ | refine WS_move ?_ | refine WS_assign ?_ | refine WS_pick_t (by first | rfl | assumption) ?_ | refine WS_pick_f (by first | rfl | assumption) ?_ | refine WS_isnil ?_ | refine WS_notnil ?_ | refine WS_cmp rfl ?_ | refine WS_addi (by omega) ?_ | refine WS_subi (by omega) ?_ | refine WS_arith rfl ?_ | refine WS_not ?_ | refine WS_neg ?_ | refine WS_convert ?_ | refine WS_len_slice ?_ | refine WS_len_string ?_ | refine WS_fieldAddr ?_ | refine WS_load ?_ | refine WS_load_agg ?_ | refine WS_box_agg rfl ?_ | refine WS_box rfl ?_ | refine WS_makeFunc ?_ | refine WS_extract ?_ | refine WS_field ?_ | refine WS_build ?_ | refine WS_zero ?_ | refine WS_shift (by first | decide | omega) rfl ?_ | refine WS_strcmp rfl ?_ | refine WS_indexAddr (by first | decide | omega) ?_ | refine WS_alloc ?_ | refine WS_store rfl ?_ | refine WS_buildSlice (by decide) rfl rfl (by simp [Value.cells]) ?_ | refine WDK_go ?_ | refine WDT_go ?_ | refine WD_nil ?_ | refine WD_take_off rfl rfl (by first | rfl | assumption) ?_ | refine WD_load rfl ?_ | refine WD_load_on rfl rfl (by first | rfl | assumption) ?_ | refine WD_load_agg rfl ?_ | refine WD_load_agg_on rfl rfl (by first | rfl | assumption) ?_ | refine WD_take rfl rfl ?_ | refine WD_take_on rfl rfl (by first | rfl | assumption) rfl ?_ | refine WD_drop rfl rfl ?_ | refine WD_one rfl ?_ | refine WD_virt rfl rfl ?_) | (refine WS_guard rfl ?_ ?_ <;> intro hg) | (refine V_cond ?_ ?_ <;> intro hc <;> try (cases hc; done)))
  obtain ⟨H1, hH1⟩ : ∃ H, H = h.push (IObj.cells [Value.int IntKind.i64 N, Value.slice a len cap] 53 true) := ⟨_, rfl⟩
  have f1 : H1.fresh = h.fresh + 2 := by rw [hH1, push_fresh]
  have e1 : Ext h H1 := hH1 ▸ Ext.push _ _
  have p1 : ObjIs H1 h.fresh [.int .i64 N, .slice a len cap] 53 true := hH1 ▸ inferInstance
  rw [← hH1]
  obtain ⟨H2, hH2⟩ : ∃ H, H = H1.push (IObj.cells [Value.int IntKind.i64 0, Value.slice none 0 0] 53 true) := ⟨_, rfl⟩
  have f2 : H2.fresh = h.fresh + 4 := by rw [hH2, push_fresh, f1]
  have e2 : Ext H1 H2 := hH2 ▸ Ext.push _ _
  have p2 : ObjIs H2 H1.fresh [.int .i64 0, .slice none 0 0] 53 true := hH2 ▸ inferInstance
  rw [← hH2]
  have q1 : ObjIs H2 h.fresh [.int .i64 N, .slice a len cap] 53 true := inferInstance
  have e12 : Ext h H2 := e1.trans e2
  refine WS_call (Check_spec N a len cap xs _ (hx.ext e12) h64) ?_
  rintro _ H3 ⟨rfl, e3⟩
  have r1 : ObjIs H3 h.fresh [.int .i64 N, .slice a len cap] 53 true := inferInstance
  have r2 : ObjIs H3 H1.fresh [.int .i64 0, .slice none 0 0] 53 true := inferInstance
  have e13 : Ext h H3 := e12.trans e3
  have g3 := e3.fresh
  have n01 : NeB h.fresh H1.fresh := .fresh (by omega)
  repeat' (first | (first | refine V_seq ?_ | refine V_region ?_ | refine WS_nil ?_ | refine S_normal ?_ | refine V_block ?_ | refine B_normal ?_ | refine V_skip ?_ | refine V_exit ?_ | refine V_ret ?_ | refine S_exit ?_ | refine S_ret ?_ | refine B_exit ?_ | refine B_ret ?_ | refine B_pass rfl ?_ | refine C_normal ?_ | refine C_exit ?_ | refine C_ret ?_ | refine WS_off rfl (by first | rfl | assumption) ?_ | refine WS_on rfl (by first | rfl | assumption) ?_ | refine WS_move ?_ | refine WS_assign ?_ | refine WS_pick_t (by first | rfl | assumption) ?_ | refine WS_pick_f (by first | rfl | assumption) ?_ | refine WS_isnil ?_ | refine WS_notnil ?_ | refine WS_cmp rfl ?_ | refine WS_addi (by omega) ?_ | refine WS_subi (by omega) ?_ | refine WS_arith rfl ?_ | refine WS_not ?_ | refine WS_neg ?_ | refine WS_convert ?_ | refine WS_len_slice ?_ | refine WS_len_string ?_ | refine WS_fieldAddr ?_ | refine WS_load ?_ | refine WS_load_agg ?_ | refine WS_box_agg rfl ?_ | refine WS_box rfl ?_ | refine WS_makeFunc ?_ | refine WS_extract ?_ | refine WS_field ?_ | refine WS_build ?_ | refine WS_zero ?_ | refine WS_shift (by first | decide | omega) rfl ?_ | refine WS_strcmp rfl ?_ | refine WS_indexAddr (by first | decide | omega) ?_ | refine WS_alloc ?_ | refine WS_store rfl ?_ | refine WS_buildSlice (by decide) rfl rfl (by simp [Value.cells]) ?_ | refine WDK_go ?_ | refine WDT_go ?_ | refine WD_nil ?_ | refine WD_take_off rfl rfl (by first | rfl | assumption) ?_ | refine WD_load rfl ?_ | refine WD_load_on rfl rfl (by first | rfl | assumption) ?_ | refine WD_load_agg rfl ?_ | refine WD_load_agg_on rfl rfl (by first | rfl | assumption) ?_ | refine WD_take rfl rfl ?_ | refine WD_take_on rfl rfl (by first | rfl | assumption) rfl ?_ | refine WD_drop rfl rfl ?_ | refine WD_one rfl ?_ | refine WD_virt rfl rfl ?_) | (refine WS_guard rfl ?_ ?_ <;> intro hg) | (refine V_cond ?_ ?_ <;> intro hc <;> try (cases hc; done)))
  · refine retK_ct ⟨e13.putObj (by omega), ?_⟩ (.inr rfl)
    rw [if_neg]
    simp at hc; simp [hc]
  · have hck : checkS N xs = 0 := by simpa using hc
    obtain ⟨hN0, hN1, hN2, _⟩ := checkS_zero hck
    refine WS_call (reduced_spec N a len cap xs _ (hx.ext e13) h64 hck) ?_
    rintro v4 H4 ⟨e4, hv4⟩
    have s1 : ObjIs H4 h.fresh [.int .i64 N, .slice a len cap] 53 true := ⟨r1.even, e4.new _ _ r1.eq⟩
    have s2 : ObjIs H4 H1.fresh [.int .i64 0, .slice none 0 0] 53 true := ⟨r2.even, e4.new _ _ r2.eq⟩
    have e14 : Ext h H4 := e13.trans e4
    have g4 := e4.fresh
    cases hr : redK xs xs.length with
    | none =>
      rw [hr] at hv4
      subst hv4
      repeat' (first | (first | refine V_seq ?_ | refine V_region ?_ | refine WS_nil ?_ | refine S_normal ?_ | refine V_block ?_ | refine B_normal ?_ | refine V_skip ?_ | refine V_exit ?_ | refine V_ret ?_ | refine S_exit ?_ | refine S_ret ?_ | refine B_exit ?_ | refine B_ret ?_ | refine B_pass rfl ?_ | refine C_normal ?_ | refine C_exit ?_ | refine C_ret ?_ | refine WS_off rfl (by first | rfl | assumption) ?_ | refine WS_on rfl (by first | rfl | assumption) ?_ | refine WS_move ?_ | refine WS_assign ?_ | refine WS_pick_t (by first | rfl | assumption) ?_ | refine WS_pick_f (by first | rfl | assumption) ?_ | refine WS_isnil ?_ | refine WS_notnil ?_ | refine WS_cmp rfl ?_ | refine WS_addi (by omega) ?_ | refine WS_subi (by omega) ?_ | refine WS_arith rfl ?_ | refine WS_not ?_ | refine WS_neg ?_ | refine WS_convert ?_ | refine WS_len_slice ?_ | refine WS_len_string ?_ | refine WS_fieldAddr ?_ | refine WS_load ?_ | refine WS_load_agg ?_ | refine WS_box_agg rfl ?_ | refine WS_box rfl ?_ | refine WS_makeFunc ?_ | refine WS_extract ?_ | refine WS_field ?_ | refine WS_build ?_ | refine WS_zero ?_ | refine WS_shift (by first | decide | omega) rfl ?_ | refine WS_strcmp rfl ?_ | refine WS_indexAddr (by first | decide | omega) ?_ | refine WS_alloc ?_ | refine WS_store rfl ?_ | refine WS_buildSlice (by decide) rfl rfl (by simp [Value.cells]) ?_ | refine WDK_go ?_ | refine WDT_go ?_ | refine WD_nil ?_ | refine WD_take_off rfl rfl (by first | rfl | assumption) ?_ | refine WD_load rfl ?_ | refine WD_load_on rfl rfl (by first | rfl | assumption) ?_ | refine WD_load_agg rfl ?_ | refine WD_load_agg_on rfl rfl (by first | rfl | assumption) ?_ | refine WD_take rfl rfl ?_ | refine WD_take_on rfl rfl (by first | rfl | assumption) rfl ?_ | refine WD_drop rfl rfl ?_ | refine WD_one rfl ?_ | refine WD_virt rfl rfl ?_) | (refine WS_guard rfl ?_ ?_ <;> intro hg) | (refine V_cond ?_ ?_ <;> intro hc <;> try (cases hc; done)))
      refine retK_ct ⟨e14.putObj (by omega), ?_⟩ (.inr rfl)
      rw [if_pos hck]
    | some st =>
      rw [hr] at hv4
      obtain ⟨sv, rfl, hS⟩ := hv4
      obtain ⟨asv, rfl⟩ := hS.isSlice
      repeat' (first | (first | refine V_seq ?_ | refine V_region ?_ | refine WS_nil ?_ | refine S_normal ?_ | refine V_block ?_ | refine B_normal ?_ | refine V_skip ?_ | refine V_exit ?_ | refine V_ret ?_ | refine S_exit ?_ | refine S_ret ?_ | refine B_exit ?_ | refine B_ret ?_ | refine B_pass rfl ?_ | refine C_normal ?_ | refine C_exit ?_ | refine C_ret ?_ | refine WS_off rfl (by first | rfl | assumption) ?_ | refine WS_on rfl (by first | rfl | assumption) ?_ | refine WS_move ?_ | refine WS_assign ?_ | refine WS_pick_t (by first | rfl | assumption) ?_ | refine WS_pick_f (by first | rfl | assumption) ?_ | refine WS_isnil ?_ | refine WS_notnil ?_ | refine WS_cmp rfl ?_ | refine WS_addi (by omega) ?_ | refine WS_subi (by omega) ?_ | refine WS_arith rfl ?_ | refine WS_not ?_ | refine WS_neg ?_ | refine WS_convert ?_ | refine WS_len_slice ?_ | refine WS_len_string ?_ | refine WS_fieldAddr ?_ | refine WS_load ?_ | refine WS_load_agg ?_ | refine WS_box_agg rfl ?_ | refine WS_box rfl ?_ | refine WS_makeFunc ?_ | refine WS_extract ?_ | refine WS_field ?_ | refine WS_build ?_ | refine WS_zero ?_ | refine WS_shift (by first | decide | omega) rfl ?_ | refine WS_strcmp rfl ?_ | refine WS_indexAddr (by first | decide | omega) ?_ | refine WS_alloc ?_ | refine WS_store rfl ?_ | refine WS_buildSlice (by decide) rfl rfl (by simp [Value.cells]) ?_ | refine WDK_go ?_ | refine WDT_go ?_ | refine WD_nil ?_ | refine WD_take_off rfl rfl (by first | rfl | assumption) ?_ | refine WD_load rfl ?_ | refine WD_load_on rfl rfl (by first | rfl | assumption) ?_ | refine WD_load_agg rfl ?_ | refine WD_load_agg_on rfl rfl (by first | rfl | assumption) ?_ | refine WD_take rfl rfl ?_ | refine WD_take_on rfl rfl (by first | rfl | assumption) rfl ?_ | refine WD_drop rfl rfl ?_ | refine WD_one rfl ?_ | refine WD_virt rfl rfl ?_) | (refine WS_guard rfl ?_ ?_ <;> intro hg) | (refine V_cond ?_ ?_ <;> intro hc <;> try (cases hc; done)))
      refine WS_call (Eye_spec N H4) ?_
      rintro v5 H5 ⟨e5, hv5⟩
      rw [if_pos ⟨hN0, hN1⟩] at hv5
      obtain ⟨sl, rfl, hL⟩ := hv5
      obtain ⟨asl, hasl⟩ := hL.isSlice
      have hnx : N.toNat = xs.length := by omega
      rw [u64s_len, eyeS_length, hnx] at hasl
      subst hasl
      have g5 := e5.fresh
      repeat' (first | (first | refine V_seq ?_ | refine V_region ?_ | refine WS_nil ?_ | refine S_normal ?_ | refine V_block ?_ | refine B_normal ?_ | refine V_skip ?_ | refine V_exit ?_ | refine V_ret ?_ | refine S_exit ?_ | refine S_ret ?_ | refine B_exit ?_ | refine B_ret ?_ | refine B_pass rfl ?_ | refine C_normal ?_ | refine C_exit ?_ | refine C_ret ?_ | refine WS_off rfl (by first | rfl | assumption) ?_ | refine WS_on rfl (by first | rfl | assumption) ?_ | refine WS_move ?_ | refine WS_assign ?_ | refine WS_pick_t (by first | rfl | assumption) ?_ | refine WS_pick_f (by first | rfl | assumption) ?_ | refine WS_isnil ?_ | refine WS_notnil ?_ | refine WS_cmp rfl ?_ | refine WS_addi (by omega) ?_ | refine WS_subi (by omega) ?_ | refine WS_arith rfl ?_ | refine WS_not ?_ | refine WS_neg ?_ | refine WS_convert ?_ | refine WS_len_slice ?_ | refine WS_len_string ?_ | refine WS_fieldAddr ?_ | refine WS_load ?_ | refine WS_load_agg ?_ | refine WS_box_agg rfl ?_ | refine WS_box rfl ?_ | refine WS_makeFunc ?_ | refine WS_extract ?_ | refine WS_field ?_ | refine WS_build ?_ | refine WS_zero ?_ | refine WS_shift (by first | decide | omega) rfl ?_ | refine WS_strcmp rfl ?_ | refine WS_indexAddr (by first | decide | omega) ?_ | refine WS_alloc ?_ | refine WS_store rfl ?_ | refine WS_buildSlice (by decide) rfl rfl (by simp [Value.cells]) ?_ | refine WDK_go ?_ | refine WDT_go ?_ | refine WD_nil ?_ | refine WD_take_off rfl rfl (by first | rfl | assumption) ?_ | refine WD_load rfl ?_ | refine WD_load_on rfl rfl (by first | rfl | assumption) ?_ | refine WD_load_agg rfl ?_ | refine WD_load_agg_on rfl rfl (by first | rfl | assumption) ?_ | refine WD_take rfl rfl ?_ | refine WD_take_on rfl rfl (by first | rfl | assumption) rfl ?_ | refine WD_drop rfl rfl ?_ | refine WD_one rfl ?_ | refine WD_virt rfl rfl ?_) | (refine WS_guard rfl ?_ ?_ <;> intro hg) | (refine V_cond ?_ ?_ <;> intro hc <;> try (cases hc; done)))
      obtain ⟨H6, hH6⟩ : ∃ H, H = ((H5.push (IObj.cells [Value.int IntKind.i64 0, Value.slice none 0 0] 53 true)).put H5.fresh [Value.int IntKind.i64 N, Value.slice asl xs.length xs.length] 53 true) := ⟨_, rfl⟩
      have e6 : Ext H5 H6 := hH6 ▸ (Ext.push _ _).putObj (Nat.le_refl _)
      have u5 : ObjIs H6 H5.fresh [Value.int IntKind.i64 N, Value.slice asl xs.length xs.length] 53 true := hH6 ▸ inferInstance
      have f6 : H6.fresh = H5.fresh + 2 := by rw [hH6, putObj_fresh, push_fresh]
      rw [← hH6]
      have hslen := redK_len xs xs.length st hr
      have hsb : st.2.length ≤ 2 ^ 20 := by
        have : xs.length * (2 * xs.length) ≤ 64 * (2 * 64) := Nat.mul_le_mul (by omega) (by omega)
        omega
      have hsok := redK_ok xs xs.length st (Nat.le_refl _) hr
      have hOw0 : Own H4.fresh H6 (Value.slice asl xs.length xs.length) (u64s (eyeS N)) 42 := (hL.ext e6).own
      have hbl : ∀ b, blockOf (Value.slice asl xs.length xs.length) = some b → H4.fresh ≤ b ∧ b < H5.fresh := fun b hb => ⟨hL.block hb, hL.ltFresh hb⟩
      refine V_loop (fun d s h' => ∃ (i : Int), d = (st.2.length - i).toNat ∧ 0 ≤ i ∧ i ≤ st.2.length ∧ Get s 33 (.int .i64 i) ∧ Get s 32 (.int .i64 st.2.length) ∧ Get s 31 (.slice asv st.2.length st.2.length) ∧ Get s 7 (.pointer (some (ad H5.fresh 0))) ∧ Get s 2 (.pointer (some (ad H1.fresh 0))) ∧ Ext H4 h' ∧ ObjIs h' H5.fresh [Value.int IntKind.i64 N, Value.slice asl xs.length xs.length] 53 true ∧ Own H4.fresh h' (Value.slice asl xs.length xs.length) (u64s (doSteps (eyeS N) (st.2.take i.toNat))) 42 ∧ H6.fresh ≤ h'.fresh) st.2.length
        ⟨0, by omega, by omega, by omega, inferInstance, inferInstance, inferInstance, inferInstance, inferInstance, e5.trans e6, u5, by simpa [doSteps] using hOw0, Nat.le_refl _⟩ ?_
      rintro d s h' ⟨i, rfl, hi0, hi1, y33, y32, y31, y7, y2, eX, w5, hO, hG⟩
      have w2 : ObjIs h' H1.fresh [.int .i64 0, .slice none 0 0] 53 true := ⟨s2.even, eX.new _ _ s2.eq⟩
      have n15 : NeB H5.fresh H1.fresh := .fresh' (by omega)
      repeat' (first | (first | refine V_seq ?_ | refine V_region ?_ | refine WS_nil ?_ | refine S_normal ?_ | refine V_block ?_ | refine B_normal ?_ | refine V_skip ?_ | refine V_exit ?_ | refine V_ret ?_ | refine S_exit ?_ | refine S_ret ?_ | refine B_exit ?_ | refine B_ret ?_ | refine B_pass rfl ?_ | refine C_normal ?_ | refine C_exit ?_ | refine C_ret ?_ | refine WS_off rfl (by first | rfl | assumption) ?_ | refine WS_on rfl (by first | rfl | assumption) ?_ | refine WS_move ?_ | refine WS_assign ?_ | refine WS_pick_t (by first | rfl | assumption) ?_ | refine WS_pick_f (by first | rfl | assumption) ?_ | refine WS_isnil ?_ | refine WS_notnil ?_ | refine WS_cmp rfl ?_ | refine WS_addi (by omega) ?_ | refine WS_subi (by omega) ?_ | refine WS_arith rfl ?_ | refine WS_not ?_ | refine WS_neg ?_ | refine WS_convert ?_ | refine WS_len_slice ?_ | refine WS_len_string ?_ | refine WS_fieldAddr ?_ | refine WS_load ?_ | refine WS_load_agg ?_ | refine WS_box_agg rfl ?_ | refine WS_box rfl ?_ | refine WS_makeFunc ?_ | refine WS_extract ?_ | refine WS_field ?_ | refine WS_build ?_ | refine WS_zero ?_ | refine WS_shift (by first | decide | omega) rfl ?_ | refine WS_strcmp rfl ?_ | refine WS_indexAddr (by first | decide | omega) ?_ | refine WS_alloc ?_ | refine WS_store rfl ?_ | refine WS_buildSlice (by decide) rfl rfl (by simp [Value.cells]) ?_ | refine WDK_go ?_ | refine WDT_go ?_ | refine WD_nil ?_ | refine WD_take_off rfl rfl (by first | rfl | assumption) ?_ | refine WD_load rfl ?_ | refine WD_load_on rfl rfl (by first | rfl | assumption) ?_ | refine WD_load_agg rfl ?_ | refine WD_load_agg_on rfl rfl (by first | rfl | assumption) ?_ | refine WD_take rfl rfl ?_ | refine WD_take_on rfl rfl (by first | rfl | assumption) rfl ?_ | refine WD_drop rfl rfl ?_ | refine WD_one rfl ?_ | refine WD_virt rfl rfl ?_) | (refine WS_guard rfl ?_ ?_ <;> intro hg) | (refine V_cond ?_ ?_ <;> intro hc <;> try (cases hc; done)))
      · have hi : i < st.2.length := by simpa using hc
        obtain ⟨p, hp⟩ : ∃ p, st.2[i.toNat]? = some p := ⟨st.2[i.toNat]'(by omega), List.getElem?_eq_getElem _⟩
        obtain ⟨hp1, hp2⟩ := hsok p (List.mem_of_getElem? hp)
        obtain ⟨hc1, hc2⟩ := stepCells_at _ _ _ hp
        rcases hS with ⟨_, hz, _⟩ | ⟨bS, hbS, hvS, oS, _, _⟩
        · omega
        simp only [Value.slice.injEq] at hvS
        obtain ⟨rfl, _, _⟩ := hvS
        have oS' : ObjIs h' bS (stepCells st.2) 127 false := ⟨oS.even, eX.new _ _ oS.eq⟩
        have k1 : CellIs h' bS (0 + i.toNat * 2) (.int .i64 p.1) := ⟨by rw [oS'.cell, Nat.zero_add]; exact hc1⟩
        have k2 : CellIs h' bS (0 + i.toNat * 2 + 1) (.int .i64 p.2) := ⟨by rw [oS'.cell, Nat.zero_add]; exact hc2⟩
        have hii : 0 ≤ i ∧ i < (st.2.length : Int) := by omega
        repeat' (first | (first | refine V_seq ?_ | refine V_region ?_ | refine WS_nil ?_ | refine S_normal ?_ | refine V_block ?_ | refine B_normal ?_ | refine V_skip ?_ | refine V_exit ?_ | refine V_ret ?_ | refine S_exit ?_ | refine S_ret ?_ | refine B_exit ?_ | refine B_ret ?_ | refine B_pass rfl ?_ | refine C_normal ?_ | refine C_exit ?_ | refine C_ret ?_ | refine WS_off rfl (by first | rfl | assumption) ?_ | refine WS_on rfl (by first | rfl | assumption) ?_ | refine WS_move ?_ | refine WS_assign ?_ | refine WS_pick_t (by first | rfl | assumption) ?_ | refine WS_pick_f (by first | rfl | assumption) ?_ | refine WS_isnil ?_ | refine WS_notnil ?_ | refine WS_cmp rfl ?_ | refine WS_addi (by omega) ?_ | refine WS_subi (by omega) ?_ | refine WS_arith rfl ?_ | refine WS_not ?_ | refine WS_neg ?_ | refine WS_convert ?_ | refine WS_len_slice ?_ | refine WS_len_string ?_ | refine WS_fieldAddr ?_ | refine WS_load ?_ | refine WS_load_agg ?_ | refine WS_box_agg rfl ?_ | refine WS_box rfl ?_ | refine WS_makeFunc ?_ | refine WS_extract ?_ | refine WS_field ?_ | refine WS_build ?_ | refine WS_zero ?_ | refine WS_shift (by first | decide | omega) rfl ?_ | refine WS_strcmp rfl ?_ | refine WS_indexAddr (by first | decide | omega) ?_ | refine WS_alloc ?_ | refine WS_store rfl ?_ | refine WS_buildSlice (by decide) rfl rfl (by simp [Value.cells]) ?_ | refine WDK_go ?_ | refine WDT_go ?_ | refine WD_nil ?_ | refine WD_take_off rfl rfl (by first | rfl | assumption) ?_ | refine WD_load rfl ?_ | refine WD_load_on rfl rfl (by first | rfl | assumption) ?_ | refine WD_load_agg rfl ?_ | refine WD_load_agg_on rfl rfl (by first | rfl | assumption) ?_ | refine WD_take rfl rfl ?_ | refine WD_take_on rfl rfl (by first | rfl | assumption) rfl ?_ | refine WD_drop rfl rfl ?_ | refine WD_one rfl ?_ | refine WD_virt rfl rfl ?_) | (refine WS_guard rfl ?_ ?_ <;> intro hg) | (refine V_cond ?_ ?_ <;> intro hc <;> try (cases hc; done)))
        obtain ⟨H7, hH7⟩ : ∃ H, H = ((h'.push (IObj.cells [Value.int IntKind.i64 0, Value.int IntKind.i64 0] 127 true)).put h'.fresh [Value.int IntKind.i64 p.1, Value.int IntKind.i64 p.2] 127 true) := ⟨_, rfl⟩
        have e7 : Ext h' H7 := hH7 ▸ (Ext.push _ _).putObj (Nat.le_refl _)
        have x7 : ObjIs H7 h'.fresh [Value.int IntKind.i64 p.1, Value.int IntKind.i64 p.2] 127 true := hH7 ▸ inferInstance
        have f7 : H7.fresh = h'.fresh + 2 := by rw [hH7, putObj_fresh, push_fresh]
        rw [← hH7]
        have hO7 := hO.ext e7
        have hdl : (doSteps (eyeS N) (st.2.take i.toNat)).length = xs.length := by rw [doSteps_len, eyeS_length]; omega
        have hd64 : All64 (doSteps (eyeS N) (st.2.take i.toNat)) := doSteps_64 _ _ (eyeS_lt hN1)
        obtain ⟨rb, y, hrb, hvr, orb⟩ := hO7.at (by rw [u64s_len]; omega)
        have hlb := hbl rb (by rw [hvr]; rfl)
        rw [u64s_len, hdl] at hvr
        have w7 : ObjIs H7 H5.fresh [Value.int IntKind.i64 N, Value.slice (some (ad rb 0)) xs.length xs.length] 53 true := by rw [← hvr]; exact ⟨w5.even, e7.new _ _ w5.eq⟩
        have w7' := w7
        have n1 : NeB H5.fresh rb := .of w5.even orb.even (by omega)
        have n2 : NeB h'.fresh rb := .of x7.even orb.even (by omega)
        have m0 : CellIs H7 H5.fresh (0 + 1) (.slice (some (ad rb 0)) xs.length xs.length) := ⟨by rw [w7.cell]; rfl⟩
        have m1 : CellIs H7 h'.fresh (0 + 0) (.int .i64 p.1) := ⟨by rw [x7.cell]; rfl⟩
        have m2 : CellIs H7 h'.fresh (0 + 1) (.int .i64 p.2) := ⟨by rw [x7.cell]; rfl⟩
        have m3 : CellIs H7 rb (0 + (p.1 : Int).toNat * 1) (.int .u64 ((doSteps (eyeS N) (st.2.take i.toNat)).getD p.1 0 : Nat)) := by rw [Int.toNat_natCast]; exact cell_u64 orb (by omega)
        have m4 : CellIs H7 rb (0 + (p.2 : Int).toNat * 1) (.int .u64 ((doSteps (eyeS N) (st.2.take i.toNat)).getD p.2 0 : Nat)) := by rw [Int.toNat_natCast]; exact cell_u64 orb (by omega)
        have z1 : SetIs (u64s (doSteps (eyeS N) (st.2.take i.toNat))) (0 + (p.2 : Int).toNat * 1) [.int .u64 (((doSteps (eyeS N) (st.2.take i.toNat)).getD p.2 0 ^^^ (doSteps (eyeS N) (st.2.take i.toNat)).getD p.1 0 : Nat) : Int)] (u64s (addStep (doSteps (eyeS N) (st.2.take i.toNat)) p.1 p.2)) := by rw [Int.toNat_natCast]; exact set_u64 _ (by omega)
        rw [← xor_u64 (hd64.get p.2) (hd64.get p.1)] at z1
        have b1 : 0 ≤ (p.1 : Int) ∧ (p.1 : Int) < (xs.length : Int) := by omega
        have b2 : 0 ≤ (p.2 : Int) ∧ (p.2 : Int) < (xs.length : Int) := by omega
        refine V_draw (plan := [.take 0, .take 1, .take 2, .take 3, .take 4, .take 5, .take 6, .take 7, .take 8, .take 9, .take 10, .take 11, .take 12, .take 13, .one 14]) (by kernel_rfl) ?_
        repeat' (first | (first | refine V_seq ?_ | refine V_region ?_ | refine WS_nil ?_ | refine S_normal ?_ | refine V_block ?_ | refine B_normal ?_ | refine V_skip ?_ | refine V_exit ?_ | refine V_ret ?_ | refine S_exit ?_ | refine S_ret ?_ | refine B_exit ?_ | refine B_ret ?_ | refine B_pass rfl ?_ | refine C_normal ?_ | refine C_exit ?_ | refine C_ret ?_ | refine WS_off rfl (by first | rfl | assumption) ?_ | refine WS_on rfl (by first | rfl | assumption) ?_ | refine WS_move ?_ | refine WS_assign ?_ | refine WS_pick_t (by first | rfl | assumption) ?_ | refine WS_pick_f (by first | rfl | assumption) ?_ | refine WS_isnil ?_ | refine WS_notnil ?_ | refine WS_cmp rfl ?_ | refine WS_addi (by omega) ?_ | refine WS_subi (by omega) ?_ | refine WS_arith rfl ?_ | refine WS_not ?_ | refine WS_neg ?_ | refine WS_convert ?_ | refine WS_len_slice ?_ | refine WS_len_string ?_ | refine WS_fieldAddr ?_ | refine WS_load ?_ | refine WS_load_agg ?_ | refine WS_box_agg rfl ?_ | refine WS_box rfl ?_ | refine WS_makeFunc ?_ | refine WS_extract ?_ | refine WS_field ?_ | refine WS_build ?_ | refine WS_zero ?_ | refine WS_shift (by first | decide | omega) rfl ?_ | refine WS_strcmp rfl ?_ | refine WS_indexAddr (by first | decide | omega) ?_ | refine WS_alloc ?_ | refine WS_store rfl ?_ | refine WS_buildSlice (by decide) rfl rfl (by simp [Value.cells]) ?_ | refine WDK_go ?_ | refine WDT_go ?_ | refine WD_nil ?_ | refine WD_take_off rfl rfl (by first | rfl | assumption) ?_ | refine WD_load rfl ?_ | refine WD_load_on rfl rfl (by first | rfl | assumption) ?_ | refine WD_load_agg rfl ?_ | refine WD_load_agg_on rfl rfl (by first | rfl | assumption) ?_ | refine WD_take rfl rfl ?_ | refine WD_take_on rfl rfl (by first | rfl | assumption) rfl ?_ | refine WD_drop rfl rfl ?_ | refine WD_one rfl ?_ | refine WD_virt rfl rfl ?_) | (refine WS_guard rfl ?_ ?_ <;> intro hg) | (refine V_cond ?_ ?_ <;> intro hc <;> try (cases hc; done)))
        refine ⟨_, ?_, i + 1, rfl, by omega, by omega, inferInstance, inferInstance, inferInstance, inferInstance, inferInstance, (eX.trans e7).putObj (by omega), ?_, ?_, by rw [putObj_fresh]; omega⟩
        · omega
        · rw [hvr]; infer_instance
        · rw [toNat_succ hi0, doSteps_take hp, hvr]
          exact .inr ⟨rb, y, hrb, by rw [u64s_len, addStep_len, hdl], inferInstance⟩
      · have hi : i = st.2.length := by simp at hc; omega
        have k0 : CellIs h' H5.fresh 0 _ := ⟨by rw [w5.cell]; rfl⟩
        have k1 : CellIs h' H5.fresh (0 + 1) _ := ⟨by rw [w5.cell]; rfl⟩
        have kr : RowIs h' H5.fresh 0 2 _ := inferInstance
        repeat' (first | (first | refine V_seq ?_ | refine V_region ?_ | refine WS_nil ?_ | refine S_normal ?_ | refine V_block ?_ | refine B_normal ?_ | refine V_skip ?_ | refine V_exit ?_ | refine V_ret ?_ | refine S_exit ?_ | refine S_ret ?_ | refine B_exit ?_ | refine B_ret ?_ | refine B_pass rfl ?_ | refine C_normal ?_ | refine C_exit ?_ | refine C_ret ?_ | refine WS_off rfl (by first | rfl | assumption) ?_ | refine WS_on rfl (by first | rfl | assumption) ?_ | refine WS_move ?_ | refine WS_assign ?_ | refine WS_pick_t (by first | rfl | assumption) ?_ | refine WS_pick_f (by first | rfl | assumption) ?_ | refine WS_isnil ?_ | refine WS_notnil ?_ | refine WS_cmp rfl ?_ | refine WS_addi (by omega) ?_ | refine WS_subi (by omega) ?_ | refine WS_arith rfl ?_ | refine WS_not ?_ | refine WS_neg ?_ | refine WS_convert ?_ | refine WS_len_slice ?_ | refine WS_len_string ?_ | refine WS_fieldAddr ?_ | refine WS_load ?_ | refine WS_load_agg ?_ | refine WS_box_agg rfl ?_ | refine WS_box rfl ?_ | refine WS_makeFunc ?_ | refine WS_extract ?_ | refine WS_field ?_ | refine WS_build ?_ | refine WS_zero ?_ | refine WS_shift (by first | decide | omega) rfl ?_ | refine WS_strcmp rfl ?_ | refine WS_indexAddr (by first | decide | omega) ?_ | refine WS_alloc ?_ | refine WS_store rfl ?_ | refine WS_buildSlice (by decide) rfl rfl (by simp [Value.cells]) ?_ | refine WDK_go ?_ | refine WDT_go ?_ | refine WD_nil ?_ | refine WD_take_off rfl rfl (by first | rfl | assumption) ?_ | refine WD_load rfl ?_ | refine WD_load_on rfl rfl (by first | rfl | assumption) ?_ | refine WD_load_agg rfl ?_ | refine WD_load_agg_on rfl rfl (by first | rfl | assumption) ?_ | refine WD_take rfl rfl ?_ | refine WD_take_on rfl rfl (by first | rfl | assumption) rfl ?_ | refine WD_drop rfl rfl ?_ | refine WD_one rfl ?_ | refine WD_virt rfl rfl ?_) | (refine WS_guard rfl ?_ ?_ <;> intro hg) | (refine V_cond ?_ ?_ <;> intro hc <;> try (cases hc; done)))
        refine retK_ct ⟨(e14.trans eX).putObj (by omega), ?_⟩ (.inr rfl)
        rw [if_pos hck]
        rw [hi, Int.toNat_natCast, List.take_length] at hO
        refine ⟨_, rfl, (hO.lower (by omega)).put_ne (fun hh => by have := hbl _ hh; omega) r2.even⟩
instance : CallIs Try.prog 34 := .of Try.func34 rfl rfl
end Go.Ideal

-- Pa
set_option linter.unusedSimpArgs false
set_option linter.unusedVariables false
namespace Go.Ideal
open Go Go.Proofs
theorem getD_set (rows : List Nat) (i k w : Nat) (hi : i < rows.length) : (rows.set i w).getD k 0 = if k = i then w else rows.getD k 0 := by
  simp only [List.getD_eq_getElem?_getD, List.getElem?_set]
  by_cases h : i = k
  · subst h; simp [hi]
  · rw [if_neg h, if_neg (fun hh => h hh.symm)]
end Go.Ideal

-- Pb
set_option linter.unusedSimpArgs false
set_option linter.unusedVariables false
namespace Go.Ideal
open Go Go.Proofs
/-! ### Parities of bits -/
def xorB (f : Nat → Bool) : Nat → Bool
  | 0 => false
  | k + 1 => (xorB f k) ^^ (f k)
theorem xorB_congr {f g : Nat → Bool} : ∀ k, (∀ j, j < k → f j = g j) → xorB f k = xorB g k := by
  intro k
  induction k with
  | zero => intro _; rfl
  | succ k ih => intro h; simp only [xorB, ih fun j hj => h j (by omega), h k (by omega)]
theorem testBit_xorK (f : Nat → Nat) (b : Nat) : ∀ k, (xorK f k).testBit b = xorB (fun j => (f j).testBit b) k := by
  intro k
  induction k with
  | zero => simp [xorK, xorB]
  | succ k ih => simp only [xorK, xorB, Nat.testBit_xor, ih]
theorem bit_testBit (x k : Nat) : (x >>> k) &&& 1 = (x.testBit k).toNat := by
  rw [Nat.testBit_eq_decide_div_mod_eq, Nat.shiftRight_eq_div_pow, Nat.and_one_is_mod]
  rcases Nat.mod_two_eq_zero_or_one (x / 2 ^ k) with h | h <;> simp [h]
end Go.Ideal

-- Pc
set_option linter.unusedSimpArgs false
set_option linter.unusedVariables false
namespace Go.Ideal
open Go Go.Proofs
theorem mulRow_bits {r : Nat} {ys : List Nat} {n b : Nat} : (mulRow r ys n).testBit b = xorB (fun j => r.testBit j && (ys.getD j 0).testBit b) n := by
  rw [mulRow, testBit_xorK]
  refine xorB_congr n fun j _ => ?_
  rw [bit_testBit]
  cases r.testBit j
  · simp
  · simp
theorem below_lt {N : Int} {x : Nat} (h0 : 0 ≤ N) (hx : x < 2 ^ 64) (h : belowS N x = true) : x < 2 ^ N.toNat := by
  simp only [belowS, Bool.or_eq_true, decide_eq_true_eq] at h
  rcases h with h | h
  · exact Nat.lt_of_lt_of_le hx (Nat.pow_le_pow_right (by decide) (by omega))
  · rw [Nat.shiftRight_eq_div_pow] at h
    exact (Nat.div_eq_zero_iff_lt (Nat.pow_pos (by decide))).1 h
end Go.Ideal

-- Pd
set_option linter.unusedSimpArgs false
set_option linter.unusedVariables false
namespace Go.Ideal
open Go Go.Proofs
theorem xorB_xor (f g : Nat → Bool) : ∀ k, xorB (fun j => (f j) ^^ (g j)) k = ((xorB f k) ^^ (xorB g k)) := by
  intro k
  induction k with
  | zero => rfl
  | succ k ih =>
    simp only [xorB, ih]
    cases xorB f k <;> cases xorB g k <;> cases f k <;> cases g k <;> rfl
theorem mulRow_xor (a b : Nat) (X : List Nat) (n : Nat) : mulRow (a ^^^ b) X n = mulRow a X n ^^^ mulRow b X n := by
  apply Nat.eq_of_testBit_eq
  intro x
  rw [Nat.testBit_xor, mulRow_bits, mulRow_bits, mulRow_bits, ← xorB_xor]
  refine xorB_congr n fun j _ => ?_
  rw [Nat.testBit_xor]
  cases a.testBit j <;> cases b.testBit j <;> simp
theorem addStep_get {rows : List Nat} {f t : Nat} (ht : t < rows.length) (i : Nat) : (addStep rows f t).getD i 0 = if i = t then rows.getD t 0 ^^^ rows.getD f 0 else rows.getD i 0 := by
  rw [addStep, getD_set _ _ _ _ ht]
/-- cur = E X -/
def Rel (E X cur : List Nat) (n : Nat) : Prop := ∀ i, i < n → cur.getD i 0 = mulRow (E.getD i 0) X n
theorem eyeS_get {n : Int} {i : Nat} (hi : i < n.toNat) : (eyeS n).getD i 0 = 2 ^ i := by
  simp [eyeS, List.getD_eq_getElem?_getD, hi]
theorem Rel.add {E X cur : List Nat} {n f t : Nat} (h : Rel E X cur n) (hE : E.length = n) (hc : cur.length = n) (hf : f < n) (ht : t < n) : Rel (addStep E f t) X (addStep cur f t) n := fun i hi => by
  rw [addStep_get (by omega), addStep_get (by omega)]
  split
  · rw [mulRow_xor, ← h t ht, ← h f hf]
  · exact h i hi
theorem Rel.steps {X : List Nat} {n : Nat} : ∀ (l : List (Nat × Nat)) (E cur : List Nat), Rel E X cur n → E.length = n → cur.length = n → StOk n l → Rel (doSteps E l) X (doSteps cur l) n := by
  intro l
  induction l with
  | nil => intro E cur h _ _ _; exact h
  | cons p l ih =>
    intro E cur h hE hc hok
    obtain ⟨h1, h2⟩ := hok p List.mem_cons_self
    exact ih _ _ (h.add hE hc h1 h2) (by rw [addStep_len]; exact hE) (by rw [addStep_len]; exact hc) (fun q hq => hok q (List.mem_cons_of_mem _ hq))
theorem doSteps_append (rows : List Nat) (l l' : List (Nat × Nat)) : doSteps rows (l ++ l') = doSteps (doSteps rows l) l' := by simp [doSteps, List.foldl_append]
theorem fixK_steps {X : List Nat} {j n : Nat} : ∀ (f i : Nat) (st st' : RSt), st.1 = doSteps X st.2 → fixK j n f i st = some st' → st'.1 = doSteps X st'.2 := by
  intro f
  induction f with
  | zero => intro i st st' _ h; cases h
  | succ f ih =>
    intro i st st' hs h
    rw [fixK] at h
    split at h
    · obtain rfl := Option.some.inj h; exact hs
    · split at h
      · cases h
      · refine ih _ _ _ ?_ h
        split
        · simp only; rw [doSteps_append, ← hs]; rfl
        · exact hs
theorem clearK_steps {X : List Nat} {j : Nat} : ∀ (m k : Nat) (st : RSt), st.1 = doSteps X st.2 → (clearK j k m st).1 = doSteps X (clearK j k m st).2 := by
  intro m
  induction m with
  | zero => intro k st hs; exact hs
  | succ m ih =>
    intro k st hs
    rw [clearK]
    refine ih _ _ ?_
    split
    · simp only; rw [doSteps_append, ← hs]; rfl
    · exact hs
theorem redK_steps (X : List Nat) : ∀ (j : Nat) (st : RSt), redK X j = some st → st.1 = doSteps X st.2 := by
  intro j
  induction j with
  | zero => intro st h; simp only [redK, Option.some.injEq] at h; subst h; rfl
  | succ j ih =>
    intro st h
    simp only [redK, Option.bind_eq_some_iff, Option.map_eq_some_iff] at h
    obtain ⟨s1, h1, s2, h2, rfl⟩ := h
    exact clearK_steps _ _ _ (fixK_steps _ _ _ _ (ih _ h1) h2)
end Go.Ideal

-- Pe
set_option linter.unusedSimpArgs false
set_option linter.unusedVariables false
namespace Go.Ideal
open Go Go.Proofs
end Go.Ideal

-- Pf
set_option linter.unusedSimpArgs false
set_option linter.unusedVariables false
namespace Go.Ideal
open Go Go.Proofs
def StNe (l : List (Nat × Nat)) : Prop := ∀ p ∈ l, p.1 ≠ p.2
theorem StNe.add {l : List (Nat × Nat)} (h : StNe l) {a b : Nat} (hab : a ≠ b) : StNe (l ++ [(a, b)]) := fun p hp => by
  rcases List.mem_append.1 hp with h1 | h1
  · exact h p h1
  · simp at h1; subst h1; exact hab
theorem fixK_ne {j n : Nat} : ∀ (f i : Nat) (st st' : RSt), j ≤ i → StNe st.2 → fixK j n f i st = some st' → StNe st'.2 := by
  intro f
  induction f with
  | zero => intro i st st' _ _ h; cases h
  | succ f ih =>
    intro i st st' hi hs h
    rw [fixK] at h
    split at h
    · obtain rfl := Option.some.inj h; exact hs
    · split at h
      · cases h
      · refine ih _ _ _ (by omega) ?_ h
        split
        · exact hs.add (by omega)
        · exact hs
theorem clearK_ne {j : Nat} : ∀ (m k : Nat) (st : RSt), StNe st.2 → StNe (clearK j k m st).2 := by
  intro m
  induction m with
  | zero => intro k st hs; exact hs
  | succ m ih =>
    intro k st hs
    rw [clearK]
    refine ih _ _ ?_
    split
    · rename_i hh; exact hs.add (fun h => hh.1 h.symm)
    · exact hs
theorem redK_ne (xs : List Nat) : ∀ (j : Nat) (st : RSt), redK xs j = some st → StNe st.2 := by
  intro j
  induction j with
  | zero => intro st h; simp only [redK, Option.some.injEq] at h; subst h; intro p hp; simp at hp
  | succ j ih =>
    intro st h
    simp only [redK, Option.bind_eq_some_iff, Option.map_eq_some_iff] at h
    obtain ⟨s1, h1, s2, h2, rfl⟩ := h
    exact clearK_ne _ _ _ (fixK_ne _ _ _ _ (Nat.le_refl _) (ih _ h1) h2)
end Go.Ideal

-- Pg
set_option linter.unusedSimpArgs false
set_option linter.unusedVariables false
namespace Go.Ideal
open Go Go.Proofs
theorem bitAt_tb (x k : Nat) : bitAt x k = x.testBit k := by
  unfold bitAt
  rw [bit_testBit]
  cases x.testBit k <;> rfl
/-- the columns below j are those of the matrix that changes nothing -/
def Cols (cur : List Nat) (j n : Nat) : Prop := ∀ c, c < j → ∀ i, i < n → (cur.getD i 0).testBit c = decide (i = c)
theorem fixK_cols {j n : Nat} (hj : j < n) : ∀ (f i : Nat) (st st' : RSt), j ≤ i → i < n → st.1.length = n → Cols st.1 j n → fixK j n f i st = some st' → Cols st'.1 j n ∧ st'.1.length = n ∧ (st'.1.getD j 0).testBit j = true := by
  intro f
  induction f with
  | zero => intro i st st' _ _ _ _ h; cases h
  | succ f ih =>
    intro i st st' hi hin hl hC h
    rw [fixK] at h
    split at h
    · rename_i hb
      obtain rfl := Option.some.inj h
      exact ⟨hC, hl, by rw [← bitAt_tb]; exact hb⟩
    · split at h
      · cases h
      · refine ih _ _ _ (by omega) (by omega) ?_ ?_ h
        · split
          · simp only; rw [addStep_len]; exact hl
          · exact hl
        · split
          · intro c hc x hx
            simp only
            rw [addStep_get (by omega)]
            split
            · rename_i hxj
              subst hxj
              rw [Nat.testBit_xor, hC c hc _ hx, hC c hc _ (by omega)]
              simp [show ¬ x = c by omega, show ¬ i + 1 = c by omega]
            · exact hC c hc x hx
          · exact hC
theorem clearK_cols {j n : Nat} (hj : j < n) : ∀ (m k : Nat) (st : RSt), k + m = n → st.1.length = n → Cols st.1 j n → (st.1.getD j 0).testBit j = true → (∀ i, i < k → i ≠ j → (st.1.getD i 0).testBit j = false) → Cols (clearK j k m st).1 (j + 1) n ∧ (clearK j k m st).1.length = n := by
  intro m
  induction m with
  | zero =>
    intro k st hk hl hC hb hd
    refine ⟨fun c hc i hi => ?_, hl⟩
    by_cases hcj : c < j
    · exact hC c hcj i hi
    · have : c = j := by omega
      subst this
      rw [clearK]
      by_cases hic : i = c
      · subst hic; rw [hb]; simp
      · rw [hd i (by omega) hic]; simp [hic]
  | succ m ih =>
    intro k st hk hl hC hb hd
    rw [clearK]
    by_cases hh : k ≠ j ∧ bitAt (st.1.getD k 0) j = true
    · rw [if_pos hh]
      refine ih _ _ (by omega) (by simp only; rw [addStep_len]; exact hl) ?_ ?_ ?_
      · intro c hc i hi
        simp only
        rw [addStep_get (by omega)]
        split
        · rename_i hik
          subst hik
          rw [Nat.testBit_xor, hC c hc _ hi, hC c hc _ hj]
          simp [show ¬ j = c by omega]
        · exact hC c hc i hi
      · simp only; rw [addStep_get (by omega), if_neg (fun h => hh.1 h.symm)]; exact hb
      · intro i hi hij
        simp only
        rw [addStep_get (by omega)]
        split
        · have h1 := hh.2
          rw [bitAt_tb] at h1
          rw [Nat.testBit_xor, h1, hb]; rfl
        · exact hd i (by omega) hij
    · rw [if_neg hh]
      refine ih _ _ (by omega) hl hC hb ?_
      intro i hi hij
      by_cases hik : i = k
      · subst hik
        cases hx : (st.1.getD i 0).testBit j with
        | false => rfl
        | true => exact absurd ⟨hij, by rw [bitAt_tb]; exact hx⟩ hh
      · exact hd i (by omega) hij
theorem redK_cols (X : List Nat) : ∀ (j : Nat) (st : RSt), j ≤ X.length → redK X j = some st → Cols st.1 j X.length ∧ st.1.length = X.length := by
  intro j
  induction j with
  | zero => intro st _ h; simp only [redK, Option.some.injEq] at h; subst h; exact ⟨fun c hc => absurd hc (Nat.not_lt_zero c), rfl⟩
  | succ j ih =>
    intro st hj h
    simp only [redK, Option.bind_eq_some_iff, Option.map_eq_some_iff] at h
    obtain ⟨s1, h1, s2, h2, rfl⟩ := h
    obtain ⟨hC, hl⟩ := ih _ (by omega) h1
    obtain ⟨hC2, hl2, hb⟩ := fixK_cols (by omega) _ _ _ _ (Nat.le_refl _) (by omega) hl hC h2
    exact clearK_cols (by omega) _ _ _ (by omega) hl2 hC2 hb (fun i hi => absurd hi (Nat.not_lt_zero i))
end Go.Ideal

-- Ph
set_option linter.unusedSimpArgs false
set_option linter.unusedVariables false
namespace Go.Ideal
open Go Go.Proofs
end Go.Ideal

-- Pi
set_option linter.unusedSimpArgs false
set_option linter.unusedVariables false
namespace Go.Ideal
open Go Go.Proofs
def dotB (n r v : Nat) : Bool := xorB (fun c => r.testBit c && v.testBit c) n
theorem dotB_xor (n a b v : Nat) : dotB n (a ^^^ b) v = ((dotB n a v) ^^ (dotB n b v)) := by
  unfold dotB
  rw [← xorB_xor]
  refine xorB_congr n fun c _ => ?_
  rw [Nat.testBit_xor]
  cases a.testBit c <;> cases b.testBit c <;> cases v.testBit c <;> rfl
/-- v is taken to nought by all rows -/
def Ker (R : List Nat) (v n : Nat) : Prop := ∀ i, i < n → dotB n (R.getD i 0) v = false
theorem Ker.add {X : List Nat} {v n f t : Nat} (hX : X.length = n) (hf : f < n) (ht : t < n) (h : Ker X v n) : Ker (addStep X f t) v n := fun i hi => by
  rw [addStep_get (by omega)]
  split
  · rw [dotB_xor, h t ht, h f hf]; rfl
  · exact h i hi
theorem Ker.steps {v n : Nat} : ∀ (l : List (Nat × Nat)) (X : List Nat), X.length = n → StOk n l → Ker X v n → Ker (doSteps X l) v n := by
  intro l
  induction l with
  | nil => intro X _ _ h; exact h
  | cons p l ih =>
    intro X hX hok h
    obtain ⟨h1, h2⟩ := hok p List.mem_cons_self
    exact ih _ (by rw [addStep_len]; exact hX) (fun q hq => hok q (List.mem_cons_of_mem _ hq)) (h.add hX h1 h2)
def GLt (R : List Nat) (n : Nat) : Prop := ∀ i, R.getD i 0 < 2 ^ n
theorem GLt.add {X : List Nat} {n f t : Nat} (h : GLt X n) (ht : t < X.length) : GLt (addStep X f t) n := fun i => by
  rw [addStep_get ht]
  split
  · exact Nat.xor_lt_two_pow (h t) (h f)
  · exact h i
theorem GLt.steps {n m : Nat} : ∀ (l : List (Nat × Nat)) (X : List Nat), X.length = m → StOk m l → GLt X n → GLt (doSteps X l) n := by
  intro l
  induction l with
  | nil => intro X _ _ h; exact h
  | cons p l ih =>
    intro X hX hok h
    obtain ⟨h1, h2⟩ := hok p List.mem_cons_self
    exact ih _ (by rw [addStep_len]; exact hX) (fun q hq => hok q (List.mem_cons_of_mem _ hq)) (h.add (by omega))
theorem cols_eye {R : List Nat} {n : Nat} (hC : Cols R n n) (hl : GLt R n) {i : Nat} (hi : i < n) : R.getD i 0 = 2 ^ i := by
  apply Nat.eq_of_testBit_eq
  intro b
  rw [Nat.testBit_two_pow]
  by_cases hb : b < n
  · exact hC b hb i hi
  · rw [Nat.testBit_lt_two_pow (Nat.lt_of_lt_of_le (hl i) (Nat.pow_le_pow_right (by decide) (by omega)))]
    simp [show ¬ i = b by omega]
end Go.Ideal

-- Pj
set_option linter.unusedSimpArgs false
set_option linter.unusedVariables false
namespace Go.Ideal
open Go Go.Proofs
/-! ### OnesCount64 counts: its last bit is the parity -/
def q1 (d : Nat) : Nat := (d / 2 &&& 85) + (d &&& 85)
def q2 (d : Nat) : Nat := (d / 4 &&& 51) + (d &&& 51)
end Go.Ideal

-- Lp
set_option linter.unusedSimpArgs false
set_option linter.unusedVariables false
namespace Go.Ideal
open Go Go.Proofs
/-! ### What the functions answer, as a matrix of plain numbers and an error -/
def MatV (h : IHp) (v : Value) (n : Int) (rows : List Nat) : Prop := ∃ a l c, v = .agg [.int .i64 n, .slice a l c].toArray ∧ SlIs h a l c (u64s rows) ∧ All64 rows
theorem MatV.ext {h h' : IHp} (e : Ext h h') {v : Value} {n : Int} {rows : List Nat} (m : MatV h v n rows) : MatV h' v n rows := by
  obtain ⟨a, l, c, h1, h2, h3⟩ := m
  exact ⟨a, l, c, h1, h2.ext e, h3⟩
theorem MatV.nil (h : IHp) : MatV h (.agg [.int .i64 0, .slice none 0 0].toArray) 0 [] := ⟨none, 0, 0, rfl, ⟨rfl, Nat.le_refl _, rfl⟩, fun x hx => by simp at hx⟩
theorem MatV.own {h : IHp} {sl : Value} {n : Int} {rows : List Nat} {lo : Nat} {t : TypeId} (o : Own lo h sl (u64s rows) t) (h64 : All64 rows) : MatV h (.agg [.int .i64 n, sl].toArray) n rows := by
  obtain ⟨a, rfl⟩ := o.isSlice
  exact ⟨a, _, _, rfl, o.getSl, h64⟩
theorem checkS_or (N : Int) (xs : List Nat) : checkS N xs = 0 ∨ checkS N xs = 2 := by
  unfold checkS
  split
  · exact .inr rfl
  · split
    · exact .inl rfl
    · exact .inr rfl
/-- its slice lies in a block of its own that is not below lo -/
def NewM (lo : Nat) (m : Value) : Prop := ∀ x a l c, m = .agg [x, .slice (some a) l c].toArray → lo ≤ a.block ∧ a.block % 2 = 0
theorem NewM.nil {lo : Nat} {n : Int} : NewM lo (.agg [.int .i64 n, .slice none 0 0].toArray) := fun x a l c h => by simp at h
theorem NewM.own {lo : Nat} {h : IHp} {sl : Value} {n : Int} {vs : List Value} {t : TypeId} (o : Own lo h sl vs t) : NewM lo (.agg [.int .i64 n, sl].toArray) := fun x a l c hm => by
  simp only [Value.agg.injEq, List.toArray, Array.mk.injEq] at hm
  simp at hm
  obtain ⟨_, rfl⟩ := hm
  rcases o with ⟨h1, _⟩ | ⟨b, y, h1, h2, h3⟩
  · simp at h1
  · simp only [Value.slice.injEq, Option.some.injEq] at h2
    obtain ⟨rfl, _⟩ := h2
    exact ⟨h1, h3.even⟩
theorem row_put {h : IHp} {b b' n : Nat} {o : IObj} (hn : NeB b' b) : ∀ {off : Nat} {vs : List Value}, h.row b' off n = some vs → (h.putObj b o).row b' off n = some vs := by
  induction n with
  | zero => intro off vs hr; exact hr
  | succ n ih =>
    intro off vs hr
    simp only [IHp.row, Option.bind_eq_some_iff] at hr ⊢
    obtain ⟨v, hv, vs', hvs, h3⟩ := hr
    exact ⟨v, (CellIs.put_ne (n := hn) (i := ⟨hv⟩)).eq, vs', ih hvs, h3⟩
theorem SlIs.put {h : IHp} {a : Option Addr} {l c b : Nat} {vs : List Value} {o : IObj} (x : SlIs h a l c vs) (hn : ∀ d, a = some d → NeB d.block b) : SlIs (h.putObj b o) a l c vs := by
  obtain ⟨h1, h2, h3⟩ := x
  refine ⟨h1, h2, ?_⟩
  cases a with
  | none => exact h3
  | some d => exact row_put (hn d rfl) h3
theorem MatV.put {h : IHp} {b lo : Nat} {o : IObj} {m : Value} {n : Int} {rows : List Nat} (mv : MatV h m n rows) (nm : NewM lo m) (hb : b < lo) (he : b % 2 = 0) : MatV (h.putObj b o) m n rows := by
  obtain ⟨a, l, c, rfl, h2, h3⟩ := mv
  refine ⟨a, l, c, rfl, h2.put fun d hd => ?_, h3⟩
  subst hd
  obtain ⟨g1, g2⟩ := nm _ d l c rfl
  exact .of g2 he (by omega)
def invR (N : Int) (xs : List Nat) : Int × List Nat × Int := if checkS N xs = 0 then (match redK xs xs.length with | none => (0, [], 200) | some st => (N, doSteps (eyeS N) st.2, 0)) else (0, [], 2)
/-- an answer: a matrix and an error -/
def AnsM (lo : Nat) (h : IHp) (v : Value) (r : Int × List Nat × Int) : Prop := ∃ m, v = .tuple [m, .int .i64 r.2.2].toArray ∧ MatV h m r.1 r.2.1 ∧ NewM lo m
theorem Same_w {A B : Value} {M N : Int} {xs ys : List Nat} {h : IHp} (ha : MatV h A M xs) (hb : MatV h B N ys) (hl : xs.length < 2 ^ 62) : EvX Try.prog 31 [A, B].toArray h (fun v h' => v = .bool (decide (M = N ∧ xs = ys)) ∧ Ext h h') := by
  obtain ⟨a, la, ca, rfl, h1, h3⟩ := ha
  obtain ⟨b, lb, cb, rfl, h4, h6⟩ := hb
  exact Same_spec M N a b la ca lb cb xs ys h h1 h4 (by have := h1.1; rw [u64s_len] at this; omega)
theorem Same_t {A B : Value} {M : Int} {xs : List Nat} {h : IHp} (ha : MatV h A M xs) (hb : MatV h B M xs) (hl : xs.length < 2 ^ 62) : EvX Try.prog 31 [A, B].toArray h (fun v h' => v = .bool true ∧ Ext h h') := by
  refine (Same_w ha hb hl).mono ?_
  rintro v h' ⟨rfl, e⟩
  exact ⟨by simp, e⟩
theorem glt_of {N : Int} {xs : List Nat} (hck : checkS N xs = 0) (h64 : All64 xs) : N.toNat = xs.length ∧ GLt xs xs.length := by
  obtain ⟨h0, h1, h2, h3⟩ := checkS_zero hck
  have hl : N.toNat = xs.length := by omega
  refine ⟨hl, fun i => ?_⟩
  rw [List.getD_eq_getElem?_getD]
  cases hi : xs[i]? with
  | none => exact Nat.pow_pos (by decide)
  | some y =>
    have := below_lt h0 (h64 y (List.mem_of_getElem? hi)) (h3 y (List.mem_of_getElem? hi))
    rw [hl] at this; exact this
theorem Inverse_w {A : Value} {N : Int} {xs : List Nat} {h : IHp} (ha : MatV h A N xs) : EvX Try.prog 34 [A].toArray h (fun v h' => Ext h h' ∧ AnsM h.fresh h' v (invR N xs)) := by
  obtain ⟨a, la, ca, rfl, h1, h3⟩ := ha
  refine (Inverse_spec N a la ca xs h h1 h3).mono ?_
  rintro v h' ⟨e, hv⟩
  refine ⟨e, ?_⟩
  unfold invR
  split at hv
  · rename_i hn
    rw [if_pos hn]
    cases hr : redK xs xs.length with
    | none => rw [hr] at hv; simp only at hv; subst hv; exact ⟨_, rfl, MatV.nil _, NewM.nil⟩
    | some st =>
      rw [hr] at hv
      obtain ⟨sl, rfl, hL⟩ := hv
      have h64 := checkS_zero hn
      exact ⟨_, rfl, MatV.own hL (doSteps_64 _ _ (eyeS_lt (by omega))), NewM.own hL⟩
  · rename_i hn
    rw [if_neg hn]
    have := checkS_or N xs
    rw [show checkS N xs = 2 by omega] at hv
    subst hv
    exact ⟨_, rfl, MatV.nil _, NewM.nil⟩
theorem Check_w {A : Value} {N : Int} {xs : List Nat} {h : IHp} (ha : MatV h A N xs) : EvX Try.prog 33 [A].toArray h (fun v h' => v = .int .i64 (checkS N xs) ∧ Ext h h') := by
  obtain ⟨a, la, ca, rfl, h1, h3⟩ := ha
  exact Check_spec N a la ca xs h h1 h3
end Go.Ideal

-- Al
set_option linter.unusedSimpArgs false
set_option linter.unusedVariables false
namespace Go.Ideal
open Go Go.Proofs
instance : CallIs Try.prog 28 := .of Try.func28 rfl rfl
end Go.Ideal

-- Lq
set_option linter.unusedSimpArgs false
set_option linter.unusedVariables false
namespace Go.Ideal
open Go Go.Proofs
theorem box_cells {h : IHp} {v : Value} {n : Int} {rows : List Nat} (m : MatV h v n rows) : ∃ a l c, v = .agg [.int .i64 n, .slice a l c].toArray := by
  obtain ⟨a, l, c, h1, _⟩ := m
  exact ⟨a, l, c, h1⟩
end Go.Ideal

-- Br
set_option linter.unusedSimpArgs false
set_option linter.unusedVariables false
namespace Go.Ideal
open Go Go.Proofs Go.RowKit
theorem wf_u64 {i : Int} (h : (Lit.int .u64 i).wf = true) : ∃ x : Nat, i = x ∧ x < 2 ^ 64 := by
  have := bounds_u64 h
  exact ⟨i.toNat, by omega, by omega⟩
theorem row_of {h : IHp} {b : Nat} : ∀ (n off : Nat) (f : Nat → Value), (∀ i, i < n → h.cell? b (off + i) = some (f i)) → h.row b off n = some ((List.range n).map f) := by
  intro n
  induction n with
  | zero => intro off f _; rfl
  | succ n ih =>
    intro off f hf
    have h0 := hf 0 (by omega)
    have h1 := ih (off + 1) (fun i => f (i + 1)) (fun i hi => by rw [show off + 1 + i = off + (i + 1) by omega]; exact hf (i + 1) (by omega))
    rw [Nat.add_zero] at h0
    simp only [IHp.row, h0, Option.bind_some, h1, List.range_succ_eq_map, List.map_cons, List.map_map]
    rfl
theorem row_one {h : IHp} {b off : Nat} {v : Value} (hr : h.row b off 1 = some [v]) : h.cell? b off = some v := by
  simp only [IHp.row, Option.bind_eq_some_iff] at hr
  obtain ⟨u, hu, vs, hvs, h3⟩ := hr
  have := Option.some.inj h3
  simp at this
  rw [hu, this.1]
set_option maxRecDepth 10000 in
theorem slice_u64 {h : IHp} {n : Nat} {v : Value} (hd : IRd Try.prog h (n + 2) 51 [v]) : ∃ a l c xs, v = .slice a l c ∧ SlIs h a l c (u64s xs) ∧ All64 xs ∧ c < 2 ^ 63 := by
  rw [IRd, (UnderIs.eq : Try.prog.underlying 51 = _)] at hd
  rcases hd with h1 | ⟨a, l, c, h1, h2, h3, _, h4⟩
  · cases h1
    exact ⟨none, 0, 0, [], rfl, ⟨rfl, Nat.le_refl _, rfl⟩, fun x hx => by simp at hx, by decide⟩
  · cases h1
    have hc : Try.prog.cellsOf 42 = 1 := by kernel_rfl
    have key : ∀ i, i < c → ∃ x : Nat, x < 2 ^ 64 ∧ h.cell? a.block (a.off + i) = some (.int .u64 x) := by
      intro i hi
      obtain ⟨row, g1, g2⟩ := h4 i hi
      rw [IRd, (UnderIs.eq : Try.prog.underlying 42 = _)] at g2
      obtain ⟨z, rfl, g3⟩ := g2
      obtain ⟨x, rfl, hx⟩ := wf_u64 g3
      rw [hc, Nat.mul_one] at g1
      exact ⟨x, hx, row_one g1⟩
    have hex : ∃ f : Nat → Nat, ∀ i, i < l → f i < 2 ^ 64 ∧ h.cell? a.block (a.off + i) = some (.int .u64 (f i)) :=
      ⟨fun i => if hi : i < c then Classical.choose (key i hi) else 0, fun i hi => by
        have hic : i < c := by omega
        simp only [hic, dif_pos]
        exact Classical.choose_spec (key i hic)⟩
    obtain ⟨f, hf⟩ := hex
    refine ⟨some a, l, c, (List.range l).map f, rfl, ⟨by simp [u64s], h2, ?_⟩, fun x hx => ?_, by unfold maxLen at h3; omega⟩
    · have := row_of (h := h) (b := a.block) l a.off (fun i => .int .u64 (f i : Nat)) (fun i hi => (hf i hi).2)
      simp only
      rw [this]; simp [u64s]
    · simp only [List.mem_map, List.mem_range] at hx
      obtain ⟨i, hi, rfl⟩ := hx
      exact (hf i hi).1
set_option maxRecDepth 10000 in
theorem mat_of {h : IHp} {n : Nat} {cs : List Value} (hd : IRd Try.prog h (n + 3) 53 cs) : ∃ N xs, MatV h (.agg cs.toArray) N xs := by
  have hu : ∃ f0 f1, Try.prog.underlying 53 = some (.struct #[f0, f1]) ∧ f0.type = 3 ∧ f0.offset = 0 ∧ f1.type = 51 ∧ f1.offset = 1 := ⟨_, _, Try.underlying53, rfl, rfl, rfl, rfl⟩
  obtain ⟨f0, f1, hu, t0, o0, t1, o1⟩ := hu
  have c0 : Try.prog.cellsOf 3 = 1 := by kernel_rfl
  have c1 : Try.prog.cellsOf 51 = 1 := by kernel_rfl
  have c2 : Try.prog.cellsOf 53 = 2 := by kernel_rfl
  rw [IRd, hu] at hd
  obtain ⟨hl, hf⟩ := hd
  rw [c2] at hl
  match cs, hl with
  | [v0, v1], _ =>
    have h0 := hf 0 f0 rfl
    have h1 := hf 1 f1 rfl
    rw [t0, o0, c0] at h0
    rw [t1, o1, c1] at h1
    simp only [List.drop_zero, List.take_succ_cons, List.take_zero, List.drop_succ_cons] at h0 h1
    rw [IRd, (UnderIs.eq : Try.prog.underlying 3 = _)] at h0
    obtain ⟨N, h2, _⟩ := h0
    cases h2
    obtain ⟨a, l, c, xs, rfl, h3, h4, _⟩ := slice_u64 h1
    exact ⟨N, xs, a, l, c, rfl, h3, h4⟩
theorem law_of_EvX {P : Program} {f : Nat} {args args' : Array Value} {w : World} (hP : okProg P = true) (h : EvX P f args (heapOf w) (fun v _ => v = .bool true)) (ha : RA RM0 args args') :
    Calls P f args' w fun e w' => e = .returned (.bool true) ∧ Below w.heap.size w w' := by
  unfold EvX at h
  obtain ⟨v, h', ⟨n, h1⟩, rfl⟩ := h
  exact law_of_ideal hP h1 ha
end Go.Ideal
