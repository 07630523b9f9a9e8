/- Part 4 of what the proof stands on: an interpreter over an ideal memory that is proved sound, steps over it, and contracts of the functions that are called. No condition: no law is claimed here. -/
import Derived.Test.YtggdcgipeijilaaC3
-- Le
set_option linter.unusedSimpArgs false
set_option linter.unusedVariables false
namespace Go.Ideal
open Go Go.Proofs
theorem Lst.lower {lo lo' : Nat} {h : IHp} {v : Value} {vs : List Value} {t : TypeId} (x : Lst lo h v vs t) (hl : lo' ≤ lo) : Lst lo' h v vs t := by
  rcases x with ⟨h1, h2⟩ | ⟨b, h1, h2⟩
  · exact .inl ⟨h1, h2⟩
  · exact .inr ⟨b, by omega, h2⟩
theorem Lst.notBlk {lo : Nat} {h : IHp} {v : Value} {vs : List Value} {t : TypeId} (x : Lst lo h v vs t) {b : Nat} (hb : b < lo) : blockOf v ≠ some b := fun hh => by have := x.block hh; omega
theorem Lst.ltFresh {lo : Nat} {h : IHp} {v : Value} {vs : List Value} {t : TypeId} (x : Lst lo h v vs t) {b : Nat} (hb : blockOf v = some b) : b < h.fresh := by
  rcases x with ⟨rfl, rfl⟩ | ⟨c, h1, rfl, h2, h3⟩
  · simp [blockOf] at hb
  · simp only [blockOf, Option.some.injEq] at hb; subst hb; exact h2.lt
theorem SlIs.of_put {h : IHp} {a : Option Addr} {n m : Nat} {vs : List Value} {t : TypeId} {lo : Nat} (x : Lst lo h (.slice a n m) vs t) {b : Nat} {o : IObj} (hb : blockOf (.slice a n m) ≠ some b) (he : b % 2 = 0) : SlIs (h.putObj b o) a n m vs := (x.put hb he).getSl

def mulRefRow (n : Nat) (xs ts : List Nat) (i : Nat) : Nat := orK (fun j => oddS (xs.getD i 0 &&& ts.getD j 0)) n
def mulRefS (n : Nat) (xs ts : List Nat) (k : Nat) : List Nat := (List.range k).map (mulRefRow n xs ts)
theorem mulRefS_succ (n : Nat) (xs ts : List Nat) (k : Nat) : u64s (mulRefS n xs ts (k + 1)) = u64s (mulRefS n xs ts k) ++ [.int .u64 (mulRefRow n xs ts k : Nat)] := by
  simp [u64s, mulRefS, List.range_succ]
theorem mulRefS_len (n : Nat) (xs ts : List Nat) (k : Nat) : (u64s (mulRefS n xs ts k)).length = k := by simp [u64s, mulRefS]
theorem turnedS_lt {n k : Nat} (hn : n ≤ 64) {xs : List Nat} : ∀ x ∈ turnedS n xs k, x < 2 ^ 64 := by
  intro x hx
  simp only [turnedS, List.mem_map] at hx
  obtain ⟨i, _, rfl⟩ := hx
  exact Nat.lt_of_lt_of_le (orK_lt _ fun _ _ => bit_le _) (Nat.pow_le_pow_right (by decide) hn)
theorem Mul_ref (M N : Int) (a b : Option Addr) (la ca lb cb : Nat) (xs ys : List Nat) (h : IHp) (hx : SlIs h a la ca (u64s xs)) (hy : SlIs h b lb cb (u64s ys)) (hx64 : ∀ x ∈ xs, x < 2 ^ 64) (hy64 : ∀ x ∈ ys, x < 2 ^ 64) :
    EvX Try.prog 16 [.agg [.int .i64 M, .slice a la ca].toArray, .agg [.int .i64 N, .slice b lb cb].toArray].toArray h (fun v h' => Ext h h' ∧ if checkS M xs = 0 ∧ checkS N ys = 0 ∧ M = N then ∃ sl, v = .tuple [.agg [.int .i64 M, sl].toArray, .int .i64 0].toArray ∧ Lst h.fresh h' sl (u64s (mulRefS M.toNat xs (turnedS M.toNat ys M.toNat) M.toNat)) 25 else v = .tuple [.agg [.int .i64 0, .slice none 0 0].toArray, .int .i64 2].toArray) := by
  have hlx : xs.length = la := by have := hx.1; simpa [u64s] using this
  have hly : ys.length = lb := by have := hy.1; simpa [u64s] using this
  refine EvX_of Try.func16 rfl (by show 2 ≤ 67; decide) ?_
  repeat' (first | (first | refine V_seq ?_ | refine V_region ?_ | refine WS_nil ?_ | refine S_normal ?_ | refine V_block ?_ | refine B_normal ?_ | refine V_skip ?_ | refine V_exit ?_ | refine V_ret ?_ | refine S_exit ?_ | refine S_ret ?_ | refine B_exit ?_ | refine B_ret ?_ | refine B_pass rfl ?_ | refine WS_off rfl (by first | rfl | assumption) ?_ | refine WS_on rfl (by first | rfl | assumption) ?_ | refine WS_move ?_ | refine WS_assign ?_ | refine WS_pick_t (by first | rfl | assumption) ?_ | refine WS_pick_f (by first | rfl | assumption) ?_ | refine WS_isnil ?_ | refine WS_notnil ?_ | refine WS_cmp rfl ?_ | refine WS_addi (by omega) ?_ | refine WS_subi (by omega) ?_ | refine WS_arith rfl ?_ | refine WS_not ?_ | refine WS_neg ?_ | refine WS_convert ?_ | refine WS_len_slice ?_ | refine WS_len_string ?_ | refine WS_fieldAddr ?_ | refine WS_load ?_ | refine WS_load_agg ?_ | refine WS_box_agg rfl ?_ | refine WS_box rfl ?_ | refine WS_makeFunc ?_ | refine WS_extract ?_ | refine WS_field ?_ | refine WS_build ?_ | refine WS_zero ?_ | refine WS_shift (by first | decide | omega) rfl ?_ | refine WS_strcmp rfl ?_ | refine WS_indexAddr (by first | decide | omega) ?_ | refine WS_alloc ?_ | refine WS_store rfl ?_ | refine WS_buildSlice (by decide) rfl rfl (by simp [Value.cells]) ?_ | refine WDK_go ?_ | refine WDT_go ?_ | refine WD_nil ?_ | refine WD_take_off rfl rfl (by first | rfl | assumption) ?_ | refine WD_load rfl ?_ | refine WD_load_on rfl rfl (by first | rfl | assumption) ?_ | refine WD_load_agg rfl ?_ | refine WD_load_agg_on rfl rfl (by first | rfl | assumption) ?_ | refine WD_take rfl rfl ?_ | refine WD_take_on rfl rfl (by first | rfl | assumption) rfl ?_ | refine WD_drop rfl rfl ?_ | refine WD_one rfl ?_) | (refine WS_guard rfl ?_ ?_ <;> intro hg) | (refine V_cond ?_ ?_ <;> intro hc <;> try (cases hc; done)))
  obtain ⟨H1, hH1⟩ : ∃ H, H = h.push (IObj.cells [Value.int IntKind.i64 M, Value.slice a la ca] 24 true) := ⟨_, rfl⟩
  have f1 : H1.fresh = h.fresh + 2 := by rw [hH1, push_fresh]
  have e1 : Ext h H1 := hH1 ▸ Ext.push _ _
  have p1 : ObjIs H1 h.fresh [.int .i64 M, .slice a la ca] 24 true := hH1 ▸ inferInstance
  rw [← hH1]
  obtain ⟨H2, hH2⟩ : ∃ H, H = H1.push (IObj.cells [Value.int IntKind.i64 N, Value.slice b lb cb] 24 true) := ⟨_, rfl⟩
  have f2 : H2.fresh = h.fresh + 4 := by rw [hH2, push_fresh, f1]
  have e2 : Ext H1 H2 := hH2 ▸ Ext.push _ _
  have p2 : ObjIs H2 H1.fresh [.int .i64 N, .slice b lb cb] 24 true := hH2 ▸ inferInstance
  rw [← hH2]
  obtain ⟨H3, hH3⟩ : ∃ H, H = H2.push (IObj.cells [Value.int IntKind.i64 0, Value.slice none 0 0] 24 true) := ⟨_, rfl⟩
  have f3 : H3.fresh = h.fresh + 6 := by rw [hH3, push_fresh, f2]
  have e3 : Ext H2 H3 := hH3 ▸ Ext.push _ _
  have p3 : ObjIs H3 H2.fresh [.int .i64 0, .slice none 0 0] 24 true := hH3 ▸ inferInstance
  rw [← hH3]
  have e13 : Ext h H3 := (e1.trans e2).trans e3
  have q1 : ObjIs H3 h.fresh [.int .i64 M, .slice a la ca] 24 true := inferInstance
  have q2 : ObjIs H3 H1.fresh [.int .i64 N, .slice b lb cb] 24 true := inferInstance
  refine WS_call (Check_ref M a la ca xs _ (hx.ext e13) hx64) ?_
  rintro _ H4 ⟨rfl, e4⟩
  have r1 : ObjIs H4 h.fresh [.int .i64 M, .slice a la ca] 24 true := inferInstance
  have r2 : ObjIs H4 H1.fresh [.int .i64 N, .slice b lb cb] 24 true := inferInstance
  have r3 : ObjIs H4 H2.fresh [.int .i64 0, .slice none 0 0] 24 true := inferInstance
  have e14 : Ext h H4 := e13.trans e4
  have g4 := e4.fresh
  have n02 : NeB h.fresh H2.fresh := .fresh (by omega)
  have n12 : NeB H1.fresh H2.fresh := .fresh (by omega)
  repeat' (first | (first | refine V_seq ?_ | refine V_region ?_ | refine WS_nil ?_ | refine S_normal ?_ | refine V_block ?_ | refine B_normal ?_ | refine V_skip ?_ | refine V_exit ?_ | refine V_ret ?_ | refine S_exit ?_ | refine S_ret ?_ | refine B_exit ?_ | refine B_ret ?_ | refine B_pass rfl ?_ | refine WS_off rfl (by first | rfl | assumption) ?_ | refine WS_on rfl (by first | rfl | assumption) ?_ | refine WS_move ?_ | refine WS_assign ?_ | refine WS_pick_t (by first | rfl | assumption) ?_ | refine WS_pick_f (by first | rfl | assumption) ?_ | refine WS_isnil ?_ | refine WS_notnil ?_ | refine WS_cmp rfl ?_ | refine WS_addi (by omega) ?_ | refine WS_subi (by omega) ?_ | refine WS_arith rfl ?_ | refine WS_not ?_ | refine WS_neg ?_ | refine WS_convert ?_ | refine WS_len_slice ?_ | refine WS_len_string ?_ | refine WS_fieldAddr ?_ | refine WS_load ?_ | refine WS_load_agg ?_ | refine WS_box_agg rfl ?_ | refine WS_box rfl ?_ | refine WS_makeFunc ?_ | refine WS_extract ?_ | refine WS_field ?_ | refine WS_build ?_ | refine WS_zero ?_ | refine WS_shift (by first | decide | omega) rfl ?_ | refine WS_strcmp rfl ?_ | refine WS_indexAddr (by first | decide | omega) ?_ | refine WS_alloc ?_ | refine WS_store rfl ?_ | refine WS_buildSlice (by decide) rfl rfl (by simp [Value.cells]) ?_ | refine WDK_go ?_ | refine WDT_go ?_ | refine WD_nil ?_ | refine WD_take_off rfl rfl (by first | rfl | assumption) ?_ | refine WD_load rfl ?_ | refine WD_load_on rfl rfl (by first | rfl | assumption) ?_ | refine WD_load_agg rfl ?_ | refine WD_load_agg_on rfl rfl (by first | rfl | assumption) ?_ | refine WD_take rfl rfl ?_ | refine WD_take_on rfl rfl (by first | rfl | assumption) rfl ?_ | refine WD_drop rfl rfl ?_ | refine WD_one rfl ?_) | (refine WS_guard rfl ?_ ?_ <;> intro hg) | (refine V_cond ?_ ?_ <;> intro hc <;> try (cases hc; done)))
  · have hck : checkS M xs = 0 := by simpa using hg
    refine WS_call (Check_ref N b lb cb ys _ (hy.ext e14) hy64) ?_
    rintro _ H5 ⟨rfl, e5⟩
    have s1 : ObjIs H5 h.fresh [.int .i64 M, .slice a la ca] 24 true := inferInstance
    have s2 : ObjIs H5 H1.fresh [.int .i64 N, .slice b lb cb] 24 true := inferInstance
    have s3 : ObjIs H5 H2.fresh [.int .i64 0, .slice none 0 0] 24 true := inferInstance
    have e15 : Ext h H5 := e14.trans e5
    have g5 := e5.fresh
    repeat' (first | (first | refine V_seq ?_ | refine V_region ?_ | refine WS_nil ?_ | refine S_normal ?_ | refine V_block ?_ | refine B_normal ?_ | refine V_skip ?_ | refine V_exit ?_ | refine V_ret ?_ | refine S_exit ?_ | refine S_ret ?_ | refine B_exit ?_ | refine B_ret ?_ | refine B_pass rfl ?_ | refine WS_off rfl (by first | rfl | assumption) ?_ | refine WS_on rfl (by first | rfl | assumption) ?_ | refine WS_move ?_ | refine WS_assign ?_ | refine WS_pick_t (by first | rfl | assumption) ?_ | refine WS_pick_f (by first | rfl | assumption) ?_ | refine WS_isnil ?_ | refine WS_notnil ?_ | refine WS_cmp rfl ?_ | refine WS_addi (by omega) ?_ | refine WS_subi (by omega) ?_ | refine WS_arith rfl ?_ | refine WS_not ?_ | refine WS_neg ?_ | refine WS_convert ?_ | refine WS_len_slice ?_ | refine WS_len_string ?_ | refine WS_fieldAddr ?_ | refine WS_load ?_ | refine WS_load_agg ?_ | refine WS_box_agg rfl ?_ | refine WS_box rfl ?_ | refine WS_makeFunc ?_ | refine WS_extract ?_ | refine WS_field ?_ | refine WS_build ?_ | refine WS_zero ?_ | refine WS_shift (by first | decide | omega) rfl ?_ | refine WS_strcmp rfl ?_ | refine WS_indexAddr (by first | decide | omega) ?_ | refine WS_alloc ?_ | refine WS_store rfl ?_ | refine WS_buildSlice (by decide) rfl rfl (by simp [Value.cells]) ?_ | refine WDK_go ?_ | refine WDT_go ?_ | refine WD_nil ?_ | refine WD_take_off rfl rfl (by first | rfl | assumption) ?_ | refine WD_load rfl ?_ | refine WD_load_on rfl rfl (by first | rfl | assumption) ?_ | refine WD_load_agg rfl ?_ | refine WD_load_agg_on rfl rfl (by first | rfl | assumption) ?_ | refine WD_take rfl rfl ?_ | refine WD_take_on rfl rfl (by first | rfl | assumption) rfl ?_ | refine WD_drop rfl rfl ?_ | refine WD_one rfl ?_) | (refine WS_guard rfl ?_ ?_ <;> intro hg) | (refine V_cond ?_ ?_ <;> intro hc <;> try (cases hc; done)))
    · refine retK_ct ⟨e15.putObj (by omega), ?_⟩ (.inr rfl)
      rw [if_neg]
      rintro ⟨_, _, rfl⟩
      simp at hc
    · have hck2 : checkS N ys = 0 := by simp_all
      have hMN : M = N := by simpa using hc
      subst hMN
      obtain ⟨hN0, hN1, hN2, hbx⟩ := checkS_zero hck
      obtain ⟨_, _, hN3, hby⟩ := checkS_zero hck2
      refine WS_call (Turned_ref M b lb cb ys _ (hy.ext e15) hy64 hck2) ?_
      rintro _ H6 ⟨e6, sl, rfl, hT⟩
      have t1 : ObjIs H6 h.fresh [.int .i64 M, .slice a la ca] 24 true := inferInstance
      have t3 : ObjIs H6 H2.fresh [.int .i64 0, .slice none 0 0] 24 true := inferInstance
      have e16 : Ext h H6 := e15.trans e6
      have g6 := e6.fresh
      obtain ⟨at_, rfl⟩ := hT.isSlice
      repeat' (first | (first | refine V_seq ?_ | refine V_region ?_ | refine WS_nil ?_ | refine S_normal ?_ | refine V_block ?_ | refine B_normal ?_ | refine V_skip ?_ | refine V_exit ?_ | refine V_ret ?_ | refine S_exit ?_ | refine S_ret ?_ | refine B_exit ?_ | refine B_ret ?_ | refine B_pass rfl ?_ | refine WS_off rfl (by first | rfl | assumption) ?_ | refine WS_on rfl (by first | rfl | assumption) ?_ | refine WS_move ?_ | refine WS_assign ?_ | refine WS_pick_t (by first | rfl | assumption) ?_ | refine WS_pick_f (by first | rfl | assumption) ?_ | refine WS_isnil ?_ | refine WS_notnil ?_ | refine WS_cmp rfl ?_ | refine WS_addi (by omega) ?_ | refine WS_subi (by omega) ?_ | refine WS_arith rfl ?_ | refine WS_not ?_ | refine WS_neg ?_ | refine WS_convert ?_ | refine WS_len_slice ?_ | refine WS_len_string ?_ | refine WS_fieldAddr ?_ | refine WS_load ?_ | refine WS_load_agg ?_ | refine WS_box_agg rfl ?_ | refine WS_box rfl ?_ | refine WS_makeFunc ?_ | refine WS_extract ?_ | refine WS_field ?_ | refine WS_build ?_ | refine WS_zero ?_ | refine WS_shift (by first | decide | omega) rfl ?_ | refine WS_strcmp rfl ?_ | refine WS_indexAddr (by first | decide | omega) ?_ | refine WS_alloc ?_ | refine WS_store rfl ?_ | refine WS_buildSlice (by decide) rfl rfl (by simp [Value.cells]) ?_ | refine WDK_go ?_ | refine WDT_go ?_ | refine WD_nil ?_ | refine WD_take_off rfl rfl (by first | rfl | assumption) ?_ | refine WD_load rfl ?_ | refine WD_load_on rfl rfl (by first | rfl | assumption) ?_ | refine WD_load_agg rfl ?_ | refine WD_load_agg_on rfl rfl (by first | rfl | assumption) ?_ | refine WD_take rfl rfl ?_ | refine WD_take_on rfl rfl (by first | rfl | assumption) rfl ?_ | refine WD_drop rfl rfl ?_ | refine WD_one rfl ?_) | (refine WS_guard rfl ?_ ?_ <;> intro hg) | (refine V_cond ?_ ?_ <;> intro hc <;> try (cases hc; done)))
      obtain ⟨H7, hH7⟩ : ∃ H, H = ((H6.push (IObj.cells [Value.int IntKind.i64 0, Value.slice none 0 0] 24 true)).put H6.fresh [Value.int IntKind.i64 M, Value.slice at_ (u64s (turnedS M.toNat ys M.toNat)).length (u64s (turnedS M.toNat ys M.toNat)).length] 24 true) := ⟨_, rfl⟩
      have e7 : Ext H6 H7 := hH7 ▸ (Ext.push _ _).putObj (Nat.le_refl _)
      have u6 : ObjIs H7 H6.fresh [Value.int IntKind.i64 M, Value.slice at_ (u64s (turnedS M.toNat ys M.toNat)).length (u64s (turnedS M.toNat ys M.toNat)).length] 24 true := hH7 ▸ inferInstance
      have f7 : H7.fresh = H6.fresh + 2 := by rw [hH7, putObj_fresh, push_fresh]
      rw [← hH7]
      repeat' (first | (first | refine V_seq ?_ | refine V_region ?_ | refine WS_nil ?_ | refine S_normal ?_ | refine V_block ?_ | refine B_normal ?_ | refine V_skip ?_ | refine V_exit ?_ | refine V_ret ?_ | refine S_exit ?_ | refine S_ret ?_ | refine B_exit ?_ | refine B_ret ?_ | refine B_pass rfl ?_ | refine WS_off rfl (by first | rfl | assumption) ?_ | refine WS_on rfl (by first | rfl | assumption) ?_ | refine WS_move ?_ | refine WS_assign ?_ | refine WS_pick_t (by first | rfl | assumption) ?_ | refine WS_pick_f (by first | rfl | assumption) ?_ | refine WS_isnil ?_ | refine WS_notnil ?_ | refine WS_cmp rfl ?_ | refine WS_addi (by omega) ?_ | refine WS_subi (by omega) ?_ | refine WS_arith rfl ?_ | refine WS_not ?_ | refine WS_neg ?_ | refine WS_convert ?_ | refine WS_len_slice ?_ | refine WS_len_string ?_ | refine WS_fieldAddr ?_ | refine WS_load ?_ | refine WS_load_agg ?_ | refine WS_box_agg rfl ?_ | refine WS_box rfl ?_ | refine WS_makeFunc ?_ | refine WS_extract ?_ | refine WS_field ?_ | refine WS_build ?_ | refine WS_zero ?_ | refine WS_shift (by first | decide | omega) rfl ?_ | refine WS_strcmp rfl ?_ | refine WS_indexAddr (by first | decide | omega) ?_ | refine WS_alloc ?_ | refine WS_store rfl ?_ | refine WS_buildSlice (by decide) rfl rfl (by simp [Value.cells]) ?_ | refine WDK_go ?_ | refine WDT_go ?_ | refine WD_nil ?_ | refine WD_take_off rfl rfl (by first | rfl | assumption) ?_ | refine WD_load rfl ?_ | refine WD_load_on rfl rfl (by first | rfl | assumption) ?_ | refine WD_load_agg rfl ?_ | refine WD_load_agg_on rfl rfl (by first | rfl | assumption) ?_ | refine WD_take rfl rfl ?_ | refine WD_take_on rfl rfl (by first | rfl | assumption) rfl ?_ | refine WD_drop rfl rfl ?_ | refine WD_one rfl ?_) | (refine WS_guard rfl ?_ ?_ <;> intro hg) | (refine V_cond ?_ ?_ <;> intro hc <;> try (cases hc; done)))
      obtain ⟨H8, hH8⟩ : ∃ H, H = ((H7.push (IObj.cells [Value.int IntKind.i64 0, Value.slice none 0 0] 24 true)).put H7.fresh [Value.int IntKind.i64 M, Value.slice none 0 0] 24 true) := ⟨_, rfl⟩
      have e8 : Ext H7 H8 := hH8 ▸ (Ext.push _ _).putObj (Nat.le_refl _)
      have u7 : ObjIs H8 H7.fresh [Value.int IntKind.i64 M, Value.slice none 0 0] 24 true := hH8 ▸ inferInstance
      have f8 : H8.fresh = H7.fresh + 2 := by rw [hH8, putObj_fresh, push_fresh]
      rw [← hH8]
      have v1 : ObjIs H8 h.fresh [.int .i64 M, .slice a la ca] 24 true := ⟨t1.even, e8.new _ _ (e7.new _ _ t1.eq)⟩
      have v3 : ObjIs H8 H2.fresh [.int .i64 0, .slice none 0 0] 24 true := ⟨t3.even, e8.new _ _ (e7.new _ _ t3.eq)⟩
      have v6 : ObjIs H8 H6.fresh [Value.int IntKind.i64 M, Value.slice at_ (u64s (turnedS M.toNat ys M.toNat)).length (u64s (turnedS M.toNat ys M.toNat)).length] 24 true := ⟨u6.even, e8.new _ _ u6.eq⟩
      have e18 : Ext h H8 := (e16.trans e7).trans e8
      have slT : SlIs H8 at_ _ _ (u64s (turnedS M.toNat ys M.toNat)) := (hT.getSl.ext e7).ext e8
      have slX : SlIs H8 a la ca (u64s xs) := hx.ext e18
      have n07 : NeB h.fresh H7.fresh := .fresh (by omega)
      have n27 : NeB H2.fresh H7.fresh := .fresh (by omega)
      have n67 : NeB H6.fresh H7.fresh := .fresh (by omega)
      have n72 : NeB H7.fresh H2.fresh := n27.symm
      refine V_loop (fun d s h' => ∃ (i : Int) (sl : Value), d = (M - i).toNat ∧ 0 ≤ i ∧ i ≤ M ∧ Get s 8 (.int .i64 i) ∧ Get s 2 (.pointer (some (ad h.fresh 0))) ∧ Get s 4 (.pointer (some (ad H2.fresh 0))) ∧ Get s 6 (.pointer (some (ad H6.fresh 0))) ∧ Get s 7 (.pointer (some (ad H7.fresh 0))) ∧ Ext H7 h' ∧ ObjIs h' H7.fresh [.int .i64 M, sl] 24 true ∧ Lst H8.fresh h' sl (u64s (mulRefS M.toNat xs (turnedS M.toNat ys M.toNat) i.toNat)) 25) M.toNat
        ⟨0, .slice none 0 0, by omega, by omega, by omega, inferInstance, inferInstance, inferInstance, inferInstance, inferInstance, e8, inferInstance, .inl ⟨rfl, rfl⟩⟩ ?_
      rintro d s h' ⟨i, sl, rfl, hi0, hi1, y8, y2, y4, y6, y7, eX, p7, hL⟩
      have w1 : ObjIs h' h.fresh [.int .i64 M, .slice a la ca] 24 true := ⟨t1.even, eX.new _ _ (e7.new _ _ t1.eq)⟩
      have w3 : ObjIs h' H2.fresh [.int .i64 0, .slice none 0 0] 24 true := ⟨t3.even, eX.new _ _ (e7.new _ _ t3.eq)⟩
      have w6 : ObjIs h' H6.fresh [Value.int IntKind.i64 M, Value.slice at_ (u64s (turnedS M.toNat ys M.toNat)).length (u64s (turnedS M.toNat ys M.toNat)).length] 24 true := ⟨u6.even, eX.new _ _ u6.eq⟩
      have slT' : SlIs h' at_ _ _ (u64s (turnedS M.toNat ys M.toNat)) := (hT.getSl.ext e7).ext eX
      have slX' : SlIs h' a la ca (u64s xs) := hx.ext ((e16.trans e7).trans eX)
      repeat' (first | (first | refine V_seq ?_ | refine V_region ?_ | refine WS_nil ?_ | refine S_normal ?_ | refine V_block ?_ | refine B_normal ?_ | refine V_skip ?_ | refine V_exit ?_ | refine V_ret ?_ | refine S_exit ?_ | refine S_ret ?_ | refine B_exit ?_ | refine B_ret ?_ | refine B_pass rfl ?_ | refine WS_off rfl (by first | rfl | assumption) ?_ | refine WS_on rfl (by first | rfl | assumption) ?_ | refine WS_move ?_ | refine WS_assign ?_ | refine WS_pick_t (by first | rfl | assumption) ?_ | refine WS_pick_f (by first | rfl | assumption) ?_ | refine WS_isnil ?_ | refine WS_notnil ?_ | refine WS_cmp rfl ?_ | refine WS_addi (by omega) ?_ | refine WS_subi (by omega) ?_ | refine WS_arith rfl ?_ | refine WS_not ?_ | refine WS_neg ?_ | refine WS_convert ?_ | refine WS_len_slice ?_ | refine WS_len_string ?_ | refine WS_fieldAddr ?_ | refine WS_load ?_ | refine WS_load_agg ?_ | refine WS_box_agg rfl ?_ | refine WS_box rfl ?_ | refine WS_makeFunc ?_ | refine WS_extract ?_ | refine WS_field ?_ | refine WS_build ?_ | refine WS_zero ?_ | refine WS_shift (by first | decide | omega) rfl ?_ | refine WS_strcmp rfl ?_ | refine WS_indexAddr (by first | decide | omega) ?_ | refine WS_alloc ?_ | refine WS_store rfl ?_ | refine WS_buildSlice (by decide) rfl rfl (by simp [Value.cells]) ?_ | refine WDK_go ?_ | refine WDT_go ?_ | refine WD_nil ?_ | refine WD_take_off rfl rfl (by first | rfl | assumption) ?_ | refine WD_load rfl ?_ | refine WD_load_on rfl rfl (by first | rfl | assumption) ?_ | refine WD_load_agg rfl ?_ | refine WD_load_agg_on rfl rfl (by first | rfl | assumption) ?_ | refine WD_take rfl rfl ?_ | refine WD_take_on rfl rfl (by first | rfl | assumption) rfl ?_ | refine WD_drop rfl rfl ?_ | refine WD_one rfl ?_) | (refine WS_guard rfl ?_ ?_ <;> intro hg) | (refine V_cond ?_ ?_ <;> intro hc <;> try (cases hc; done)))
      · have hi : i < M := by simpa using hc
        refine V_loop (fun d s h'' => ∃ (j : Int), d = (M - j).toNat ∧ 0 ≤ j ∧ j ≤ M ∧ Get s 10 (.int .i64 j) ∧ Get s 8 (.int .i64 i) ∧ Get s 2 (.pointer (some (ad h.fresh 0))) ∧ Get s 4 (.pointer (some (ad H2.fresh 0))) ∧ Get s 6 (.pointer (some (ad H6.fresh 0))) ∧ Get s 7 (.pointer (some (ad H7.fresh 0))) ∧ h'' = h' ∧ Get s 9 (.int .u64 (orK (fun j => oddS (xs.getD i.toNat 0 &&& (turnedS M.toNat ys M.toNat).getD j 0)) j.toNat : Nat))) M.toNat
          ⟨0, by omega, by omega, by omega, inferInstance, inferInstance, inferInstance, inferInstance, inferInstance, inferInstance, rfl, inferInstanceAs (Get _ 9 (.int .u64 (0 : Int)))⟩ ?_
        rintro d s h'' ⟨j, rfl, hj0, hj1, z10, z8, z2, z4, z6, z7, rfl, z9⟩
        repeat' (first | (first | refine V_seq ?_ | refine V_region ?_ | refine WS_nil ?_ | refine S_normal ?_ | refine V_block ?_ | refine B_normal ?_ | refine V_skip ?_ | refine V_exit ?_ | refine V_ret ?_ | refine S_exit ?_ | refine S_ret ?_ | refine B_exit ?_ | refine B_ret ?_ | refine B_pass rfl ?_ | refine WS_off rfl (by first | rfl | assumption) ?_ | refine WS_on rfl (by first | rfl | assumption) ?_ | refine WS_move ?_ | refine WS_assign ?_ | refine WS_pick_t (by first | rfl | assumption) ?_ | refine WS_pick_f (by first | rfl | assumption) ?_ | refine WS_isnil ?_ | refine WS_notnil ?_ | refine WS_cmp rfl ?_ | refine WS_addi (by omega) ?_ | refine WS_subi (by omega) ?_ | refine WS_arith rfl ?_ | refine WS_not ?_ | refine WS_neg ?_ | refine WS_convert ?_ | refine WS_len_slice ?_ | refine WS_len_string ?_ | refine WS_fieldAddr ?_ | refine WS_load ?_ | refine WS_load_agg ?_ | refine WS_box_agg rfl ?_ | refine WS_box rfl ?_ | refine WS_makeFunc ?_ | refine WS_extract ?_ | refine WS_field ?_ | refine WS_build ?_ | refine WS_zero ?_ | refine WS_shift (by first | decide | omega) rfl ?_ | refine WS_strcmp rfl ?_ | refine WS_indexAddr (by first | decide | omega) ?_ | refine WS_alloc ?_ | refine WS_store rfl ?_ | refine WS_buildSlice (by decide) rfl rfl (by simp [Value.cells]) ?_ | refine WDK_go ?_ | refine WDT_go ?_ | refine WD_nil ?_ | refine WD_take_off rfl rfl (by first | rfl | assumption) ?_ | refine WD_load rfl ?_ | refine WD_load_on rfl rfl (by first | rfl | assumption) ?_ | refine WD_load_agg rfl ?_ | refine WD_load_agg_on rfl rfl (by first | rfl | assumption) ?_ | refine WD_take rfl rfl ?_ | refine WD_take_on rfl rfl (by first | rfl | assumption) rfl ?_ | refine WD_drop rfl rfl ?_ | refine WD_one rfl ?_) | (refine WS_guard rfl ?_ ?_ <;> intro hg) | (refine V_cond ?_ ?_ <;> intro hc <;> try (cases hc; done)))
        · have hj : j < M := by simpa using hc
          obtain ⟨b1, v, rfl, hv, c2⟩ := slX'.at hi0 (show i < (la : Int) by omega)
          obtain ⟨r, rfl, hr⟩ := u64s_at hv
          have hr64 := hx64 r (List.mem_of_getElem? hr)
          obtain ⟨b2, w, rfl, hw, c3⟩ := slT'.at hj0 (show j < ((u64s (turnedS M.toNat ys M.toNat)).length : Int) by rw [turnedS_len]; omega)
          obtain ⟨q, rfl, hq⟩ := u64s_at hw
          have hq64 := turnedS_lt (show M.toNat ≤ 64 by omega) q (List.mem_of_getElem? hq)
          refine V_draw (plan := [.take 0, .take 1, .take 2, .take 3, .take 4, .take 5, .take 6, .take 7, .take 8, .take 9, .take 10, .take 11, .take 13, .one 12, .take 14, .take 15, .take 16]) (by kernel_rfl) ?_
          have hjb : 0 ≤ j ∧ j < ((u64s (turnedS M.toNat ys M.toNat)).length : Int) := by rw [turnedS_len]; omega
          repeat' (first | (first | refine V_seq ?_ | refine V_region ?_ | refine WS_nil ?_ | refine S_normal ?_ | refine V_block ?_ | refine B_normal ?_ | refine V_skip ?_ | refine V_exit ?_ | refine V_ret ?_ | refine S_exit ?_ | refine S_ret ?_ | refine B_exit ?_ | refine B_ret ?_ | refine B_pass rfl ?_ | refine WS_off rfl (by first | rfl | assumption) ?_ | refine WS_on rfl (by first | rfl | assumption) ?_ | refine WS_move ?_ | refine WS_assign ?_ | refine WS_pick_t (by first | rfl | assumption) ?_ | refine WS_pick_f (by first | rfl | assumption) ?_ | refine WS_isnil ?_ | refine WS_notnil ?_ | refine WS_cmp rfl ?_ | refine WS_addi (by omega) ?_ | refine WS_subi (by omega) ?_ | refine WS_arith rfl ?_ | refine WS_not ?_ | refine WS_neg ?_ | refine WS_convert ?_ | refine WS_len_slice ?_ | refine WS_len_string ?_ | refine WS_fieldAddr ?_ | refine WS_load ?_ | refine WS_load_agg ?_ | refine WS_box_agg rfl ?_ | refine WS_box rfl ?_ | refine WS_makeFunc ?_ | refine WS_extract ?_ | refine WS_field ?_ | refine WS_build ?_ | refine WS_zero ?_ | refine WS_shift (by first | decide | omega) rfl ?_ | refine WS_strcmp rfl ?_ | refine WS_indexAddr (by first | decide | omega) ?_ | refine WS_alloc ?_ | refine WS_store rfl ?_ | refine WS_buildSlice (by decide) rfl rfl (by simp [Value.cells]) ?_ | refine WDK_go ?_ | refine WDT_go ?_ | refine WD_nil ?_ | refine WD_take_off rfl rfl (by first | rfl | assumption) ?_ | refine WD_load rfl ?_ | refine WD_load_on rfl rfl (by first | rfl | assumption) ?_ | refine WD_load_agg rfl ?_ | refine WD_load_agg_on rfl rfl (by first | rfl | assumption) ?_ | refine WD_take rfl rfl ?_ | refine WD_take_on rfl rfl (by first | rfl | assumption) rfl ?_ | refine WD_drop rfl rfl ?_ | refine WD_one rfl ?_) | (refine WS_guard rfl ?_ ?_ <;> intro hg) | (refine V_cond ?_ ?_ <;> intro hc <;> try (cases hc; done)))
          rw [and_u64 hr64 hq64]
          refine WS_call (odd_ref (r &&& q) (Nat.and_lt_two_pow r hq64) _) ?_
          rintro _ h'' ⟨rfl, rfl⟩
          repeat' (first | (first | refine V_seq ?_ | refine V_region ?_ | refine WS_nil ?_ | refine S_normal ?_ | refine V_block ?_ | refine B_normal ?_ | refine V_skip ?_ | refine V_exit ?_ | refine V_ret ?_ | refine S_exit ?_ | refine S_ret ?_ | refine B_exit ?_ | refine B_ret ?_ | refine B_pass rfl ?_ | refine WS_off rfl (by first | rfl | assumption) ?_ | refine WS_on rfl (by first | rfl | assumption) ?_ | refine WS_move ?_ | refine WS_assign ?_ | refine WS_pick_t (by first | rfl | assumption) ?_ | refine WS_pick_f (by first | rfl | assumption) ?_ | refine WS_isnil ?_ | refine WS_notnil ?_ | refine WS_cmp rfl ?_ | refine WS_addi (by omega) ?_ | refine WS_subi (by omega) ?_ | refine WS_arith rfl ?_ | refine WS_not ?_ | refine WS_neg ?_ | refine WS_convert ?_ | refine WS_len_slice ?_ | refine WS_len_string ?_ | refine WS_fieldAddr ?_ | refine WS_load ?_ | refine WS_load_agg ?_ | refine WS_box_agg rfl ?_ | refine WS_box rfl ?_ | refine WS_makeFunc ?_ | refine WS_extract ?_ | refine WS_field ?_ | refine WS_build ?_ | refine WS_zero ?_ | refine WS_shift (by first | decide | omega) rfl ?_ | refine WS_strcmp rfl ?_ | refine WS_indexAddr (by first | decide | omega) ?_ | refine WS_alloc ?_ | refine WS_store rfl ?_ | refine WS_buildSlice (by decide) rfl rfl (by simp [Value.cells]) ?_ | refine WDK_go ?_ | refine WDT_go ?_ | refine WD_nil ?_ | refine WD_take_off rfl rfl (by first | rfl | assumption) ?_ | refine WD_load rfl ?_ | refine WD_load_on rfl rfl (by first | rfl | assumption) ?_ | refine WD_load_agg rfl ?_ | refine WD_load_agg_on rfl rfl (by first | rfl | assumption) ?_ | refine WD_take rfl rfl ?_ | refine WD_take_on rfl rfl (by first | rfl | assumption) rfl ?_ | refine WD_drop rfl rfl ?_ | refine WD_one rfl ?_) | (refine WS_guard rfl ?_ ?_ <;> intro hg) | (refine V_cond ?_ ?_ <;> intro hc <;> try (cases hc; done)))
          have hodd : oddS (r &&& q) ≤ 1 := oddK_le _ _
          have hlt : orK (fun j => oddS (xs.getD i.toNat 0 &&& (turnedS M.toNat ys M.toNat).getD j 0)) j.toNat < 2 ^ 64 := Nat.lt_of_lt_of_le (orK_lt _ fun _ _ => oddK_le _ _) (Nat.pow_le_pow_right (by decide) (by omega))
          rw [shl_bit hodd hj0 (by omega), or_u64 hlt (bit_shl_lt hodd (by omega))]
          refine ⟨_, ?_, j + 1, rfl, by omega, by omega, inferInstance, inferInstance, inferInstance, inferInstance, inferInstance, inferInstance, rfl, ?_⟩
          · omega
          · rw [toNat_succ hj0]
            have : orK (fun j => oddS (xs.getD i.toNat 0 &&& (turnedS M.toNat ys M.toNat).getD j 0)) (j.toNat + 1) = orK (fun j => oddS (xs.getD i.toNat 0 &&& (turnedS M.toNat ys M.toNat).getD j 0)) j.toNat ||| oddS (r &&& q) <<< j.toNat := by
              simp only [orK, List.getD_eq_getElem?_getD, hr, hq, Option.getD_some]
            rw [this]; infer_instance
        · have hj : j = M := by simp at hc; omega
          subst hj
          obtain ⟨a', rfl⟩ := hL.isSlice
          repeat' (first | (first | refine V_seq ?_ | refine V_region ?_ | refine WS_nil ?_ | refine S_normal ?_ | refine V_block ?_ | refine B_normal ?_ | refine V_skip ?_ | refine V_exit ?_ | refine V_ret ?_ | refine S_exit ?_ | refine S_ret ?_ | refine B_exit ?_ | refine B_ret ?_ | refine B_pass rfl ?_ | refine WS_off rfl (by first | rfl | assumption) ?_ | refine WS_on rfl (by first | rfl | assumption) ?_ | refine WS_move ?_ | refine WS_assign ?_ | refine WS_pick_t (by first | rfl | assumption) ?_ | refine WS_pick_f (by first | rfl | assumption) ?_ | refine WS_isnil ?_ | refine WS_notnil ?_ | refine WS_cmp rfl ?_ | refine WS_addi (by omega) ?_ | refine WS_subi (by omega) ?_ | refine WS_arith rfl ?_ | refine WS_not ?_ | refine WS_neg ?_ | refine WS_convert ?_ | refine WS_len_slice ?_ | refine WS_len_string ?_ | refine WS_fieldAddr ?_ | refine WS_load ?_ | refine WS_load_agg ?_ | refine WS_box_agg rfl ?_ | refine WS_box rfl ?_ | refine WS_makeFunc ?_ | refine WS_extract ?_ | refine WS_field ?_ | refine WS_build ?_ | refine WS_zero ?_ | refine WS_shift (by first | decide | omega) rfl ?_ | refine WS_strcmp rfl ?_ | refine WS_indexAddr (by first | decide | omega) ?_ | refine WS_alloc ?_ | refine WS_store rfl ?_ | refine WS_buildSlice (by decide) rfl rfl (by simp [Value.cells]) ?_ | refine WDK_go ?_ | refine WDT_go ?_ | refine WD_nil ?_ | refine WD_take_off rfl rfl (by first | rfl | assumption) ?_ | refine WD_load rfl ?_ | refine WD_load_on rfl rfl (by first | rfl | assumption) ?_ | refine WD_load_agg rfl ?_ | refine WD_load_agg_on rfl rfl (by first | rfl | assumption) ?_ | refine WD_take rfl rfl ?_ | refine WD_take_on rfl rfl (by first | rfl | assumption) rfl ?_ | refine WD_drop rfl rfl ?_ | refine WD_one rfl ?_) | (refine WS_guard rfl ?_ ?_ <;> intro hg) | (refine V_cond ?_ ?_ <;> intro hc <;> try (cases hc; done)))
          refine WS_append1 (lo := H8.fresh) (hL.ext (Ext.push _ _)) (by rw [push_fresh]; have := eX.fresh; have := p7.lt; omega) (by rw [mulRefS_len]; omega) ?_
          intro v' h2 hL2 m2 hb
          have l7 := p7.lt
          have k7 : ObjIs h2 H7.fresh _ 24 true := m2.obj inferInstance (hL.notBlk (by omega))
          have e9 : Ext H7 h2 := m2.ext (eX.push' _) ((hL.ext (Ext.push _ _)).lower (by omega))
          rw [push_fresh] at hb
          obtain ⟨a'', rfl⟩ := hL2.isSlice
          repeat' (first | (first | refine V_seq ?_ | refine V_region ?_ | refine WS_nil ?_ | refine S_normal ?_ | refine V_block ?_ | refine B_normal ?_ | refine V_skip ?_ | refine V_exit ?_ | refine V_ret ?_ | refine S_exit ?_ | refine S_ret ?_ | refine B_exit ?_ | refine B_ret ?_ | refine B_pass rfl ?_ | refine WS_off rfl (by first | rfl | assumption) ?_ | refine WS_on rfl (by first | rfl | assumption) ?_ | refine WS_move ?_ | refine WS_assign ?_ | refine WS_pick_t (by first | rfl | assumption) ?_ | refine WS_pick_f (by first | rfl | assumption) ?_ | refine WS_isnil ?_ | refine WS_notnil ?_ | refine WS_cmp rfl ?_ | refine WS_addi (by omega) ?_ | refine WS_subi (by omega) ?_ | refine WS_arith rfl ?_ | refine WS_not ?_ | refine WS_neg ?_ | refine WS_convert ?_ | refine WS_len_slice ?_ | refine WS_len_string ?_ | refine WS_fieldAddr ?_ | refine WS_load ?_ | refine WS_load_agg ?_ | refine WS_box_agg rfl ?_ | refine WS_box rfl ?_ | refine WS_makeFunc ?_ | refine WS_extract ?_ | refine WS_field ?_ | refine WS_build ?_ | refine WS_zero ?_ | refine WS_shift (by first | decide | omega) rfl ?_ | refine WS_strcmp rfl ?_ | refine WS_indexAddr (by first | decide | omega) ?_ | refine WS_alloc ?_ | refine WS_store rfl ?_ | refine WS_buildSlice (by decide) rfl rfl (by simp [Value.cells]) ?_ | refine WDK_go ?_ | refine WDT_go ?_ | refine WD_nil ?_ | refine WD_take_off rfl rfl (by first | rfl | assumption) ?_ | refine WD_load rfl ?_ | refine WD_load_on rfl rfl (by first | rfl | assumption) ?_ | refine WD_load_agg rfl ?_ | refine WD_load_agg_on rfl rfl (by first | rfl | assumption) ?_ | refine WD_take rfl rfl ?_ | refine WD_take_on rfl rfl (by first | rfl | assumption) rfl ?_ | refine WD_drop rfl rfl ?_ | refine WD_one rfl ?_) | (refine WS_guard rfl ?_ ?_ <;> intro hg) | (refine V_cond ?_ ?_ <;> intro hc <;> try (cases hc; done)))
          refine ⟨_, ?_, i + 1, _, rfl, by omega, by omega, inferInstance, inferInstance, inferInstance, inferInstance, inferInstance, e9.putObj (Nat.le_refl _), inferInstance, ?_⟩
          · omega
          · rw [toNat_succ hi0, mulRefS_succ]; exact hL2.put (hL2.notBlk (by omega)) p7.even
      · have hi : i = M := by simp at hc; omega
        subst hi
        obtain ⟨a', rfl⟩ := hL.isSlice
        repeat' (first | (first | refine V_seq ?_ | refine V_region ?_ | refine WS_nil ?_ | refine S_normal ?_ | refine V_block ?_ | refine B_normal ?_ | refine V_skip ?_ | refine V_exit ?_ | refine V_ret ?_ | refine S_exit ?_ | refine S_ret ?_ | refine B_exit ?_ | refine B_ret ?_ | refine B_pass rfl ?_ | refine WS_off rfl (by first | rfl | assumption) ?_ | refine WS_on rfl (by first | rfl | assumption) ?_ | refine WS_move ?_ | refine WS_assign ?_ | refine WS_pick_t (by first | rfl | assumption) ?_ | refine WS_pick_f (by first | rfl | assumption) ?_ | refine WS_isnil ?_ | refine WS_notnil ?_ | refine WS_cmp rfl ?_ | refine WS_addi (by omega) ?_ | refine WS_subi (by omega) ?_ | refine WS_arith rfl ?_ | refine WS_not ?_ | refine WS_neg ?_ | refine WS_convert ?_ | refine WS_len_slice ?_ | refine WS_len_string ?_ | refine WS_fieldAddr ?_ | refine WS_load ?_ | refine WS_load_agg ?_ | refine WS_box_agg rfl ?_ | refine WS_box rfl ?_ | refine WS_makeFunc ?_ | refine WS_extract ?_ | refine WS_field ?_ | refine WS_build ?_ | refine WS_zero ?_ | refine WS_shift (by first | decide | omega) rfl ?_ | refine WS_strcmp rfl ?_ | refine WS_indexAddr (by first | decide | omega) ?_ | refine WS_alloc ?_ | refine WS_store rfl ?_ | refine WS_buildSlice (by decide) rfl rfl (by simp [Value.cells]) ?_ | refine WDK_go ?_ | refine WDT_go ?_ | refine WD_nil ?_ | refine WD_take_off rfl rfl (by first | rfl | assumption) ?_ | refine WD_load rfl ?_ | refine WD_load_on rfl rfl (by first | rfl | assumption) ?_ | refine WD_load_agg rfl ?_ | refine WD_load_agg_on rfl rfl (by first | rfl | assumption) ?_ | refine WD_take rfl rfl ?_ | refine WD_take_on rfl rfl (by first | rfl | assumption) rfl ?_ | refine WD_drop rfl rfl ?_ | refine WD_one rfl ?_) | (refine WS_guard rfl ?_ ?_ <;> intro hg) | (refine V_cond ?_ ?_ <;> intro hc <;> try (cases hc; done)))
        refine retK_ct ⟨((e16.trans e7).trans eX).putObj (by omega), ?_⟩ (.inr rfl)
        rw [if_pos ⟨hck, hck2, rfl⟩]
        exact ⟨_, rfl, (hL.put (hL.notBlk (by omega)) w3.even).lower (by omega)⟩
    · refine retK_ct ⟨e15.putObj (by omega), ?_⟩ (.inr rfl)
      rw [if_neg]
      rintro ⟨_, h2, _⟩
      simp_all
  · refine retK_ct ⟨e14.putObj (by omega), ?_⟩ (.inr rfl)
    rw [if_neg]
    rintro ⟨h2, _, _⟩
    simp_all
instance : CallIs Try.prog 16 := .of Try.func16 rfl rfl
end Go.Ideal

-- Lf
set_option linter.unusedSimpArgs false
set_option linter.unusedVariables false
namespace Go.Ideal
open Go Go.Proofs
def xorK (f : Nat → Nat) : Nat → Nat
  | 0 => 0
  | k + 1 => xorK f k ^^^ f k
theorem xorK_lt {f : Nat → Nat} (hf : ∀ j, f j < 2 ^ 64) : ∀ k, xorK f k < 2 ^ 64 := by
  intro k
  induction k with
  | zero => simp [xorK]
  | succ k ih => exact Nat.xor_lt_two_pow ih (hf k)
def mulRow (r : Nat) (ys : List Nat) (k : Nat) : Nat := xorK (fun j => if (r >>> j) &&& 1 = 1 then ys.getD j 0 else 0) k
theorem getD_lt {ys : List Nat} (h : ∀ x ∈ ys, x < 2 ^ 64) (j : Nat) : ys.getD j 0 < 2 ^ 64 := by
  rw [List.getD_eq_getElem?_getD]
  cases hj : ys[j]? with
  | none => decide
  | some x => exact h x (List.mem_of_getElem? hj)
theorem mulRow_lt {r : Nat} {ys : List Nat} (h : ∀ x ∈ ys, x < 2 ^ 64) (k : Nat) : mulRow r ys k < 2 ^ 64 := by
  refine xorK_lt (fun j => ?_) k
  split
  · exact getD_lt h j
  · decide
def mulS (xs ys : List Nat) (k : Nat) : List Nat := (xs.take k).map fun r => mulRow r ys ys.length
theorem mulS_succ {xs ys : List Nat} {k r : Nat} (hr : xs[k]? = some r) : u64s (mulS xs ys (k + 1)) = u64s (mulS xs ys k) ++ [.int .u64 (mulRow r ys ys.length : Nat)] := by
  simp [u64s, mulS, List.take_add_one, hr]
theorem mulS_len {xs ys : List Nat} {k : Nat} (h : k ≤ xs.length) : (u64s (mulS xs ys k)).length = k := by simp [u64s, mulS]; omega
theorem Mul_spec (M N : Int) (a b : Option Addr) (la ca lb cb : Nat) (xs ys : List Nat) (h : IHp) (hx : SlIs h a la ca (u64s xs)) (hy : SlIs h b lb cb (u64s ys)) (hx64 : ∀ x ∈ xs, x < 2 ^ 64) (hy64 : ∀ x ∈ ys, x < 2 ^ 64) :
    EvX Try.prog 15 [.agg [.int .i64 M, .slice a la ca].toArray, .agg [.int .i64 N, .slice b lb cb].toArray].toArray h (fun v h' => Ext h h' ∧ if checkS M xs = 0 ∧ checkS N ys = 0 ∧ M = N then ∃ sl, v = .tuple [.agg [.int .i64 M, sl].toArray, .int .i64 0].toArray ∧ Lst h.fresh h' sl (u64s (mulS xs ys xs.length)) 25 else v = .tuple [.agg [.int .i64 0, .slice none 0 0].toArray, .int .i64 2].toArray) := by
  have hlx : xs.length = la := by have := hx.1; simpa [u64s] using this
  have hly : ys.length = lb := by have := hy.1; simpa [u64s] using this
  refine EvX_of Try.func15 rfl (by show 2 ≤ 64; decide) ?_
  repeat' (first | (first | refine V_seq ?_ | refine V_region ?_ | refine WS_nil ?_ | refine S_normal ?_ | refine V_block ?_ | refine B_normal ?_ | refine V_skip ?_ | refine V_exit ?_ | refine V_ret ?_ | refine S_exit ?_ | refine S_ret ?_ | refine B_exit ?_ | refine B_ret ?_ | refine B_pass rfl ?_ | refine WS_off rfl (by first | rfl | assumption) ?_ | refine WS_on rfl (by first | rfl | assumption) ?_ | refine WS_move ?_ | refine WS_assign ?_ | refine WS_pick_t (by first | rfl | assumption) ?_ | refine WS_pick_f (by first | rfl | assumption) ?_ | refine WS_isnil ?_ | refine WS_notnil ?_ | refine WS_cmp rfl ?_ | refine WS_addi (by omega) ?_ | refine WS_subi (by omega) ?_ | refine WS_arith rfl ?_ | refine WS_not ?_ | refine WS_neg ?_ | refine WS_convert ?_ | refine WS_len_slice ?_ | refine WS_len_string ?_ | refine WS_fieldAddr ?_ | refine WS_load ?_ | refine WS_load_agg ?_ | refine WS_box_agg rfl ?_ | refine WS_box rfl ?_ | refine WS_makeFunc ?_ | refine WS_extract ?_ | refine WS_field ?_ | refine WS_build ?_ | refine WS_zero ?_ | refine WS_shift (by first | decide | omega) rfl ?_ | refine WS_strcmp rfl ?_ | refine WS_indexAddr (by first | decide | omega) ?_ | refine WS_alloc ?_ | refine WS_store rfl ?_ | refine WS_buildSlice (by decide) rfl rfl (by simp [Value.cells]) ?_ | refine WDK_go ?_ | refine WDT_go ?_ | refine WD_nil ?_ | refine WD_take_off rfl rfl (by first | rfl | assumption) ?_ | refine WD_load rfl ?_ | refine WD_load_on rfl rfl (by first | rfl | assumption) ?_ | refine WD_load_agg rfl ?_ | refine WD_load_agg_on rfl rfl (by first | rfl | assumption) ?_ | refine WD_take rfl rfl ?_ | refine WD_take_on rfl rfl (by first | rfl | assumption) rfl ?_ | refine WD_drop rfl rfl ?_ | refine WD_one rfl ?_) | (refine WS_guard rfl ?_ ?_ <;> intro hg) | (refine V_cond ?_ ?_ <;> intro hc <;> try (cases hc; done)))
  obtain ⟨H1, hH1⟩ : ∃ H, H = h.push (IObj.cells [Value.int IntKind.i64 M, Value.slice a la ca] 24 true) := ⟨_, rfl⟩
  have f1 : H1.fresh = h.fresh + 2 := by rw [hH1, push_fresh]
  have e1 : Ext h H1 := hH1 ▸ Ext.push _ _
  have p1 : ObjIs H1 h.fresh [.int .i64 M, .slice a la ca] 24 true := hH1 ▸ inferInstance
  rw [← hH1]
  obtain ⟨H2, hH2⟩ : ∃ H, H = H1.push (IObj.cells [Value.int IntKind.i64 N, Value.slice b lb cb] 24 true) := ⟨_, rfl⟩
  have f2 : H2.fresh = h.fresh + 4 := by rw [hH2, push_fresh, f1]
  have e2 : Ext H1 H2 := hH2 ▸ Ext.push _ _
  have p2 : ObjIs H2 H1.fresh [.int .i64 N, .slice b lb cb] 24 true := hH2 ▸ inferInstance
  rw [← hH2]
  obtain ⟨H3, hH3⟩ : ∃ H, H = H2.push (IObj.cells [Value.int IntKind.i64 0, Value.slice none 0 0] 24 true) := ⟨_, rfl⟩
  have f3 : H3.fresh = h.fresh + 6 := by rw [hH3, push_fresh, f2]
  have e3 : Ext H2 H3 := hH3 ▸ Ext.push _ _
  have p3 : ObjIs H3 H2.fresh [.int .i64 0, .slice none 0 0] 24 true := hH3 ▸ inferInstance
  rw [← hH3]
  have e13 : Ext h H3 := (e1.trans e2).trans e3
  have q1 : ObjIs H3 h.fresh [.int .i64 M, .slice a la ca] 24 true := inferInstance
  have q2 : ObjIs H3 H1.fresh [.int .i64 N, .slice b lb cb] 24 true := inferInstance
  refine WS_call (Check_spec M a la ca xs _ (hx.ext e13) hx64) ?_
  rintro _ H4 ⟨rfl, e4⟩
  have r1 : ObjIs H4 h.fresh [.int .i64 M, .slice a la ca] 24 true := inferInstance
  have r2 : ObjIs H4 H1.fresh [.int .i64 N, .slice b lb cb] 24 true := inferInstance
  have r3 : ObjIs H4 H2.fresh [.int .i64 0, .slice none 0 0] 24 true := inferInstance
  have e14 : Ext h H4 := e13.trans e4
  have g4 := e4.fresh
  have n02 : NeB h.fresh H2.fresh := .fresh (by omega)
  have n12 : NeB H1.fresh H2.fresh := .fresh (by omega)
  repeat' (first | (first | refine V_seq ?_ | refine V_region ?_ | refine WS_nil ?_ | refine S_normal ?_ | refine V_block ?_ | refine B_normal ?_ | refine V_skip ?_ | refine V_exit ?_ | refine V_ret ?_ | refine S_exit ?_ | refine S_ret ?_ | refine B_exit ?_ | refine B_ret ?_ | refine B_pass rfl ?_ | refine WS_off rfl (by first | rfl | assumption) ?_ | refine WS_on rfl (by first | rfl | assumption) ?_ | refine WS_move ?_ | refine WS_assign ?_ | refine WS_pick_t (by first | rfl | assumption) ?_ | refine WS_pick_f (by first | rfl | assumption) ?_ | refine WS_isnil ?_ | refine WS_notnil ?_ | refine WS_cmp rfl ?_ | refine WS_addi (by omega) ?_ | refine WS_subi (by omega) ?_ | refine WS_arith rfl ?_ | refine WS_not ?_ | refine WS_neg ?_ | refine WS_convert ?_ | refine WS_len_slice ?_ | refine WS_len_string ?_ | refine WS_fieldAddr ?_ | refine WS_load ?_ | refine WS_load_agg ?_ | refine WS_box_agg rfl ?_ | refine WS_box rfl ?_ | refine WS_makeFunc ?_ | refine WS_extract ?_ | refine WS_field ?_ | refine WS_build ?_ | refine WS_zero ?_ | refine WS_shift (by first | decide | omega) rfl ?_ | refine WS_strcmp rfl ?_ | refine WS_indexAddr (by first | decide | omega) ?_ | refine WS_alloc ?_ | refine WS_store rfl ?_ | refine WS_buildSlice (by decide) rfl rfl (by simp [Value.cells]) ?_ | refine WDK_go ?_ | refine WDT_go ?_ | refine WD_nil ?_ | refine WD_take_off rfl rfl (by first | rfl | assumption) ?_ | refine WD_load rfl ?_ | refine WD_load_on rfl rfl (by first | rfl | assumption) ?_ | refine WD_load_agg rfl ?_ | refine WD_load_agg_on rfl rfl (by first | rfl | assumption) ?_ | refine WD_take rfl rfl ?_ | refine WD_take_on rfl rfl (by first | rfl | assumption) rfl ?_ | refine WD_drop rfl rfl ?_ | refine WD_one rfl ?_) | (refine WS_guard rfl ?_ ?_ <;> intro hg) | (refine V_cond ?_ ?_ <;> intro hc <;> try (cases hc; done)))
  · have hck : checkS M xs = 0 := by simpa using hg
    refine WS_call (Check_spec N b lb cb ys _ (hy.ext e14) hy64) ?_
    rintro _ H5 ⟨rfl, e5⟩
    have s1 : ObjIs H5 h.fresh [.int .i64 M, .slice a la ca] 24 true := inferInstance
    have s2 : ObjIs H5 H1.fresh [.int .i64 N, .slice b lb cb] 24 true := inferInstance
    have s3 : ObjIs H5 H2.fresh [.int .i64 0, .slice none 0 0] 24 true := inferInstance
    have e15 : Ext h H5 := e14.trans e5
    have g5 := e5.fresh
    repeat' (first | (first | refine V_seq ?_ | refine V_region ?_ | refine WS_nil ?_ | refine S_normal ?_ | refine V_block ?_ | refine B_normal ?_ | refine V_skip ?_ | refine V_exit ?_ | refine V_ret ?_ | refine S_exit ?_ | refine S_ret ?_ | refine B_exit ?_ | refine B_ret ?_ | refine B_pass rfl ?_ | refine WS_off rfl (by first | rfl | assumption) ?_ | refine WS_on rfl (by first | rfl | assumption) ?_ | refine WS_move ?_ | refine WS_assign ?_ | refine WS_pick_t (by first | rfl | assumption) ?_ | refine WS_pick_f (by first | rfl | assumption) ?_ | refine WS_isnil ?_ | refine WS_notnil ?_ | refine WS_cmp rfl ?_ | refine WS_addi (by omega) ?_ | refine WS_subi (by omega) ?_ | refine WS_arith rfl ?_ | refine WS_not ?_ | refine WS_neg ?_ | refine WS_convert ?_ | refine WS_len_slice ?_ | refine WS_len_string ?_ | refine WS_fieldAddr ?_ | refine WS_load ?_ | refine WS_load_agg ?_ | refine WS_box_agg rfl ?_ | refine WS_box rfl ?_ | refine WS_makeFunc ?_ | refine WS_extract ?_ | refine WS_field ?_ | refine WS_build ?_ | refine WS_zero ?_ | refine WS_shift (by first | decide | omega) rfl ?_ | refine WS_strcmp rfl ?_ | refine WS_indexAddr (by first | decide | omega) ?_ | refine WS_alloc ?_ | refine WS_store rfl ?_ | refine WS_buildSlice (by decide) rfl rfl (by simp [Value.cells]) ?_ | refine WDK_go ?_ | refine WDT_go ?_ | refine WD_nil ?_ | refine WD_take_off rfl rfl (by first | rfl | assumption) ?_ | refine WD_load rfl ?_ | refine WD_load_on rfl rfl (by first | rfl | assumption) ?_ | refine WD_load_agg rfl ?_ | refine WD_load_agg_on rfl rfl (by first | rfl | assumption) ?_ | refine WD_take rfl rfl ?_ | refine WD_take_on rfl rfl (by first | rfl | assumption) rfl ?_ | refine WD_drop rfl rfl ?_ | refine WD_one rfl ?_) | (refine WS_guard rfl ?_ ?_ <;> intro hg) | (refine V_cond ?_ ?_ <;> intro hc <;> try (cases hc; done)))
    · refine retK_ct ⟨e15.putObj (by omega), ?_⟩ (.inr rfl)
      rw [if_neg]
      rintro ⟨_, _, rfl⟩
      simp at hc
    · have hck2 : checkS N ys = 0 := by simp_all
      have hMN : M = N := by simpa using hc
      subst hMN
      obtain ⟨hN0, hN1, hN2, hbx⟩ := checkS_zero hck
      obtain ⟨_, _, hN3, hby⟩ := checkS_zero hck2
      obtain ⟨H6, hH6⟩ : ∃ H, H = ((H5.push (IObj.cells [Value.int IntKind.i64 0, Value.slice none 0 0] 24 true)).put H5.fresh [Value.int IntKind.i64 M, Value.slice none 0 0] 24 true) := ⟨_, rfl⟩
      have e6 : Ext H5 H6 := hH6 ▸ (Ext.push _ _).putObj (Nat.le_refl _)
      have u5 : ObjIs H6 H5.fresh [Value.int IntKind.i64 M, Value.slice none 0 0] 24 true := hH6 ▸ inferInstance
      have f6 : H6.fresh = H5.fresh + 2 := by rw [hH6, putObj_fresh, push_fresh]
      rw [← hH6]
      repeat' (first | (first | refine V_seq ?_ | refine V_region ?_ | refine WS_nil ?_ | refine S_normal ?_ | refine V_block ?_ | refine B_normal ?_ | refine V_skip ?_ | refine V_exit ?_ | refine V_ret ?_ | refine S_exit ?_ | refine S_ret ?_ | refine B_exit ?_ | refine B_ret ?_ | refine B_pass rfl ?_ | refine WS_off rfl (by first | rfl | assumption) ?_ | refine WS_on rfl (by first | rfl | assumption) ?_ | refine WS_move ?_ | refine WS_assign ?_ | refine WS_pick_t (by first | rfl | assumption) ?_ | refine WS_pick_f (by first | rfl | assumption) ?_ | refine WS_isnil ?_ | refine WS_notnil ?_ | refine WS_cmp rfl ?_ | refine WS_addi (by omega) ?_ | refine WS_subi (by omega) ?_ | refine WS_arith rfl ?_ | refine WS_not ?_ | refine WS_neg ?_ | refine WS_convert ?_ | refine WS_len_slice ?_ | refine WS_len_string ?_ | refine WS_fieldAddr ?_ | refine WS_load ?_ | refine WS_load_agg ?_ | refine WS_box_agg rfl ?_ | refine WS_box rfl ?_ | refine WS_makeFunc ?_ | refine WS_extract ?_ | refine WS_field ?_ | refine WS_build ?_ | refine WS_zero ?_ | refine WS_shift (by first | decide | omega) rfl ?_ | refine WS_strcmp rfl ?_ | refine WS_indexAddr (by first | decide | omega) ?_ | refine WS_alloc ?_ | refine WS_store rfl ?_ | refine WS_buildSlice (by decide) rfl rfl (by simp [Value.cells]) ?_ | refine WDK_go ?_ | refine WDT_go ?_ | refine WD_nil ?_ | refine WD_take_off rfl rfl (by first | rfl | assumption) ?_ | refine WD_load rfl ?_ | refine WD_load_on rfl rfl (by first | rfl | assumption) ?_ | refine WD_load_agg rfl ?_ | refine WD_load_agg_on rfl rfl (by first | rfl | assumption) ?_ | refine WD_take rfl rfl ?_ | refine WD_take_on rfl rfl (by first | rfl | assumption) rfl ?_ | refine WD_drop rfl rfl ?_ | refine WD_one rfl ?_) | (refine WS_guard rfl ?_ ?_ <;> intro hg) | (refine V_cond ?_ ?_ <;> intro hc <;> try (cases hc; done)))
      have n25 : NeB H2.fresh H5.fresh := .fresh (by omega)
      have n52 : NeB H5.fresh H2.fresh := n25.symm
      have n05 : NeB h.fresh H5.fresh := .fresh (by omega)
      have n15 : NeB H1.fresh H5.fresh := .fresh (by omega)
      refine V_loop (fun d s h' => ∃ (i : Int) (sl : Value), d = (la - i).toNat ∧ 0 ≤ i ∧ i ≤ la ∧ Get s 33 (.int .i64 i) ∧ Get s 32 (.int .i64 la) ∧ Get s 31 (.slice a la ca) ∧ Get s 3 (.pointer (some (ad H1.fresh 0))) ∧ Get s 4 (.pointer (some (ad H2.fresh 0))) ∧ Get s 6 (.pointer (some (ad H5.fresh 0))) ∧ Ext H5 h' ∧ ObjIs h' H5.fresh [.int .i64 M, sl] 24 true ∧ Lst H6.fresh h' sl (u64s (mulS xs ys i.toNat)) 25) la
        ⟨0, .slice none 0 0, by omega, by omega, by omega, inferInstance, inferInstance, inferInstance, inferInstance, inferInstance, inferInstance, e6, inferInstance, .inl ⟨rfl, rfl⟩⟩ ?_
      rintro d s h' ⟨i, sl, rfl, hi0, hi1, y33, y32, y31, y3, y4, y6, eX, p5, hL⟩
      have w2 : ObjIs h' H1.fresh [.int .i64 M, .slice b lb cb] 24 true := ⟨s2.even, eX.new _ _ s2.eq⟩
      have w3 : ObjIs h' H2.fresh [.int .i64 0, .slice none 0 0] 24 true := ⟨s3.even, eX.new _ _ s3.eq⟩
      have slX : SlIs h' a la ca (u64s xs) := hx.ext (e15.trans eX)
      have slY : SlIs h' b lb cb (u64s ys) := hy.ext (e15.trans eX)
      repeat' (first | (first | refine V_seq ?_ | refine V_region ?_ | refine WS_nil ?_ | refine S_normal ?_ | refine V_block ?_ | refine B_normal ?_ | refine V_skip ?_ | refine V_exit ?_ | refine V_ret ?_ | refine S_exit ?_ | refine S_ret ?_ | refine B_exit ?_ | refine B_ret ?_ | refine B_pass rfl ?_ | refine WS_off rfl (by first | rfl | assumption) ?_ | refine WS_on rfl (by first | rfl | assumption) ?_ | refine WS_move ?_ | refine WS_assign ?_ | refine WS_pick_t (by first | rfl | assumption) ?_ | refine WS_pick_f (by first | rfl | assumption) ?_ | refine WS_isnil ?_ | refine WS_notnil ?_ | refine WS_cmp rfl ?_ | refine WS_addi (by omega) ?_ | refine WS_subi (by omega) ?_ | refine WS_arith rfl ?_ | refine WS_not ?_ | refine WS_neg ?_ | refine WS_convert ?_ | refine WS_len_slice ?_ | refine WS_len_string ?_ | refine WS_fieldAddr ?_ | refine WS_load ?_ | refine WS_load_agg ?_ | refine WS_box_agg rfl ?_ | refine WS_box rfl ?_ | refine WS_makeFunc ?_ | refine WS_extract ?_ | refine WS_field ?_ | refine WS_build ?_ | refine WS_zero ?_ | refine WS_shift (by first | decide | omega) rfl ?_ | refine WS_strcmp rfl ?_ | refine WS_indexAddr (by first | decide | omega) ?_ | refine WS_alloc ?_ | refine WS_store rfl ?_ | refine WS_buildSlice (by decide) rfl rfl (by simp [Value.cells]) ?_ | refine WDK_go ?_ | refine WDT_go ?_ | refine WD_nil ?_ | refine WD_take_off rfl rfl (by first | rfl | assumption) ?_ | refine WD_load rfl ?_ | refine WD_load_on rfl rfl (by first | rfl | assumption) ?_ | refine WD_load_agg rfl ?_ | refine WD_load_agg_on rfl rfl (by first | rfl | assumption) ?_ | refine WD_take rfl rfl ?_ | refine WD_take_on rfl rfl (by first | rfl | assumption) rfl ?_ | refine WD_drop rfl rfl ?_ | refine WD_one rfl ?_) | (refine WS_guard rfl ?_ ?_ <;> intro hg) | (refine V_cond ?_ ?_ <;> intro hc <;> try (cases hc; done)))
      · have hi : i < la := by simpa using hc
        obtain ⟨b1, v, rfl, hv, c2⟩ := slX.at hi0 hi
        obtain ⟨r, rfl, hr⟩ := u64s_at hv
        have hr64 := hx64 r (List.mem_of_getElem? hr)
        repeat' (first | (first | refine V_seq ?_ | refine V_region ?_ | refine WS_nil ?_ | refine S_normal ?_ | refine V_block ?_ | refine B_normal ?_ | refine V_skip ?_ | refine V_exit ?_ | refine V_ret ?_ | refine S_exit ?_ | refine S_ret ?_ | refine B_exit ?_ | refine B_ret ?_ | refine B_pass rfl ?_ | refine WS_off rfl (by first | rfl | assumption) ?_ | refine WS_on rfl (by first | rfl | assumption) ?_ | refine WS_move ?_ | refine WS_assign ?_ | refine WS_pick_t (by first | rfl | assumption) ?_ | refine WS_pick_f (by first | rfl | assumption) ?_ | refine WS_isnil ?_ | refine WS_notnil ?_ | refine WS_cmp rfl ?_ | refine WS_addi (by omega) ?_ | refine WS_subi (by omega) ?_ | refine WS_arith rfl ?_ | refine WS_not ?_ | refine WS_neg ?_ | refine WS_convert ?_ | refine WS_len_slice ?_ | refine WS_len_string ?_ | refine WS_fieldAddr ?_ | refine WS_load ?_ | refine WS_load_agg ?_ | refine WS_box_agg rfl ?_ | refine WS_box rfl ?_ | refine WS_makeFunc ?_ | refine WS_extract ?_ | refine WS_field ?_ | refine WS_build ?_ | refine WS_zero ?_ | refine WS_shift (by first | decide | omega) rfl ?_ | refine WS_strcmp rfl ?_ | refine WS_indexAddr (by first | decide | omega) ?_ | refine WS_alloc ?_ | refine WS_store rfl ?_ | refine WS_buildSlice (by decide) rfl rfl (by simp [Value.cells]) ?_ | refine WDK_go ?_ | refine WDT_go ?_ | refine WD_nil ?_ | refine WD_take_off rfl rfl (by first | rfl | assumption) ?_ | refine WD_load rfl ?_ | refine WD_load_on rfl rfl (by first | rfl | assumption) ?_ | refine WD_load_agg rfl ?_ | refine WD_load_agg_on rfl rfl (by first | rfl | assumption) ?_ | refine WD_take rfl rfl ?_ | refine WD_take_on rfl rfl (by first | rfl | assumption) rfl ?_ | refine WD_drop rfl rfl ?_ | refine WD_one rfl ?_) | (refine WS_guard rfl ?_ ?_ <;> intro hg) | (refine V_cond ?_ ?_ <;> intro hc <;> try (cases hc; done)))
        refine V_loop (fun d s h'' => ∃ (j : Int), d = (lb - j).toNat ∧ 0 ≤ j ∧ j ≤ lb ∧ Get s 40 (.int .i64 j) ∧ Get s 39 (.int .i64 lb) ∧ Get s 8 (.int .u64 r) ∧ Get s 33 (.int .i64 i) ∧ Get s 32 (.int .i64 la) ∧ Get s 31 (.slice (some b1) la ca) ∧ Get s 3 (.pointer (some (ad H1.fresh 0))) ∧ Get s 4 (.pointer (some (ad H2.fresh 0))) ∧ Get s 6 (.pointer (some (ad H5.fresh 0))) ∧ h'' = h' ∧ Get s 9 (.int .u64 (mulRow r ys j.toNat : Nat))) lb
          ⟨0, by omega, by omega, by omega, inferInstance, inferInstance, inferInstance, inferInstance, inferInstance, inferInstance, inferInstance, inferInstance, inferInstance, rfl, inferInstanceAs (Get _ 9 (.int .u64 (0 : Int)))⟩ ?_
        rintro d s h'' ⟨j, rfl, hj0, hj1, z40, z39, z8, z33, z32, z31, z3, z4, z6, rfl, z9⟩
        repeat' (first | (first | refine V_seq ?_ | refine V_region ?_ | refine WS_nil ?_ | refine S_normal ?_ | refine V_block ?_ | refine B_normal ?_ | refine V_skip ?_ | refine V_exit ?_ | refine V_ret ?_ | refine S_exit ?_ | refine S_ret ?_ | refine B_exit ?_ | refine B_ret ?_ | refine B_pass rfl ?_ | refine WS_off rfl (by first | rfl | assumption) ?_ | refine WS_on rfl (by first | rfl | assumption) ?_ | refine WS_move ?_ | refine WS_assign ?_ | refine WS_pick_t (by first | rfl | assumption) ?_ | refine WS_pick_f (by first | rfl | assumption) ?_ | refine WS_isnil ?_ | refine WS_notnil ?_ | refine WS_cmp rfl ?_ | refine WS_addi (by omega) ?_ | refine WS_subi (by omega) ?_ | refine WS_arith rfl ?_ | refine WS_not ?_ | refine WS_neg ?_ | refine WS_convert ?_ | refine WS_len_slice ?_ | refine WS_len_string ?_ | refine WS_fieldAddr ?_ | refine WS_load ?_ | refine WS_load_agg ?_ | refine WS_box_agg rfl ?_ | refine WS_box rfl ?_ | refine WS_makeFunc ?_ | refine WS_extract ?_ | refine WS_field ?_ | refine WS_build ?_ | refine WS_zero ?_ | refine WS_shift (by first | decide | omega) rfl ?_ | refine WS_strcmp rfl ?_ | refine WS_indexAddr (by first | decide | omega) ?_ | refine WS_alloc ?_ | refine WS_store rfl ?_ | refine WS_buildSlice (by decide) rfl rfl (by simp [Value.cells]) ?_ | refine WDK_go ?_ | refine WDT_go ?_ | refine WD_nil ?_ | refine WD_take_off rfl rfl (by first | rfl | assumption) ?_ | refine WD_load rfl ?_ | refine WD_load_on rfl rfl (by first | rfl | assumption) ?_ | refine WD_load_agg rfl ?_ | refine WD_load_agg_on rfl rfl (by first | rfl | assumption) ?_ | refine WD_take rfl rfl ?_ | refine WD_take_on rfl rfl (by first | rfl | assumption) rfl ?_ | refine WD_drop rfl rfl ?_ | refine WD_one rfl ?_) | (refine WS_guard rfl ?_ ?_ <;> intro hg) | (refine V_cond ?_ ?_ <;> intro hc <;> try (cases hc; done)))
        · rename_i hcj
          have hj : j < lb := by simp at hcj; omega
          rw [shr_u64 hj0 hr64, and1_u64 (shr_lt _ hr64)] at hc
          obtain ⟨b2, w, rfl, hw, c3⟩ := slY.at hj0 hj
          obtain ⟨q, rfl, hq⟩ := u64s_at hw
          have hq64 := hy64 q (List.mem_of_getElem? hq)
          repeat' (first | (first | refine V_seq ?_ | refine V_region ?_ | refine WS_nil ?_ | refine S_normal ?_ | refine V_block ?_ | refine B_normal ?_ | refine V_skip ?_ | refine V_exit ?_ | refine V_ret ?_ | refine S_exit ?_ | refine S_ret ?_ | refine B_exit ?_ | refine B_ret ?_ | refine B_pass rfl ?_ | refine WS_off rfl (by first | rfl | assumption) ?_ | refine WS_on rfl (by first | rfl | assumption) ?_ | refine WS_move ?_ | refine WS_assign ?_ | refine WS_pick_t (by first | rfl | assumption) ?_ | refine WS_pick_f (by first | rfl | assumption) ?_ | refine WS_isnil ?_ | refine WS_notnil ?_ | refine WS_cmp rfl ?_ | refine WS_addi (by omega) ?_ | refine WS_subi (by omega) ?_ | refine WS_arith rfl ?_ | refine WS_not ?_ | refine WS_neg ?_ | refine WS_convert ?_ | refine WS_len_slice ?_ | refine WS_len_string ?_ | refine WS_fieldAddr ?_ | refine WS_load ?_ | refine WS_load_agg ?_ | refine WS_box_agg rfl ?_ | refine WS_box rfl ?_ | refine WS_makeFunc ?_ | refine WS_extract ?_ | refine WS_field ?_ | refine WS_build ?_ | refine WS_zero ?_ | refine WS_shift (by first | decide | omega) rfl ?_ | refine WS_strcmp rfl ?_ | refine WS_indexAddr (by first | decide | omega) ?_ | refine WS_alloc ?_ | refine WS_store rfl ?_ | refine WS_buildSlice (by decide) rfl rfl (by simp [Value.cells]) ?_ | refine WDK_go ?_ | refine WDT_go ?_ | refine WD_nil ?_ | refine WD_take_off rfl rfl (by first | rfl | assumption) ?_ | refine WD_load rfl ?_ | refine WD_load_on rfl rfl (by first | rfl | assumption) ?_ | refine WD_load_agg rfl ?_ | refine WD_load_agg_on rfl rfl (by first | rfl | assumption) ?_ | refine WD_take rfl rfl ?_ | refine WD_take_on rfl rfl (by first | rfl | assumption) rfl ?_ | refine WD_drop rfl rfl ?_ | refine WD_one rfl ?_) | (refine WS_guard rfl ?_ ?_ <;> intro hg) | (refine V_cond ?_ ?_ <;> intro hc <;> try (cases hc; done)))
          rw [xor_u64 (mulRow_lt hy64 _) hq64]
          refine ⟨_, ?_, j + 1, rfl, by omega, by omega, inferInstance, inferInstance, inferInstance, inferInstance, inferInstance, inferInstance, inferInstance, inferInstance, inferInstance, rfl, ?_⟩
          · omega
          · rw [toNat_succ hj0]
            have : mulRow r ys (j.toNat + 1) = mulRow r ys j.toNat ^^^ q := by
              have h1 : r >>> j.toNat &&& 1 = 1 := Int.ofNat_inj.mp (show ((r >>> j.toNat &&& 1 : Nat) : Int) = ((1 : Nat) : Int) from of_decide_eq_true hc)
              simp only [mulRow, xorK, List.getD_eq_getElem?_getD, hq, Option.getD_some, h1, if_true]
            rw [this]; infer_instance
        · rename_i hcj
          have hj : j < lb := by simp at hcj; omega
          rw [shr_u64 hj0 hr64, and1_u64 (shr_lt _ hr64)] at hc
          refine ⟨_, ?_, j + 1, rfl, by omega, by omega, inferInstance, inferInstance, inferInstance, inferInstance, inferInstance, inferInstance, inferInstance, inferInstance, inferInstance, rfl, ?_⟩
          · omega
          · rw [toNat_succ hj0]
            have : mulRow r ys (j.toNat + 1) = mulRow r ys j.toNat := by
              have h1 : ¬ r >>> j.toNat &&& 1 = 1 := fun hh => of_decide_eq_false hc (congrArg (Nat.cast (R := Int)) hh)
              simp only [mulRow, xorK, h1, if_false, Nat.xor_zero]
            rw [this]; infer_instance
        · have hj : j = lb := by simp at hc; omega
          subst hj
          obtain ⟨a', rfl⟩ := hL.isSlice
          repeat' (first | (first | refine V_seq ?_ | refine V_region ?_ | refine WS_nil ?_ | refine S_normal ?_ | refine V_block ?_ | refine B_normal ?_ | refine V_skip ?_ | refine V_exit ?_ | refine V_ret ?_ | refine S_exit ?_ | refine S_ret ?_ | refine B_exit ?_ | refine B_ret ?_ | refine B_pass rfl ?_ | refine WS_off rfl (by first | rfl | assumption) ?_ | refine WS_on rfl (by first | rfl | assumption) ?_ | refine WS_move ?_ | refine WS_assign ?_ | refine WS_pick_t (by first | rfl | assumption) ?_ | refine WS_pick_f (by first | rfl | assumption) ?_ | refine WS_isnil ?_ | refine WS_notnil ?_ | refine WS_cmp rfl ?_ | refine WS_addi (by omega) ?_ | refine WS_subi (by omega) ?_ | refine WS_arith rfl ?_ | refine WS_not ?_ | refine WS_neg ?_ | refine WS_convert ?_ | refine WS_len_slice ?_ | refine WS_len_string ?_ | refine WS_fieldAddr ?_ | refine WS_load ?_ | refine WS_load_agg ?_ | refine WS_box_agg rfl ?_ | refine WS_box rfl ?_ | refine WS_makeFunc ?_ | refine WS_extract ?_ | refine WS_field ?_ | refine WS_build ?_ | refine WS_zero ?_ | refine WS_shift (by first | decide | omega) rfl ?_ | refine WS_strcmp rfl ?_ | refine WS_indexAddr (by first | decide | omega) ?_ | refine WS_alloc ?_ | refine WS_store rfl ?_ | refine WS_buildSlice (by decide) rfl rfl (by simp [Value.cells]) ?_ | refine WDK_go ?_ | refine WDT_go ?_ | refine WD_nil ?_ | refine WD_take_off rfl rfl (by first | rfl | assumption) ?_ | refine WD_load rfl ?_ | refine WD_load_on rfl rfl (by first | rfl | assumption) ?_ | refine WD_load_agg rfl ?_ | refine WD_load_agg_on rfl rfl (by first | rfl | assumption) ?_ | refine WD_take rfl rfl ?_ | refine WD_take_on rfl rfl (by first | rfl | assumption) rfl ?_ | refine WD_drop rfl rfl ?_ | refine WD_one rfl ?_) | (refine WS_guard rfl ?_ ?_ <;> intro hg) | (refine V_cond ?_ ?_ <;> intro hc <;> try (cases hc; done)))
          refine WS_append1 (lo := H6.fresh) (hL.ext (Ext.push _ _)) (by rw [push_fresh]; have := eX.fresh; have := p5.lt; omega) (by rw [mulS_len (by omega)]; omega) ?_
          intro v' h2 hL2 m2 hb
          have l5 := p5.lt
          have k5 : ObjIs h2 H5.fresh _ 24 true := m2.obj inferInstance (hL.notBlk (by omega))
          have e9 : Ext H5 h2 := m2.ext (eX.push' _) ((hL.ext (Ext.push _ _)).lower (by omega))
          rw [push_fresh] at hb
          obtain ⟨a'', rfl⟩ := hL2.isSlice
          repeat' (first | (first | refine V_seq ?_ | refine V_region ?_ | refine WS_nil ?_ | refine S_normal ?_ | refine V_block ?_ | refine B_normal ?_ | refine V_skip ?_ | refine V_exit ?_ | refine V_ret ?_ | refine S_exit ?_ | refine S_ret ?_ | refine B_exit ?_ | refine B_ret ?_ | refine B_pass rfl ?_ | refine WS_off rfl (by first | rfl | assumption) ?_ | refine WS_on rfl (by first | rfl | assumption) ?_ | refine WS_move ?_ | refine WS_assign ?_ | refine WS_pick_t (by first | rfl | assumption) ?_ | refine WS_pick_f (by first | rfl | assumption) ?_ | refine WS_isnil ?_ | refine WS_notnil ?_ | refine WS_cmp rfl ?_ | refine WS_addi (by omega) ?_ | refine WS_subi (by omega) ?_ | refine WS_arith rfl ?_ | refine WS_not ?_ | refine WS_neg ?_ | refine WS_convert ?_ | refine WS_len_slice ?_ | refine WS_len_string ?_ | refine WS_fieldAddr ?_ | refine WS_load ?_ | refine WS_load_agg ?_ | refine WS_box_agg rfl ?_ | refine WS_box rfl ?_ | refine WS_makeFunc ?_ | refine WS_extract ?_ | refine WS_field ?_ | refine WS_build ?_ | refine WS_zero ?_ | refine WS_shift (by first | decide | omega) rfl ?_ | refine WS_strcmp rfl ?_ | refine WS_indexAddr (by first | decide | omega) ?_ | refine WS_alloc ?_ | refine WS_store rfl ?_ | refine WS_buildSlice (by decide) rfl rfl (by simp [Value.cells]) ?_ | refine WDK_go ?_ | refine WDT_go ?_ | refine WD_nil ?_ | refine WD_take_off rfl rfl (by first | rfl | assumption) ?_ | refine WD_load rfl ?_ | refine WD_load_on rfl rfl (by first | rfl | assumption) ?_ | refine WD_load_agg rfl ?_ | refine WD_load_agg_on rfl rfl (by first | rfl | assumption) ?_ | refine WD_take rfl rfl ?_ | refine WD_take_on rfl rfl (by first | rfl | assumption) rfl ?_ | refine WD_drop rfl rfl ?_ | refine WD_one rfl ?_) | (refine WS_guard rfl ?_ ?_ <;> intro hg) | (refine V_cond ?_ ?_ <;> intro hc <;> try (cases hc; done)))
          refine ⟨_, ?_, i + 1, _, rfl, by omega, by omega, inferInstance, inferInstance, inferInstance, inferInstance, inferInstance, inferInstance, e9.putObj (Nat.le_refl _), inferInstance, ?_⟩
          · omega
          · rw [toNat_succ hi0, mulS_succ hr, hly]
            simp only [Int.toNat_natCast] at hL2 ⊢
            exact hL2.put (b := H5.fresh) (hL2.notBlk (by omega)) p5.even
      · have hi : i = la := by simp at hc; omega
        subst hi
        obtain ⟨a', rfl⟩ := hL.isSlice
        repeat' (first | (first | refine V_seq ?_ | refine V_region ?_ | refine WS_nil ?_ | refine S_normal ?_ | refine V_block ?_ | refine B_normal ?_ | refine V_skip ?_ | refine V_exit ?_ | refine V_ret ?_ | refine S_exit ?_ | refine S_ret ?_ | refine B_exit ?_ | refine B_ret ?_ | refine B_pass rfl ?_ | refine WS_off rfl (by first | rfl | assumption) ?_ | refine WS_on rfl (by first | rfl | assumption) ?_ | refine WS_move ?_ | refine WS_assign ?_ | refine WS_pick_t (by first | rfl | assumption) ?_ | refine WS_pick_f (by first | rfl | assumption) ?_ | refine WS_isnil ?_ | refine WS_notnil ?_ | refine WS_cmp rfl ?_ | refine WS_addi (by omega) ?_ | refine WS_subi (by omega) ?_ | refine WS_arith rfl ?_ | refine WS_not ?_ | refine WS_neg ?_ | refine WS_convert ?_ | refine WS_len_slice ?_ | refine WS_len_string ?_ | refine WS_fieldAddr ?_ | refine WS_load ?_ | refine WS_load_agg ?_ | refine WS_box_agg rfl ?_ | refine WS_box rfl ?_ | refine WS_makeFunc ?_ | refine WS_extract ?_ | refine WS_field ?_ | refine WS_build ?_ | refine WS_zero ?_ | refine WS_shift (by first | decide | omega) rfl ?_ | refine WS_strcmp rfl ?_ | refine WS_indexAddr (by first | decide | omega) ?_ | refine WS_alloc ?_ | refine WS_store rfl ?_ | refine WS_buildSlice (by decide) rfl rfl (by simp [Value.cells]) ?_ | refine WDK_go ?_ | refine WDT_go ?_ | refine WD_nil ?_ | refine WD_take_off rfl rfl (by first | rfl | assumption) ?_ | refine WD_load rfl ?_ | refine WD_load_on rfl rfl (by first | rfl | assumption) ?_ | refine WD_load_agg rfl ?_ | refine WD_load_agg_on rfl rfl (by first | rfl | assumption) ?_ | refine WD_take rfl rfl ?_ | refine WD_take_on rfl rfl (by first | rfl | assumption) rfl ?_ | refine WD_drop rfl rfl ?_ | refine WD_one rfl ?_) | (refine WS_guard rfl ?_ ?_ <;> intro hg) | (refine V_cond ?_ ?_ <;> intro hc <;> try (cases hc; done)))
        refine retK_ct ⟨(e15.trans eX).putObj (by omega), ?_⟩ (.inr rfl)
        rw [if_pos ⟨hck, hck2, rfl⟩]
        simp only [Int.toNat_natCast] at hL ⊢
        rw [hlx]
        exact ⟨_, rfl, (hL.put (b := H2.fresh) (hL.notBlk (by omega)) w3.even).lower (by omega)⟩
    · refine retK_ct ⟨e15.putObj (by omega), ?_⟩ (.inr rfl)
      rw [if_neg]
      rintro ⟨_, h2, _⟩
      simp_all
  · refine retK_ct ⟨e14.putObj (by omega), ?_⟩ (.inr rfl)
    rw [if_neg]
    rintro ⟨h2, _, _⟩
    simp_all
instance : CallIs Try.prog 15 := .of Try.func15 rfl rfl
end Go.Ideal

-- Lg
set_option linter.unusedSimpArgs false
set_option linter.unusedVariables false
namespace Go.Ideal
open Go Go.Proofs
/-! ### OnesCount64, as it reckons -/
def pop1 (x : Nat) : Nat := (((x >>> 1) &&& 6148914691236517205) + (x &&& 6148914691236517205)) % 2 ^ 64
def pop2 (x : Nat) : Nat := (((x >>> 2) &&& 3689348814741910323) + (x &&& 3689348814741910323)) % 2 ^ 64
def pop3 (x : Nat) : Nat := (((x >>> 4) + x) % 2 ^ 64) &&& 1085102592571150095
def pop4 (n x : Nat) : Nat := (x + (x >>> n)) % 2 ^ 64
def popS (x : Nat) : Nat := pop4 32 (pop4 16 (pop4 8 (pop3 (pop2 (pop1 x))))) &&& 127
theorem wrap_u64_nat (a : Nat) : IntKind.u64.wrap (a : Int) = (a % 2 ^ 64 : Nat) := by
  simp only [IntKind.wrap, IntKind.bits, IntKind.signed]; simp
theorem shr_c {a n : Nat} (ha : a < 2 ^ 64) (hn : n ≤ 64) : ((a : Int)).fdiv (2 ^ min (Int.toNat (n : Int)) IntKind.u64.bits) = (a >>> n : Nat) := by
  have := shr_u64 (a := a) (n := (n : Int)) (by omega) ha
  simpa using this
theorem and_i64 {a b : Nat} (ha : a < 2 ^ 64) (hb : b < 2 ^ 63) : ibits .and .i64 (IntKind.i64.wrap a) b = (a &&& b : Nat) := by
  show IntKind.i64.wrap (((BitVec.ofInt IntKind.i64.bits (IntKind.i64.wrap a)) &&& (BitVec.ofInt IntKind.i64.bits (b : Int))).toNat : Int) = _
  have h1 : (BitVec.ofInt IntKind.i64.bits (IntKind.i64.wrap a)).toNat = a := by
    have hb : IntKind.i64.bits = 64 := rfl
    simp only [BitVec.toNat_ofInt, hb]
    simp only [IntKind.wrap, IntKind.bits, IntKind.signed]
    simp; omega
  have h2 : (BitVec.ofInt IntKind.i64.bits (b : Int)).toNat = b := by
    have hb : IntKind.i64.bits = 64 := rfl
    simp only [BitVec.toNat_ofInt, hb]
    omega
  rw [BitVec.toNat_and, h1, h2]
  have := Nat.and_lt_two_pow a hb
  exact wrap_i64_id (by omega)
theorem pop1_lt (x : Nat) : pop1 x < 2 ^ 64 := Nat.mod_lt _ (by decide)
theorem pop2_lt (x : Nat) : pop2 x < 2 ^ 64 := Nat.mod_lt _ (by decide)
theorem pop3_lt (x : Nat) : pop3 x < 2 ^ 64 := Nat.and_lt_two_pow _ (by decide)
theorem pop4_lt (n x : Nat) : pop4 n x < 2 ^ 64 := Nat.mod_lt _ (by decide)
theorem OnesCount_spec (x : Nat) (hx : x < 2 ^ 64) (h : IHp) : EvX Try.prog 56 [.int .u64 x].toArray h (fun v h' => v = .int .i64 (popS x : Nat) ∧ h' = h) := by
  refine EvX_of Try.func56 rfl (by show 1 ≤ 35; decide) ?_
  repeat' (first | (first | refine V_seq ?_ | refine V_region ?_ | refine WS_nil ?_ | refine S_normal ?_ | refine V_block ?_ | refine B_normal ?_ | refine V_skip ?_ | refine V_exit ?_ | refine V_ret ?_ | refine S_exit ?_ | refine S_ret ?_ | refine B_exit ?_ | refine B_ret ?_ | refine B_pass rfl ?_ | refine WS_off rfl (by first | rfl | assumption) ?_ | refine WS_on rfl (by first | rfl | assumption) ?_ | refine WS_move ?_ | refine WS_assign ?_ | refine WS_pick_t (by first | rfl | assumption) ?_ | refine WS_pick_f (by first | rfl | assumption) ?_ | refine WS_isnil ?_ | refine WS_notnil ?_ | refine WS_cmp rfl ?_ | refine WS_addi (by omega) ?_ | refine WS_subi (by omega) ?_ | refine WS_arith rfl ?_ | refine WS_not ?_ | refine WS_neg ?_ | refine WS_convert ?_ | refine WS_len_slice ?_ | refine WS_len_string ?_ | refine WS_fieldAddr ?_ | refine WS_load ?_ | refine WS_load_agg ?_ | refine WS_box_agg rfl ?_ | refine WS_box rfl ?_ | refine WS_makeFunc ?_ | refine WS_extract ?_ | refine WS_field ?_ | refine WS_build ?_ | refine WS_zero ?_ | refine WS_shift (by first | decide | omega) rfl ?_ | refine WS_strcmp rfl ?_ | refine WS_indexAddr (by first | decide | omega) ?_ | refine WS_alloc ?_ | refine WS_store rfl ?_ | refine WS_buildSlice (by decide) rfl rfl (by simp [Value.cells]) ?_ | refine WDK_go ?_ | refine WDT_go ?_ | refine WD_nil ?_ | refine WD_take_off rfl rfl (by first | rfl | assumption) ?_ | refine WD_load rfl ?_ | refine WD_load_on rfl rfl (by first | rfl | assumption) ?_ | refine WD_load_agg rfl ?_ | refine WD_load_agg_on rfl rfl (by first | rfl | assumption) ?_ | refine WD_take rfl rfl ?_ | refine WD_take_on rfl rfl (by first | rfl | assumption) rfl ?_ | refine WD_drop rfl rfl ?_ | refine WD_one rfl ?_) | (refine WS_guard rfl ?_ ?_ <;> intro hg) | (refine V_cond ?_ ?_ <;> intro hc <;> try (cases hc; done)))
  refine retK_1 ⟨?_, rfl⟩ (.inr rfl)
  have st1 : ∀ x : Nat, x < 2 ^ 64 → IntKind.u64.wrap (ibits .and .u64 ((x : Int).fdiv (2 ^ min (1 : Int).toNat IntKind.u64.bits)) 6148914691236517205 + ibits .and .u64 (x : Int) 6148914691236517205) = (pop1 x : Nat) := by
    intro x hx
    have a1 : ibits .and .u64 ((x : Int).fdiv (2 ^ min (1 : Int).toNat IntKind.u64.bits)) 6148914691236517205 = ((x >>> 1 &&& 6148914691236517205 : Nat) : Int) := by
      rw [show (1 : Int) = ((1 : Nat) : Int) from rfl, shr_c hx (by decide)]; exact and_u64 (b := 6148914691236517205) (shr_lt _ hx) (by decide)
    have a2 : ibits .and .u64 (x : Int) 6148914691236517205 = ((x &&& 6148914691236517205 : Nat) : Int) := and_u64 (b := 6148914691236517205) hx (by decide)
    rw [a1, a2, ← Int.natCast_add, wrap_u64_nat]; rfl
  have st2 : ∀ x : Nat, x < 2 ^ 64 → IntKind.u64.wrap (ibits .and .u64 ((x : Int).fdiv (2 ^ min (2 : Int).toNat IntKind.u64.bits)) 3689348814741910323 + ibits .and .u64 (x : Int) 3689348814741910323) = (pop2 x : Nat) := by
    intro x hx
    have a1 : ibits .and .u64 ((x : Int).fdiv (2 ^ min (2 : Int).toNat IntKind.u64.bits)) 3689348814741910323 = ((x >>> 2 &&& 3689348814741910323 : Nat) : Int) := by
      rw [show (2 : Int).toNat = ((2 : Nat) : Int).toNat from rfl, shr_c hx (by decide)]; exact and_u64 (b := 3689348814741910323) (shr_lt _ hx) (by decide)
    have a2 : ibits .and .u64 (x : Int) 3689348814741910323 = ((x &&& 3689348814741910323 : Nat) : Int) := and_u64 (b := 3689348814741910323) hx (by decide)
    rw [a1, a2, ← Int.natCast_add, wrap_u64_nat]; rfl
  have st3 : ∀ x : Nat, x < 2 ^ 64 → ibits .and .u64 (IntKind.u64.wrap ((x : Int).fdiv (2 ^ min (4 : Int).toNat IntKind.u64.bits) + (x : Int))) 1085102592571150095 = (pop3 x : Nat) := by
    intro x hx
    rw [show (4 : Int).toNat = ((4 : Nat) : Int).toNat from rfl, shr_c hx (by decide), ← Int.natCast_add, wrap_u64_nat]
    exact and_u64 (b := 1085102592571150095) (Nat.mod_lt _ (by decide)) (by decide)
  have st8 : ∀ x : Nat, x < 2 ^ 64 → IntKind.u64.wrap ((x : Int) + (x : Int).fdiv (2 ^ min (8 : Int).toNat IntKind.u64.bits)) = (pop4 8 x : Nat) := by
    intro x hx
    rw [show (8 : Int).toNat = ((8 : Nat) : Int).toNat from rfl, shr_c hx (by decide), ← Int.natCast_add, wrap_u64_nat]; rfl
  have st16 : ∀ x : Nat, x < 2 ^ 64 → IntKind.u64.wrap ((x : Int) + (x : Int).fdiv (2 ^ min (16 : Int).toNat IntKind.u64.bits)) = (pop4 16 x : Nat) := by
    intro x hx
    rw [show (16 : Int).toNat = ((16 : Nat) : Int).toNat from rfl, shr_c hx (by decide), ← Int.natCast_add, wrap_u64_nat]; rfl
  have st32 : ∀ x : Nat, x < 2 ^ 64 → IntKind.u64.wrap ((x : Int) + (x : Int).fdiv (2 ^ min (32 : Int).toNat IntKind.u64.bits)) = (pop4 32 x : Nat) := by
    intro x hx
    rw [show (32 : Int).toNat = ((32 : Nat) : Int).toNat from rfl, shr_c hx (by decide), ← Int.natCast_add, wrap_u64_nat]; rfl
  rw [st1 x hx, st2 _ (pop1_lt _), st3 _ (pop2_lt _), st8 _ (pop3_lt _), st16 _ (pop4_lt _ _), st32 _ (pop4_lt _ _)]
  exact congrArg (Value.int .i64) (and_i64 (b := 127) (pop4_lt _ _) (by decide))
instance : CallIs Try.prog 56 := .of Try.func56 rfl rfl

def applyP (n : Nat) (xs : List Nat) (x : Nat) : Nat := orK (fun i => popS (xs.getD i 0 &&& x) &&& 1) n
theorem popS_lt (x : Nat) : popS x < 2 ^ 7 := Nat.and_lt_two_pow _ (by decide)
theorem Apply_spec (N : Int) (a : Option Addr) (len cap : Nat) (xs : List Nat) (x : Nat) (hx64 : x < 2 ^ 64) (h : IHp) (hx : SlIs h a len cap (u64s xs)) (h64 : ∀ x ∈ xs, x < 2 ^ 64) :
    EvX Try.prog 17 [.agg [.int .i64 N, .slice a len cap].toArray, .int .u64 x].toArray h (fun v h' => Ext h h' ∧ v = if checkS N xs = 0 ∧ belowS N x = true then .tuple [.int .u64 (applyP N.toNat xs x : Nat), .int .i64 0].toArray else .tuple [.int .u64 0, .int .i64 2].toArray) := by
  have hlen : xs.length = len := by have := hx.1; simpa [u64s] using this
  refine EvX_of Try.func17 rfl (by show 2 ≤ 39; decide) ?_
  repeat' (first | (first | refine V_seq ?_ | refine V_region ?_ | refine WS_nil ?_ | refine S_normal ?_ | refine V_block ?_ | refine B_normal ?_ | refine V_skip ?_ | refine V_exit ?_ | refine V_ret ?_ | refine S_exit ?_ | refine S_ret ?_ | refine B_exit ?_ | refine B_ret ?_ | refine B_pass rfl ?_ | refine WS_off rfl (by first | rfl | assumption) ?_ | refine WS_on rfl (by first | rfl | assumption) ?_ | refine WS_move ?_ | refine WS_assign ?_ | refine WS_pick_t (by first | rfl | assumption) ?_ | refine WS_pick_f (by first | rfl | assumption) ?_ | refine WS_isnil ?_ | refine WS_notnil ?_ | refine WS_cmp rfl ?_ | refine WS_addi (by omega) ?_ | refine WS_subi (by omega) ?_ | refine WS_arith rfl ?_ | refine WS_not ?_ | refine WS_neg ?_ | refine WS_convert ?_ | refine WS_len_slice ?_ | refine WS_len_string ?_ | refine WS_fieldAddr ?_ | refine WS_load ?_ | refine WS_load_agg ?_ | refine WS_box_agg rfl ?_ | refine WS_box rfl ?_ | refine WS_makeFunc ?_ | refine WS_extract ?_ | refine WS_field ?_ | refine WS_build ?_ | refine WS_zero ?_ | refine WS_shift (by first | decide | omega) rfl ?_ | refine WS_strcmp rfl ?_ | refine WS_indexAddr (by first | decide | omega) ?_ | refine WS_alloc ?_ | refine WS_store rfl ?_ | refine WS_buildSlice (by decide) rfl rfl (by simp [Value.cells]) ?_ | refine WDK_go ?_ | refine WDT_go ?_ | refine WD_nil ?_ | refine WD_take_off rfl rfl (by first | rfl | assumption) ?_ | refine WD_load rfl ?_ | refine WD_load_on rfl rfl (by first | rfl | assumption) ?_ | refine WD_load_agg rfl ?_ | refine WD_load_agg_on rfl rfl (by first | rfl | assumption) ?_ | refine WD_take rfl rfl ?_ | refine WD_take_on rfl rfl (by first | rfl | assumption) rfl ?_ | refine WD_drop rfl rfl ?_ | refine WD_one rfl ?_) | (refine WS_guard rfl ?_ ?_ <;> intro hg) | (refine V_cond ?_ ?_ <;> intro hc <;> try (cases hc; done)))
  have eX0 : Ext h (h.push (IObj.cells [Value.int IntKind.i64 N, Value.slice a len cap] 24 true)) := Ext.push _ _
  refine WS_call (Check_spec N a len cap xs _ (hx.ext eX0) h64) ?_
  rintro _ H ⟨rfl, eX1⟩
  have eX : Ext h H := eX0.trans eX1
  have c0 : CellIs H h.fresh (0 + 0) (.int .i64 N) := ⟨cell_ext eX1 (inferInstance : CellIs (h.push (IObj.cells [Value.int IntKind.i64 N, Value.slice a len cap] 24 true)) h.fresh (0 + 0) _).eq⟩
  have c1 : CellIs H h.fresh (0 + 1) (.slice a len cap) := ⟨cell_ext eX1 (inferInstance : CellIs (h.push (IObj.cells [Value.int IntKind.i64 N, Value.slice a len cap] 24 true)) h.fresh (0 + 1) _).eq⟩
  repeat' (first | (first | refine V_seq ?_ | refine V_region ?_ | refine WS_nil ?_ | refine S_normal ?_ | refine V_block ?_ | refine B_normal ?_ | refine V_skip ?_ | refine V_exit ?_ | refine V_ret ?_ | refine S_exit ?_ | refine S_ret ?_ | refine B_exit ?_ | refine B_ret ?_ | refine B_pass rfl ?_ | refine WS_off rfl (by first | rfl | assumption) ?_ | refine WS_on rfl (by first | rfl | assumption) ?_ | refine WS_move ?_ | refine WS_assign ?_ | refine WS_pick_t (by first | rfl | assumption) ?_ | refine WS_pick_f (by first | rfl | assumption) ?_ | refine WS_isnil ?_ | refine WS_notnil ?_ | refine WS_cmp rfl ?_ | refine WS_addi (by omega) ?_ | refine WS_subi (by omega) ?_ | refine WS_arith rfl ?_ | refine WS_not ?_ | refine WS_neg ?_ | refine WS_convert ?_ | refine WS_len_slice ?_ | refine WS_len_string ?_ | refine WS_fieldAddr ?_ | refine WS_load ?_ | refine WS_load_agg ?_ | refine WS_box_agg rfl ?_ | refine WS_box rfl ?_ | refine WS_makeFunc ?_ | refine WS_extract ?_ | refine WS_field ?_ | refine WS_build ?_ | refine WS_zero ?_ | refine WS_shift (by first | decide | omega) rfl ?_ | refine WS_strcmp rfl ?_ | refine WS_indexAddr (by first | decide | omega) ?_ | refine WS_alloc ?_ | refine WS_store rfl ?_ | refine WS_buildSlice (by decide) rfl rfl (by simp [Value.cells]) ?_ | refine WDK_go ?_ | refine WDT_go ?_ | refine WD_nil ?_ | refine WD_take_off rfl rfl (by first | rfl | assumption) ?_ | refine WD_load rfl ?_ | refine WD_load_on rfl rfl (by first | rfl | assumption) ?_ | refine WD_load_agg rfl ?_ | refine WD_load_agg_on rfl rfl (by first | rfl | assumption) ?_ | refine WD_take rfl rfl ?_ | refine WD_take_on rfl rfl (by first | rfl | assumption) rfl ?_ | refine WD_drop rfl rfl ?_ | refine WD_one rfl ?_) | (refine WS_guard rfl ?_ ?_ <;> intro hg) | (refine V_cond ?_ ?_ <;> intro hc <;> try (cases hc; done)))
  · have hck : checkS N xs = 0 := by simpa using hg
    have hN : 0 ≤ N ∧ N ≤ 64 ∧ (len : Int) = N := by
      obtain ⟨h1, h2, h3, _⟩ := checkS_zero hck
      omega
    refine WS_call (below_spec x hx64 N (by omega) _) ?_
    rintro _ H ⟨rfl, rfl⟩
    repeat' (first | (first | refine V_seq ?_ | refine V_region ?_ | refine WS_nil ?_ | refine S_normal ?_ | refine V_block ?_ | refine B_normal ?_ | refine V_skip ?_ | refine V_exit ?_ | refine V_ret ?_ | refine S_exit ?_ | refine S_ret ?_ | refine B_exit ?_ | refine B_ret ?_ | refine B_pass rfl ?_ | refine WS_off rfl (by first | rfl | assumption) ?_ | refine WS_on rfl (by first | rfl | assumption) ?_ | refine WS_move ?_ | refine WS_assign ?_ | refine WS_pick_t (by first | rfl | assumption) ?_ | refine WS_pick_f (by first | rfl | assumption) ?_ | refine WS_isnil ?_ | refine WS_notnil ?_ | refine WS_cmp rfl ?_ | refine WS_addi (by omega) ?_ | refine WS_subi (by omega) ?_ | refine WS_arith rfl ?_ | refine WS_not ?_ | refine WS_neg ?_ | refine WS_convert ?_ | refine WS_len_slice ?_ | refine WS_len_string ?_ | refine WS_fieldAddr ?_ | refine WS_load ?_ | refine WS_load_agg ?_ | refine WS_box_agg rfl ?_ | refine WS_box rfl ?_ | refine WS_makeFunc ?_ | refine WS_extract ?_ | refine WS_field ?_ | refine WS_build ?_ | refine WS_zero ?_ | refine WS_shift (by first | decide | omega) rfl ?_ | refine WS_strcmp rfl ?_ | refine WS_indexAddr (by first | decide | omega) ?_ | refine WS_alloc ?_ | refine WS_store rfl ?_ | refine WS_buildSlice (by decide) rfl rfl (by simp [Value.cells]) ?_ | refine WDK_go ?_ | refine WDT_go ?_ | refine WD_nil ?_ | refine WD_take_off rfl rfl (by first | rfl | assumption) ?_ | refine WD_load rfl ?_ | refine WD_load_on rfl rfl (by first | rfl | assumption) ?_ | refine WD_load_agg rfl ?_ | refine WD_load_agg_on rfl rfl (by first | rfl | assumption) ?_ | refine WD_take rfl rfl ?_ | refine WD_take_on rfl rfl (by first | rfl | assumption) rfl ?_ | refine WD_drop rfl rfl ?_ | refine WD_one rfl ?_) | (refine WS_guard rfl ?_ ?_ <;> intro hg) | (refine V_cond ?_ ?_ <;> intro hc <;> try (cases hc; done)))
    · refine retK_2 ⟨eX, ?_⟩ (.inr rfl)
      rw [if_neg]
      simp at hc; simp [hc]
    · have hbl : belowS N x = true := by simpa using hc
      refine V_loop (fun d s h' => ∃ i : Int, d = (N - i).toNat ∧ 0 ≤ i ∧ i ≤ N ∧ Get s 22 (.int .i64 i) ∧ Get s 21 (.int .i64 len) ∧ Get s 20 (.slice a len cap) ∧ Get s 1 (.int .u64 x) ∧ h' = H ∧ Get s 6 (.int .u64 (applyP i.toNat xs x : Nat))) N.toNat ⟨0, by omega, by omega, by omega, inferInstance, inferInstance, inferInstance, inferInstance, rfl, inferInstanceAs (Get _ 6 (.int .u64 (0 : Int)))⟩ ?_
      rintro d s h' ⟨i, rfl, hi0, hi1, g22, g21, g20, g1, rfl, g6⟩
      repeat' (first | (first | refine V_seq ?_ | refine V_region ?_ | refine WS_nil ?_ | refine S_normal ?_ | refine V_block ?_ | refine B_normal ?_ | refine V_skip ?_ | refine V_exit ?_ | refine V_ret ?_ | refine S_exit ?_ | refine S_ret ?_ | refine B_exit ?_ | refine B_ret ?_ | refine B_pass rfl ?_ | refine WS_off rfl (by first | rfl | assumption) ?_ | refine WS_on rfl (by first | rfl | assumption) ?_ | refine WS_move ?_ | refine WS_assign ?_ | refine WS_pick_t (by first | rfl | assumption) ?_ | refine WS_pick_f (by first | rfl | assumption) ?_ | refine WS_isnil ?_ | refine WS_notnil ?_ | refine WS_cmp rfl ?_ | refine WS_addi (by omega) ?_ | refine WS_subi (by omega) ?_ | refine WS_arith rfl ?_ | refine WS_not ?_ | refine WS_neg ?_ | refine WS_convert ?_ | refine WS_len_slice ?_ | refine WS_len_string ?_ | refine WS_fieldAddr ?_ | refine WS_load ?_ | refine WS_load_agg ?_ | refine WS_box_agg rfl ?_ | refine WS_box rfl ?_ | refine WS_makeFunc ?_ | refine WS_extract ?_ | refine WS_field ?_ | refine WS_build ?_ | refine WS_zero ?_ | refine WS_shift (by first | decide | omega) rfl ?_ | refine WS_strcmp rfl ?_ | refine WS_indexAddr (by first | decide | omega) ?_ | refine WS_alloc ?_ | refine WS_store rfl ?_ | refine WS_buildSlice (by decide) rfl rfl (by simp [Value.cells]) ?_ | refine WDK_go ?_ | refine WDT_go ?_ | refine WD_nil ?_ | refine WD_take_off rfl rfl (by first | rfl | assumption) ?_ | refine WD_load rfl ?_ | refine WD_load_on rfl rfl (by first | rfl | assumption) ?_ | refine WD_load_agg rfl ?_ | refine WD_load_agg_on rfl rfl (by first | rfl | assumption) ?_ | refine WD_take rfl rfl ?_ | refine WD_take_on rfl rfl (by first | rfl | assumption) rfl ?_ | refine WD_drop rfl rfl ?_ | refine WD_one rfl ?_) | (refine WS_guard rfl ?_ ?_ <;> intro hg) | (refine V_cond ?_ ?_ <;> intro hc <;> try (cases hc; done)))
      · have hi : i < len := by simpa using hc
        obtain ⟨b, v, rfl, hv, c2⟩ := (hx.ext eX).at hi0 hi
        obtain ⟨r, rfl, hr⟩ := u64s_at hv
        have hr64 := h64 r (List.mem_of_getElem? hr)
        repeat' (first | (first | refine V_seq ?_ | refine V_region ?_ | refine WS_nil ?_ | refine S_normal ?_ | refine V_block ?_ | refine B_normal ?_ | refine V_skip ?_ | refine V_exit ?_ | refine V_ret ?_ | refine S_exit ?_ | refine S_ret ?_ | refine B_exit ?_ | refine B_ret ?_ | refine B_pass rfl ?_ | refine WS_off rfl (by first | rfl | assumption) ?_ | refine WS_on rfl (by first | rfl | assumption) ?_ | refine WS_move ?_ | refine WS_assign ?_ | refine WS_pick_t (by first | rfl | assumption) ?_ | refine WS_pick_f (by first | rfl | assumption) ?_ | refine WS_isnil ?_ | refine WS_notnil ?_ | refine WS_cmp rfl ?_ | refine WS_addi (by omega) ?_ | refine WS_subi (by omega) ?_ | refine WS_arith rfl ?_ | refine WS_not ?_ | refine WS_neg ?_ | refine WS_convert ?_ | refine WS_len_slice ?_ | refine WS_len_string ?_ | refine WS_fieldAddr ?_ | refine WS_load ?_ | refine WS_load_agg ?_ | refine WS_box_agg rfl ?_ | refine WS_box rfl ?_ | refine WS_makeFunc ?_ | refine WS_extract ?_ | refine WS_field ?_ | refine WS_build ?_ | refine WS_zero ?_ | refine WS_shift (by first | decide | omega) rfl ?_ | refine WS_strcmp rfl ?_ | refine WS_indexAddr (by first | decide | omega) ?_ | refine WS_alloc ?_ | refine WS_store rfl ?_ | refine WS_buildSlice (by decide) rfl rfl (by simp [Value.cells]) ?_ | refine WDK_go ?_ | refine WDT_go ?_ | refine WD_nil ?_ | refine WD_take_off rfl rfl (by first | rfl | assumption) ?_ | refine WD_load rfl ?_ | refine WD_load_on rfl rfl (by first | rfl | assumption) ?_ | refine WD_load_agg rfl ?_ | refine WD_load_agg_on rfl rfl (by first | rfl | assumption) ?_ | refine WD_take rfl rfl ?_ | refine WD_take_on rfl rfl (by first | rfl | assumption) rfl ?_ | refine WD_drop rfl rfl ?_ | refine WD_one rfl ?_) | (refine WS_guard rfl ?_ ?_ <;> intro hg) | (refine V_cond ?_ ?_ <;> intro hc <;> try (cases hc; done)))
        rw [and_u64 hr64 hx64]
        have hand := Nat.and_lt_two_pow r hx64
        refine WS_call (OnesCount_spec (r &&& x) hand _) ?_
        rintro _ h' ⟨rfl, rfl⟩
        have hpop := popS_lt (r &&& x)
        have hb : ibits .and .i64 (popS (r &&& x) : Nat) 1 = (popS (r &&& x) &&& 1 : Nat) := by
          have := and_i64 (a := popS (r &&& x)) (b := 1) (by omega) (by decide)
          rw [wrap_i64_id (by omega)] at this; exact this
        repeat' (first | (first | refine V_seq ?_ | refine V_region ?_ | refine WS_nil ?_ | refine S_normal ?_ | refine V_block ?_ | refine B_normal ?_ | refine V_skip ?_ | refine V_exit ?_ | refine V_ret ?_ | refine S_exit ?_ | refine S_ret ?_ | refine B_exit ?_ | refine B_ret ?_ | refine B_pass rfl ?_ | refine WS_off rfl (by first | rfl | assumption) ?_ | refine WS_on rfl (by first | rfl | assumption) ?_ | refine WS_move ?_ | refine WS_assign ?_ | refine WS_pick_t (by first | rfl | assumption) ?_ | refine WS_pick_f (by first | rfl | assumption) ?_ | refine WS_isnil ?_ | refine WS_notnil ?_ | refine WS_cmp rfl ?_ | refine WS_addi (by omega) ?_ | refine WS_subi (by omega) ?_ | refine WS_arith rfl ?_ | refine WS_not ?_ | refine WS_neg ?_ | refine WS_convert ?_ | refine WS_len_slice ?_ | refine WS_len_string ?_ | refine WS_fieldAddr ?_ | refine WS_load ?_ | refine WS_load_agg ?_ | refine WS_box_agg rfl ?_ | refine WS_box rfl ?_ | refine WS_makeFunc ?_ | refine WS_extract ?_ | refine WS_field ?_ | refine WS_build ?_ | refine WS_zero ?_ | refine WS_shift (by first | decide | omega) rfl ?_ | refine WS_strcmp rfl ?_ | refine WS_indexAddr (by first | decide | omega) ?_ | refine WS_alloc ?_ | refine WS_store rfl ?_ | refine WS_buildSlice (by decide) rfl rfl (by simp [Value.cells]) ?_ | refine WDK_go ?_ | refine WDT_go ?_ | refine WD_nil ?_ | refine WD_take_off rfl rfl (by first | rfl | assumption) ?_ | refine WD_load rfl ?_ | refine WD_load_on rfl rfl (by first | rfl | assumption) ?_ | refine WD_load_agg rfl ?_ | refine WD_load_agg_on rfl rfl (by first | rfl | assumption) ?_ | refine WD_take rfl rfl ?_ | refine WD_take_on rfl rfl (by first | rfl | assumption) rfl ?_ | refine WD_drop rfl rfl ?_ | refine WD_one rfl ?_) | (refine WS_guard rfl ?_ ?_ <;> intro hg) | (refine V_cond ?_ ?_ <;> intro hc <;> try (cases hc; done)))
        have hodd : popS (r &&& x) &&& 1 ≤ 1 := bit_le _
        have hlt : applyP i.toNat xs x < 2 ^ 64 := Nat.lt_of_lt_of_le (orK_lt _ fun _ _ => bit_le _) (Nat.pow_le_pow_right (by decide) (by omega))
        rw [hb, wrap_u64_id (z := ((popS (r &&& x) &&& 1 : Nat) : Int)) (by omega) (by omega), shl_bit hodd hi0 (by omega), or_u64 hlt (bit_shl_lt hodd (by omega))]
        refine ⟨_, ?_, i + 1, rfl, by omega, by omega, inferInstance, inferInstance, inferInstance, inferInstance, rfl, ?_⟩
        · omega
        · rw [toNat_succ hi0]
          have : applyP (i.toNat + 1) xs x = applyP i.toNat xs x ||| (popS (r &&& x) &&& 1) <<< i.toNat := by
            simp only [applyP, orK]
            rw [List.getD_eq_getElem?_getD, hr]; rfl
          rw [this]; infer_instance
      · have hi : i = N := by simp at hc; omega
        subst hi
        refine retK_2 ⟨eX, ?_⟩ (.inr rfl)
        rw [if_pos ⟨hck, hbl⟩]
  · refine retK_2 ⟨eX, ?_⟩ (.inr rfl)
    rw [if_neg]
    simp at hg; simp [hg]
instance : CallIs Try.prog 17 := .of Try.func17 rfl rfl
end Go.Ideal

-- Lh
set_option linter.unusedSimpArgs false
set_option linter.unusedVariables false
namespace Go.Ideal
open Go Go.Proofs
theorem Clone_spec (a : Option Addr) (len cap : Nat) (vs : List Value) (h : IHp) (hx : SlIs h a len cap vs) (hl : len ≤ 2 ^ 30) :
    EvX Try.prog 57 [.slice a len cap].toArray h (fun v h' => Ext h h' ∧ Own h.fresh h' v vs 25) := by
  refine EvX_of Try.func57 rfl (by show 1 ≤ 8; decide) ?_
  repeat' (first | (first | refine V_seq ?_ | refine V_region ?_ | refine WS_nil ?_ | refine S_normal ?_ | refine V_block ?_ | refine B_normal ?_ | refine V_skip ?_ | refine V_exit ?_ | refine V_ret ?_ | refine S_exit ?_ | refine S_ret ?_ | refine B_exit ?_ | refine B_ret ?_ | refine B_pass rfl ?_ | refine WS_off rfl (by first | rfl | assumption) ?_ | refine WS_on rfl (by first | rfl | assumption) ?_ | refine WS_move ?_ | refine WS_assign ?_ | refine WS_pick_t (by first | rfl | assumption) ?_ | refine WS_pick_f (by first | rfl | assumption) ?_ | refine WS_isnil ?_ | refine WS_notnil ?_ | refine WS_cmp rfl ?_ | refine WS_addi (by omega) ?_ | refine WS_subi (by omega) ?_ | refine WS_arith rfl ?_ | refine WS_not ?_ | refine WS_neg ?_ | refine WS_convert ?_ | refine WS_len_slice ?_ | refine WS_len_string ?_ | refine WS_fieldAddr ?_ | refine WS_load ?_ | refine WS_load_agg ?_ | refine WS_box_agg rfl ?_ | refine WS_box rfl ?_ | refine WS_makeFunc ?_ | refine WS_extract ?_ | refine WS_field ?_ | refine WS_build ?_ | refine WS_zero ?_ | refine WS_shift (by first | decide | omega) rfl ?_ | refine WS_strcmp rfl ?_ | refine WS_indexAddr (by first | decide | omega) ?_ | refine WS_alloc ?_ | refine WS_store rfl ?_ | refine WS_buildSlice (by decide) rfl rfl (by simp [Value.cells]) ?_ | refine WDK_go ?_ | refine WDT_go ?_ | refine WD_nil ?_ | refine WD_take_off rfl rfl (by first | rfl | assumption) ?_ | refine WD_load rfl ?_ | refine WD_load_on rfl rfl (by first | rfl | assumption) ?_ | refine WD_load_agg rfl ?_ | refine WD_load_agg_on rfl rfl (by first | rfl | assumption) ?_ | refine WD_take rfl rfl ?_ | refine WD_take_on rfl rfl (by first | rfl | assumption) rfl ?_ | refine WD_drop rfl rfl ?_ | refine WD_one rfl ?_) | (refine WS_guard rfl ?_ ?_ <;> intro hg) | (refine V_cond ?_ ?_ <;> intro hc <;> try (cases hc; done)))
  · refine retK_1 ⟨Ext.refl h, ?_⟩ (.inr rfl)
    cases a with
    | none =>
      obtain ⟨h1, h2, h3⟩ := hx
      simp only at h3
      exact .inl ⟨rfl, List.eq_nil_of_length_eq_zero (by omega)⟩
    | some a => simp at hc
  · have e0 : Ext h (h.push (IObj.cells [] 25 true)) := Ext.push _ _
    refine WS_append_copy (lo := h.fresh) (hx.ext e0) (Nat.le_refl _) (by omega) ?_
    intro v' h' ho he
    repeat' (first | (first | refine V_seq ?_ | refine V_region ?_ | refine WS_nil ?_ | refine S_normal ?_ | refine V_block ?_ | refine B_normal ?_ | refine V_skip ?_ | refine V_exit ?_ | refine V_ret ?_ | refine S_exit ?_ | refine S_ret ?_ | refine B_exit ?_ | refine B_ret ?_ | refine B_pass rfl ?_ | refine WS_off rfl (by first | rfl | assumption) ?_ | refine WS_on rfl (by first | rfl | assumption) ?_ | refine WS_move ?_ | refine WS_assign ?_ | refine WS_pick_t (by first | rfl | assumption) ?_ | refine WS_pick_f (by first | rfl | assumption) ?_ | refine WS_isnil ?_ | refine WS_notnil ?_ | refine WS_cmp rfl ?_ | refine WS_addi (by omega) ?_ | refine WS_subi (by omega) ?_ | refine WS_arith rfl ?_ | refine WS_not ?_ | refine WS_neg ?_ | refine WS_convert ?_ | refine WS_len_slice ?_ | refine WS_len_string ?_ | refine WS_fieldAddr ?_ | refine WS_load ?_ | refine WS_load_agg ?_ | refine WS_box_agg rfl ?_ | refine WS_box rfl ?_ | refine WS_makeFunc ?_ | refine WS_extract ?_ | refine WS_field ?_ | refine WS_build ?_ | refine WS_zero ?_ | refine WS_shift (by first | decide | omega) rfl ?_ | refine WS_strcmp rfl ?_ | refine WS_indexAddr (by first | decide | omega) ?_ | refine WS_alloc ?_ | refine WS_store rfl ?_ | refine WS_buildSlice (by decide) rfl rfl (by simp [Value.cells]) ?_ | refine WDK_go ?_ | refine WDT_go ?_ | refine WD_nil ?_ | refine WD_take_off rfl rfl (by first | rfl | assumption) ?_ | refine WD_load rfl ?_ | refine WD_load_on rfl rfl (by first | rfl | assumption) ?_ | refine WD_load_agg rfl ?_ | refine WD_load_agg_on rfl rfl (by first | rfl | assumption) ?_ | refine WD_take rfl rfl ?_ | refine WD_take_on rfl rfl (by first | rfl | assumption) rfl ?_ | refine WD_drop rfl rfl ?_ | refine WD_one rfl ?_) | (refine WS_guard rfl ?_ ?_ <;> intro hg) | (refine V_cond ?_ ?_ <;> intro hc <;> try (cases hc; done)))
    exact retK_1 ⟨e0.trans he, ho⟩ (.inr rfl)
instance : CallIs Try.prog 57 := .of Try.func57 rfl rfl

/-! ### Elimination, as it goes -/
def bitAt (r j : Nat) : Bool := (r >>> j) &&& 1 = 1
/-- the first row from i on, below i + n, that has bit j -/
def findRow (rows : List Nat) (j : Nat) : Nat → Nat → Option Nat
  | _, 0 => none
  | i, n + 1 => if bitAt (rows.getD i 0) j then some i else findRow rows j (i + 1) n
def swapRows (rows : List Nat) (i k : Nat) : List Nat := (rows.set i (rows.getD k 0)).set k (rows.getD i 0)
/-- rows from k on, n of them: row r is added where bit j is -/
def addRows (j r : Nat) : Nat → Nat → List Nat → List Nat
  | _, 0, rows => rows
  | k, n + 1, rows => addRows j r (k + 1) n (if bitAt (rows.getD k 0) j then rows.set k (rows.getD k 0 ^^^ rows.getD r 0) else rows)
def rankStep (j : Nat) (st : List Nat × Nat) : List Nat × Nat :=
  match findRow st.1 j st.2 (st.1.length - st.2) with
  | none => st
  | some i => (addRows j st.2 (st.2 + 1) (st.1.length - (st.2 + 1)) (swapRows st.1 i st.2), st.2 + 1)
def rankK (rows : List Nat) : Nat → List Nat × Nat
  | 0 => (rows, 0)
  | j + 1 => rankStep j (rankK rows j)
theorem swapRows_len (rows : List Nat) (i k : Nat) : (swapRows rows i k).length = rows.length := by simp [swapRows]
theorem addRows_len (j r : Nat) : ∀ (n k : Nat) (rows : List Nat), (addRows j r k n rows).length = rows.length := by
  intro n
  induction n with
  | zero => intro k rows; rfl
  | succ n ih => intro k rows; simp only [addRows]; rw [ih]; split <;> simp
theorem rankStep_len (j : Nat) (st : List Nat × Nat) : (rankStep j st).1.length = st.1.length := by
  unfold rankStep
  split
  · rfl
  · rw [addRows_len, swapRows_len]
theorem rankK_len (rows : List Nat) : ∀ j, (rankK rows j).1.length = rows.length := by
  intro j
  induction j with
  | zero => rfl
  | succ j ih => rw [rankK, rankStep_len, ih]
def All64 (rows : List Nat) : Prop := ∀ x ∈ rows, x < 2 ^ 64
theorem All64.set {rows : List Nat} (h : All64 rows) {i w : Nat} (hw : w < 2 ^ 64) : All64 (rows.set i w) := fun x hx => by
  rcases List.mem_or_eq_of_mem_set hx with h1 | h1
  · exact h x h1
  · omega
theorem All64.get {rows : List Nat} (h : All64 rows) (i : Nat) : rows.getD i 0 < 2 ^ 64 := getD_lt h i
theorem All64.swap {rows : List Nat} (h : All64 rows) (i k : Nat) : All64 (swapRows rows i k) := (h.set (h.get k)).set (h.get i)
theorem All64.addRows (j r : Nat) : ∀ (n k : Nat) (rows : List Nat), All64 rows → All64 (addRows j r k n rows) := by
  intro n
  induction n with
  | zero => intro k rows h; exact h
  | succ n ih =>
    intro k rows h
    simp only [Go.Ideal.addRows]
    refine ih _ _ ?_
    split
    · exact h.set (Nat.xor_lt_two_pow (h.get k) (h.get r))
    · exact h
theorem u64s_set (rows : List Nat) (i w : Nat) : u64s (rows.set i w) = (u64s rows).set i (.int .u64 w) := by simp [u64s, List.map_set]
theorem u64s_get {rows : List Nat} {i : Nat} (hi : i < rows.length) : (u64s rows)[i]? = some (.int .u64 (rows.getD i 0 : Nat)) := by
  simp [u64s, hi, List.getD_eq_getElem?_getD]
theorem cell_u64 {h : IHp} {b i : Nat} {rows : List Nat} {t : TypeId} {x : Bool} (o : ObjIs h b (u64s rows) t x) (hi : i < rows.length) : CellIs h b (0 + i * 1) (.int .u64 (rows.getD i 0 : Nat)) := cell_at o (u64s_get hi)
theorem set_u64 {rows : List Nat} {i : Nat} (w : Nat) (hi : i < rows.length) : SetIs (u64s rows) (0 + i * 1) [.int .u64 w] (u64s (rows.set i w)) := by
  rw [u64s_set]; exact set_at _ (by simpa [u64s] using hi)
end Go.Ideal

-- Li
set_option linter.unusedSimpArgs false
set_option linter.unusedVariables false
namespace Go.Ideal
open Go Go.Proofs
theorem bitAt_eq (r j : Nat) : bitAt r j = decide (r >>> j &&& 1 = 1) := rfl
theorem bit_cases (r j : Nat) : r >>> j &&& 1 = 0 ∨ r >>> j &&& 1 = 1 := by have := bit_le (r >>> j); omega
theorem findRow_skip {rows : List Nat} {j i n : Nat} (hb : bitAt (rows.getD i 0) j = false) : findRow rows j i (n + 1) = findRow rows j (i + 1) n := by rw [findRow, hb]; rfl
theorem findRow_hit {rows : List Nat} {j i n : Nat} (hb : bitAt (rows.getD i 0) j = true) : findRow rows j i (n + 1) = some i := by rw [findRow, hb]; rfl
theorem swap_two {rows : List Nat} {i k : Nat} : (rows.set i (rows.getD k 0)).set k (rows.getD i 0) = swapRows rows i k := rfl
set_option maxHeartbeats 1000000 in
theorem Rank_spec (N : Int) (a : Option Addr) (len cap : Nat) (xs : List Nat) (h : IHp) (hx : SlIs h a len cap (u64s xs)) (h64 : All64 xs) :
    EvX Try.prog 19 [.agg [.int .i64 N, .slice a len cap].toArray].toArray h (fun v h' => Ext h h' ∧ v = if checkS N xs = 0 then .tuple [.int .i64 ((rankK xs xs.length).2 : Nat), .int .i64 0].toArray else .tuple [.int .i64 0, .int .i64 (checkS N xs)].toArray) := by
  have hlen : xs.length = len := by have := hx.1; simpa [u64s] using this
  refine EvX_of Try.func19 rfl (by show 1 ≤ 82; decide) ?_
  repeat' (first | (first | refine V_seq ?_ | refine V_region ?_ | refine WS_nil ?_ | refine S_normal ?_ | refine V_block ?_ | refine B_normal ?_ | refine V_skip ?_ | refine V_exit ?_ | refine V_ret ?_ | refine S_exit ?_ | refine S_ret ?_ | refine B_exit ?_ | refine B_ret ?_ | refine B_pass rfl ?_ | refine WS_off rfl (by first | rfl | assumption) ?_ | refine WS_on rfl (by first | rfl | assumption) ?_ | refine WS_move ?_ | refine WS_assign ?_ | refine WS_pick_t (by first | rfl | assumption) ?_ | refine WS_pick_f (by first | rfl | assumption) ?_ | refine WS_isnil ?_ | refine WS_notnil ?_ | refine WS_cmp rfl ?_ | refine WS_addi (by omega) ?_ | refine WS_subi (by omega) ?_ | refine WS_arith rfl ?_ | refine WS_not ?_ | refine WS_neg ?_ | refine WS_convert ?_ | refine WS_len_slice ?_ | refine WS_len_string ?_ | refine WS_fieldAddr ?_ | refine WS_load ?_ | refine WS_load_agg ?_ | refine WS_box_agg rfl ?_ | refine WS_box rfl ?_ | refine WS_makeFunc ?_ | refine WS_extract ?_ | refine WS_field ?_ | refine WS_build ?_ | refine WS_zero ?_ | refine WS_shift (by first | decide | omega) rfl ?_ | refine WS_strcmp rfl ?_ | refine WS_indexAddr (by first | decide | omega) ?_ | refine WS_alloc ?_ | refine WS_store rfl ?_ | refine WS_buildSlice (by decide) rfl rfl (by simp [Value.cells]) ?_ | refine WDK_go ?_ | refine WDT_go ?_ | refine WD_nil ?_ | refine WD_take_off rfl rfl (by first | rfl | assumption) ?_ | refine WD_load rfl ?_ | refine WD_load_on rfl rfl (by first | rfl | assumption) ?_ | refine WD_load_agg rfl ?_ | refine WD_load_agg_on rfl rfl (by first | rfl | assumption) ?_ | refine WD_take rfl rfl ?_ | refine WD_take_on rfl rfl (by first | rfl | assumption) rfl ?_ | refine WD_drop rfl rfl ?_ | refine WD_one rfl ?_) | (refine WS_guard rfl ?_ ?_ <;> intro hg) | (refine V_cond ?_ ?_ <;> intro hc <;> try (cases hc; done)))
  have eX0 : Ext h (h.push (IObj.cells [Value.int IntKind.i64 N, Value.slice a len cap] 24 true)) := Ext.push _ _
  refine WS_call (Check_spec N a len cap xs _ (hx.ext eX0) h64) ?_
  rintro _ H ⟨rfl, eX1⟩
  have eX : Ext h H := eX0.trans eX1
  have b1 : ObjIs H h.fresh [.int .i64 N, .slice a len cap] 24 true := inferInstance
  repeat' (first | (first | refine V_seq ?_ | refine V_region ?_ | refine WS_nil ?_ | refine S_normal ?_ | refine V_block ?_ | refine B_normal ?_ | refine V_skip ?_ | refine V_exit ?_ | refine V_ret ?_ | refine S_exit ?_ | refine S_ret ?_ | refine B_exit ?_ | refine B_ret ?_ | refine B_pass rfl ?_ | refine WS_off rfl (by first | rfl | assumption) ?_ | refine WS_on rfl (by first | rfl | assumption) ?_ | refine WS_move ?_ | refine WS_assign ?_ | refine WS_pick_t (by first | rfl | assumption) ?_ | refine WS_pick_f (by first | rfl | assumption) ?_ | refine WS_isnil ?_ | refine WS_notnil ?_ | refine WS_cmp rfl ?_ | refine WS_addi (by omega) ?_ | refine WS_subi (by omega) ?_ | refine WS_arith rfl ?_ | refine WS_not ?_ | refine WS_neg ?_ | refine WS_convert ?_ | refine WS_len_slice ?_ | refine WS_len_string ?_ | refine WS_fieldAddr ?_ | refine WS_load ?_ | refine WS_load_agg ?_ | refine WS_box_agg rfl ?_ | refine WS_box rfl ?_ | refine WS_makeFunc ?_ | refine WS_extract ?_ | refine WS_field ?_ | refine WS_build ?_ | refine WS_zero ?_ | refine WS_shift (by first | decide | omega) rfl ?_ | refine WS_strcmp rfl ?_ | refine WS_indexAddr (by first | decide | omega) ?_ | refine WS_alloc ?_ | refine WS_store rfl ?_ | refine WS_buildSlice (by decide) rfl rfl (by simp [Value.cells]) ?_ | refine WDK_go ?_ | refine WDT_go ?_ | refine WD_nil ?_ | refine WD_take_off rfl rfl (by first | rfl | assumption) ?_ | refine WD_load rfl ?_ | refine WD_load_on rfl rfl (by first | rfl | assumption) ?_ | refine WD_load_agg rfl ?_ | refine WD_load_agg_on rfl rfl (by first | rfl | assumption) ?_ | refine WD_take rfl rfl ?_ | refine WD_take_on rfl rfl (by first | rfl | assumption) rfl ?_ | refine WD_drop rfl rfl ?_ | refine WD_one rfl ?_) | (refine WS_guard rfl ?_ ?_ <;> intro hg) | (refine V_cond ?_ ?_ <;> intro hc <;> try (cases hc; done)))
  · refine retK_2 ⟨eX, ?_⟩ (.inr rfl)
    rw [if_neg]
    simp at hc; simp [hc]
  · have hck : checkS N xs = 0 := by simpa using hc
    obtain ⟨hN0, hN1, hN2, _⟩ := checkS_zero hck
    refine WS_call (Clone_spec a len cap (u64s xs) H (hx.ext eX) (by omega)) ?_
    rintro v H2 ⟨eX2, hO⟩
    have b2 : ObjIs H2 h.fresh [.int .i64 N, .slice a len cap] 24 true := inferInstance
    repeat' (first | (first | refine V_seq ?_ | refine V_region ?_ | refine WS_nil ?_ | refine S_normal ?_ | refine V_block ?_ | refine B_normal ?_ | refine V_skip ?_ | refine V_exit ?_ | refine V_ret ?_ | refine S_exit ?_ | refine S_ret ?_ | refine B_exit ?_ | refine B_ret ?_ | refine B_pass rfl ?_ | refine WS_off rfl (by first | rfl | assumption) ?_ | refine WS_on rfl (by first | rfl | assumption) ?_ | refine WS_move ?_ | refine WS_assign ?_ | refine WS_pick_t (by first | rfl | assumption) ?_ | refine WS_pick_f (by first | rfl | assumption) ?_ | refine WS_isnil ?_ | refine WS_notnil ?_ | refine WS_cmp rfl ?_ | refine WS_addi (by omega) ?_ | refine WS_subi (by omega) ?_ | refine WS_arith rfl ?_ | refine WS_not ?_ | refine WS_neg ?_ | refine WS_convert ?_ | refine WS_len_slice ?_ | refine WS_len_string ?_ | refine WS_fieldAddr ?_ | refine WS_load ?_ | refine WS_load_agg ?_ | refine WS_box_agg rfl ?_ | refine WS_box rfl ?_ | refine WS_makeFunc ?_ | refine WS_extract ?_ | refine WS_field ?_ | refine WS_build ?_ | refine WS_zero ?_ | refine WS_shift (by first | decide | omega) rfl ?_ | refine WS_strcmp rfl ?_ | refine WS_indexAddr (by first | decide | omega) ?_ | refine WS_alloc ?_ | refine WS_store rfl ?_ | refine WS_buildSlice (by decide) rfl rfl (by simp [Value.cells]) ?_ | refine WDK_go ?_ | refine WDT_go ?_ | refine WD_nil ?_ | refine WD_take_off rfl rfl (by first | rfl | assumption) ?_ | refine WD_load rfl ?_ | refine WD_load_on rfl rfl (by first | rfl | assumption) ?_ | refine WD_load_agg rfl ?_ | refine WD_load_agg_on rfl rfl (by first | rfl | assumption) ?_ | refine WD_take rfl rfl ?_ | refine WD_take_on rfl rfl (by first | rfl | assumption) rfl ?_ | refine WD_drop rfl rfl ?_ | refine WD_one rfl ?_) | (refine WS_guard rfl ?_ ?_ <;> intro hg) | (refine V_cond ?_ ?_ <;> intro hc <;> try (cases hc; done)))
    refine V_loop (fun d s h' => ∃ (j : Int) (rows : List Nat) (rank : Nat), d = (N - j).toNat ∧ 0 ≤ j ∧ j ≤ N ∧ rankK xs j.toNat = (rows, rank) ∧ (rank : Int) ≤ j ∧ All64 rows ∧ Get s 20 (.int .i64 j) ∧ Get s 19 (.int .i64 N) ∧ Get s 1 (.pointer (some (ad h.fresh 0))) ∧ Get s 5 v ∧ Get s 6 (.int .i64 rank) ∧ Ext H h' ∧ Own H.fresh h' v (u64s rows) 25) N.toNat
      ⟨0, xs, 0, by omega, by omega, by omega, rfl, by omega, h64, inferInstance, inferInstance, inferInstance, inferInstance, inferInstanceAs (Get _ 6 (.int .i64 (0 : Int))), eX2, hO⟩ ?_
    rintro d s h' ⟨j, rows, rank, rfl, hj0, hj1, hrk, hrj, h64r, g20, g19, g1, g5, g6, eH, hOw⟩
    have hrl : rows.length = len := by have := rankK_len xs j.toNat; rw [hrk] at this; simpa [hlen] using this
    repeat' (first | (first | refine V_seq ?_ | refine V_region ?_ | refine WS_nil ?_ | refine S_normal ?_ | refine V_block ?_ | refine B_normal ?_ | refine V_skip ?_ | refine V_exit ?_ | refine V_ret ?_ | refine S_exit ?_ | refine S_ret ?_ | refine B_exit ?_ | refine B_ret ?_ | refine B_pass rfl ?_ | refine WS_off rfl (by first | rfl | assumption) ?_ | refine WS_on rfl (by first | rfl | assumption) ?_ | refine WS_move ?_ | refine WS_assign ?_ | refine WS_pick_t (by first | rfl | assumption) ?_ | refine WS_pick_f (by first | rfl | assumption) ?_ | refine WS_isnil ?_ | refine WS_notnil ?_ | refine WS_cmp rfl ?_ | refine WS_addi (by omega) ?_ | refine WS_subi (by omega) ?_ | refine WS_arith rfl ?_ | refine WS_not ?_ | refine WS_neg ?_ | refine WS_convert ?_ | refine WS_len_slice ?_ | refine WS_len_string ?_ | refine WS_fieldAddr ?_ | refine WS_load ?_ | refine WS_load_agg ?_ | refine WS_box_agg rfl ?_ | refine WS_box rfl ?_ | refine WS_makeFunc ?_ | refine WS_extract ?_ | refine WS_field ?_ | refine WS_build ?_ | refine WS_zero ?_ | refine WS_shift (by first | decide | omega) rfl ?_ | refine WS_strcmp rfl ?_ | refine WS_indexAddr (by first | decide | omega) ?_ | refine WS_alloc ?_ | refine WS_store rfl ?_ | refine WS_buildSlice (by decide) rfl rfl (by simp [Value.cells]) ?_ | refine WDK_go ?_ | refine WDT_go ?_ | refine WD_nil ?_ | refine WD_take_off rfl rfl (by first | rfl | assumption) ?_ | refine WD_load rfl ?_ | refine WD_load_on rfl rfl (by first | rfl | assumption) ?_ | refine WD_load_agg rfl ?_ | refine WD_load_agg_on rfl rfl (by first | rfl | assumption) ?_ | refine WD_take rfl rfl ?_ | refine WD_take_on rfl rfl (by first | rfl | assumption) rfl ?_ | refine WD_drop rfl rfl ?_ | refine WD_one rfl ?_) | (refine WS_guard rfl ?_ ?_ <;> intro hg) | (refine V_cond ?_ ?_ <;> intro hc <;> try (cases hc; done)))
    · have hj : j < N := by simpa using hc
      refine V_loop (fun d s h'' => ∃ (i : Int), d = (N - i).toNat ∧ rank ≤ i ∧ i ≤ N ∧ findRow rows j.toNat rank (rows.length - rank) = findRow rows j.toNat i.toNat (rows.length - i.toNat) ∧ Get s 8 (.int .i64 i) ∧ Get s 7 (.int .i64 j) ∧ Get s 20 (.int .i64 j) ∧ Get s 19 (.int .i64 N) ∧ Get s 1 (.pointer (some (ad h.fresh 0))) ∧ Get s 5 v ∧ Get s 6 (.int .i64 rank) ∧ h'' = h') (N - rank).toNat
        ⟨rank, by omega, by omega, by omega, by simp, inferInstance, inferInstance, inferInstance, inferInstance, inferInstance, inferInstance, inferInstance, rfl⟩ ?_
      rintro d s h'' ⟨i, rfl, hi0, hi1, hfr, y8, y7, y20, y19, y1, y5, y6, rfl⟩
      have b3 : ObjIs h'' h.fresh [.int .i64 N, .slice a len cap] 24 true := ⟨b1.even, eH.new _ _ b1.eq⟩
      repeat' (first | (first | refine V_seq ?_ | refine V_region ?_ | refine WS_nil ?_ | refine S_normal ?_ | refine V_block ?_ | refine B_normal ?_ | refine V_skip ?_ | refine V_exit ?_ | refine V_ret ?_ | refine S_exit ?_ | refine S_ret ?_ | refine B_exit ?_ | refine B_ret ?_ | refine B_pass rfl ?_ | refine WS_off rfl (by first | rfl | assumption) ?_ | refine WS_on rfl (by first | rfl | assumption) ?_ | refine WS_move ?_ | refine WS_assign ?_ | refine WS_pick_t (by first | rfl | assumption) ?_ | refine WS_pick_f (by first | rfl | assumption) ?_ | refine WS_isnil ?_ | refine WS_notnil ?_ | refine WS_cmp rfl ?_ | refine WS_addi (by omega) ?_ | refine WS_subi (by omega) ?_ | refine WS_arith rfl ?_ | refine WS_not ?_ | refine WS_neg ?_ | refine WS_convert ?_ | refine WS_len_slice ?_ | refine WS_len_string ?_ | refine WS_fieldAddr ?_ | refine WS_load ?_ | refine WS_load_agg ?_ | refine WS_box_agg rfl ?_ | refine WS_box rfl ?_ | refine WS_makeFunc ?_ | refine WS_extract ?_ | refine WS_field ?_ | refine WS_build ?_ | refine WS_zero ?_ | refine WS_shift (by first | decide | omega) rfl ?_ | refine WS_strcmp rfl ?_ | refine WS_indexAddr (by first | decide | omega) ?_ | refine WS_alloc ?_ | refine WS_store rfl ?_ | refine WS_buildSlice (by decide) rfl rfl (by simp [Value.cells]) ?_ | refine WDK_go ?_ | refine WDT_go ?_ | refine WD_nil ?_ | refine WD_take_off rfl rfl (by first | rfl | assumption) ?_ | refine WD_load rfl ?_ | refine WD_load_on rfl rfl (by first | rfl | assumption) ?_ | refine WD_load_agg rfl ?_ | refine WD_load_agg_on rfl rfl (by first | rfl | assumption) ?_ | refine WD_take rfl rfl ?_ | refine WD_take_on rfl rfl (by first | rfl | assumption) rfl ?_ | refine WD_drop rfl rfl ?_ | refine WD_one rfl ?_) | (refine WS_guard rfl ?_ ?_ <;> intro hg) | (refine V_cond ?_ ?_ <;> intro hc <;> try (cases hc; done)))
      · have hi : i < N := by simpa using hc
        obtain ⟨b, y, hb, rfl, ob⟩ := hOw.at (by rw [u64s_len]; omega)
        have hbf : H.fresh ≤ b := hb
        have c1 : CellIs h'' b (0 + i.toNat * 1) _ := cell_u64 (rows := rows) (i := i.toNat) ob (by omega)
        have hri := h64r.get i.toNat
        have hbi : 0 ≤ i ∧ i < ((u64s rows).length : Int) := by rw [u64s_len]; omega
        repeat' (first | (first | refine V_seq ?_ | refine V_region ?_ | refine WS_nil ?_ | refine S_normal ?_ | refine V_block ?_ | refine B_normal ?_ | refine V_skip ?_ | refine V_exit ?_ | refine V_ret ?_ | refine S_exit ?_ | refine S_ret ?_ | refine B_exit ?_ | refine B_ret ?_ | refine B_pass rfl ?_ | refine WS_off rfl (by first | rfl | assumption) ?_ | refine WS_on rfl (by first | rfl | assumption) ?_ | refine WS_move ?_ | refine WS_assign ?_ | refine WS_pick_t (by first | rfl | assumption) ?_ | refine WS_pick_f (by first | rfl | assumption) ?_ | refine WS_isnil ?_ | refine WS_notnil ?_ | refine WS_cmp rfl ?_ | refine WS_addi (by omega) ?_ | refine WS_subi (by omega) ?_ | refine WS_arith rfl ?_ | refine WS_not ?_ | refine WS_neg ?_ | refine WS_convert ?_ | refine WS_len_slice ?_ | refine WS_len_string ?_ | refine WS_fieldAddr ?_ | refine WS_load ?_ | refine WS_load_agg ?_ | refine WS_box_agg rfl ?_ | refine WS_box rfl ?_ | refine WS_makeFunc ?_ | refine WS_extract ?_ | refine WS_field ?_ | refine WS_build ?_ | refine WS_zero ?_ | refine WS_shift (by first | decide | omega) rfl ?_ | refine WS_strcmp rfl ?_ | refine WS_indexAddr (by first | decide | omega) ?_ | refine WS_alloc ?_ | refine WS_store rfl ?_ | refine WS_buildSlice (by decide) rfl rfl (by simp [Value.cells]) ?_ | refine WDK_go ?_ | refine WDT_go ?_ | refine WD_nil ?_ | refine WD_take_off rfl rfl (by first | rfl | assumption) ?_ | refine WD_load rfl ?_ | refine WD_load_on rfl rfl (by first | rfl | assumption) ?_ | refine WD_load_agg rfl ?_ | refine WD_load_agg_on rfl rfl (by first | rfl | assumption) ?_ | refine WD_take rfl rfl ?_ | refine WD_take_on rfl rfl (by first | rfl | assumption) rfl ?_ | refine WD_drop rfl rfl ?_ | refine WD_one rfl ?_) | (refine WS_guard rfl ?_ ?_ <;> intro hg) | (refine V_cond ?_ ?_ <;> intro hc <;> try (cases hc; done)))
        · rename_i hcc
          rw [shr_u64 hj0 hri, and1_u64 (shr_lt _ hri)] at hc
          have hb0 : bitAt (rows.getD i.toNat 0) j.toNat = false := by
            have h1 : rows.getD i.toNat 0 >>> j.toNat &&& 1 = 0 := Int.ofNat_inj.mp (show ((rows.getD i.toNat 0 >>> j.toNat &&& 1 : Nat) : Int) = ((0 : Nat) : Int) from of_decide_eq_true hc)
            unfold bitAt; rw [h1]; rfl
          refine ⟨_, ?_, i + 1, rfl, by omega, by omega, ?_, inferInstance, inferInstance, inferInstance, inferInstance, inferInstance, inferInstance, inferInstance, rfl⟩
          · omega
          · rw [hfr, toNat_succ (by omega), show rows.length - i.toNat = (rows.length - (i.toNat + 1)) + 1 by omega, findRow_skip hb0]
        · rename_i hcc
          rw [shr_u64 hj0 hri, and1_u64 (shr_lt _ hri)] at hc
          have hb1 : bitAt (rows.getD i.toNat 0) j.toNat = true := by
            rcases bit_cases (rows.getD i.toNat 0) j.toNat with h1 | h1
            · exact absurd (congrArg (Nat.cast (R := Int)) h1) (of_decide_eq_false hc)
            · unfold bitAt; rw [h1]; rfl
          have hfi : findRow rows j.toNat rank (rows.length - rank) = some i.toNat := by
            rw [hfr, show rows.length - i.toNat = (rows.length - (i.toNat + 1)) + 1 by omega, findRow_hit hb1]
          have hbr : 0 ≤ (rank : Int) ∧ (rank : Int) < ((u64s rows).length : Int) := by rw [u64s_len]; omega
          have c2 : CellIs h'' b (0 + (rank : Int).toNat * 1) (.int .u64 (rows.getD rank 0 : Nat)) := by rw [Int.toNat_natCast]; exact cell_u64 ob (by omega)
          have s1 : SetIs (u64s rows) (0 + i.toNat * 1) [.int .u64 (rows.getD rank 0 : Nat)] (u64s (rows.set i.toNat (rows.getD rank 0))) := set_u64 _ (by omega)
          have s2 : SetIs (u64s (rows.set i.toNat (rows.getD rank 0))) (0 + (rank : Int).toNat * 1) [.int .u64 (rows.getD i.toNat 0 : Nat)] (u64s (swapRows rows i.toNat rank)) := by rw [Int.toNat_natCast, ← swap_two]; exact set_u64 _ (by simp; omega)
          refine V_draw (plan := [.take 0, .take 1, .take 2, .take 3, .take 4, .take 5, .take 6, .take 7, .take 8, .take 9, .take 10, .take 11, .take 12, .one 13, .take 14, .one 15]) (by kernel_rfl) ?_
          repeat' (first | (first | refine V_seq ?_ | refine V_region ?_ | refine WS_nil ?_ | refine S_normal ?_ | refine V_block ?_ | refine B_normal ?_ | refine V_skip ?_ | refine V_exit ?_ | refine V_ret ?_ | refine S_exit ?_ | refine S_ret ?_ | refine B_exit ?_ | refine B_ret ?_ | refine B_pass rfl ?_ | refine WS_off rfl (by first | rfl | assumption) ?_ | refine WS_on rfl (by first | rfl | assumption) ?_ | refine WS_move ?_ | refine WS_assign ?_ | refine WS_pick_t (by first | rfl | assumption) ?_ | refine WS_pick_f (by first | rfl | assumption) ?_ | refine WS_isnil ?_ | refine WS_notnil ?_ | refine WS_cmp rfl ?_ | refine WS_addi (by omega) ?_ | refine WS_subi (by omega) ?_ | refine WS_arith rfl ?_ | refine WS_not ?_ | refine WS_neg ?_ | refine WS_convert ?_ | refine WS_len_slice ?_ | refine WS_len_string ?_ | refine WS_fieldAddr ?_ | refine WS_load ?_ | refine WS_load_agg ?_ | refine WS_box_agg rfl ?_ | refine WS_box rfl ?_ | refine WS_makeFunc ?_ | refine WS_extract ?_ | refine WS_field ?_ | refine WS_build ?_ | refine WS_zero ?_ | refine WS_shift (by first | decide | omega) rfl ?_ | refine WS_strcmp rfl ?_ | refine WS_indexAddr (by first | decide | omega) ?_ | refine WS_alloc ?_ | refine WS_store rfl ?_ | refine WS_buildSlice (by decide) rfl rfl (by simp [Value.cells]) ?_ | refine WDK_go ?_ | refine WDT_go ?_ | refine WD_nil ?_ | refine WD_take_off rfl rfl (by first | rfl | assumption) ?_ | refine WD_load rfl ?_ | refine WD_load_on rfl rfl (by first | rfl | assumption) ?_ | refine WD_load_agg rfl ?_ | refine WD_load_agg_on rfl rfl (by first | rfl | assumption) ?_ | refine WD_take rfl rfl ?_ | refine WD_take_on rfl rfl (by first | rfl | assumption) rfl ?_ | refine WD_drop rfl rfl ?_ | refine WD_one rfl ?_) | (refine WS_guard rfl ?_ ?_ <;> intro hg) | (refine V_cond ?_ ?_ <;> intro hc <;> try (cases hc; done)))
          obtain ⟨H3, hH3⟩ : ∃ H, H = ((h''.put b (u64s (rows.set i.toNat (rows.getD rank 0))) 25 y).put b (u64s (swapRows rows i.toNat rank)) 25 y) := ⟨_, rfl⟩
          have e3 : Ext H H3 := hH3 ▸ (eH.putObj hbf).putObj hbf
          have o3 : ObjIs H3 b (u64s (swapRows rows i.toNat rank)) 25 y := hH3 ▸ inferInstance
          have b4 : ObjIs H3 h.fresh [.int .i64 N, .slice a len cap] 24 true := ⟨b1.even, e3.new _ _ b1.eq⟩
          rw [← hH3]
          have hl1 : (swapRows rows i.toNat rank).length = rows.length := swapRows_len _ _ _
          refine V_loop (fun d s h4 => ∃ (k : Int) (cur : List Nat), d = (N - k).toNat ∧ rank + 1 ≤ k ∧ k ≤ N ∧ addRows j.toNat rank (rank + 1) (rows.length - (rank + 1)) (swapRows rows i.toNat rank) = addRows j.toNat rank k.toNat (rows.length - k.toNat) cur ∧ All64 cur ∧ cur.length = rows.length ∧ Get s 9 (.int .i64 k) ∧ Get s 7 (.int .i64 j) ∧ Get s 20 (.int .i64 j) ∧ Get s 19 (.int .i64 N) ∧ Get s 1 (.pointer (some (ad h.fresh 0))) ∧ Get s 5 (.slice (some (ad b 0)) (u64s rows).length (u64s rows).length) ∧ Get s 6 (.int .i64 rank) ∧ Ext H h4 ∧ ObjIs h4 b (u64s cur) 25 y) (N - (rank + 1)).toNat
            ⟨rank + 1, swapRows rows i.toNat rank, by omega, by omega, by omega, by rw [show ((rank : Int) + 1).toNat = rank + 1 by omega], h64r.swap _ _, hl1, inferInstance, inferInstance, inferInstance, inferInstance, inferInstance, inferInstance, inferInstance, e3, o3⟩ ?_
          rintro d s h4 ⟨k, cur, rfl, hk0, hk1, hadd, h64c, hcl, x9, x7, x20, x19, x1, x5, x6, e4, o4⟩
          have b5 : ObjIs h4 h.fresh [.int .i64 N, .slice a len cap] 24 true := ⟨b1.even, e4.new _ _ b1.eq⟩
          repeat' (first | (first | refine V_seq ?_ | refine V_region ?_ | refine WS_nil ?_ | refine S_normal ?_ | refine V_block ?_ | refine B_normal ?_ | refine V_skip ?_ | refine V_exit ?_ | refine V_ret ?_ | refine S_exit ?_ | refine S_ret ?_ | refine B_exit ?_ | refine B_ret ?_ | refine B_pass rfl ?_ | refine WS_off rfl (by first | rfl | assumption) ?_ | refine WS_on rfl (by first | rfl | assumption) ?_ | refine WS_move ?_ | refine WS_assign ?_ | refine WS_pick_t (by first | rfl | assumption) ?_ | refine WS_pick_f (by first | rfl | assumption) ?_ | refine WS_isnil ?_ | refine WS_notnil ?_ | refine WS_cmp rfl ?_ | refine WS_addi (by omega) ?_ | refine WS_subi (by omega) ?_ | refine WS_arith rfl ?_ | refine WS_not ?_ | refine WS_neg ?_ | refine WS_convert ?_ | refine WS_len_slice ?_ | refine WS_len_string ?_ | refine WS_fieldAddr ?_ | refine WS_load ?_ | refine WS_load_agg ?_ | refine WS_box_agg rfl ?_ | refine WS_box rfl ?_ | refine WS_makeFunc ?_ | refine WS_extract ?_ | refine WS_field ?_ | refine WS_build ?_ | refine WS_zero ?_ | refine WS_shift (by first | decide | omega) rfl ?_ | refine WS_strcmp rfl ?_ | refine WS_indexAddr (by first | decide | omega) ?_ | refine WS_alloc ?_ | refine WS_store rfl ?_ | refine WS_buildSlice (by decide) rfl rfl (by simp [Value.cells]) ?_ | refine WDK_go ?_ | refine WDT_go ?_ | refine WD_nil ?_ | refine WD_take_off rfl rfl (by first | rfl | assumption) ?_ | refine WD_load rfl ?_ | refine WD_load_on rfl rfl (by first | rfl | assumption) ?_ | refine WD_load_agg rfl ?_ | refine WD_load_agg_on rfl rfl (by first | rfl | assumption) ?_ | refine WD_take rfl rfl ?_ | refine WD_take_on rfl rfl (by first | rfl | assumption) rfl ?_ | refine WD_drop rfl rfl ?_ | refine WD_one rfl ?_) | (refine WS_guard rfl ?_ ?_ <;> intro hg) | (refine V_cond ?_ ?_ <;> intro hc <;> try (cases hc; done)))
          · have hk : k < N := by simpa using hc
            have d1 : CellIs h4 b (0 + k.toNat * 1) _ := cell_u64 (rows := cur) (i := k.toNat) o4 (by omega)
            have d2 : CellIs h4 b (0 + (rank : Int).toNat * 1) (.int .u64 (cur.getD rank 0 : Nat)) := by rw [Int.toNat_natCast]; exact cell_u64 o4 (by omega)
            have hrk' := h64c.get k.toNat
            have hrr := h64c.get rank
            have hbk : 0 ≤ k ∧ k < ((u64s rows).length : Int) := by rw [u64s_len]; omega
            repeat' (first | (first | refine V_seq ?_ | refine V_region ?_ | refine WS_nil ?_ | refine S_normal ?_ | refine V_block ?_ | refine B_normal ?_ | refine V_skip ?_ | refine V_exit ?_ | refine V_ret ?_ | refine S_exit ?_ | refine S_ret ?_ | refine B_exit ?_ | refine B_ret ?_ | refine B_pass rfl ?_ | refine WS_off rfl (by first | rfl | assumption) ?_ | refine WS_on rfl (by first | rfl | assumption) ?_ | refine WS_move ?_ | refine WS_assign ?_ | refine WS_pick_t (by first | rfl | assumption) ?_ | refine WS_pick_f (by first | rfl | assumption) ?_ | refine WS_isnil ?_ | refine WS_notnil ?_ | refine WS_cmp rfl ?_ | refine WS_addi (by omega) ?_ | refine WS_subi (by omega) ?_ | refine WS_arith rfl ?_ | refine WS_not ?_ | refine WS_neg ?_ | refine WS_convert ?_ | refine WS_len_slice ?_ | refine WS_len_string ?_ | refine WS_fieldAddr ?_ | refine WS_load ?_ | refine WS_load_agg ?_ | refine WS_box_agg rfl ?_ | refine WS_box rfl ?_ | refine WS_makeFunc ?_ | refine WS_extract ?_ | refine WS_field ?_ | refine WS_build ?_ | refine WS_zero ?_ | refine WS_shift (by first | decide | omega) rfl ?_ | refine WS_strcmp rfl ?_ | refine WS_indexAddr (by first | decide | omega) ?_ | refine WS_alloc ?_ | refine WS_store rfl ?_ | refine WS_buildSlice (by decide) rfl rfl (by simp [Value.cells]) ?_ | refine WDK_go ?_ | refine WDT_go ?_ | refine WD_nil ?_ | refine WD_take_off rfl rfl (by first | rfl | assumption) ?_ | refine WD_load rfl ?_ | refine WD_load_on rfl rfl (by first | rfl | assumption) ?_ | refine WD_load_agg rfl ?_ | refine WD_load_agg_on rfl rfl (by first | rfl | assumption) ?_ | refine WD_take rfl rfl ?_ | refine WD_take_on rfl rfl (by first | rfl | assumption) rfl ?_ | refine WD_drop rfl rfl ?_ | refine WD_one rfl ?_) | (refine WS_guard rfl ?_ ?_ <;> intro hg) | (refine V_cond ?_ ?_ <;> intro hc <;> try (cases hc; done)))
            · rw [shr_u64 hj0 hrk', and1_u64 (shr_lt _ hrk')] at hc
              have hbk1 : bitAt (cur.getD k.toNat 0) j.toNat = true := by
                have h1 : cur.getD k.toNat 0 >>> j.toNat &&& 1 = 1 := Int.ofNat_inj.mp (show ((cur.getD k.toNat 0 >>> j.toNat &&& 1 : Nat) : Int) = ((1 : Nat) : Int) from of_decide_eq_true hc)
                unfold bitAt; rw [h1]; rfl
              have s3 : SetIs (u64s cur) (0 + k.toNat * 1) [.int .u64 ((cur.getD k.toNat 0 ^^^ cur.getD rank 0 : Nat) : Int)] (u64s (cur.set k.toNat (cur.getD k.toNat 0 ^^^ cur.getD rank 0))) := set_u64 _ (by omega)
              have hx3 := xor_u64 hrk' hrr
              rw [← hx3] at s3
              refine V_draw (plan := [.take 0, .take 1, .take 2, .take 3, .take 4, .take 5, .take 6, .take 7, .take 8, .take 9, .one 10]) (by kernel_rfl) ?_
              repeat' (first | (first | refine V_seq ?_ | refine V_region ?_ | refine WS_nil ?_ | refine S_normal ?_ | refine V_block ?_ | refine B_normal ?_ | refine V_skip ?_ | refine V_exit ?_ | refine V_ret ?_ | refine S_exit ?_ | refine S_ret ?_ | refine B_exit ?_ | refine B_ret ?_ | refine B_pass rfl ?_ | refine WS_off rfl (by first | rfl | assumption) ?_ | refine WS_on rfl (by first | rfl | assumption) ?_ | refine WS_move ?_ | refine WS_assign ?_ | refine WS_pick_t (by first | rfl | assumption) ?_ | refine WS_pick_f (by first | rfl | assumption) ?_ | refine WS_isnil ?_ | refine WS_notnil ?_ | refine WS_cmp rfl ?_ | refine WS_addi (by omega) ?_ | refine WS_subi (by omega) ?_ | refine WS_arith rfl ?_ | refine WS_not ?_ | refine WS_neg ?_ | refine WS_convert ?_ | refine WS_len_slice ?_ | refine WS_len_string ?_ | refine WS_fieldAddr ?_ | refine WS_load ?_ | refine WS_load_agg ?_ | refine WS_box_agg rfl ?_ | refine WS_box rfl ?_ | refine WS_makeFunc ?_ | refine WS_extract ?_ | refine WS_field ?_ | refine WS_build ?_ | refine WS_zero ?_ | refine WS_shift (by first | decide | omega) rfl ?_ | refine WS_strcmp rfl ?_ | refine WS_indexAddr (by first | decide | omega) ?_ | refine WS_alloc ?_ | refine WS_store rfl ?_ | refine WS_buildSlice (by decide) rfl rfl (by simp [Value.cells]) ?_ | refine WDK_go ?_ | refine WDT_go ?_ | refine WD_nil ?_ | refine WD_take_off rfl rfl (by first | rfl | assumption) ?_ | refine WD_load rfl ?_ | refine WD_load_on rfl rfl (by first | rfl | assumption) ?_ | refine WD_load_agg rfl ?_ | refine WD_load_agg_on rfl rfl (by first | rfl | assumption) ?_ | refine WD_take rfl rfl ?_ | refine WD_take_on rfl rfl (by first | rfl | assumption) rfl ?_ | refine WD_drop rfl rfl ?_ | refine WD_one rfl ?_) | (refine WS_guard rfl ?_ ?_ <;> intro hg) | (refine V_cond ?_ ?_ <;> intro hc <;> try (cases hc; done)))
              refine ⟨_, ?_, k + 1, cur.set k.toNat (cur.getD k.toNat 0 ^^^ cur.getD rank 0), rfl, by omega, by omega, ?_, h64c.set (Nat.xor_lt_two_pow hrk' hrr), by simpa using hcl, inferInstance, inferInstance, inferInstance, inferInstance, inferInstance, inferInstance, inferInstance, e4.putObj hbf, inferInstance⟩
              · omega
              · rw [hadd, toNat_succ (by omega), show rows.length - k.toNat = (rows.length - (k.toNat + 1)) + 1 by omega, addRows, hbk1]; rfl
            · rw [shr_u64 hj0 hrk', and1_u64 (shr_lt _ hrk')] at hc
              have hbk0 : bitAt (cur.getD k.toNat 0) j.toNat = false := by
                rcases bit_cases (cur.getD k.toNat 0) j.toNat with h1 | h1
                · unfold bitAt; rw [h1]; rfl
                · exact absurd (congrArg (Nat.cast (R := Int)) h1) (of_decide_eq_false hc)
              refine ⟨_, ?_, k + 1, cur, rfl, by omega, by omega, ?_, h64c, hcl, inferInstance, inferInstance, inferInstance, inferInstance, inferInstance, inferInstance, inferInstance, e4, o4⟩
              · omega
              · rw [hadd, toNat_succ (by omega), show rows.length - k.toNat = (rows.length - (k.toNat + 1)) + 1 by omega, addRows, hbk0]; rfl
          · have hk : k = N := by simp at hc; omega
            refine ⟨_, ?_, j + 1, cur, rank + 1, rfl, by omega, by omega, ?_, by omega, h64c, inferInstance, inferInstance, inferInstance, inferInstance, inferInstance, e4, ?_⟩
            · omega
            · rw [toNat_succ hj0, rankK, hrk, rankStep]
              simp only [hfi]
              rw [hadd, hk, show rows.length - N.toNat = 0 by omega]; rfl
            · exact .inr ⟨b, y, hbf, by rw [u64s_len, u64s_len, hcl], o4⟩
      · have hi : i = N := by simp at hc; omega
        have hfn : findRow rows j.toNat rank (rows.length - rank) = none := by
          rw [hfr, hi, show rows.length - N.toNat = 0 by omega]; rfl
        repeat' (first | (first | refine V_seq ?_ | refine V_region ?_ | refine WS_nil ?_ | refine S_normal ?_ | refine V_block ?_ | refine B_normal ?_ | refine V_skip ?_ | refine V_exit ?_ | refine V_ret ?_ | refine S_exit ?_ | refine S_ret ?_ | refine B_exit ?_ | refine B_ret ?_ | refine B_pass rfl ?_ | refine WS_off rfl (by first | rfl | assumption) ?_ | refine WS_on rfl (by first | rfl | assumption) ?_ | refine WS_move ?_ | refine WS_assign ?_ | refine WS_pick_t (by first | rfl | assumption) ?_ | refine WS_pick_f (by first | rfl | assumption) ?_ | refine WS_isnil ?_ | refine WS_notnil ?_ | refine WS_cmp rfl ?_ | refine WS_addi (by omega) ?_ | refine WS_subi (by omega) ?_ | refine WS_arith rfl ?_ | refine WS_not ?_ | refine WS_neg ?_ | refine WS_convert ?_ | refine WS_len_slice ?_ | refine WS_len_string ?_ | refine WS_fieldAddr ?_ | refine WS_load ?_ | refine WS_load_agg ?_ | refine WS_box_agg rfl ?_ | refine WS_box rfl ?_ | refine WS_makeFunc ?_ | refine WS_extract ?_ | refine WS_field ?_ | refine WS_build ?_ | refine WS_zero ?_ | refine WS_shift (by first | decide | omega) rfl ?_ | refine WS_strcmp rfl ?_ | refine WS_indexAddr (by first | decide | omega) ?_ | refine WS_alloc ?_ | refine WS_store rfl ?_ | refine WS_buildSlice (by decide) rfl rfl (by simp [Value.cells]) ?_ | refine WDK_go ?_ | refine WDT_go ?_ | refine WD_nil ?_ | refine WD_take_off rfl rfl (by first | rfl | assumption) ?_ | refine WD_load rfl ?_ | refine WD_load_on rfl rfl (by first | rfl | assumption) ?_ | refine WD_load_agg rfl ?_ | refine WD_load_agg_on rfl rfl (by first | rfl | assumption) ?_ | refine WD_take rfl rfl ?_ | refine WD_take_on rfl rfl (by first | rfl | assumption) rfl ?_ | refine WD_drop rfl rfl ?_ | refine WD_one rfl ?_) | (refine WS_guard rfl ?_ ?_ <;> intro hg) | (refine V_cond ?_ ?_ <;> intro hc <;> try (cases hc; done)))
        refine ⟨_, ?_, j + 1, rows, rank, rfl, by omega, by omega, ?_, by omega, h64r, inferInstance, inferInstance, inferInstance, inferInstance, inferInstance, eH, hOw⟩
        · omega
        · rw [toNat_succ hj0, rankK, hrk, rankStep]; simp only [hfn]
    · have hj : j = N := by simp at hc; omega
      refine retK_2 ⟨eX.trans eH, ?_⟩ (.inr rfl)
      rw [if_pos hck, show xs.length = j.toNat by omega, hrk]
instance : CallIs Try.prog 19 := .of Try.func19 rfl rfl
end Go.Ideal

-- Lj
set_option linter.unusedSimpArgs false
set_option linter.unusedVariables false
namespace Go.Ideal
open Go Go.Proofs
def addBoth (j r : Nat) : Nat → Nat → List Nat × List Nat → List Nat × List Nat
  | _, 0, st => st
  | k, n + 1, st => addBoth j r (k + 1) n (if k ≠ r ∧ bitAt (st.1.getD k 0) j = true then (st.1.set k (st.1.getD k 0 ^^^ st.1.getD r 0), st.2.set k (st.2.getD k 0 ^^^ st.2.getD r 0)) else st)
def refStep (j : Nat) (st : (List Nat × List Nat) × Nat) : (List Nat × List Nat) × Nat :=
  match findRow st.1.1 j st.2 (st.1.1.length - st.2) with
  | none => st
  | some i => (addBoth j st.2 0 st.1.1.length (swapRows st.1.1 i st.2, swapRows st.1.2 i st.2), st.2 + 1)
def refK (rows wth : List Nat) : Nat → (List Nat × List Nat) × Nat
  | 0 => ((rows, wth), 0)
  | j + 1 => refStep j (refK rows wth j)
theorem addBoth_len (j r : Nat) : ∀ (n k : Nat) (st : List Nat × List Nat), (addBoth j r k n st).1.length = st.1.length ∧ (addBoth j r k n st).2.length = st.2.length := by
  intro n
  induction n with
  | zero => intro k st; exact ⟨rfl, rfl⟩
  | succ n ih =>
    intro k st
    simp only [addBoth]
    obtain ⟨h1, h2⟩ := ih (k + 1) (if k ≠ r ∧ bitAt (st.1.getD k 0) j = true then (st.1.set k (st.1.getD k 0 ^^^ st.1.getD r 0), st.2.set k (st.2.getD k 0 ^^^ st.2.getD r 0)) else st)
    rw [h1, h2]
    split <;> simp
theorem refK_len (rows wth : List Nat) : ∀ j, (refK rows wth j).1.1.length = rows.length ∧ (refK rows wth j).1.2.length = wth.length := by
  intro j
  induction j with
  | zero => exact ⟨rfl, rfl⟩
  | succ j ih =>
    rw [refK]
    unfold refStep
    split
    · exact ih
    · obtain ⟨h1, h2⟩ := addBoth_len j (refK rows wth j).2 (refK rows wth j).1.1.length 0 (swapRows (refK rows wth j).1.1 _ (refK rows wth j).2, swapRows (refK rows wth j).1.2 _ (refK rows wth j).2)
      rw [h1, h2]; simp only [swapRows_len]; exact ih
theorem findRow_some {rows : List Nat} {j : Nat} : ∀ (n i k : Nat), findRow rows j i n = some k → i ≤ k ∧ k < i + n ∧ bitAt (rows.getD k 0) j = true := by
  intro n
  induction n with
  | zero => intro i k h; cases h
  | succ n ih =>
    intro i k h
    rw [findRow] at h
    split at h
    · rename_i hb; obtain rfl := Option.some.inj h; exact ⟨by omega, by omega, hb⟩
    · obtain ⟨h1, h2, h3⟩ := ih _ _ h; exact ⟨by omega, by omega, h3⟩
/-- all but two blocks are as they were -/
structure Fr2 (b c : Nat) (h h' : IHp) : Prop where
  old : h'.old = h.old
  new : ∀ (i : Nat) (o : IObj), h.new[i]? = some o → 2 * i ≠ b → 2 * i ≠ c → h'.new[i]? = some o
theorem Fr2.refl (b c : Nat) (h : IHp) : Fr2 b c h h := ⟨rfl, fun _ _ h _ _ => h⟩
theorem Fr2.putL {b c : Nat} {h h' : IHp} (f : Fr2 b c h h') (he : b % 2 = 0) {o : IObj} : Fr2 b c h (h'.putObj b o) := ⟨f.old, fun i o' hi h1 h2 => by
  simp only [IHp.putObj]
  rw [List.getElem?_set_ne (by omega)]; exact f.new i o' hi h1 h2⟩
theorem Fr2.putR {b c : Nat} {h h' : IHp} (f : Fr2 b c h h') (he : c % 2 = 0) {o : IObj} : Fr2 b c h (h'.putObj c o) := ⟨f.old, fun i o' hi h1 h2 => by
  simp only [IHp.putObj]
  rw [List.getElem?_set_ne (by omega)]; exact f.new i o' hi h1 h2⟩
theorem Fr2.obj {b c : Nat} {h h' : IHp} (f : Fr2 b c h h') {x : Nat} {l : List Value} {t : TypeId} {e : Bool} (o : ObjIs h x l t e) (h1 : x ≠ b) (h2 : x ≠ c) : ObjIs h' x l t e :=
  ⟨o.even, f.new _ _ o.eq (by have := o.even; omega) (by have := o.even; omega)⟩
theorem Fr2.ext {b c : Nat} {h h' h0 : IHp} (f : Fr2 b c h h') (e : Ext h0 h) (l1 : h0.fresh ≤ b) (l2 : h0.fresh ≤ c) : Ext h0 h' := ⟨f.old.trans e.old, fun i o hi => by
  have := (List.getElem?_eq_some_iff.1 hi).1
  unfold IHp.fresh at l1 l2
  exact f.new i o (e.new i o hi) (by omega) (by omega)⟩
theorem reduced_ref_zero (a b : Option Addr) (h : IHp) : EvX Try.prog 58 [.slice a 0 0, .slice b 0 0, .int .i64 0].toArray h (fun v h' => v = .int .i64 0 ∧ h' = h) := by
  refine EvX_of Try.func58 rfl (by show 3 ≤ 109; decide) ?_
  repeat' (first | (first | refine V_seq ?_ | refine V_region ?_ | refine WS_nil ?_ | refine S_normal ?_ | refine V_block ?_ | refine B_normal ?_ | refine V_skip ?_ | refine V_exit ?_ | refine V_ret ?_ | refine S_exit ?_ | refine S_ret ?_ | refine B_exit ?_ | refine B_ret ?_ | refine B_pass rfl ?_ | refine WS_off rfl (by first | rfl | assumption) ?_ | refine WS_on rfl (by first | rfl | assumption) ?_ | refine WS_move ?_ | refine WS_assign ?_ | refine WS_pick_t (by first | rfl | assumption) ?_ | refine WS_pick_f (by first | rfl | assumption) ?_ | refine WS_isnil ?_ | refine WS_notnil ?_ | refine WS_cmp rfl ?_ | refine WS_addi (by omega) ?_ | refine WS_subi (by omega) ?_ | refine WS_arith rfl ?_ | refine WS_not ?_ | refine WS_neg ?_ | refine WS_convert ?_ | refine WS_len_slice ?_ | refine WS_len_string ?_ | refine WS_fieldAddr ?_ | refine WS_load ?_ | refine WS_load_agg ?_ | refine WS_box_agg rfl ?_ | refine WS_box rfl ?_ | refine WS_makeFunc ?_ | refine WS_extract ?_ | refine WS_field ?_ | refine WS_build ?_ | refine WS_zero ?_ | refine WS_shift (by first | decide | omega) rfl ?_ | refine WS_strcmp rfl ?_ | refine WS_indexAddr (by first | decide | omega) ?_ | refine WS_alloc ?_ | refine WS_store rfl ?_ | refine WS_buildSlice (by decide) rfl rfl (by simp [Value.cells]) ?_ | refine WDK_go ?_ | refine WDT_go ?_ | refine WD_nil ?_ | refine WD_take_off rfl rfl (by first | rfl | assumption) ?_ | refine WD_load rfl ?_ | refine WD_load_on rfl rfl (by first | rfl | assumption) ?_ | refine WD_load_agg rfl ?_ | refine WD_load_agg_on rfl rfl (by first | rfl | assumption) ?_ | refine WD_take rfl rfl ?_ | refine WD_take_on rfl rfl (by first | rfl | assumption) rfl ?_ | refine WD_drop rfl rfl ?_ | refine WD_one rfl ?_) | (refine WS_guard rfl ?_ ?_ <;> intro hg) | (refine V_cond ?_ ?_ <;> intro hc <;> try (cases hc; done)))
  refine V_loop (fun d s h' => Get s 8 (.int .i64 0) ∧ Get s 2 (.int .i64 0) ∧ Get s 7 (.int .i64 0) ∧ h' = h) 0 ⟨inferInstance, inferInstance, inferInstance, rfl⟩ ?_
  rintro d s h' ⟨g8, g2, g7, rfl⟩
  repeat' (first | (first | refine V_seq ?_ | refine V_region ?_ | refine WS_nil ?_ | refine S_normal ?_ | refine V_block ?_ | refine B_normal ?_ | refine V_skip ?_ | refine V_exit ?_ | refine V_ret ?_ | refine S_exit ?_ | refine S_ret ?_ | refine B_exit ?_ | refine B_ret ?_ | refine B_pass rfl ?_ | refine WS_off rfl (by first | rfl | assumption) ?_ | refine WS_on rfl (by first | rfl | assumption) ?_ | refine WS_move ?_ | refine WS_assign ?_ | refine WS_pick_t (by first | rfl | assumption) ?_ | refine WS_pick_f (by first | rfl | assumption) ?_ | refine WS_isnil ?_ | refine WS_notnil ?_ | refine WS_cmp rfl ?_ | refine WS_addi (by omega) ?_ | refine WS_subi (by omega) ?_ | refine WS_arith rfl ?_ | refine WS_not ?_ | refine WS_neg ?_ | refine WS_convert ?_ | refine WS_len_slice ?_ | refine WS_len_string ?_ | refine WS_fieldAddr ?_ | refine WS_load ?_ | refine WS_load_agg ?_ | refine WS_box_agg rfl ?_ | refine WS_box rfl ?_ | refine WS_makeFunc ?_ | refine WS_extract ?_ | refine WS_field ?_ | refine WS_build ?_ | refine WS_zero ?_ | refine WS_shift (by first | decide | omega) rfl ?_ | refine WS_strcmp rfl ?_ | refine WS_indexAddr (by first | decide | omega) ?_ | refine WS_alloc ?_ | refine WS_store rfl ?_ | refine WS_buildSlice (by decide) rfl rfl (by simp [Value.cells]) ?_ | refine WDK_go ?_ | refine WDT_go ?_ | refine WD_nil ?_ | refine WD_take_off rfl rfl (by first | rfl | assumption) ?_ | refine WD_load rfl ?_ | refine WD_load_on rfl rfl (by first | rfl | assumption) ?_ | refine WD_load_agg rfl ?_ | refine WD_load_agg_on rfl rfl (by first | rfl | assumption) ?_ | refine WD_take rfl rfl ?_ | refine WD_take_on rfl rfl (by first | rfl | assumption) rfl ?_ | refine WD_drop rfl rfl ?_ | refine WD_one rfl ?_) | (refine WS_guard rfl ?_ ?_ <;> intro hg) | (refine V_cond ?_ ?_ <;> intro hc <;> try (cases hc; done)))
  exact retK_1 ⟨rfl, rfl⟩ (.inr rfl)
set_option maxHeartbeats 1000000 in
theorem reduced_ref (N : Int) (n b c : Nat) (y z : Bool) (rows0 with0 : List Nat) (h : IHp) (hn : n = rows0.length) (hN : N = n) (hN1 : N ≤ 64) (hw : with0.length = n) (ob : ObjIs h b (u64s rows0) 25 y) (oc : ObjIs h c (u64s with0) 25 z) (hbc : b ≠ c) (h64 : All64 rows0) (w64 : All64 with0) :
    EvX Try.prog 58 [.slice (some (ad b 0)) n n, .slice (some (ad c 0)) n n, .int .i64 N].toArray h (fun v h' => v = .int .i64 ((refK rows0 with0 n).2 : Nat) ∧ ObjIs h' b (u64s (refK rows0 with0 n).1.1) 25 y ∧ ObjIs h' c (u64s (refK rows0 with0 n).1.2) 25 z ∧ Fr2 b c h h' ∧ h'.fresh = h.fresh) := by
  have nbc : NeB b c := .of ob.even oc.even hbc
  have ncb : NeB c b := nbc.symm
  refine EvX_of Try.func58 rfl (by show 3 ≤ 109; decide) ?_
  repeat' (first | (first | refine V_seq ?_ | refine V_region ?_ | refine WS_nil ?_ | refine S_normal ?_ | refine V_block ?_ | refine B_normal ?_ | refine V_skip ?_ | refine V_exit ?_ | refine V_ret ?_ | refine S_exit ?_ | refine S_ret ?_ | refine B_exit ?_ | refine B_ret ?_ | refine B_pass rfl ?_ | refine WS_off rfl (by first | rfl | assumption) ?_ | refine WS_on rfl (by first | rfl | assumption) ?_ | refine WS_move ?_ | refine WS_assign ?_ | refine WS_pick_t (by first | rfl | assumption) ?_ | refine WS_pick_f (by first | rfl | assumption) ?_ | refine WS_isnil ?_ | refine WS_notnil ?_ | refine WS_cmp rfl ?_ | refine WS_addi (by omega) ?_ | refine WS_subi (by omega) ?_ | refine WS_arith rfl ?_ | refine WS_not ?_ | refine WS_neg ?_ | refine WS_convert ?_ | refine WS_len_slice ?_ | refine WS_len_string ?_ | refine WS_fieldAddr ?_ | refine WS_load ?_ | refine WS_load_agg ?_ | refine WS_box_agg rfl ?_ | refine WS_box rfl ?_ | refine WS_makeFunc ?_ | refine WS_extract ?_ | refine WS_field ?_ | refine WS_build ?_ | refine WS_zero ?_ | refine WS_shift (by first | decide | omega) rfl ?_ | refine WS_strcmp rfl ?_ | refine WS_indexAddr (by first | decide | omega) ?_ | refine WS_alloc ?_ | refine WS_store rfl ?_ | refine WS_buildSlice (by decide) rfl rfl (by simp [Value.cells]) ?_ | refine WDK_go ?_ | refine WDT_go ?_ | refine WD_nil ?_ | refine WD_take_off rfl rfl (by first | rfl | assumption) ?_ | refine WD_load rfl ?_ | refine WD_load_on rfl rfl (by first | rfl | assumption) ?_ | refine WD_load_agg rfl ?_ | refine WD_load_agg_on rfl rfl (by first | rfl | assumption) ?_ | refine WD_take rfl rfl ?_ | refine WD_take_on rfl rfl (by first | rfl | assumption) rfl ?_ | refine WD_drop rfl rfl ?_ | refine WD_one rfl ?_) | (refine WS_guard rfl ?_ ?_ <;> intro hg) | (refine V_cond ?_ ?_ <;> intro hc <;> try (cases hc; done)))
  refine V_loop (fun d s h' => ∃ (j : Int) (rows wth : List Nat) (done : Nat), d = (N - j).toNat ∧ 0 ≤ j ∧ j ≤ N ∧ refK rows0 with0 j.toNat = ((rows, wth), done) ∧ (done : Int) ≤ j ∧ All64 rows ∧ All64 wth ∧ Get s 8 (.int .i64 j) ∧ Get s 2 (.int .i64 N) ∧ Get s 0 (.slice (some (ad b 0)) n n) ∧ Get s 1 (.slice (some (ad c 0)) n n) ∧ Get s 7 (.int .i64 done) ∧ ObjIs h' b (u64s rows) 25 y ∧ ObjIs h' c (u64s wth) 25 z ∧ Fr2 b c h h' ∧ h'.fresh = h.fresh) N.toNat
    ⟨0, rows0, with0, 0, by omega, by omega, by omega, rfl, by omega, h64, w64, inferInstance, inferInstance, inferInstance, inferInstance, inferInstanceAs (Get _ 7 (.int .i64 (0 : Int))), ob, oc, Fr2.refl b c h, rfl⟩ ?_
  rintro d s h' ⟨j, rows, wth, done, rfl, hj0, hj1, hrk, hdj, h64r, h64w, g8, g2, g0, g1, g7, o1, o2, hE, hF⟩
  have hrl : rows.length = n := by have := (refK_len rows0 with0 j.toNat).1; rw [hrk] at this; simpa [hn] using this
  have hwl : wth.length = n := by have := (refK_len rows0 with0 j.toNat).2; rw [hrk] at this; simpa [hw] using this
  repeat' (first | (first | refine V_seq ?_ | refine V_region ?_ | refine WS_nil ?_ | refine S_normal ?_ | refine V_block ?_ | refine B_normal ?_ | refine V_skip ?_ | refine V_exit ?_ | refine V_ret ?_ | refine S_exit ?_ | refine S_ret ?_ | refine B_exit ?_ | refine B_ret ?_ | refine B_pass rfl ?_ | refine WS_off rfl (by first | rfl | assumption) ?_ | refine WS_on rfl (by first | rfl | assumption) ?_ | refine WS_move ?_ | refine WS_assign ?_ | refine WS_pick_t (by first | rfl | assumption) ?_ | refine WS_pick_f (by first | rfl | assumption) ?_ | refine WS_isnil ?_ | refine WS_notnil ?_ | refine WS_cmp rfl ?_ | refine WS_addi (by omega) ?_ | refine WS_subi (by omega) ?_ | refine WS_arith rfl ?_ | refine WS_not ?_ | refine WS_neg ?_ | refine WS_convert ?_ | refine WS_len_slice ?_ | refine WS_len_string ?_ | refine WS_fieldAddr ?_ | refine WS_load ?_ | refine WS_load_agg ?_ | refine WS_box_agg rfl ?_ | refine WS_box rfl ?_ | refine WS_makeFunc ?_ | refine WS_extract ?_ | refine WS_field ?_ | refine WS_build ?_ | refine WS_zero ?_ | refine WS_shift (by first | decide | omega) rfl ?_ | refine WS_strcmp rfl ?_ | refine WS_indexAddr (by first | decide | omega) ?_ | refine WS_alloc ?_ | refine WS_store rfl ?_ | refine WS_buildSlice (by decide) rfl rfl (by simp [Value.cells]) ?_ | refine WDK_go ?_ | refine WDT_go ?_ | refine WD_nil ?_ | refine WD_take_off rfl rfl (by first | rfl | assumption) ?_ | refine WD_load rfl ?_ | refine WD_load_on rfl rfl (by first | rfl | assumption) ?_ | refine WD_load_agg rfl ?_ | refine WD_load_agg_on rfl rfl (by first | rfl | assumption) ?_ | refine WD_take rfl rfl ?_ | refine WD_take_on rfl rfl (by first | rfl | assumption) rfl ?_ | refine WD_drop rfl rfl ?_ | refine WD_one rfl ?_) | (refine WS_guard rfl ?_ ?_ <;> intro hg) | (refine V_cond ?_ ?_ <;> intro hc <;> try (cases hc; done)))
  · have hj : j < N := by simpa using hc
    refine V_loop (fun d s h'' => ∃ (i at_ : Int), d = (n - i).toNat ∧ done ≤ i ∧ i ≤ n ∧ ((at_ = -1 ∧ findRow rows j.toNat done (n - done) = findRow rows j.toNat i.toNat (n - i.toNat)) ∨ (0 ≤ at_ ∧ findRow rows j.toNat done (n - done) = some at_.toNat)) ∧ Get s 10 (.int .i64 i) ∧ Get s 9 (.int .i64 at_) ∧ Get s 8 (.int .i64 j) ∧ Get s 2 (.int .i64 N) ∧ Get s 0 (.slice (some (ad b 0)) n n) ∧ Get s 1 (.slice (some (ad c 0)) n n) ∧ Get s 7 (.int .i64 done) ∧ h'' = h') (n - done)
      ⟨done, -1, by omega, by omega, by omega, .inl ⟨rfl, by simp⟩, inferInstance, inferInstance, inferInstance, inferInstance, inferInstance, inferInstance, inferInstance, rfl⟩ ?_
    rintro d s h'' ⟨i, at_, rfl, hi0, hi1, hat, y10, y9, y8, y2, y0, y1, y7, rfl⟩
    repeat' (first | (first | refine V_seq ?_ | refine V_region ?_ | refine WS_nil ?_ | refine S_normal ?_ | refine V_block ?_ | refine B_normal ?_ | refine V_skip ?_ | refine V_exit ?_ | refine V_ret ?_ | refine S_exit ?_ | refine S_ret ?_ | refine B_exit ?_ | refine B_ret ?_ | refine B_pass rfl ?_ | refine WS_off rfl (by first | rfl | assumption) ?_ | refine WS_on rfl (by first | rfl | assumption) ?_ | refine WS_move ?_ | refine WS_assign ?_ | refine WS_pick_t (by first | rfl | assumption) ?_ | refine WS_pick_f (by first | rfl | assumption) ?_ | refine WS_isnil ?_ | refine WS_notnil ?_ | refine WS_cmp rfl ?_ | refine WS_addi (by omega) ?_ | refine WS_subi (by omega) ?_ | refine WS_arith rfl ?_ | refine WS_not ?_ | refine WS_neg ?_ | refine WS_convert ?_ | refine WS_len_slice ?_ | refine WS_len_string ?_ | refine WS_fieldAddr ?_ | refine WS_load ?_ | refine WS_load_agg ?_ | refine WS_box_agg rfl ?_ | refine WS_box rfl ?_ | refine WS_makeFunc ?_ | refine WS_extract ?_ | refine WS_field ?_ | refine WS_build ?_ | refine WS_zero ?_ | refine WS_shift (by first | decide | omega) rfl ?_ | refine WS_strcmp rfl ?_ | refine WS_indexAddr (by first | decide | omega) ?_ | refine WS_alloc ?_ | refine WS_store rfl ?_ | refine WS_buildSlice (by decide) rfl rfl (by simp [Value.cells]) ?_ | refine WDK_go ?_ | refine WDT_go ?_ | refine WD_nil ?_ | refine WD_take_off rfl rfl (by first | rfl | assumption) ?_ | refine WD_load rfl ?_ | refine WD_load_on rfl rfl (by first | rfl | assumption) ?_ | refine WD_load_agg rfl ?_ | refine WD_load_agg_on rfl rfl (by first | rfl | assumption) ?_ | refine WD_take rfl rfl ?_ | refine WD_take_on rfl rfl (by first | rfl | assumption) rfl ?_ | refine WD_drop rfl rfl ?_ | refine WD_one rfl ?_) | (refine WS_guard rfl ?_ ?_ <;> intro hg) | (refine V_cond ?_ ?_ <;> intro hc <;> try (cases hc; done)))
    · have hi : i < n := by simpa using hc
      have c1 : CellIs h'' b (0 + i.toNat * 1) _ := cell_u64 (rows := rows) (i := i.toNat) o1 (by omega)
      have hri := h64r.get i.toNat
      have hin : 0 ≤ i ∧ i < (n : Int) := by omega
      have hat' : at_ = -1 ∧ findRow rows j.toNat done (n - done) = findRow rows j.toNat i.toNat (n - i.toNat) := by
        have : at_ < 0 := by simpa using hg
        rcases hat with h1 | h1
        · exact h1
        · omega
      repeat' (first | (first | refine V_seq ?_ | refine V_region ?_ | refine WS_nil ?_ | refine S_normal ?_ | refine V_block ?_ | refine B_normal ?_ | refine V_skip ?_ | refine V_exit ?_ | refine V_ret ?_ | refine S_exit ?_ | refine S_ret ?_ | refine B_exit ?_ | refine B_ret ?_ | refine B_pass rfl ?_ | refine WS_off rfl (by first | rfl | assumption) ?_ | refine WS_on rfl (by first | rfl | assumption) ?_ | refine WS_move ?_ | refine WS_assign ?_ | refine WS_pick_t (by first | rfl | assumption) ?_ | refine WS_pick_f (by first | rfl | assumption) ?_ | refine WS_isnil ?_ | refine WS_notnil ?_ | refine WS_cmp rfl ?_ | refine WS_addi (by omega) ?_ | refine WS_subi (by omega) ?_ | refine WS_arith rfl ?_ | refine WS_not ?_ | refine WS_neg ?_ | refine WS_convert ?_ | refine WS_len_slice ?_ | refine WS_len_string ?_ | refine WS_fieldAddr ?_ | refine WS_load ?_ | refine WS_load_agg ?_ | refine WS_box_agg rfl ?_ | refine WS_box rfl ?_ | refine WS_makeFunc ?_ | refine WS_extract ?_ | refine WS_field ?_ | refine WS_build ?_ | refine WS_zero ?_ | refine WS_shift (by first | decide | omega) rfl ?_ | refine WS_strcmp rfl ?_ | refine WS_indexAddr (by first | decide | omega) ?_ | refine WS_alloc ?_ | refine WS_store rfl ?_ | refine WS_buildSlice (by decide) rfl rfl (by simp [Value.cells]) ?_ | refine WDK_go ?_ | refine WDT_go ?_ | refine WD_nil ?_ | refine WD_take_off rfl rfl (by first | rfl | assumption) ?_ | refine WD_load rfl ?_ | refine WD_load_on rfl rfl (by first | rfl | assumption) ?_ | refine WD_load_agg rfl ?_ | refine WD_load_agg_on rfl rfl (by first | rfl | assumption) ?_ | refine WD_take rfl rfl ?_ | refine WD_take_on rfl rfl (by first | rfl | assumption) rfl ?_ | refine WD_drop rfl rfl ?_ | refine WD_one rfl ?_) | (refine WS_guard rfl ?_ ?_ <;> intro hg) | (refine V_cond ?_ ?_ <;> intro hc <;> try (cases hc; done)))
      · rw [shr_u64 hj0 hri, and1_u64 (shr_lt _ hri)] at hc
        have hb1 : bitAt (rows.getD i.toNat 0) j.toNat = true := by
          have h1 : rows.getD i.toNat 0 >>> j.toNat &&& 1 = 1 := Int.ofNat_inj.mp (show ((rows.getD i.toNat 0 >>> j.toNat &&& 1 : Nat) : Int) = ((1 : Nat) : Int) from of_decide_eq_true hc)
          unfold bitAt; rw [h1]; rfl
        refine ⟨_, ?_, i + 1, i, rfl, by omega, by omega, .inr ⟨by omega, ?_⟩, inferInstance, inferInstance, inferInstance, inferInstance, inferInstance, inferInstance, inferInstance, rfl⟩
        · omega
        · rw [hat'.2, show n - i.toNat = (n - (i.toNat + 1)) + 1 by omega, findRow_hit hb1]
      · rw [shr_u64 hj0 hri, and1_u64 (shr_lt _ hri)] at hc
        have hb0 : bitAt (rows.getD i.toNat 0) j.toNat = false := by
          rcases bit_cases (rows.getD i.toNat 0) j.toNat with h1 | h1
          · unfold bitAt; rw [h1]; rfl
          · exact absurd (congrArg (Nat.cast (R := Int)) h1) (of_decide_eq_false hc)
        refine ⟨_, ?_, i + 1, at_, rfl, by omega, by omega, .inl ⟨hat'.1, ?_⟩, inferInstance, inferInstance, inferInstance, inferInstance, inferInstance, inferInstance, inferInstance, rfl⟩
        · omega
        · rw [hat'.2, show n - i.toNat = (n - (i.toNat + 1)) + 1 by omega, findRow_skip hb0, toNat_succ (by omega)]
    · rename_i hcc
      have hi : i < n := by simpa using hcc
      have hat' : 0 ≤ at_ ∧ findRow rows j.toNat done (n - done) = some at_.toNat := by
        rcases hat with h1 | h1
        · simp at hg; omega
        · exact h1
      refine ⟨_, ?_, i + 1, at_, rfl, by omega, by omega, .inr hat', inferInstance, inferInstance, inferInstance, inferInstance, inferInstance, inferInstance, inferInstance, rfl⟩
      omega
    · have hi : i = n := by
        rename_i hcc; simp at hcc; omega
      have hfn : findRow rows j.toNat done (rows.length - done) = none := by
        have : at_ < 0 := by simpa using hc
        rcases hat with h1 | h1
        · rw [hrl, h1.2, hi, show n - (n : Int).toNat = 0 by omega]; rfl
        · omega
      refine ⟨_, ?_, j + 1, rows, wth, done, rfl, by omega, by omega, ?_, by omega, h64r, h64w, inferInstance, inferInstance, inferInstance, inferInstance, inferInstance, o1, o2, hE, hF⟩
      · omega
      · rw [toNat_succ hj0, refK, hrk, refStep]; simp only [hfn]
    · have ha0 : 0 ≤ at_ := by simpa using hc
      have hfi : findRow rows j.toNat done (rows.length - done) = some at_.toNat := by
        rw [hrl]
        rcases hat with h1 | h1
        · omega
        · exact h1.2
      obtain ⟨hf1, hf2, _⟩ := findRow_some _ _ _ hfi
      have hba : 0 ≤ at_ ∧ at_ < (n : Int) := by omega
      have hbd : 0 ≤ (done : Int) ∧ (done : Int) < (n : Int) := by omega
      have c1 : CellIs h'' b (0 + at_.toNat * 1) _ := cell_u64 (rows := rows) (i := at_.toNat) o1 (by omega)
      have c2 : CellIs h'' b (0 + (done : Int).toNat * 1) (.int .u64 (rows.getD done 0 : Nat)) := by rw [Int.toNat_natCast]; exact cell_u64 o1 (by omega)
      have s1 : SetIs (u64s rows) (0 + at_.toNat * 1) [.int .u64 (rows.getD done 0 : Nat)] (u64s (rows.set at_.toNat (rows.getD done 0))) := set_u64 _ (by omega)
      have s2 : SetIs (u64s (rows.set at_.toNat (rows.getD done 0))) (0 + (done : Int).toNat * 1) [.int .u64 (rows.getD at_.toNat 0 : Nat)] (u64s (swapRows rows at_.toNat done)) := by rw [Int.toNat_natCast, ← swap_two]; exact set_u64 _ (by simp; omega)
      refine V_draw (plan := [.take 0, .take 1, .take 2, .take 3, .take 4, .take 5, .take 6, .take 7, .take 8, .take 9, .take 10, .take 11, .take 12, .one 13, .take 14, .one 15]) (by kernel_rfl) ?_
      repeat' (first | (first | refine V_seq ?_ | refine V_region ?_ | refine WS_nil ?_ | refine S_normal ?_ | refine V_block ?_ | refine B_normal ?_ | refine V_skip ?_ | refine V_exit ?_ | refine V_ret ?_ | refine S_exit ?_ | refine S_ret ?_ | refine B_exit ?_ | refine B_ret ?_ | refine B_pass rfl ?_ | refine WS_off rfl (by first | rfl | assumption) ?_ | refine WS_on rfl (by first | rfl | assumption) ?_ | refine WS_move ?_ | refine WS_assign ?_ | refine WS_pick_t (by first | rfl | assumption) ?_ | refine WS_pick_f (by first | rfl | assumption) ?_ | refine WS_isnil ?_ | refine WS_notnil ?_ | refine WS_cmp rfl ?_ | refine WS_addi (by omega) ?_ | refine WS_subi (by omega) ?_ | refine WS_arith rfl ?_ | refine WS_not ?_ | refine WS_neg ?_ | refine WS_convert ?_ | refine WS_len_slice ?_ | refine WS_len_string ?_ | refine WS_fieldAddr ?_ | refine WS_load ?_ | refine WS_load_agg ?_ | refine WS_box_agg rfl ?_ | refine WS_box rfl ?_ | refine WS_makeFunc ?_ | refine WS_extract ?_ | refine WS_field ?_ | refine WS_build ?_ | refine WS_zero ?_ | refine WS_shift (by first | decide | omega) rfl ?_ | refine WS_strcmp rfl ?_ | refine WS_indexAddr (by first | decide | omega) ?_ | refine WS_alloc ?_ | refine WS_store rfl ?_ | refine WS_buildSlice (by decide) rfl rfl (by simp [Value.cells]) ?_ | refine WDK_go ?_ | refine WDT_go ?_ | refine WD_nil ?_ | refine WD_take_off rfl rfl (by first | rfl | assumption) ?_ | refine WD_load rfl ?_ | refine WD_load_on rfl rfl (by first | rfl | assumption) ?_ | refine WD_load_agg rfl ?_ | refine WD_load_agg_on rfl rfl (by first | rfl | assumption) ?_ | refine WD_take rfl rfl ?_ | refine WD_take_on rfl rfl (by first | rfl | assumption) rfl ?_ | refine WD_drop rfl rfl ?_ | refine WD_one rfl ?_) | (refine WS_guard rfl ?_ ?_ <;> intro hg) | (refine V_cond ?_ ?_ <;> intro hc <;> try (cases hc; done)))
      obtain ⟨H3, hH3⟩ : ∃ H, H = ((h''.put b (u64s (rows.set at_.toNat (rows.getD done 0))) 25 y).put b (u64s (swapRows rows at_.toNat done)) 25 y) := ⟨_, rfl⟩
      have p1 : ObjIs H3 b (u64s (swapRows rows at_.toNat done)) 25 y := hH3 ▸ inferInstance
      have p2 : ObjIs H3 c (u64s wth) 25 z := hH3 ▸ inferInstance
      have hE3 : Fr2 b c h H3 := hH3 ▸ (hE.putL ob.even).putL ob.even
      have hF3 : H3.fresh = h.fresh := by rw [hH3, putObj_fresh, putObj_fresh, hF]
      rw [← hH3]
      have c3 : CellIs H3 c (0 + at_.toNat * 1) _ := cell_u64 (rows := wth) (i := at_.toNat) p2 (by omega)
      have c4 : CellIs H3 c (0 + (done : Int).toNat * 1) (.int .u64 (wth.getD done 0 : Nat)) := by rw [Int.toNat_natCast]; exact cell_u64 p2 (by omega)
      have s3 : SetIs (u64s wth) (0 + at_.toNat * 1) [.int .u64 (wth.getD done 0 : Nat)] (u64s (wth.set at_.toNat (wth.getD done 0))) := set_u64 _ (by omega)
      have s4 : SetIs (u64s (wth.set at_.toNat (wth.getD done 0))) (0 + (done : Int).toNat * 1) [.int .u64 (wth.getD at_.toNat 0 : Nat)] (u64s (swapRows wth at_.toNat done)) := by rw [Int.toNat_natCast, ← swap_two]; exact set_u64 _ (by simp; omega)
      refine V_draw (plan := [.take 0, .take 1, .take 2, .take 3, .take 4, .take 5, .take 6, .take 7, .take 8, .take 9, .take 10, .take 11, .take 12, .one 13, .take 14, .one 15]) (by kernel_rfl) ?_
      repeat' (first | (first | refine V_seq ?_ | refine V_region ?_ | refine WS_nil ?_ | refine S_normal ?_ | refine V_block ?_ | refine B_normal ?_ | refine V_skip ?_ | refine V_exit ?_ | refine V_ret ?_ | refine S_exit ?_ | refine S_ret ?_ | refine B_exit ?_ | refine B_ret ?_ | refine B_pass rfl ?_ | refine WS_off rfl (by first | rfl | assumption) ?_ | refine WS_on rfl (by first | rfl | assumption) ?_ | refine WS_move ?_ | refine WS_assign ?_ | refine WS_pick_t (by first | rfl | assumption) ?_ | refine WS_pick_f (by first | rfl | assumption) ?_ | refine WS_isnil ?_ | refine WS_notnil ?_ | refine WS_cmp rfl ?_ | refine WS_addi (by omega) ?_ | refine WS_subi (by omega) ?_ | refine WS_arith rfl ?_ | refine WS_not ?_ | refine WS_neg ?_ | refine WS_convert ?_ | refine WS_len_slice ?_ | refine WS_len_string ?_ | refine WS_fieldAddr ?_ | refine WS_load ?_ | refine WS_load_agg ?_ | refine WS_box_agg rfl ?_ | refine WS_box rfl ?_ | refine WS_makeFunc ?_ | refine WS_extract ?_ | refine WS_field ?_ | refine WS_build ?_ | refine WS_zero ?_ | refine WS_shift (by first | decide | omega) rfl ?_ | refine WS_strcmp rfl ?_ | refine WS_indexAddr (by first | decide | omega) ?_ | refine WS_alloc ?_ | refine WS_store rfl ?_ | refine WS_buildSlice (by decide) rfl rfl (by simp [Value.cells]) ?_ | refine WDK_go ?_ | refine WDT_go ?_ | refine WD_nil ?_ | refine WD_take_off rfl rfl (by first | rfl | assumption) ?_ | refine WD_load rfl ?_ | refine WD_load_on rfl rfl (by first | rfl | assumption) ?_ | refine WD_load_agg rfl ?_ | refine WD_load_agg_on rfl rfl (by first | rfl | assumption) ?_ | refine WD_take rfl rfl ?_ | refine WD_take_on rfl rfl (by first | rfl | assumption) rfl ?_ | refine WD_drop rfl rfl ?_ | refine WD_one rfl ?_) | (refine WS_guard rfl ?_ ?_ <;> intro hg) | (refine V_cond ?_ ?_ <;> intro hc <;> try (cases hc; done)))
      obtain ⟨H4, hH4⟩ : ∃ H, H = ((H3.put c (u64s (wth.set at_.toNat (wth.getD done 0))) 25 z).put c (u64s (swapRows wth at_.toNat done)) 25 z) := ⟨_, rfl⟩
      have q1 : ObjIs H4 b (u64s (swapRows rows at_.toNat done)) 25 y := hH4 ▸ inferInstance
      have q2 : ObjIs H4 c (u64s (swapRows wth at_.toNat done)) 25 z := hH4 ▸ inferInstance
      have hE4 : Fr2 b c h H4 := hH4 ▸ (hE3.putR oc.even).putR oc.even
      have hF4 : H4.fresh = h.fresh := by rw [hH4, putObj_fresh, putObj_fresh, hF3]
      rw [← hH4]
      refine V_loop (fun d s h4 => ∃ (k : Int) (cr cw : List Nat), d = (n - k).toNat ∧ 0 ≤ k ∧ k ≤ n ∧ addBoth j.toNat done 0 n (swapRows rows at_.toNat done, swapRows wth at_.toNat done) = addBoth j.toNat done k.toNat (n - k.toNat) (cr, cw) ∧ All64 cr ∧ All64 cw ∧ cr.length = n ∧ cw.length = n ∧ Get s 11 (.int .i64 k) ∧ Get s 8 (.int .i64 j) ∧ Get s 2 (.int .i64 N) ∧ Get s 0 (.slice (some (ad b 0)) n n) ∧ Get s 1 (.slice (some (ad c 0)) n n) ∧ Get s 7 (.int .i64 done) ∧ ObjIs h4 b (u64s cr) 25 y ∧ ObjIs h4 c (u64s cw) 25 z ∧ Fr2 b c h h4 ∧ h4.fresh = h.fresh) n
        ⟨0, swapRows rows at_.toNat done, swapRows wth at_.toNat done, by omega, by omega, by omega, rfl, h64r.swap _ _, h64w.swap _ _, by rw [swapRows_len, hrl], by rw [swapRows_len, hwl], inferInstance, inferInstance, inferInstance, inferInstance, inferInstance, inferInstance, q1, q2, hE4, hF4⟩ ?_
      rintro d s h4 ⟨k, cr, cw, rfl, hk0, hk1, hadd, h64cr, h64cw, hcrl, hcwl, x11, x8, x2, x0, x1, x7, o3, o4, hE5, hF5⟩
      have hlast : ¬ k < n → ∃ d', d' < (N - j).toNat ∧ refK rows0 with0 (j + 1).toNat = ((cr, cw), done + 1) ∧ d' = (N - (j + 1)).toNat := by
        intro hk
        refine ⟨_, ?_, ?_, rfl⟩
        · omega
        · rw [toNat_succ hj0, refK, hrk, refStep]
          simp only [hfi]
          rw [hrl, hadd, show n - k.toNat = 0 by omega]; rfl
      repeat' (first | (first | refine V_seq ?_ | refine V_region ?_ | refine WS_nil ?_ | refine S_normal ?_ | refine V_block ?_ | refine B_normal ?_ | refine V_skip ?_ | refine V_exit ?_ | refine V_ret ?_ | refine S_exit ?_ | refine S_ret ?_ | refine B_exit ?_ | refine B_ret ?_ | refine B_pass rfl ?_ | refine WS_off rfl (by first | rfl | assumption) ?_ | refine WS_on rfl (by first | rfl | assumption) ?_ | refine WS_move ?_ | refine WS_assign ?_ | refine WS_pick_t (by first | rfl | assumption) ?_ | refine WS_pick_f (by first | rfl | assumption) ?_ | refine WS_isnil ?_ | refine WS_notnil ?_ | refine WS_cmp rfl ?_ | refine WS_addi (by omega) ?_ | refine WS_subi (by omega) ?_ | refine WS_arith rfl ?_ | refine WS_not ?_ | refine WS_neg ?_ | refine WS_convert ?_ | refine WS_len_slice ?_ | refine WS_len_string ?_ | refine WS_fieldAddr ?_ | refine WS_load ?_ | refine WS_load_agg ?_ | refine WS_box_agg rfl ?_ | refine WS_box rfl ?_ | refine WS_makeFunc ?_ | refine WS_extract ?_ | refine WS_field ?_ | refine WS_build ?_ | refine WS_zero ?_ | refine WS_shift (by first | decide | omega) rfl ?_ | refine WS_strcmp rfl ?_ | refine WS_indexAddr (by first | decide | omega) ?_ | refine WS_alloc ?_ | refine WS_store rfl ?_ | refine WS_buildSlice (by decide) rfl rfl (by simp [Value.cells]) ?_ | refine WDK_go ?_ | refine WDT_go ?_ | refine WD_nil ?_ | refine WD_take_off rfl rfl (by first | rfl | assumption) ?_ | refine WD_load rfl ?_ | refine WD_load_on rfl rfl (by first | rfl | assumption) ?_ | refine WD_load_agg rfl ?_ | refine WD_load_agg_on rfl rfl (by first | rfl | assumption) ?_ | refine WD_take rfl rfl ?_ | refine WD_take_on rfl rfl (by first | rfl | assumption) rfl ?_ | refine WD_drop rfl rfl ?_ | refine WD_one rfl ?_) | (refine WS_guard rfl ?_ ?_ <;> intro hg) | (refine V_cond ?_ ?_ <;> intro hc <;> try (cases hc; done)))
      · have hk : k < n := by simpa using hc
        have hkd : k.toNat ≠ done := by simp at hg; omega
        have d1 : CellIs h4 b (0 + k.toNat * 1) _ := cell_u64 (rows := cr) (i := k.toNat) o3 (by omega)
        have d2 : CellIs h4 b (0 + (done : Int).toNat * 1) (.int .u64 (cr.getD done 0 : Nat)) := by rw [Int.toNat_natCast]; exact cell_u64 o3 (by omega)
        have d3 : CellIs h4 c (0 + k.toNat * 1) _ := cell_u64 (rows := cw) (i := k.toNat) o4 (by omega)
        have d4 : CellIs h4 c (0 + (done : Int).toNat * 1) (.int .u64 (cw.getD done 0 : Nat)) := by rw [Int.toNat_natCast]; exact cell_u64 o4 (by omega)
        have hrk' := h64cr.get k.toNat
        have hrr := h64cr.get done
        have hwk := h64cw.get k.toNat
        have hwr := h64cw.get done
        have hbk : 0 ≤ k ∧ k < (n : Int) := by omega
        repeat' (first | (first | refine V_seq ?_ | refine V_region ?_ | refine WS_nil ?_ | refine S_normal ?_ | refine V_block ?_ | refine B_normal ?_ | refine V_skip ?_ | refine V_exit ?_ | refine V_ret ?_ | refine S_exit ?_ | refine S_ret ?_ | refine B_exit ?_ | refine B_ret ?_ | refine B_pass rfl ?_ | refine WS_off rfl (by first | rfl | assumption) ?_ | refine WS_on rfl (by first | rfl | assumption) ?_ | refine WS_move ?_ | refine WS_assign ?_ | refine WS_pick_t (by first | rfl | assumption) ?_ | refine WS_pick_f (by first | rfl | assumption) ?_ | refine WS_isnil ?_ | refine WS_notnil ?_ | refine WS_cmp rfl ?_ | refine WS_addi (by omega) ?_ | refine WS_subi (by omega) ?_ | refine WS_arith rfl ?_ | refine WS_not ?_ | refine WS_neg ?_ | refine WS_convert ?_ | refine WS_len_slice ?_ | refine WS_len_string ?_ | refine WS_fieldAddr ?_ | refine WS_load ?_ | refine WS_load_agg ?_ | refine WS_box_agg rfl ?_ | refine WS_box rfl ?_ | refine WS_makeFunc ?_ | refine WS_extract ?_ | refine WS_field ?_ | refine WS_build ?_ | refine WS_zero ?_ | refine WS_shift (by first | decide | omega) rfl ?_ | refine WS_strcmp rfl ?_ | refine WS_indexAddr (by first | decide | omega) ?_ | refine WS_alloc ?_ | refine WS_store rfl ?_ | refine WS_buildSlice (by decide) rfl rfl (by simp [Value.cells]) ?_ | refine WDK_go ?_ | refine WDT_go ?_ | refine WD_nil ?_ | refine WD_take_off rfl rfl (by first | rfl | assumption) ?_ | refine WD_load rfl ?_ | refine WD_load_on rfl rfl (by first | rfl | assumption) ?_ | refine WD_load_agg rfl ?_ | refine WD_load_agg_on rfl rfl (by first | rfl | assumption) ?_ | refine WD_take rfl rfl ?_ | refine WD_take_on rfl rfl (by first | rfl | assumption) rfl ?_ | refine WD_drop rfl rfl ?_ | refine WD_one rfl ?_) | (refine WS_guard rfl ?_ ?_ <;> intro hg) | (refine V_cond ?_ ?_ <;> intro hc <;> try (cases hc; done)))
        · rw [shr_u64 hj0 hrk', and1_u64 (shr_lt _ hrk')] at hc
          have hbk1 : bitAt (cr.getD k.toNat 0) j.toNat = true := by
            have h1 : cr.getD k.toNat 0 >>> j.toNat &&& 1 = 1 := Int.ofNat_inj.mp (show ((cr.getD k.toNat 0 >>> j.toNat &&& 1 : Nat) : Int) = ((1 : Nat) : Int) from of_decide_eq_true hc)
            unfold bitAt; rw [h1]; rfl
          have t1 : SetIs (u64s cr) (0 + k.toNat * 1) [.int .u64 ((cr.getD k.toNat 0 ^^^ cr.getD done 0 : Nat) : Int)] (u64s (cr.set k.toNat (cr.getD k.toNat 0 ^^^ cr.getD done 0))) := set_u64 _ (by omega)
          rw [← xor_u64 hrk' hrr] at t1
          have t2 : SetIs (u64s cw) (0 + k.toNat * 1) [.int .u64 ((cw.getD k.toNat 0 ^^^ cw.getD done 0 : Nat) : Int)] (u64s (cw.set k.toNat (cw.getD k.toNat 0 ^^^ cw.getD done 0))) := set_u64 _ (by omega)
          rw [← xor_u64 hwk hwr] at t2
          refine V_draw (plan := [.take 0, .take 1, .take 2, .take 3, .take 4, .take 5, .take 6, .take 7, .take 8, .take 9, .one 10]) (by kernel_rfl) ?_
          repeat' (first | (first | refine V_seq ?_ | refine V_region ?_ | refine WS_nil ?_ | refine S_normal ?_ | refine V_block ?_ | refine B_normal ?_ | refine V_skip ?_ | refine V_exit ?_ | refine V_ret ?_ | refine S_exit ?_ | refine S_ret ?_ | refine B_exit ?_ | refine B_ret ?_ | refine B_pass rfl ?_ | refine WS_off rfl (by first | rfl | assumption) ?_ | refine WS_on rfl (by first | rfl | assumption) ?_ | refine WS_move ?_ | refine WS_assign ?_ | refine WS_pick_t (by first | rfl | assumption) ?_ | refine WS_pick_f (by first | rfl | assumption) ?_ | refine WS_isnil ?_ | refine WS_notnil ?_ | refine WS_cmp rfl ?_ | refine WS_addi (by omega) ?_ | refine WS_subi (by omega) ?_ | refine WS_arith rfl ?_ | refine WS_not ?_ | refine WS_neg ?_ | refine WS_convert ?_ | refine WS_len_slice ?_ | refine WS_len_string ?_ | refine WS_fieldAddr ?_ | refine WS_load ?_ | refine WS_load_agg ?_ | refine WS_box_agg rfl ?_ | refine WS_box rfl ?_ | refine WS_makeFunc ?_ | refine WS_extract ?_ | refine WS_field ?_ | refine WS_build ?_ | refine WS_zero ?_ | refine WS_shift (by first | decide | omega) rfl ?_ | refine WS_strcmp rfl ?_ | refine WS_indexAddr (by first | decide | omega) ?_ | refine WS_alloc ?_ | refine WS_store rfl ?_ | refine WS_buildSlice (by decide) rfl rfl (by simp [Value.cells]) ?_ | refine WDK_go ?_ | refine WDT_go ?_ | refine WD_nil ?_ | refine WD_take_off rfl rfl (by first | rfl | assumption) ?_ | refine WD_load rfl ?_ | refine WD_load_on rfl rfl (by first | rfl | assumption) ?_ | refine WD_load_agg rfl ?_ | refine WD_load_agg_on rfl rfl (by first | rfl | assumption) ?_ | refine WD_take rfl rfl ?_ | refine WD_take_on rfl rfl (by first | rfl | assumption) rfl ?_ | refine WD_drop rfl rfl ?_ | refine WD_one rfl ?_) | (refine WS_guard rfl ?_ ?_ <;> intro hg) | (refine V_cond ?_ ?_ <;> intro hc <;> try (cases hc; done)))
          refine V_draw (plan := [.take 0, .take 1, .take 2, .take 3, .take 4, .take 5, .take 6, .take 7, .take 8, .take 9, .one 10]) (by kernel_rfl) ?_
          repeat' (first | (first | refine V_seq ?_ | refine V_region ?_ | refine WS_nil ?_ | refine S_normal ?_ | refine V_block ?_ | refine B_normal ?_ | refine V_skip ?_ | refine V_exit ?_ | refine V_ret ?_ | refine S_exit ?_ | refine S_ret ?_ | refine B_exit ?_ | refine B_ret ?_ | refine B_pass rfl ?_ | refine WS_off rfl (by first | rfl | assumption) ?_ | refine WS_on rfl (by first | rfl | assumption) ?_ | refine WS_move ?_ | refine WS_assign ?_ | refine WS_pick_t (by first | rfl | assumption) ?_ | refine WS_pick_f (by first | rfl | assumption) ?_ | refine WS_isnil ?_ | refine WS_notnil ?_ | refine WS_cmp rfl ?_ | refine WS_addi (by omega) ?_ | refine WS_subi (by omega) ?_ | refine WS_arith rfl ?_ | refine WS_not ?_ | refine WS_neg ?_ | refine WS_convert ?_ | refine WS_len_slice ?_ | refine WS_len_string ?_ | refine WS_fieldAddr ?_ | refine WS_load ?_ | refine WS_load_agg ?_ | refine WS_box_agg rfl ?_ | refine WS_box rfl ?_ | refine WS_makeFunc ?_ | refine WS_extract ?_ | refine WS_field ?_ | refine WS_build ?_ | refine WS_zero ?_ | refine WS_shift (by first | decide | omega) rfl ?_ | refine WS_strcmp rfl ?_ | refine WS_indexAddr (by first | decide | omega) ?_ | refine WS_alloc ?_ | refine WS_store rfl ?_ | refine WS_buildSlice (by decide) rfl rfl (by simp [Value.cells]) ?_ | refine WDK_go ?_ | refine WDT_go ?_ | refine WD_nil ?_ | refine WD_take_off rfl rfl (by first | rfl | assumption) ?_ | refine WD_load rfl ?_ | refine WD_load_on rfl rfl (by first | rfl | assumption) ?_ | refine WD_load_agg rfl ?_ | refine WD_load_agg_on rfl rfl (by first | rfl | assumption) ?_ | refine WD_take rfl rfl ?_ | refine WD_take_on rfl rfl (by first | rfl | assumption) rfl ?_ | refine WD_drop rfl rfl ?_ | refine WD_one rfl ?_) | (refine WS_guard rfl ?_ ?_ <;> intro hg) | (refine V_cond ?_ ?_ <;> intro hc <;> try (cases hc; done)))
          refine ⟨_, ?_, k + 1, cr.set k.toNat (cr.getD k.toNat 0 ^^^ cr.getD done 0), cw.set k.toNat (cw.getD k.toNat 0 ^^^ cw.getD done 0), rfl, by omega, by omega, ?_, h64cr.set (Nat.xor_lt_two_pow hrk' hrr), h64cw.set (Nat.xor_lt_two_pow hwk hwr), by simpa using hcrl, by simpa using hcwl, inferInstance, inferInstance, inferInstance, inferInstance, inferInstance, inferInstance, inferInstance, inferInstance, (hE5.putL ob.even).putR oc.even, by rw [putObj_fresh, putObj_fresh, hF5]⟩
          · omega
          · rw [hadd, toNat_succ hk0, show n - k.toNat = (n - (k.toNat + 1)) + 1 by omega, addBoth]
            rw [if_pos ⟨hkd, hbk1⟩]
        · rw [shr_u64 hj0 hrk', and1_u64 (shr_lt _ hrk')] at hc
          have hbk0 : bitAt (cr.getD k.toNat 0) j.toNat = false := by
            rcases bit_cases (cr.getD k.toNat 0) j.toNat with h1 | h1
            · unfold bitAt; rw [h1]; rfl
            · exact absurd (congrArg (Nat.cast (R := Int)) h1) (of_decide_eq_false hc)
          refine ⟨_, ?_, k + 1, cr, cw, rfl, by omega, by omega, ?_, h64cr, h64cw, hcrl, hcwl, inferInstance, inferInstance, inferInstance, inferInstance, inferInstance, inferInstance, o3, o4, hE5, hF5⟩
          · omega
          · rw [hadd, toNat_succ hk0, show n - k.toNat = (n - (k.toNat + 1)) + 1 by omega, addBoth]
            rw [if_neg (by rintro ⟨_, h2⟩; rw [hbk0] at h2; cases h2)]
      · rename_i hcc
        have hk : k < n := by simpa using hcc
        have hkd : k.toNat = done := by simp at hg; omega
        refine ⟨_, ?_, k + 1, cr, cw, rfl, by omega, by omega, ?_, h64cr, h64cw, hcrl, hcwl, inferInstance, inferInstance, inferInstance, inferInstance, inferInstance, inferInstance, o3, o4, hE5, hF5⟩
        · omega
        · rw [hadd, toNat_succ hk0, show n - k.toNat = (n - (k.toNat + 1)) + 1 by omega, addBoth]
          rw [if_neg (by rintro ⟨h1, _⟩; exact h1 hkd)]
      · obtain ⟨d', hd1, hd2, rfl⟩ := hlast (by simp at hc; omega)
        exact ⟨_, hd1, j + 1, cr, cw, done + 1, rfl, by omega, by omega, hd2, by omega, h64cr, h64cw, inferInstance, inferInstance, inferInstance, inferInstance, inferInstance, o3, o4, hE5, hF5⟩
  · have hj : j = N := by simp at hc; omega
    refine retK_1 ⟨?_, ?_⟩ (.inr rfl)
    · rw [show n = j.toNat by omega, hrk]
    · rw [show n = j.toNat by omega, hrk]; exact ⟨o1, o2, hE, hF⟩
instance : CallIs Try.prog 58 := .of Try.func58 rfl rfl
end Go.Ideal

-- Lk
set_option linter.unusedSimpArgs false
set_option linter.unusedVariables false
namespace Go.Ideal
open Go Go.Proofs
theorem u64s_replicate (n : Nat) : List.replicate n (Value.int .u64 0) = u64s (List.replicate n 0) := by simp [u64s]
theorem All64.replicate (n : Nat) : All64 (List.replicate n 0) := fun x hx => by rw [List.eq_of_mem_replicate hx]; decide
/-- reduced, on slices of one's own, of any length -/
theorem reduced_own (N : Int) (lo : Nat) (v w : Value) (rows0 with0 : List Nat) (h : IHp) (hN : N = rows0.length) (hN1 : N ≤ 64) (hw : with0.length = rows0.length) (ov : Own lo h v (u64s rows0) 25) (ow : Own lo h w (u64s with0) 25) (hvw : ∀ b, blockOf v = some b → blockOf w ≠ some b) (h64 : All64 rows0) (w64 : All64 with0) :
    EvX Try.prog 58 [v, w, .int .i64 N].toArray h (fun r h' => r = .int .i64 ((refK rows0 with0 rows0.length).2 : Nat) ∧ Own lo h' v (u64s (refK rows0 with0 rows0.length).1.1) 25 ∧ Own lo h' w (u64s (refK rows0 with0 rows0.length).1.2) 25 ∧ (∀ h0, Ext h0 h → h0.fresh ≤ lo → Ext h0 h') ∧ (∀ (x : Nat) (l : List Value) (t : TypeId) (e : Bool), ObjIs h x l t e → blockOf v ≠ some x → blockOf w ≠ some x → ObjIs h' x l t e) ∧ h'.fresh = h.fresh) := by
  by_cases hz : rows0.length = 0
  · have hr : rows0 = [] := List.eq_nil_of_length_eq_zero hz
    subst hr
    have hw0 : with0 = [] := List.eq_nil_of_length_eq_zero (by simpa using hw)
    subst hw0
    obtain ⟨a, rfl⟩ := ov.isSlice
    obtain ⟨a', rfl⟩ := ow.isSlice
    have hN0 : N = 0 := by simpa using hN
    subst hN0
    have := reduced_ref_zero a a' h
    unfold EvX at this ⊢
    obtain ⟨r, h', h1, rfl, rfl⟩ := this
    exact ⟨_, _, h1, rfl, ov, ow, fun _ e _ => e, fun _ _ _ _ o _ _ => o, rfl⟩
  · obtain ⟨b, y, hb, rfl, ob⟩ := ov.at (by rw [u64s_len]; omega)
    obtain ⟨c, z, hc, rfl, oc⟩ := ow.at (by rw [u64s_len]; omega)
    have hbc : b ≠ c := fun hh => hvw b rfl (by rw [hh]; rfl)
    rw [u64s_len, u64s_len, hw]
    have := reduced_ref N rows0.length b c y z rows0 with0 h rfl hN hN1 hw ob oc hbc h64 w64
    unfold EvX at this ⊢
    obtain ⟨r, h', h1, h2, h3, h4, h5, h6⟩ := this
    have hl := refK_len rows0 with0 rows0.length
    refine ⟨r, h', h1, h2, .inr ⟨b, y, hb, by rw [u64s_len, hl.1], h3⟩, .inr ⟨c, z, hc, by rw [u64s_len, hl.2, hw], h4⟩, fun h0 e l => h5.ext e (by omega) (by omega), fun x l t e o n1 n2 => h5.obj o (fun hh => n1 (by simp [blockOf, hh])) (fun hh => n2 (by simp [blockOf, hh])), h6⟩
theorem Rank_ref (N : Int) (a : Option Addr) (len cap : Nat) (xs : List Nat) (h : IHp) (hx : SlIs h a len cap (u64s xs)) (h64 : All64 xs) :
    EvX Try.prog 20 [.agg [.int .i64 N, .slice a len cap].toArray].toArray h (fun v h' => Ext h h' ∧ v = if checkS N xs = 0 then .tuple [.int .i64 ((refK xs (List.replicate xs.length 0) xs.length).2 : Nat), .int .i64 0].toArray else .tuple [.int .i64 0, .int .i64 2].toArray) := by
  have hlen : xs.length = len := by have := hx.1; simpa [u64s] using this
  refine EvX_of Try.func20 rfl (by show 1 ≤ 19; decide) ?_
  repeat' (first | (first | refine V_seq ?_ | refine V_region ?_ | refine WS_nil ?_ | refine S_normal ?_ | refine V_block ?_ | refine B_normal ?_ | refine V_skip ?_ | refine V_exit ?_ | refine V_ret ?_ | refine S_exit ?_ | refine S_ret ?_ | refine B_exit ?_ | refine B_ret ?_ | refine B_pass rfl ?_ | refine WS_off rfl (by first | rfl | assumption) ?_ | refine WS_on rfl (by first | rfl | assumption) ?_ | refine WS_move ?_ | refine WS_assign ?_ | refine WS_pick_t (by first | rfl | assumption) ?_ | refine WS_pick_f (by first | rfl | assumption) ?_ | refine WS_isnil ?_ | refine WS_notnil ?_ | refine WS_cmp rfl ?_ | refine WS_addi (by omega) ?_ | refine WS_subi (by omega) ?_ | refine WS_arith rfl ?_ | refine WS_not ?_ | refine WS_neg ?_ | refine WS_convert ?_ | refine WS_len_slice ?_ | refine WS_len_string ?_ | refine WS_fieldAddr ?_ | refine WS_load ?_ | refine WS_load_agg ?_ | refine WS_box_agg rfl ?_ | refine WS_box rfl ?_ | refine WS_makeFunc ?_ | refine WS_extract ?_ | refine WS_field ?_ | refine WS_build ?_ | refine WS_zero ?_ | refine WS_shift (by first | decide | omega) rfl ?_ | refine WS_strcmp rfl ?_ | refine WS_indexAddr (by first | decide | omega) ?_ | refine WS_alloc ?_ | refine WS_store rfl ?_ | refine WS_buildSlice (by decide) rfl rfl (by simp [Value.cells]) ?_ | refine WDK_go ?_ | refine WDT_go ?_ | refine WD_nil ?_ | refine WD_take_off rfl rfl (by first | rfl | assumption) ?_ | refine WD_load rfl ?_ | refine WD_load_on rfl rfl (by first | rfl | assumption) ?_ | refine WD_load_agg rfl ?_ | refine WD_load_agg_on rfl rfl (by first | rfl | assumption) ?_ | refine WD_take rfl rfl ?_ | refine WD_take_on rfl rfl (by first | rfl | assumption) rfl ?_ | refine WD_drop rfl rfl ?_ | refine WD_one rfl ?_) | (refine WS_guard rfl ?_ ?_ <;> intro hg) | (refine V_cond ?_ ?_ <;> intro hc <;> try (cases hc; done)))
  have eX0 : Ext h (h.push (IObj.cells [Value.int IntKind.i64 N, Value.slice a len cap] 24 true)) := Ext.push _ _
  refine WS_call (Check_ref N a len cap xs _ (hx.ext eX0) h64) ?_
  rintro _ H ⟨rfl, eX1⟩
  have eX : Ext h H := eX0.trans eX1
  have b1 : ObjIs H h.fresh [.int .i64 N, .slice a len cap] 24 true := inferInstance
  repeat' (first | (first | refine V_seq ?_ | refine V_region ?_ | refine WS_nil ?_ | refine S_normal ?_ | refine V_block ?_ | refine B_normal ?_ | refine V_skip ?_ | refine V_exit ?_ | refine V_ret ?_ | refine S_exit ?_ | refine S_ret ?_ | refine B_exit ?_ | refine B_ret ?_ | refine B_pass rfl ?_ | refine WS_off rfl (by first | rfl | assumption) ?_ | refine WS_on rfl (by first | rfl | assumption) ?_ | refine WS_move ?_ | refine WS_assign ?_ | refine WS_pick_t (by first | rfl | assumption) ?_ | refine WS_pick_f (by first | rfl | assumption) ?_ | refine WS_isnil ?_ | refine WS_notnil ?_ | refine WS_cmp rfl ?_ | refine WS_addi (by omega) ?_ | refine WS_subi (by omega) ?_ | refine WS_arith rfl ?_ | refine WS_not ?_ | refine WS_neg ?_ | refine WS_convert ?_ | refine WS_len_slice ?_ | refine WS_len_string ?_ | refine WS_fieldAddr ?_ | refine WS_load ?_ | refine WS_load_agg ?_ | refine WS_box_agg rfl ?_ | refine WS_box rfl ?_ | refine WS_makeFunc ?_ | refine WS_extract ?_ | refine WS_field ?_ | refine WS_build ?_ | refine WS_zero ?_ | refine WS_shift (by first | decide | omega) rfl ?_ | refine WS_strcmp rfl ?_ | refine WS_indexAddr (by first | decide | omega) ?_ | refine WS_alloc ?_ | refine WS_store rfl ?_ | refine WS_buildSlice (by decide) rfl rfl (by simp [Value.cells]) ?_ | refine WDK_go ?_ | refine WDT_go ?_ | refine WD_nil ?_ | refine WD_take_off rfl rfl (by first | rfl | assumption) ?_ | refine WD_load rfl ?_ | refine WD_load_on rfl rfl (by first | rfl | assumption) ?_ | refine WD_load_agg rfl ?_ | refine WD_load_agg_on rfl rfl (by first | rfl | assumption) ?_ | refine WD_take rfl rfl ?_ | refine WD_take_on rfl rfl (by first | rfl | assumption) rfl ?_ | refine WD_drop rfl rfl ?_ | refine WD_one rfl ?_) | (refine WS_guard rfl ?_ ?_ <;> intro hg) | (refine V_cond ?_ ?_ <;> intro hc <;> try (cases hc; done)))
  · refine retK_2 ⟨eX, ?_⟩ (.inr rfl)
    rw [if_neg]
    simp at hc; simp [hc]
  · have hck : checkS N xs = 0 := by simpa using hc
    obtain ⟨hN0, hN1, hN2, _⟩ := checkS_zero hck
    have e2 : Ext H (H.push (IObj.cells [] 25 true)) := Ext.push _ _
    refine WS_append_copy (lo := H.fresh) ((hx.ext eX).ext e2) (Nat.le_refl _) (by omega) ?_
    intro v H2 hO e3
    have eH2 : Ext H H2 := e2.trans e3
    have b2 : ObjIs H2 h.fresh [.int .i64 N, .slice a len cap] 24 true := ⟨b1.even, eH2.new _ _ b1.eq⟩
    repeat' (first | (first | refine V_seq ?_ | refine V_region ?_ | refine WS_nil ?_ | refine S_normal ?_ | refine V_block ?_ | refine B_normal ?_ | refine V_skip ?_ | refine V_exit ?_ | refine V_ret ?_ | refine S_exit ?_ | refine S_ret ?_ | refine B_exit ?_ | refine B_ret ?_ | refine B_pass rfl ?_ | refine WS_off rfl (by first | rfl | assumption) ?_ | refine WS_on rfl (by first | rfl | assumption) ?_ | refine WS_move ?_ | refine WS_assign ?_ | refine WS_pick_t (by first | rfl | assumption) ?_ | refine WS_pick_f (by first | rfl | assumption) ?_ | refine WS_isnil ?_ | refine WS_notnil ?_ | refine WS_cmp rfl ?_ | refine WS_addi (by omega) ?_ | refine WS_subi (by omega) ?_ | refine WS_arith rfl ?_ | refine WS_not ?_ | refine WS_neg ?_ | refine WS_convert ?_ | refine WS_len_slice ?_ | refine WS_len_string ?_ | refine WS_fieldAddr ?_ | refine WS_load ?_ | refine WS_load_agg ?_ | refine WS_box_agg rfl ?_ | refine WS_box rfl ?_ | refine WS_makeFunc ?_ | refine WS_extract ?_ | refine WS_field ?_ | refine WS_build ?_ | refine WS_zero ?_ | refine WS_shift (by first | decide | omega) rfl ?_ | refine WS_strcmp rfl ?_ | refine WS_indexAddr (by first | decide | omega) ?_ | refine WS_alloc ?_ | refine WS_store rfl ?_ | refine WS_buildSlice (by decide) rfl rfl (by simp [Value.cells]) ?_ | refine WDK_go ?_ | refine WDT_go ?_ | refine WD_nil ?_ | refine WD_take_off rfl rfl (by first | rfl | assumption) ?_ | refine WD_load rfl ?_ | refine WD_load_on rfl rfl (by first | rfl | assumption) ?_ | refine WD_load_agg rfl ?_ | refine WD_load_agg_on rfl rfl (by first | rfl | assumption) ?_ | refine WD_take rfl rfl ?_ | refine WD_take_on rfl rfl (by first | rfl | assumption) rfl ?_ | refine WD_drop rfl rfl ?_ | refine WD_one rfl ?_) | (refine WS_guard rfl ?_ ?_ <;> intro hg) | (refine V_cond ?_ ?_ <;> intro hc <;> try (cases hc; done)))
    refine V_draw (plan := [.take 0, .take 1, .take 2, .take 4, .take 5, .one 3, .one 6, .take 7, .take 8]) (by kernel_rfl) ?_
    repeat' (first | (first | refine V_seq ?_ | refine V_region ?_ | refine WS_nil ?_ | refine S_normal ?_ | refine V_block ?_ | refine B_normal ?_ | refine V_skip ?_ | refine V_exit ?_ | refine V_ret ?_ | refine S_exit ?_ | refine S_ret ?_ | refine B_exit ?_ | refine B_ret ?_ | refine B_pass rfl ?_ | refine WS_off rfl (by first | rfl | assumption) ?_ | refine WS_on rfl (by first | rfl | assumption) ?_ | refine WS_move ?_ | refine WS_assign ?_ | refine WS_pick_t (by first | rfl | assumption) ?_ | refine WS_pick_f (by first | rfl | assumption) ?_ | refine WS_isnil ?_ | refine WS_notnil ?_ | refine WS_cmp rfl ?_ | refine WS_addi (by omega) ?_ | refine WS_subi (by omega) ?_ | refine WS_arith rfl ?_ | refine WS_not ?_ | refine WS_neg ?_ | refine WS_convert ?_ | refine WS_len_slice ?_ | refine WS_len_string ?_ | refine WS_fieldAddr ?_ | refine WS_load ?_ | refine WS_load_agg ?_ | refine WS_box_agg rfl ?_ | refine WS_box rfl ?_ | refine WS_makeFunc ?_ | refine WS_extract ?_ | refine WS_field ?_ | refine WS_build ?_ | refine WS_zero ?_ | refine WS_shift (by first | decide | omega) rfl ?_ | refine WS_strcmp rfl ?_ | refine WS_indexAddr (by first | decide | omega) ?_ | refine WS_alloc ?_ | refine WS_store rfl ?_ | refine WS_buildSlice (by decide) rfl rfl (by simp [Value.cells]) ?_ | refine WDK_go ?_ | refine WDT_go ?_ | refine WD_nil ?_ | refine WD_take_off rfl rfl (by first | rfl | assumption) ?_ | refine WD_load rfl ?_ | refine WD_load_on rfl rfl (by first | rfl | assumption) ?_ | refine WD_load_agg rfl ?_ | refine WD_load_agg_on rfl rfl (by first | rfl | assumption) ?_ | refine WD_take rfl rfl ?_ | refine WD_take_on rfl rfl (by first | rfl | assumption) rfl ?_ | refine WD_drop rfl rfl ?_ | refine WD_one rfl ?_) | (refine WS_guard rfl ?_ ?_ <;> intro hg) | (refine V_cond ?_ ?_ <;> intro hc <;> try (cases hc; done)))
    refine WS_makeSlice (by omega) (by omega) (by omega) ?_
    rw [u64s_replicate]
    obtain ⟨H3, hH3⟩ : ∃ H, H = H2.push (IObj.cells (u64s (List.replicate N.toNat 0)) 25 true) := ⟨_, rfl⟩
    have e4 : Ext H2 H3 := hH3 ▸ Ext.push _ _
    have o4 : ObjIs H3 H2.fresh (u64s (List.replicate N.toNat 0)) 25 true := hH3 ▸ inferInstance
    rw [← hH3]
    have l1 : (List.replicate N.toNat 0).length = xs.length := by simp; omega
    have hf2 := eH2.fresh
    repeat' (first | (first | refine V_seq ?_ | refine V_region ?_ | refine WS_nil ?_ | refine S_normal ?_ | refine V_block ?_ | refine B_normal ?_ | refine V_skip ?_ | refine V_exit ?_ | refine V_ret ?_ | refine S_exit ?_ | refine S_ret ?_ | refine B_exit ?_ | refine B_ret ?_ | refine B_pass rfl ?_ | refine WS_off rfl (by first | rfl | assumption) ?_ | refine WS_on rfl (by first | rfl | assumption) ?_ | refine WS_move ?_ | refine WS_assign ?_ | refine WS_pick_t (by first | rfl | assumption) ?_ | refine WS_pick_f (by first | rfl | assumption) ?_ | refine WS_isnil ?_ | refine WS_notnil ?_ | refine WS_cmp rfl ?_ | refine WS_addi (by omega) ?_ | refine WS_subi (by omega) ?_ | refine WS_arith rfl ?_ | refine WS_not ?_ | refine WS_neg ?_ | refine WS_convert ?_ | refine WS_len_slice ?_ | refine WS_len_string ?_ | refine WS_fieldAddr ?_ | refine WS_load ?_ | refine WS_load_agg ?_ | refine WS_box_agg rfl ?_ | refine WS_box rfl ?_ | refine WS_makeFunc ?_ | refine WS_extract ?_ | refine WS_field ?_ | refine WS_build ?_ | refine WS_zero ?_ | refine WS_shift (by first | decide | omega) rfl ?_ | refine WS_strcmp rfl ?_ | refine WS_indexAddr (by first | decide | omega) ?_ | refine WS_alloc ?_ | refine WS_store rfl ?_ | refine WS_buildSlice (by decide) rfl rfl (by simp [Value.cells]) ?_ | refine WDK_go ?_ | refine WDT_go ?_ | refine WD_nil ?_ | refine WD_take_off rfl rfl (by first | rfl | assumption) ?_ | refine WD_load rfl ?_ | refine WD_load_on rfl rfl (by first | rfl | assumption) ?_ | refine WD_load_agg rfl ?_ | refine WD_load_agg_on rfl rfl (by first | rfl | assumption) ?_ | refine WD_take rfl rfl ?_ | refine WD_take_on rfl rfl (by first | rfl | assumption) rfl ?_ | refine WD_drop rfl rfl ?_ | refine WD_one rfl ?_) | (refine WS_guard rfl ?_ ?_ <;> intro hg) | (refine V_cond ?_ ?_ <;> intro hc <;> try (cases hc; done)))
    have hW : Own H.fresh H3 (.slice (some (ad H2.fresh 0)) N.toNat N.toNat) (u64s (List.replicate N.toNat 0)) 25 := .inr ⟨H2.fresh, true, hf2, by rw [u64s_len]; simp, o4⟩
    refine WS_call (reduced_own N H.fresh v _ xs _ H3 (by omega) hN1 l1 (hO.ext e4) hW (fun b hb hw => by
      have h1 := hO.block hb
      simp only [blockOf, Option.some.injEq] at hw
      omega) h64 (All64.replicate _)) ?_
    rintro _ H4 ⟨rfl, _, _, hE, _, _⟩
    have e5 : Ext H H4 := hE H (eH2.trans e4) (Nat.le_refl _)
    have b4 : ObjIs H4 h.fresh [.int .i64 N, .slice a len cap] 24 true := ⟨b1.even, e5.new _ _ b1.eq⟩
    repeat' (first | (first | refine V_seq ?_ | refine V_region ?_ | refine WS_nil ?_ | refine S_normal ?_ | refine V_block ?_ | refine B_normal ?_ | refine V_skip ?_ | refine V_exit ?_ | refine V_ret ?_ | refine S_exit ?_ | refine S_ret ?_ | refine B_exit ?_ | refine B_ret ?_ | refine B_pass rfl ?_ | refine WS_off rfl (by first | rfl | assumption) ?_ | refine WS_on rfl (by first | rfl | assumption) ?_ | refine WS_move ?_ | refine WS_assign ?_ | refine WS_pick_t (by first | rfl | assumption) ?_ | refine WS_pick_f (by first | rfl | assumption) ?_ | refine WS_isnil ?_ | refine WS_notnil ?_ | refine WS_cmp rfl ?_ | refine WS_addi (by omega) ?_ | refine WS_subi (by omega) ?_ | refine WS_arith rfl ?_ | refine WS_not ?_ | refine WS_neg ?_ | refine WS_convert ?_ | refine WS_len_slice ?_ | refine WS_len_string ?_ | refine WS_fieldAddr ?_ | refine WS_load ?_ | refine WS_load_agg ?_ | refine WS_box_agg rfl ?_ | refine WS_box rfl ?_ | refine WS_makeFunc ?_ | refine WS_extract ?_ | refine WS_field ?_ | refine WS_build ?_ | refine WS_zero ?_ | refine WS_shift (by first | decide | omega) rfl ?_ | refine WS_strcmp rfl ?_ | refine WS_indexAddr (by first | decide | omega) ?_ | refine WS_alloc ?_ | refine WS_store rfl ?_ | refine WS_buildSlice (by decide) rfl rfl (by simp [Value.cells]) ?_ | refine WDK_go ?_ | refine WDT_go ?_ | refine WD_nil ?_ | refine WD_take_off rfl rfl (by first | rfl | assumption) ?_ | refine WD_load rfl ?_ | refine WD_load_on rfl rfl (by first | rfl | assumption) ?_ | refine WD_load_agg rfl ?_ | refine WD_load_agg_on rfl rfl (by first | rfl | assumption) ?_ | refine WD_take rfl rfl ?_ | refine WD_take_on rfl rfl (by first | rfl | assumption) rfl ?_ | refine WD_drop rfl rfl ?_ | refine WD_one rfl ?_) | (refine WS_guard rfl ?_ ?_ <;> intro hg) | (refine V_cond ?_ ?_ <;> intro hc <;> try (cases hc; done)))
    refine retK_2 ⟨eX.trans e5, ?_⟩ (.inr rfl)
    rw [if_pos hck, show N.toNat = xs.length by omega]
instance : CallIs Try.prog 20 := .of Try.func20 rfl rfl
end Go.Ideal
