/- Part 7 of what the proof stands on: an interpreter over an ideal memory that is proved sound, steps over it, and contracts of the functions that are called. No condition: no law is claimed here. -/
import Derived.Test.YtbkldjahedmeiaaC6
-- Cm
set_option linter.unusedSimpArgs false
set_option linter.unusedVariables false
set_option maxRecDepth 100000
namespace Go.Ideal
open Go Go.RowKit Go.Proofs

/-! ### slices.Backward -/
theorem back_step (y bx n cap : Nat) (sa : Option Addr) (cs : Nat → List Value) (I : Nat → IHp → Prop) (h : IHp) (hn : n < 2 ^ 62)
    (hbox : ∀ i h, i ≤ n → I i h → CellIs h bx 0 (.slice sa n cap)) (helem : ∀ i h, i < n → I (i + 1) h → ∃ b, sa = some (ad b 0) ∧ RowIs h b (i * 2) 2 (cs i))
    (hbody : ∀ i h, i < n → I (i + 1) h → EvY Try.prog y [.int .i64 (i : Int), .agg (cs i).toArray].toArray h (fun v h' => v = .bool true ∧ I i h')) (h0 : I n h) :
    EvX Try.prog 113 [.func (.yield y) #[] #[], .pointer (some (ad bx 0))].toArray h (fun _ h' => I 0 h') := by
  refine EvX_of Try.func113 rfl (by show 2 ≤ 19; decide) ?_
  have c0 := hbox n h (Nat.le_refl _) h0
  repeat' (first | (first | refine V_seq ?_ | refine V_region ?_ | refine WS_nil ?_ | refine S_normal ?_ | refine V_block ?_ | refine B_normal ?_ | refine V_skip ?_ | refine V_exit ?_ | refine V_ret ?_ | refine S_exit ?_ | refine S_ret ?_ | refine B_exit ?_ | refine B_ret ?_ | refine B_pass rfl ?_ | refine C_normal ?_ | refine C_exit ?_ | refine C_ret ?_ | refine WS_off rfl (by first | rfl | assumption) ?_ | refine WS_on rfl (by first | rfl | assumption) ?_ | refine WS_move ?_ | refine WS_assign ?_ | refine WS_pick_t (by first | rfl | assumption) ?_ | refine WS_pick_f (by first | rfl | assumption) ?_ | refine WS_isnil ?_ | refine WS_notnil ?_ | refine WS_neq_same ?_ | refine WS_eql_same ?_ | refine WS_streq ?_ | refine WS_strne ?_ | refine WS_booleq ?_ | refine WS_boolne ?_ | refine WS_off_undef rfl ?_ | refine WD_off_undef rfl rfl ?_ | refine WS_cmp rfl ?_ | refine WS_addi (by omega) ?_ | refine WS_subi (by omega) ?_ | refine WS_arith rfl ?_ | refine WS_not ?_ | refine WS_neg ?_ | refine WS_convert ?_ | refine WS_len_slice ?_ | refine WS_len_string ?_ | refine WS_fieldAddr ?_ | refine WS_load ?_ | refine WS_load_agg ?_ | refine WS_box_agg rfl ?_ | refine WS_box rfl ?_ | refine WS_makeFunc ?_ | refine WS_extract ?_ | refine WS_field ?_ | refine WS_build ?_ | refine WS_zero ?_ | refine WS_shift (by first | decide | omega) rfl ?_ | refine WS_strcmp rfl ?_ | refine WS_indexAddr (by first | decide | omega) ?_ | refine WS_alloc ?_ | refine WS_store rfl ?_ | refine WS_buildSlice (by decide) rfl rfl (by simp [Value.cells]) ?_ | refine WDK_go ?_ | refine WDT_go ?_ | refine WD_nil ?_ | refine WD_take_off rfl rfl (by first | rfl | assumption) ?_ | refine WD_load rfl ?_ | refine WD_load_on rfl rfl (by first | rfl | assumption) ?_ | refine WD_load_agg rfl ?_ | refine WD_load_agg_on rfl rfl (by first | rfl | assumption) ?_ | refine WD_take rfl rfl ?_ | refine WD_take_on rfl rfl (by first | rfl | assumption) rfl ?_ | refine WD_drop rfl rfl ?_ | refine WD_filt rfl ?_ | refine Filt_drop rfl ?_ | refine Filt_keep rfl ?_ | refine Filt_nil ?_ | refine WD_one rfl ?_ | refine WD_virt rfl rfl ?_) | (refine WS_guard rfl ?_ ?_ <;> intro hg) | (refine WD_guard rfl rfl ?_ ?_ <;> intro hg) | (refine V_cond_t (by first | rfl | assumption) ?_) | (refine V_cond_f (by first | rfl | assumption) ?_) | (refine V_cond ?_ ?_ <;> intro hc <;> try (cases hc; done)))
  refine V_loop (fun d s h' => ∃ i : Nat, d = i ∧ i ≤ n ∧ Get s 3 (.int .i64 ((i : Int) - 1)) ∧ Get s 0 (.func (.yield y) #[] #[]) ∧ Get s 1 (.pointer (some (ad bx 0))) ∧ I i h') n ⟨n, rfl, Nat.le_refl _, get_as rfl, inferInstance, inferInstance, h0⟩ ?_
  rintro d s h' ⟨_, rfl, hi, g3, g0, g1, hI⟩
  cases d with
  | zero =>
    repeat' (first | (first | refine V_seq ?_ | refine V_region ?_ | refine WS_nil ?_ | refine S_normal ?_ | refine V_block ?_ | refine B_normal ?_ | refine V_skip ?_ | refine V_exit ?_ | refine V_ret ?_ | refine S_exit ?_ | refine S_ret ?_ | refine B_exit ?_ | refine B_ret ?_ | refine B_pass rfl ?_ | refine C_normal ?_ | refine C_exit ?_ | refine C_ret ?_ | refine WS_off rfl (by first | rfl | assumption) ?_ | refine WS_on rfl (by first | rfl | assumption) ?_ | refine WS_move ?_ | refine WS_assign ?_ | refine WS_pick_t (by first | rfl | assumption) ?_ | refine WS_pick_f (by first | rfl | assumption) ?_ | refine WS_isnil ?_ | refine WS_notnil ?_ | refine WS_neq_same ?_ | refine WS_eql_same ?_ | refine WS_streq ?_ | refine WS_strne ?_ | refine WS_booleq ?_ | refine WS_boolne ?_ | refine WS_off_undef rfl ?_ | refine WD_off_undef rfl rfl ?_ | refine WS_cmp rfl ?_ | refine WS_addi (by omega) ?_ | refine WS_subi (by omega) ?_ | refine WS_arith rfl ?_ | refine WS_not ?_ | refine WS_neg ?_ | refine WS_convert ?_ | refine WS_len_slice ?_ | refine WS_len_string ?_ | refine WS_fieldAddr ?_ | refine WS_load ?_ | refine WS_load_agg ?_ | refine WS_box_agg rfl ?_ | refine WS_box rfl ?_ | refine WS_makeFunc ?_ | refine WS_extract ?_ | refine WS_field ?_ | refine WS_build ?_ | refine WS_zero ?_ | refine WS_shift (by first | decide | omega) rfl ?_ | refine WS_strcmp rfl ?_ | refine WS_indexAddr (by first | decide | omega) ?_ | refine WS_alloc ?_ | refine WS_store rfl ?_ | refine WS_buildSlice (by decide) rfl rfl (by simp [Value.cells]) ?_ | refine WDK_go ?_ | refine WDT_go ?_ | refine WD_nil ?_ | refine WD_take_off rfl rfl (by first | rfl | assumption) ?_ | refine WD_load rfl ?_ | refine WD_load_on rfl rfl (by first | rfl | assumption) ?_ | refine WD_load_agg rfl ?_ | refine WD_load_agg_on rfl rfl (by first | rfl | assumption) ?_ | refine WD_take rfl rfl ?_ | refine WD_take_on rfl rfl (by first | rfl | assumption) rfl ?_ | refine WD_drop rfl rfl ?_ | refine WD_filt rfl ?_ | refine Filt_drop rfl ?_ | refine Filt_keep rfl ?_ | refine Filt_nil ?_ | refine WD_one rfl ?_ | refine WD_virt rfl rfl ?_) | (refine WS_guard rfl ?_ ?_ <;> intro hg) | (refine WD_guard rfl rfl ?_ ?_ <;> intro hg) | (refine V_cond_t (by first | rfl | assumption) ?_) | (refine V_cond_f (by first | rfl | assumption) ?_) | (refine V_cond ?_ ?_ <;> intro hc <;> try (cases hc; done)))
    exact retK_0 hI (.inl rfl)
  | succ j =>
    have g3' : Get s 3 (.int .i64 (j : Int)) := ⟨g3.eq.trans (by congr 1; omega)⟩
    clear g3
    have c1 := hbox (j + 1) h' hi hI
    obtain ⟨b, rfl, hr⟩ := helem j h' (by omega) hI
    have hb : 0 ≤ (j : Int) ∧ (j : Int) < (n : Int) := by omega
    have hr' : RowIs h' b (0 + (j : Int).toNat * 2) 2 (cs j) := by rw [Int.toNat_natCast, Nat.zero_add]; exact hr
    repeat' (first | (first | refine V_seq ?_ | refine V_region ?_ | refine WS_nil ?_ | refine S_normal ?_ | refine V_block ?_ | refine B_normal ?_ | refine V_skip ?_ | refine V_exit ?_ | refine V_ret ?_ | refine S_exit ?_ | refine S_ret ?_ | refine B_exit ?_ | refine B_ret ?_ | refine B_pass rfl ?_ | refine C_normal ?_ | refine C_exit ?_ | refine C_ret ?_ | refine WS_off rfl (by first | rfl | assumption) ?_ | refine WS_on rfl (by first | rfl | assumption) ?_ | refine WS_move ?_ | refine WS_assign ?_ | refine WS_pick_t (by first | rfl | assumption) ?_ | refine WS_pick_f (by first | rfl | assumption) ?_ | refine WS_isnil ?_ | refine WS_notnil ?_ | refine WS_neq_same ?_ | refine WS_eql_same ?_ | refine WS_streq ?_ | refine WS_strne ?_ | refine WS_booleq ?_ | refine WS_boolne ?_ | refine WS_off_undef rfl ?_ | refine WD_off_undef rfl rfl ?_ | refine WS_cmp rfl ?_ | refine WS_addi (by omega) ?_ | refine WS_subi (by omega) ?_ | refine WS_arith rfl ?_ | refine WS_not ?_ | refine WS_neg ?_ | refine WS_convert ?_ | refine WS_len_slice ?_ | refine WS_len_string ?_ | refine WS_fieldAddr ?_ | refine WS_load ?_ | refine WS_load_agg ?_ | refine WS_box_agg rfl ?_ | refine WS_box rfl ?_ | refine WS_makeFunc ?_ | refine WS_extract ?_ | refine WS_field ?_ | refine WS_build ?_ | refine WS_zero ?_ | refine WS_shift (by first | decide | omega) rfl ?_ | refine WS_strcmp rfl ?_ | refine WS_indexAddr (by first | decide | omega) ?_ | refine WS_alloc ?_ | refine WS_store rfl ?_ | refine WS_buildSlice (by decide) rfl rfl (by simp [Value.cells]) ?_ | refine WDK_go ?_ | refine WDT_go ?_ | refine WD_nil ?_ | refine WD_take_off rfl rfl (by first | rfl | assumption) ?_ | refine WD_load rfl ?_ | refine WD_load_on rfl rfl (by first | rfl | assumption) ?_ | refine WD_load_agg rfl ?_ | refine WD_load_agg_on rfl rfl (by first | rfl | assumption) ?_ | refine WD_take rfl rfl ?_ | refine WD_take_on rfl rfl (by first | rfl | assumption) rfl ?_ | refine WD_drop rfl rfl ?_ | refine WD_filt rfl ?_ | refine Filt_drop rfl ?_ | refine Filt_keep rfl ?_ | refine Filt_nil ?_ | refine WD_one rfl ?_ | refine WD_virt rfl rfl ?_) | (refine WS_guard rfl ?_ ?_ <;> intro hg) | (refine WD_guard rfl rfl ?_ ?_ <;> intro hg) | (refine V_cond_t (by first | rfl | assumption) ?_) | (refine V_cond_f (by first | rfl | assumption) ?_) | (refine V_cond ?_ ?_ <;> intro hc <;> try (cases hc; done)))
    refine WS_yield (hbody j h' (by omega) hI) ?_
    rintro _ H ⟨rfl, hI'⟩
    repeat' (first | (first | refine V_seq ?_ | refine V_region ?_ | refine WS_nil ?_ | refine S_normal ?_ | refine V_block ?_ | refine B_normal ?_ | refine V_skip ?_ | refine V_exit ?_ | refine V_ret ?_ | refine S_exit ?_ | refine S_ret ?_ | refine B_exit ?_ | refine B_ret ?_ | refine B_pass rfl ?_ | refine C_normal ?_ | refine C_exit ?_ | refine C_ret ?_ | refine WS_off rfl (by first | rfl | assumption) ?_ | refine WS_on rfl (by first | rfl | assumption) ?_ | refine WS_move ?_ | refine WS_assign ?_ | refine WS_pick_t (by first | rfl | assumption) ?_ | refine WS_pick_f (by first | rfl | assumption) ?_ | refine WS_isnil ?_ | refine WS_notnil ?_ | refine WS_neq_same ?_ | refine WS_eql_same ?_ | refine WS_streq ?_ | refine WS_strne ?_ | refine WS_booleq ?_ | refine WS_boolne ?_ | refine WS_off_undef rfl ?_ | refine WD_off_undef rfl rfl ?_ | refine WS_cmp rfl ?_ | refine WS_addi (by omega) ?_ | refine WS_subi (by omega) ?_ | refine WS_arith rfl ?_ | refine WS_not ?_ | refine WS_neg ?_ | refine WS_convert ?_ | refine WS_len_slice ?_ | refine WS_len_string ?_ | refine WS_fieldAddr ?_ | refine WS_load ?_ | refine WS_load_agg ?_ | refine WS_box_agg rfl ?_ | refine WS_box rfl ?_ | refine WS_makeFunc ?_ | refine WS_extract ?_ | refine WS_field ?_ | refine WS_build ?_ | refine WS_zero ?_ | refine WS_shift (by first | decide | omega) rfl ?_ | refine WS_strcmp rfl ?_ | refine WS_indexAddr (by first | decide | omega) ?_ | refine WS_alloc ?_ | refine WS_store rfl ?_ | refine WS_buildSlice (by decide) rfl rfl (by simp [Value.cells]) ?_ | refine WDK_go ?_ | refine WDT_go ?_ | refine WD_nil ?_ | refine WD_take_off rfl rfl (by first | rfl | assumption) ?_ | refine WD_load rfl ?_ | refine WD_load_on rfl rfl (by first | rfl | assumption) ?_ | refine WD_load_agg rfl ?_ | refine WD_load_agg_on rfl rfl (by first | rfl | assumption) ?_ | refine WD_take rfl rfl ?_ | refine WD_take_on rfl rfl (by first | rfl | assumption) rfl ?_ | refine WD_drop rfl rfl ?_ | refine WD_filt rfl ?_ | refine Filt_drop rfl ?_ | refine Filt_keep rfl ?_ | refine Filt_nil ?_ | refine WD_one rfl ?_ | refine WD_virt rfl rfl ?_) | (refine WS_guard rfl ?_ ?_ <;> intro hg) | (refine WD_guard rfl rfl ?_ ?_ <;> intro hg) | (refine V_cond_t (by first | rfl | assumption) ?_) | (refine V_cond_f (by first | rfl | assumption) ?_) | (refine V_cond ?_ ?_ <;> intro hc <;> try (cases hc; done)))
    refine ⟨_, ?_, j, rfl, by omega, inferInstance, inferInstance, inferInstance, hI'⟩
    omega
instance : CallIs Try.prog 113 := .of Try.func113 rfl rfl
end Go.Ideal

-- Cn
set_option linter.unusedSimpArgs false
set_option linter.unusedVariables false
set_option maxRecDepth 100000
namespace Go.Ideal
open Go Go.RowKit Go.Proofs

/-! ### linear.Synth -/
theorem Backward_step (a : Option Addr) (n m : Nat) (h : IHp) : EvX Try.prog 72 [.slice a n m].toArray h (fun v h' => v = .func (.func 113) #[] #[.pointer (some (ad h.fresh 0))] ∧ h' = h.push (.cells [.slice a n m] 120 true)) := by
  refine EvX_of Try.func72 rfl (by show 1 ≤ 4; decide) ?_
  repeat' (first | (first | refine V_seq ?_ | refine V_region ?_ | refine WS_nil ?_ | refine S_normal ?_ | refine V_block ?_ | refine B_normal ?_ | refine V_skip ?_ | refine V_exit ?_ | refine V_ret ?_ | refine S_exit ?_ | refine S_ret ?_ | refine B_exit ?_ | refine B_ret ?_ | refine B_pass rfl ?_ | refine C_normal ?_ | refine C_exit ?_ | refine C_ret ?_ | refine WS_off rfl (by first | rfl | assumption) ?_ | refine WS_on rfl (by first | rfl | assumption) ?_ | refine WS_move ?_ | refine WS_assign ?_ | refine WS_pick_t (by first | rfl | assumption) ?_ | refine WS_pick_f (by first | rfl | assumption) ?_ | refine WS_isnil ?_ | refine WS_notnil ?_ | refine WS_neq_same ?_ | refine WS_eql_same ?_ | refine WS_streq ?_ | refine WS_strne ?_ | refine WS_booleq ?_ | refine WS_boolne ?_ | refine WS_off_undef rfl ?_ | refine WD_off_undef rfl rfl ?_ | refine WS_cmp rfl ?_ | refine WS_addi (by omega) ?_ | refine WS_subi (by omega) ?_ | refine WS_arith rfl ?_ | refine WS_not ?_ | refine WS_neg ?_ | refine WS_convert ?_ | refine WS_len_slice ?_ | refine WS_len_string ?_ | refine WS_fieldAddr ?_ | refine WS_load ?_ | refine WS_load_agg ?_ | refine WS_box_agg rfl ?_ | refine WS_box rfl ?_ | refine WS_makeFunc ?_ | refine WS_extract ?_ | refine WS_field ?_ | refine WS_build ?_ | refine WS_zero ?_ | refine WS_shift (by first | decide | omega) rfl ?_ | refine WS_strcmp rfl ?_ | refine WS_indexAddr (by first | decide | omega) ?_ | refine WS_alloc ?_ | refine WS_store rfl ?_ | refine WS_buildSlice (by decide) rfl rfl (by simp [Value.cells]) ?_ | refine WDK_go ?_ | refine WDT_go ?_ | refine WD_nil ?_ | refine WD_take_off rfl rfl (by first | rfl | assumption) ?_ | refine WD_load rfl ?_ | refine WD_load_on rfl rfl (by first | rfl | assumption) ?_ | refine WD_load_agg rfl ?_ | refine WD_load_agg_on rfl rfl (by first | rfl | assumption) ?_ | refine WD_take rfl rfl ?_ | refine WD_take_on rfl rfl (by first | rfl | assumption) rfl ?_ | refine WD_drop rfl rfl ?_ | refine WD_filt rfl ?_ | refine Filt_drop rfl ?_ | refine Filt_keep rfl ?_ | refine Filt_nil ?_ | refine WD_one rfl ?_ | refine WD_virt rfl rfl ?_) | (refine WS_guard rfl ?_ ?_ <;> intro hg) | (refine WD_guard rfl rfl ?_ ?_ <;> intro hg) | (refine V_cond_t (by first | rfl | assumption) ?_) | (refine V_cond_f (by first | rfl | assumption) ?_) | (refine V_cond ?_ ?_ <;> intro hc <;> try (cases hc; done)))
  exact retK_1 ⟨rfl, rfl⟩ (.inr rfl)
instance : CallIs Try.prog 72 := .of Try.func72 rfl rfl
theorem rangeK_live3 {P : Program} {nt : Nat} {rs : List ResultVar} {f : Operand} {ps : Array Tmp} {ac bd t : Code} {Φ : Value → IHp → Prop} {s : Nat → Value} {h : IHp} (i1 i2 i3 : Nat) {v1 v2 v3 : Value} [g1 : Get s i1 v1] [g2 : Get s i2 v2] [g3 : Get s i3 v3]
    (k : ∀ s', Get s' i1 v1 → Get s' i2 v2 → Get s' i3 v3 → rangeK P nt rs f ps ac bd t Φ .normal s' h) : rangeK P nt rs f ps ac bd t Φ .normal s h := k s g1 g2 g3

/-- the cells of a gate 'cx' whose qubits lie at q -/
def cxCells (d : (Nat × Nat) × Nat) : List Value := [.int .i64 1, .string ⟨#[99, 120]⟩, .slice (some (ad d.2 0)) 2 2, .int .i64 0, .bool false, .int .u64 0, .int .u64 0]
def cxOp (p : Nat × Nat) : OpD := ⟨1, ⟨#[99, 120]⟩, [p.1, p.2], 0, false, 0, 0⟩
/-- what holds between the rounds -/
structure SynI (h0 : IHp) (c7 bx df lp : Nat) (N : Int) (a : Option Addr) (n : Nat) (lo_ : IObj) (dq : List ((Nat × Nat) × Nat)) (h : IHp) : Prop where
  ext : Ext h0 h
  list : ∃ sv, ObjIs h c7 [.int .i64 N, .int .i64 0, sv] 24 true ∧ LstM 7 h0.fresh h sv dq.length (dq.map cxCells).flatten 44
  qs : ∀ d ∈ dq, h0.fresh ≤ d.2 ∧ ObjIs h d.2 [.int .i64 (d.1.1 : Nat), .int .i64 (d.1.2 : Nat)] 3 true
  box : ObjIs h bx [.slice a n n] 120 true
  defr : AtIs h df .defr
  loop : AtIs h lp lo_
theorem SynI.mono {h0 h h1 : IHp} {c7 bx df lp n : Nat} {N : Int} {a : Option Addr} {L : IObj} {dq : List ((Nat × Nat) × Nat)} (I : SynI h0 c7 bx df lp N a n L dq h) (e : Ext h h1) : SynI h0 c7 bx df lp N a n L dq h1 :=
  ⟨I.ext.trans e, let ⟨sv, o, l⟩ := I.list; ⟨sv, ⟨o.even, e.new _ _ o.eq⟩, l.ext e⟩, fun d hd => ⟨(I.qs d hd).1, ⟨(I.qs d hd).2.even, e.new _ _ (I.qs d hd).2.eq⟩⟩, ⟨I.box.even, e.new _ _ I.box.eq⟩, ⟨I.defr.even, e.new _ _ I.defr.eq⟩, ⟨I.loop.even, e.new _ _ I.loop.eq⟩⟩
theorem SynI.flip {h0 h : IHp} {c7 bx df lp n : Nat} {N : Int} {a : Option Addr} {L L2 : IObj} {dq : List ((Nat × Nat) × Nat)} (I : SynI h0 c7 bx df lp N a n L dq h) (hc : ∀ c e x, L ≠ .cells c e x) (hlp : h0.fresh ≤ lp) (hne : NeB df lp) : SynI h0 c7 bx df lp N a n L2 dq (h.putObj lp L2) := by
  obtain ⟨sv, o, l⟩ := I.list
  have n7 := I.loop.ne o hc
  have nb := I.loop.ne I.box hc
  have ob := I.box
  have od := I.defr
  have ol := I.loop
  refine ⟨I.ext.putObj hlp, ⟨sv, inferInstance, l.put (fun hb => ?_) I.loop.even⟩, fun d hd => ?_, inferInstance, inferInstance, inferInstance⟩
  · rcases l with ⟨rfl, _, _⟩ | ⟨b, _, rfl, ob, _⟩
    · simp [blockOf] at hb
    · simp only [blockOf, Option.some.injEq] at hb
      exact (I.loop.ne ob hc).eq (by rw [hb])
  · obtain ⟨h1, h2⟩ := I.qs d hd
    have nd := I.loop.ne h2 hc
    exact ⟨h1, inferInstance⟩
theorem lst_ne {lo m : Nat} {h : IHp} {sv : Value} {k : Nat} {vs : List Value} {t : TypeId} (l : LstM m lo h sv k vs t) {b : Nat} {c : List Value} {t2 : TypeId} (o : ObjIs h b c t2 true) : blockOf sv ≠ some b := fun hb => by
  rcases l with ⟨rfl, _, _⟩ | ⟨b', _, rfl, ob, _⟩
  · simp [blockOf] at hb
  · simp only [blockOf, Option.some.injEq] at hb
    subst hb
    have h1 := ob.eq
    rw [o.eq] at h1
    cases h1
theorem lst_neA {lo m : Nat} {h : IHp} {sv : Value} {k : Nat} {vs : List Value} {t : TypeId} (l : LstM m lo h sv k vs t) {b : Nat} {o : IObj} (i : AtIs h b o) (hc : ∀ c e x, o ≠ .cells c e x) : blockOf sv ≠ some b := fun hb => by
  rcases l with ⟨rfl, _, _⟩ | ⟨b', _, rfl, ob, _⟩
  · simp [blockOf] at hb
  · simp only [blockOf, Option.some.injEq] at hb
    subst hb
    exact (i.ne ob hc).eq rfl
theorem obj_ne {h : IHp} {b b' : Nat} {c c' : List Value} {t t' : TypeId} {x x' : Bool} (o : ObjIs h b c t x) (o' : ObjIs h b' c' t' x') (hl : c.length ≠ c'.length) : NeB b b' := ⟨fun he => by
  have h1 := o.eq
  rw [he, o'.eq] at h1
  cases h1
  exact hl rfl⟩
theorem Mod.at {v : Value} {h h' : IHp} (m : Mod v h h') {b : Nat} {o : IObj} (i : AtIs h b o) (hb : blockOf v ≠ some b) : AtIs h' b o :=
  ⟨i.even, m.new _ _ i.eq (by have := i.even; rw [show 2 * (b / 2) = b by omega]; exact hb)⟩
theorem SynI.grow {h0 h h1 : IHp} {c7 bx df lp n qb x y : Nat} {N : Int} {a : Option Addr} {L : IObj} {dq : List ((Nat × Nat) × Nat)} (I : SynI h0 c7 bx df lp N a n L dq h) (hc : ∀ c e x, L ≠ .cells c e x) {sv v' : Value} (o : ObjIs h c7 [.int .i64 N, .int .i64 0, sv] 24 true)
    (l : LstM 7 h0.fresh h sv dq.length (dq.map cxCells).flatten 44) (hL : LstM 7 h0.fresh h1 v' (dq.length + 1) ((dq.map cxCells).flatten ++ cxCells ((x, y), qb)) 44) (m : Mod sv h h1) (hb : blockOf v' = some h.fresh) (oq : ObjIs h qb [.int .i64 (x : Nat), .int .i64 (y : Nat)] 3 true) (hq : h0.fresh ≤ qb) (h7 : h0.fresh ≤ c7) :
    SynI h0 c7 bx df lp N a n L (dq ++ [((x, y), qb)]) (h1.put c7 [.int .i64 N, .int .i64 0, v'] 24 true) := by
  have o1 : ObjIs h1 c7 _ _ _ := m.obj o (lst_ne l o)
  have ob1 : ObjIs h1 bx _ _ _ := m.obj I.box (lst_ne l I.box)
  have od1 := m.at I.defr (lst_neA l I.defr (by intro c e x he; cases he))
  have ol1 := m.at I.loop (lst_neA l I.loop hc)
  have nb : NeB bx c7 := obj_ne ob1 o1 (by simp)
  have nd : NeB df c7 := ⟨fun he => (od1.ne o1 (by intro c e x hh; cases hh)).eq he.symm⟩
  have nl : NeB lp c7 := ⟨fun he => (ol1.ne o1 hc).eq he.symm⟩
  have hq1 : ∀ d : (Nat × Nat) × Nat, h0.fresh ≤ d.2 ∧ ObjIs h d.2 [.int .i64 (d.1.1 : Nat), .int .i64 (d.1.2 : Nat)] 3 true → h0.fresh ≤ d.2 ∧ ObjIs (h1.put c7 [.int .i64 N, .int .i64 0, v'] 24 true) d.2 [.int .i64 (d.1.1 : Nat), .int .i64 (d.1.2 : Nat)] 3 true := by
    rintro d ⟨h2, h3⟩
    have h4 := m.obj h3 (lst_ne l h3)
    have h5 : NeB d.2 c7 := obj_ne h4 o1 (by simp)
    exact ⟨h2, inferInstance⟩
  refine ⟨(m.extM I.ext l).putObj h7, ⟨v', inferInstance, ?_⟩, fun d hd => ?_, inferInstance, inferInstance, inferInstance⟩
  · have h2 : LstM 7 h0.fresh h1 v' (dq ++ [((x, y), qb)]).length ((dq ++ [((x, y), qb)]).map cxCells).flatten 44 := by simpa using hL
    refine h2.put (fun hh => ?_) o.even
    rw [hb] at hh
    have := o.lt
    have := Option.some.inj hh
    omega
  · rcases List.mem_append.1 hd with h2 | h2
    · exact hq1 d (I.qs d h2)
    · simp only [List.mem_singleton] at h2
      subst h2
      exact hq1 _ ⟨hq, oq⟩
theorem stepCells_row : ∀ (l : List (Nat × Nat)) (i : Nat), i < l.length → ((stepCells l).drop (i * 2)).take 2 = [.int .i64 ((l.getD i (0, 0)).1 : Nat), .int .i64 ((l.getD i (0, 0)).2 : Nat)] := by
  intro l
  induction l with
  | nil => intro i hi; simp at hi
  | cons p l ih =>
    intro i hi
    cases i with
    | zero => simp [stepCells]
    | succ i =>
      have := ih i (by simpa using hi)
      have e : (i + 1) * 2 = i * 2 + 2 := by omega
      rw [e]
      simp only [stepCells, List.map_cons, List.flatten_cons, List.getD_cons_succ] at this ⊢
      simp only [List.cons_append, List.nil_append, List.drop_succ_cons]
      exact this
theorem rangeK_go2 {P : Program} {nt g : Nat} {rs : List ResultVar} {f : Operand} {ps : Array Tmp} {ac bd t : Code} {a c : Array Value} {Φ : Value → IHp → Prop} {s : Nat → Value} {h : IHp} [ef : EvalIs s f (.func (.func g) a c)] [cg : CallIs P g]
    (k : ∀ L, L = IObj.loop nt s ps ac bd .ready none → EvX P g ((a ++ #[.func (.yield (h.fresh + 2)) #[] #[]]) ++ c) ((h.push .defr).push L) (fun _ h3 => ∃ T3 ps3 as3 bd3 st3, AtIs h3 (h.fresh + 2) (.loop nt T3 ps3 as3 bd3 st3 none) ∧ notBusy st3 = true ∧ V P ⟨nt, [h.fresh / 2], false⟩ t (tailK P ⟨nt, [h.fresh / 2], false⟩ h.fresh rs Φ) s (h3.putObj (h.fresh + 2) (.loop nt T3 ps3 as3 bd3 .exhausted none)))) :
    rangeK P nt rs f ps ac bd t Φ .normal s h := rangeK_go (Ψ := _) (k _ rfl) (fun _ _ hh => hh)
theorem Synth_spec (N : Int) (a : Option Addr) (len cap : Nat) (xs : List Nat) (h : IHp) (hx : SlIs h a len cap (u64s xs)) (h64 : All64 xs) :
    EvX Try.prog 32 [.agg [.int .i64 N, .slice a len cap].toArray].toArray h (fun v h' => Ext h h' ∧
      if checkS N xs = 0 then
        match redK xs xs.length with
        | none => v = .tuple [.agg [.int .i64 0, .int .i64 0, .slice none 0 0].toArray, .int .i64 200].toArray
        | some st => ∃ (sv : Value) (dq : List ((Nat × Nat) × Nat)), v = .tuple [.agg [.int .i64 N, .int .i64 0, sv].toArray, .int .i64 0].toArray ∧ dq.map Prod.fst = st.2.reverse ∧ LstM 7 h.fresh h' sv dq.length (dq.map cxCells).flatten 44 ∧
            ∀ d ∈ dq, h.fresh ≤ d.2 ∧ ObjIs h' d.2 [.int .i64 (d.1.1 : Nat), .int .i64 (d.1.2 : Nat)] 3 true
      else v = .tuple [.agg [.int .i64 0, .int .i64 0, .slice none 0 0].toArray, .int .i64 (checkS N xs)].toArray) := by
  have hlen : xs.length = len := by have := hx.1; simpa [u64s] using this
  refine EvX_of_range Try.func32 rfl rfl (by show 1 ≤ 43; decide) ?_
  dsimp only
  repeat' (first | (first | refine V_seq ?_ | refine V_region ?_ | refine WS_nil ?_ | refine S_normal ?_ | refine V_block ?_ | refine B_normal ?_ | refine V_skip ?_ | refine V_exit ?_ | refine V_ret ?_ | refine S_exit ?_ | refine S_ret ?_ | refine B_exit ?_ | refine B_ret ?_ | refine B_pass rfl ?_ | refine C_normal ?_ | refine C_exit ?_ | refine C_ret ?_ | refine WS_off rfl (by first | rfl | assumption) ?_ | refine WS_on rfl (by first | rfl | assumption) ?_ | refine WS_move ?_ | refine WS_assign ?_ | refine WS_pick_t (by first | rfl | assumption) ?_ | refine WS_pick_f (by first | rfl | assumption) ?_ | refine WS_isnil ?_ | refine WS_notnil ?_ | refine WS_cmp rfl ?_ | refine WS_addi (by omega) ?_ | refine WS_subi (by omega) ?_ | refine WS_arith rfl ?_ | refine WS_not ?_ | refine WS_neg ?_ | refine WS_convert ?_ | refine WS_len_slice ?_ | refine WS_len_string ?_ | refine WS_fieldAddr ?_ | refine WS_load ?_ | refine WS_load_agg ?_ | refine WS_box_agg rfl ?_ | refine WS_box rfl ?_ | refine WS_makeFunc ?_ | refine WS_extract ?_ | refine WS_field ?_ | refine WS_build ?_ | refine WS_zero ?_ | refine WS_shift (by first | decide | omega) rfl ?_ | refine WS_strcmp rfl ?_ | refine WS_indexAddr (by first | decide | omega) ?_ | refine WS_alloc ?_ | refine WS_store rfl ?_ | refine WS_buildSlice (by decide) rfl rfl (by simp [Value.cells]) ?_ | refine WDK_go ?_ | refine WDT_go ?_ | refine WD_nil ?_ | refine WD_take_off rfl rfl (by first | rfl | assumption) ?_ | refine WD_load rfl ?_ | refine WD_load_on rfl rfl (by first | rfl | assumption) ?_ | refine WD_load_agg rfl ?_ | refine WD_load_agg_on rfl rfl (by first | rfl | assumption) ?_ | refine WD_take rfl rfl ?_ | refine WD_take_on rfl rfl (by first | rfl | assumption) rfl ?_ | refine WD_drop rfl rfl ?_ | refine WD_one rfl ?_ | refine WD_virt rfl rfl ?_) | (refine WS_guard rfl ?_ ?_ <;> intro hg) | (refine V_cond ?_ ?_ <;> intro hc <;> try (cases hc; done)))
  obtain ⟨H1, hH1⟩ : ∃ H, H = h.push (IObj.cells [Value.int IntKind.i64 N, Value.slice a len cap] 53 true) := ⟨_, rfl⟩
  have f1 : H1.fresh = h.fresh + 2 := by rw [hH1, push_fresh]
  have e1 : Ext h H1 := hH1 ▸ Ext.push _ _
  have p1 : ObjIs H1 h.fresh [.int .i64 N, .slice a len cap] 53 true := hH1 ▸ inferInstance
  rw [← hH1]
  obtain ⟨H2, hH2⟩ : ∃ H, H = H1.push (IObj.cells [Value.int IntKind.i64 0, Value.int IntKind.i64 0, Value.slice none 0 0] 24 true) := ⟨_, rfl⟩
  have f2 : H2.fresh = h.fresh + 4 := by rw [hH2, push_fresh, f1]
  have e2 : Ext H1 H2 := hH2 ▸ Ext.push _ _
  have p2 : ObjIs H2 H1.fresh [.int .i64 0, .int .i64 0, .slice none 0 0] 24 true := hH2 ▸ inferInstance
  rw [← hH2]
  have q1 : ObjIs H2 h.fresh [.int .i64 N, .slice a len cap] 53 true := inferInstance
  have e12 : Ext h H2 := e1.trans e2
  refine WS_call (Check_spec N a len cap xs _ (hx.ext e12) h64) ?_
  rintro _ H3 ⟨rfl, e3⟩
  have r1 : ObjIs H3 h.fresh [.int .i64 N, .slice a len cap] 53 true := inferInstance
  have r2 : ObjIs H3 H1.fresh [.int .i64 0, .int .i64 0, .slice none 0 0] 24 true := inferInstance
  have e13 : Ext h H3 := e12.trans e3
  have g3 := e3.fresh
  have n01 : NeB h.fresh H1.fresh := .fresh (by omega)
  repeat' (first | (first | refine V_seq ?_ | refine V_region ?_ | refine WS_nil ?_ | refine S_normal ?_ | refine V_block ?_ | refine B_normal ?_ | refine V_skip ?_ | refine V_exit ?_ | refine V_ret ?_ | refine S_exit ?_ | refine S_ret ?_ | refine B_exit ?_ | refine B_ret ?_ | refine B_pass rfl ?_ | refine C_normal ?_ | refine C_exit ?_ | refine C_ret ?_ | refine WS_off rfl (by first | rfl | assumption) ?_ | refine WS_on rfl (by first | rfl | assumption) ?_ | refine WS_move ?_ | refine WS_assign ?_ | refine WS_pick_t (by first | rfl | assumption) ?_ | refine WS_pick_f (by first | rfl | assumption) ?_ | refine WS_isnil ?_ | refine WS_notnil ?_ | refine WS_neq_same ?_ | refine WS_eql_same ?_ | refine WS_streq ?_ | refine WS_strne ?_ | refine WS_booleq ?_ | refine WS_boolne ?_ | refine WS_off_undef rfl ?_ | refine WD_off_undef rfl rfl ?_ | refine WS_cmp rfl ?_ | refine WS_addi (by omega) ?_ | refine WS_subi (by omega) ?_ | refine WS_arith rfl ?_ | refine WS_not ?_ | refine WS_neg ?_ | refine WS_convert ?_ | refine WS_len_slice ?_ | refine WS_len_string ?_ | refine WS_fieldAddr ?_ | refine WS_load ?_ | refine WS_load_agg ?_ | refine WS_box_agg rfl ?_ | refine WS_box rfl ?_ | refine WS_makeFunc ?_ | refine WS_extract ?_ | refine WS_field ?_ | refine WS_build ?_ | refine WS_zero ?_ | refine WS_shift (by first | decide | omega) rfl ?_ | refine WS_strcmp rfl ?_ | refine WS_indexAddr (by first | decide | omega) ?_ | refine WS_alloc ?_ | refine WS_store rfl ?_ | refine WS_buildSlice (by decide) rfl rfl (by simp [Value.cells]) ?_ | refine WDK_go ?_ | refine WDT_go ?_ | refine WD_nil ?_ | refine WD_take_off rfl rfl (by first | rfl | assumption) ?_ | refine WD_load rfl ?_ | refine WD_load_on rfl rfl (by first | rfl | assumption) ?_ | refine WD_load_agg rfl ?_ | refine WD_load_agg_on rfl rfl (by first | rfl | assumption) ?_ | refine WD_take rfl rfl ?_ | refine WD_take_on rfl rfl (by first | rfl | assumption) rfl ?_ | refine WD_drop rfl rfl ?_ | refine WD_filt rfl ?_ | refine Filt_drop rfl ?_ | refine Filt_keep rfl ?_ | refine Filt_nil ?_ | refine WD_one rfl ?_ | refine WD_virt rfl rfl ?_) | (refine WS_guard rfl ?_ ?_ <;> intro hg) | (refine WD_guard rfl rfl ?_ ?_ <;> intro hg) | (refine V_cond_t (by first | rfl | assumption) ?_) | (refine V_cond_f (by first | rfl | assumption) ?_) | (refine V_cond ?_ ?_ <;> intro hc <;> try (cases hc; done)))
  · refine rangeK_ret (retK_ct ⟨e13.putObj (by omega), ?_⟩ (.inr rfl))
    rw [if_neg]
    simp at hc; simp [hc]
  · have hck : checkS N xs = 0 := by simpa using hc
    obtain ⟨hN0, hN1, hN2, _⟩ := checkS_zero hck
    refine WS_call (reduced_spec N a len cap xs _ (hx.ext e13) h64 hck) ?_
    rintro v4 H4 ⟨e4, hv4⟩
    have s1 : ObjIs H4 h.fresh [.int .i64 N, .slice a len cap] 53 true := ⟨r1.even, e4.new _ _ r1.eq⟩
    have s2 : ObjIs H4 H1.fresh [.int .i64 0, .int .i64 0, .slice none 0 0] 24 true := ⟨r2.even, e4.new _ _ r2.eq⟩
    have e14 : Ext h H4 := e13.trans e4
    have g4 := e4.fresh
    cases hr : redK xs xs.length with
    | none =>
      rw [hr] at hv4
      subst hv4
      repeat' (first | (first | refine V_seq ?_ | refine V_region ?_ | refine WS_nil ?_ | refine S_normal ?_ | refine V_block ?_ | refine B_normal ?_ | refine V_skip ?_ | refine V_exit ?_ | refine V_ret ?_ | refine S_exit ?_ | refine S_ret ?_ | refine B_exit ?_ | refine B_ret ?_ | refine B_pass rfl ?_ | refine C_normal ?_ | refine C_exit ?_ | refine C_ret ?_ | refine WS_off rfl (by first | rfl | assumption) ?_ | refine WS_on rfl (by first | rfl | assumption) ?_ | refine WS_move ?_ | refine WS_assign ?_ | refine WS_pick_t (by first | rfl | assumption) ?_ | refine WS_pick_f (by first | rfl | assumption) ?_ | refine WS_isnil ?_ | refine WS_notnil ?_ | refine WS_neq_same ?_ | refine WS_eql_same ?_ | refine WS_streq ?_ | refine WS_strne ?_ | refine WS_booleq ?_ | refine WS_boolne ?_ | refine WS_off_undef rfl ?_ | refine WD_off_undef rfl rfl ?_ | refine WS_cmp rfl ?_ | refine WS_addi (by omega) ?_ | refine WS_subi (by omega) ?_ | refine WS_arith rfl ?_ | refine WS_not ?_ | refine WS_neg ?_ | refine WS_convert ?_ | refine WS_len_slice ?_ | refine WS_len_string ?_ | refine WS_fieldAddr ?_ | refine WS_load ?_ | refine WS_load_agg ?_ | refine WS_box_agg rfl ?_ | refine WS_box rfl ?_ | refine WS_makeFunc ?_ | refine WS_extract ?_ | refine WS_field ?_ | refine WS_build ?_ | refine WS_zero ?_ | refine WS_shift (by first | decide | omega) rfl ?_ | refine WS_strcmp rfl ?_ | refine WS_indexAddr (by first | decide | omega) ?_ | refine WS_alloc ?_ | refine WS_store rfl ?_ | refine WS_buildSlice (by decide) rfl rfl (by simp [Value.cells]) ?_ | refine WDK_go ?_ | refine WDT_go ?_ | refine WD_nil ?_ | refine WD_take_off rfl rfl (by first | rfl | assumption) ?_ | refine WD_load rfl ?_ | refine WD_load_on rfl rfl (by first | rfl | assumption) ?_ | refine WD_load_agg rfl ?_ | refine WD_load_agg_on rfl rfl (by first | rfl | assumption) ?_ | refine WD_take rfl rfl ?_ | refine WD_take_on rfl rfl (by first | rfl | assumption) rfl ?_ | refine WD_drop rfl rfl ?_ | refine WD_filt rfl ?_ | refine Filt_drop rfl ?_ | refine Filt_keep rfl ?_ | refine Filt_nil ?_ | refine WD_one rfl ?_ | refine WD_virt rfl rfl ?_) | (refine WS_guard rfl ?_ ?_ <;> intro hg) | (refine WD_guard rfl rfl ?_ ?_ <;> intro hg) | (refine V_cond_t (by first | rfl | assumption) ?_) | (refine V_cond_f (by first | rfl | assumption) ?_) | (refine V_cond ?_ ?_ <;> intro hc <;> try (cases hc; done)))
      refine rangeK_ret (retK_ct ⟨e14.putObj (by omega), ?_⟩ (.inr rfl))
      rw [if_pos hck]
    | some st =>
      rw [hr] at hv4
      obtain ⟨sv, rfl, hsv⟩ := hv4
      obtain ⟨asv, rfl⟩ := hsv.isSlice
      repeat' (first | (first | refine V_seq ?_ | refine V_region ?_ | refine WS_nil ?_ | refine S_normal ?_ | refine V_block ?_ | refine B_normal ?_ | refine V_skip ?_ | refine V_exit ?_ | refine V_ret ?_ | refine S_exit ?_ | refine S_ret ?_ | refine B_exit ?_ | refine B_ret ?_ | refine B_pass rfl ?_ | refine C_normal ?_ | refine C_exit ?_ | refine C_ret ?_ | refine WS_off rfl (by first | rfl | assumption) ?_ | refine WS_on rfl (by first | rfl | assumption) ?_ | refine WS_move ?_ | refine WS_assign ?_ | refine WS_pick_t (by first | rfl | assumption) ?_ | refine WS_pick_f (by first | rfl | assumption) ?_ | refine WS_isnil ?_ | refine WS_notnil ?_ | refine WS_neq_same ?_ | refine WS_eql_same ?_ | refine WS_streq ?_ | refine WS_strne ?_ | refine WS_booleq ?_ | refine WS_boolne ?_ | refine WS_off_undef rfl ?_ | refine WD_off_undef rfl rfl ?_ | refine WS_cmp rfl ?_ | refine WS_addi (by omega) ?_ | refine WS_subi (by omega) ?_ | refine WS_arith rfl ?_ | refine WS_not ?_ | refine WS_neg ?_ | refine WS_convert ?_ | refine WS_len_slice ?_ | refine WS_len_string ?_ | refine WS_fieldAddr ?_ | refine WS_load ?_ | refine WS_load_agg ?_ | refine WS_box_agg rfl ?_ | refine WS_box rfl ?_ | refine WS_makeFunc ?_ | refine WS_extract ?_ | refine WS_field ?_ | refine WS_build ?_ | refine WS_zero ?_ | refine WS_shift (by first | decide | omega) rfl ?_ | refine WS_strcmp rfl ?_ | refine WS_indexAddr (by first | decide | omega) ?_ | refine WS_alloc ?_ | refine WS_store rfl ?_ | refine WS_buildSlice (by decide) rfl rfl (by simp [Value.cells]) ?_ | refine WDK_go ?_ | refine WDT_go ?_ | refine WD_nil ?_ | refine WD_take_off rfl rfl (by first | rfl | assumption) ?_ | refine WD_load rfl ?_ | refine WD_load_on rfl rfl (by first | rfl | assumption) ?_ | refine WD_load_agg rfl ?_ | refine WD_load_agg_on rfl rfl (by first | rfl | assumption) ?_ | refine WD_take rfl rfl ?_ | refine WD_take_on rfl rfl (by first | rfl | assumption) rfl ?_ | refine WD_drop rfl rfl ?_ | refine WD_filt rfl ?_ | refine Filt_drop rfl ?_ | refine Filt_keep rfl ?_ | refine Filt_nil ?_ | refine WD_one rfl ?_ | refine WD_virt rfl rfl ?_) | (refine WS_guard rfl ?_ ?_ <;> intro hg) | (refine WD_guard rfl rfl ?_ ?_ <;> intro hg) | (refine V_cond_t (by first | rfl | assumption) ?_) | (refine V_cond_f (by first | rfl | assumption) ?_) | (refine V_cond ?_ ?_ <;> intro hc <;> try (cases hc; done)))
      obtain ⟨H5, hH5⟩ : ∃ H, H = (H4.push (IObj.cells [Value.int IntKind.i64 0, Value.int IntKind.i64 0, Value.slice none 0 0] 24 true)).put H4.fresh [.int .i64 N, .int .i64 0, .slice none 0 0] 24 true := ⟨_, rfl⟩
      have o7 : ObjIs H5 H4.fresh [.int .i64 N, .int .i64 0, .slice none 0 0] 24 true := hH5 ▸ inferInstance
      have e5 : Ext H4 H5 := hH5 ▸ (Ext.push _ _).putObj (Nat.le_refl _)
      have f5 : H5.fresh = H4.fresh + 2 := by rw [hH5, putObj_fresh, push_fresh]
      rw [← hH5]
      refine WS_call (Backward_step asv st.2.length st.2.length _) ?_
      rintro _ _ ⟨rfl, rfl⟩
      repeat' (first | (first | refine V_seq ?_ | refine V_region ?_ | refine WS_nil ?_ | refine S_normal ?_ | refine V_block ?_ | refine B_normal ?_ | refine V_skip ?_ | refine V_exit ?_ | refine V_ret ?_ | refine S_exit ?_ | refine S_ret ?_ | refine B_exit ?_ | refine B_ret ?_ | refine B_pass rfl ?_ | refine C_normal ?_ | refine C_exit ?_ | refine C_ret ?_ | refine WS_off rfl (by first | rfl | assumption) ?_ | refine WS_on rfl (by first | rfl | assumption) ?_ | refine WS_move ?_ | refine WS_assign ?_ | refine WS_pick_t (by first | rfl | assumption) ?_ | refine WS_pick_f (by first | rfl | assumption) ?_ | refine WS_isnil ?_ | refine WS_notnil ?_ | refine WS_neq_same ?_ | refine WS_eql_same ?_ | refine WS_streq ?_ | refine WS_strne ?_ | refine WS_booleq ?_ | refine WS_boolne ?_ | refine WS_off_undef rfl ?_ | refine WD_off_undef rfl rfl ?_ | refine WS_cmp rfl ?_ | refine WS_addi (by omega) ?_ | refine WS_subi (by omega) ?_ | refine WS_arith rfl ?_ | refine WS_not ?_ | refine WS_neg ?_ | refine WS_convert ?_ | refine WS_len_slice ?_ | refine WS_len_string ?_ | refine WS_fieldAddr ?_ | refine WS_load ?_ | refine WS_load_agg ?_ | refine WS_box_agg rfl ?_ | refine WS_box rfl ?_ | refine WS_makeFunc ?_ | refine WS_extract ?_ | refine WS_field ?_ | refine WS_build ?_ | refine WS_zero ?_ | refine WS_shift (by first | decide | omega) rfl ?_ | refine WS_strcmp rfl ?_ | refine WS_indexAddr (by first | decide | omega) ?_ | refine WS_alloc ?_ | refine WS_store rfl ?_ | refine WS_buildSlice (by decide) rfl rfl (by simp [Value.cells]) ?_ | refine WDK_go ?_ | refine WDT_go ?_ | refine WD_nil ?_ | refine WD_take_off rfl rfl (by first | rfl | assumption) ?_ | refine WD_load rfl ?_ | refine WD_load_on rfl rfl (by first | rfl | assumption) ?_ | refine WD_load_agg rfl ?_ | refine WD_load_agg_on rfl rfl (by first | rfl | assumption) ?_ | refine WD_take rfl rfl ?_ | refine WD_take_on rfl rfl (by first | rfl | assumption) rfl ?_ | refine WD_drop rfl rfl ?_ | refine WD_filt rfl ?_ | refine Filt_drop rfl ?_ | refine Filt_keep rfl ?_ | refine Filt_nil ?_ | refine WD_one rfl ?_ | refine WD_virt rfl rfl ?_) | (refine WS_guard rfl ?_ ?_ <;> intro hg) | (refine WD_guard rfl rfl ?_ ?_ <;> intro hg) | (refine V_cond_t (by first | rfl | assumption) ?_) | (refine V_cond_f (by first | rfl | assumption) ?_) | (refine V_cond ?_ ?_ <;> intro hc <;> try (cases hc; done)))
      refine rangeK_live3 2 7 28 ?_
      intro s g2 g7 g28
      obtain ⟨H6, hH6⟩ : ∃ H, H = H5.push (IObj.cells [Value.slice asv st.2.length st.2.length] 120 true) := ⟨_, rfl⟩
      have f6 : H6.fresh = H5.fresh + 2 := by rw [hH6, push_fresh]
      have ob : ObjIs H6 H5.fresh [.slice asv st.2.length st.2.length] 120 true := hH6 ▸ inferInstance
      have e6 : Ext H5 H6 := hH6 ▸ Ext.push _ _
      rw [← hH6]
      refine rangeK_go2 ?_
      intro L hL
      have hA : ((#[] : Array Value) ++ #[.func (.yield (H6.fresh + 2)) #[] #[]]) ++ #[.pointer (some (ad H5.fresh 0))] = [.func (.yield (H6.fresh + 2)) #[] #[], .pointer (some (ad H5.fresh 0))].toArray := rfl
      rw [hA]
      have hln : st.2.length ≤ 64 * (2 * 64) := by
        have h1 := redK_len xs xs.length st hr
        have h2 : xs.length ≤ 64 := by omega
        exact Nat.le_trans h1 (Nat.mul_le_mul h2 (Nat.mul_le_mul (Nat.le_refl _) h2))
      obtain ⟨n, hn⟩ : ∃ n, n = st.2.length := ⟨_, rfl⟩
      rw [← hn] at hsv ob hln
      have e46 : Ext H4 H6 := e5.trans e6
      have q7 : ObjIs H6 H4.fresh [.int .i64 N, .int .i64 0, .slice none 0 0] 24 true := inferInstance
      obtain ⟨H7, hH7⟩ : ∃ H, H = (H6.push .defr).push L := ⟨_, rfl⟩
      rw [← hH7]
      have hd6 : AtIs (H6.push .defr) H6.fresh .defr := inferInstance
      have hf6 : (H6.push .defr).fresh = H6.fresh + 2 := push_fresh _ _
      have I0 : SynI H4 H4.fresh H5.fresh H6.fresh (H6.fresh + 2) N asv n L [] H7 := by
        refine ⟨hH7 ▸ (e46.push' _).push' _, ⟨_, hH7 ▸ inferInstance, .inl ⟨rfl, rfl, rfl⟩⟩, by simp, hH7 ▸ inferInstance, hH7 ▸ inferInstance, ?_⟩
        rw [hH7, ← hf6]; infer_instance
      refine EvX.mono (back_step (H6.fresh + 2) H5.fresh n n asv (fun i => [.int .i64 ((st.2.getD i (0, 0)).1 : Nat), .int .i64 ((st.2.getD i (0, 0)).2 : Nat)]) (fun i h' => ∃ dq : List ((Nat × Nat) × Nat), dq.map Prod.fst = (st.2.drop i).reverse ∧ SynI H4 H4.fresh H5.fresh H6.fresh (H6.fresh + 2) N asv n L dq h') H7 (by omega) ?_ ?_ ?_ ⟨[], by rw [hn]; simp, I0⟩) ?_
      · rintro i h' _ ⟨dq, _, I⟩
        have := I.box
        exact inferInstance
      · rintro i h' hi ⟨dq, _, I⟩
        rcases hsv with ⟨h1, h2, _⟩ | ⟨b, _, h1, h2, _, h3⟩
        · omega
        · injection h1 with h1 _ _
          refine ⟨b, h1, ⟨?_⟩⟩
          have h4 : ObjIs h' b (stepCells st.2) 127 false := ⟨h2.even, I.ext.new _ _ h2.eq⟩
          have hle : i * 2 + 2 ≤ (stepCells st.2).length := by rw [h3]; omega
          rw [row_obj h4 (i * 2) hle, stepCells_row _ _ (by omega)]
      · rintro i h' hi ⟨dq, hdq, I⟩
        have il := I.loop
        rw [hL] at il
        refine EvY_of il rfl ?_
        obtain ⟨sv', ol, hl⟩ := I.list
        obtain ⟨asv', rfl⟩ := hl.isSlice
        obtain ⟨x, hx1⟩ : ∃ x, x = (st.2.getD i (0, 0)).1 := ⟨_, rfl⟩
        obtain ⟨y, hy1⟩ : ∃ y, y = (st.2.getD i (0, 0)).2 := ⟨_, rfl⟩
        rw [← hx1, ← hy1]
        show V Try.prog _ _ _ (putS (putS s (some 29) (.int .i64 (i : Int))) (some 30) (.agg [.int .i64 (x : Nat), .int .i64 (y : Nat)].toArray)) h'
        have hlt := il.lt
        have gI := I.ext.fresh
        repeat' (first | (first | refine V_seq ?_ | refine V_region ?_ | refine WS_nil ?_ | refine S_normal ?_ | refine V_block ?_ | refine B_normal ?_ | refine V_skip ?_ | refine V_exit ?_ | refine V_ret ?_ | refine S_exit ?_ | refine S_ret ?_ | refine B_exit ?_ | refine B_ret ?_ | refine B_pass rfl ?_ | refine C_normal ?_ | refine C_exit ?_ | refine C_ret ?_ | refine WS_off rfl (by first | rfl | assumption) ?_ | refine WS_on rfl (by first | rfl | assumption) ?_ | refine WS_move ?_ | refine WS_assign ?_ | refine WS_pick_t (by first | rfl | assumption) ?_ | refine WS_pick_f (by first | rfl | assumption) ?_ | refine WS_isnil ?_ | refine WS_notnil ?_ | refine WS_neq_same ?_ | refine WS_eql_same ?_ | refine WS_streq ?_ | refine WS_strne ?_ | refine WS_booleq ?_ | refine WS_boolne ?_ | refine WS_off_undef rfl ?_ | refine WD_off_undef rfl rfl ?_ | refine WS_cmp rfl ?_ | refine WS_addi (by omega) ?_ | refine WS_subi (by omega) ?_ | refine WS_arith rfl ?_ | refine WS_not ?_ | refine WS_neg ?_ | refine WS_convert ?_ | refine WS_len_slice ?_ | refine WS_len_string ?_ | refine WS_fieldAddr ?_ | refine WS_load ?_ | refine WS_load_agg ?_ | refine WS_box_agg rfl ?_ | refine WS_box rfl ?_ | refine WS_makeFunc ?_ | refine WS_extract ?_ | refine WS_field ?_ | refine WS_build ?_ | refine WS_zero ?_ | refine WS_shift (by first | decide | omega) rfl ?_ | refine WS_strcmp rfl ?_ | refine WS_indexAddr (by first | decide | omega) ?_ | refine WS_alloc ?_ | refine WS_store rfl ?_ | refine WS_buildSlice (by decide) rfl rfl (by simp [Value.cells]) ?_ | refine WDK_go ?_ | refine WDT_go ?_ | refine WD_nil ?_ | refine WD_take_off rfl rfl (by first | rfl | assumption) ?_ | refine WD_load rfl ?_ | refine WD_load_on rfl rfl (by first | rfl | assumption) ?_ | refine WD_load_agg rfl ?_ | refine WD_load_agg_on rfl rfl (by first | rfl | assumption) ?_ | refine WD_take rfl rfl ?_ | refine WD_take_on rfl rfl (by first | rfl | assumption) rfl ?_ | refine WD_drop rfl rfl ?_ | refine WD_filt rfl ?_ | refine Filt_drop rfl ?_ | refine Filt_keep rfl ?_ | refine Filt_nil ?_ | refine WD_one rfl ?_ | refine WD_virt rfl rfl ?_) | (refine WS_guard rfl ?_ ?_ <;> intro hg) | (refine WD_guard rfl rfl ?_ ?_ <;> intro hg) | (refine V_cond_t (by first | rfl | assumption) ?_) | (refine V_cond_f (by first | rfl | assumption) ?_) | (refine V_cond ?_ ?_ <;> intro hc <;> try (cases hc; done)))
        obtain ⟨Ha, hHa⟩ : ∃ H, H = (h'.push (IObj.cells [Value.int IntKind.i64 0, Value.int IntKind.i64 0] 127 true)).put h'.fresh [.int .i64 (x : Nat), .int .i64 (y : Nat)] 127 true := ⟨_, rfl⟩
        have ea : Ext h' Ha := hHa ▸ (Ext.push _ _).putObj (Nat.le_refl _)
        have fa : Ha.fresh = h'.fresh + 2 := by rw [hHa, putObj_fresh, push_fresh]
        have oa : ObjIs Ha h'.fresh [.int .i64 (x : Nat), .int .i64 (y : Nat)] 127 true := hHa ▸ inferInstance
        rw [← hHa]
        have Ia := I.mono ea
        have ila := Ia.loop
        rw [hL] at ila
        refine roundK_go ?_
        have hLc : ∀ c e x, L ≠ .cells c e x := by intro c e x he; rw [hL] at he; cases he
        have ndl : NeB H6.fresh (H6.fresh + 2) := ⟨by omega⟩
        refine V_gen ?_
        intro Hb hHb
        have fb : Hb.fresh = Ha.fresh := by rw [hHb, putObj_fresh]
        have nlp : NeB h'.fresh (H6.fresh + 2) := ila.ne oa (by intro c e x he; cases he)
        have ob9 : ObjIs Hb h'.fresh [.int .i64 (x : Nat), .int .i64 (y : Nat)] 127 true := hHb ▸ inferInstance
        obtain ⟨LB, Ib, nt, T, ps, ac, bd, hLB, hLr⟩ : ∃ LB, SynI H4 H4.fresh H5.fresh H6.fresh (H6.fresh + 2) N asv n LB dq Hb ∧ ∃ nt T ps ac bd, LB = .loop nt T ps ac bd .busy none ∧ L = .loop nt T ps ac bd .ready none := by
          rw [hHb]; exact ⟨_, Ia.flip hLc (by omega) ndl, _, _, _, _, _, rfl, hL⟩
        clear hHb
        have hLBc : ∀ c e x, LB ≠ .cells c e x := by intro c e x he; rw [hLB] at he; cases he
        obtain ⟨sv2, o2, l2⟩ := Ib.list
        obtain ⟨asv2, rfl⟩ := l2.isSlice
        have hdl : dq.length ≤ n := by
          have := congrArg List.length hdq
          simp only [List.length_map, List.length_reverse, List.length_drop] at this
          omega
        repeat' (first | (first | refine V_seq ?_ | refine V_region ?_ | refine WS_nil ?_ | refine S_normal ?_ | refine V_block ?_ | refine B_normal ?_ | refine V_skip ?_ | refine V_exit ?_ | refine V_ret ?_ | refine S_exit ?_ | refine S_ret ?_ | refine B_exit ?_ | refine B_ret ?_ | refine B_pass rfl ?_ | refine C_normal ?_ | refine C_exit ?_ | refine C_ret ?_ | refine WS_off rfl (by first | rfl | assumption) ?_ | refine WS_on rfl (by first | rfl | assumption) ?_ | refine WS_move ?_ | refine WS_assign ?_ | refine WS_pick_t (by first | rfl | assumption) ?_ | refine WS_pick_f (by first | rfl | assumption) ?_ | refine WS_isnil ?_ | refine WS_notnil ?_ | refine WS_neq_same ?_ | refine WS_eql_same ?_ | refine WS_streq ?_ | refine WS_strne ?_ | refine WS_booleq ?_ | refine WS_boolne ?_ | refine WS_off_undef rfl ?_ | refine WD_off_undef rfl rfl ?_ | refine WS_cmp rfl ?_ | refine WS_addi (by omega) ?_ | refine WS_subi (by omega) ?_ | refine WS_arith rfl ?_ | refine WS_not ?_ | refine WS_neg ?_ | refine WS_convert ?_ | refine WS_len_slice ?_ | refine WS_len_string ?_ | refine WS_fieldAddr ?_ | refine WS_load ?_ | refine WS_load_agg ?_ | refine WS_box_agg rfl ?_ | refine WS_box rfl ?_ | refine WS_makeFunc ?_ | refine WS_extract ?_ | refine WS_field ?_ | refine WS_build ?_ | refine WS_zero ?_ | refine WS_shift (by first | decide | omega) rfl ?_ | refine WS_strcmp rfl ?_ | refine WS_indexAddr (by first | decide | omega) ?_ | refine WS_alloc ?_ | refine WS_store rfl ?_ | refine WS_buildSlice (by decide) rfl rfl (by simp [Value.cells]) ?_ | refine WDK_go ?_ | refine WDT_go ?_ | refine WD_nil ?_ | refine WD_take_off rfl rfl (by first | rfl | assumption) ?_ | refine WD_load rfl ?_ | refine WD_load_on rfl rfl (by first | rfl | assumption) ?_ | refine WD_load_agg rfl ?_ | refine WD_load_agg_on rfl rfl (by first | rfl | assumption) ?_ | refine WD_take rfl rfl ?_ | refine WD_take_on rfl rfl (by first | rfl | assumption) rfl ?_ | refine WD_drop rfl rfl ?_ | refine WD_filt rfl ?_ | refine Filt_drop rfl ?_ | refine Filt_keep rfl ?_ | refine Filt_nil ?_ | refine WD_one rfl ?_ | refine WD_virt rfl rfl ?_) | (refine WS_guard rfl ?_ ?_ <;> intro hg) | (refine WD_guard rfl rfl ?_ ?_ <;> intro hg) | (refine V_cond_t (by first | rfl | assumption) ?_) | (refine V_cond_f (by first | rfl | assumption) ?_) | (refine V_cond ?_ ?_ <;> intro hc <;> try (cases hc; done)))
        refine WS_gen ?_
        intro Hd hHd
        have ed : Ext Hb Hd := hHd ▸ (Ext.push _ _).push' _
        have fd : Hd.fresh = Hb.fresh + 4 := by rw [hHd, push_fresh, push_fresh]
        have Id := Ib.mono ed
        have oq : ObjIs Hd Hb.fresh [.int .i64 (x : Nat), .int .i64 (y : Nat)] 3 true := hHd ▸ inferInstance
        have oD : ObjIs Hd H4.fresh _ 24 true := ⟨o2.even, ed.new _ _ o2.eq⟩
        have lD := l2.ext ed
        have c3 : RowIs Hd (Hb.push (IObj.cells [.int .i64 (x : Nat), .int .i64 (y : Nat)] 3 true)).fresh 0 7 (cxCells ((x, y), Hb.fresh)) := by rw [hHd]; unfold cxCells; infer_instance
        refine WS_appendM (m := 7) (lo := H4.fresh) lD (by omega) (by omega) ?_
        intro v' He hLe me hbe
        obtain ⟨a2, rfl⟩ := hLe.isSlice
        have o7e : ObjIs He H4.fresh _ 24 true := me.obj oD (lst_ne lD oD)
        repeat' (first | (first | refine V_seq ?_ | refine V_region ?_ | refine WS_nil ?_ | refine S_normal ?_ | refine V_block ?_ | refine B_normal ?_ | refine V_skip ?_ | refine V_exit ?_ | refine V_ret ?_ | refine S_exit ?_ | refine S_ret ?_ | refine B_exit ?_ | refine B_ret ?_ | refine B_pass rfl ?_ | refine C_normal ?_ | refine C_exit ?_ | refine C_ret ?_ | refine WS_off rfl (by first | rfl | assumption) ?_ | refine WS_on rfl (by first | rfl | assumption) ?_ | refine WS_move ?_ | refine WS_assign ?_ | refine WS_pick_t (by first | rfl | assumption) ?_ | refine WS_pick_f (by first | rfl | assumption) ?_ | refine WS_isnil ?_ | refine WS_notnil ?_ | refine WS_neq_same ?_ | refine WS_eql_same ?_ | refine WS_streq ?_ | refine WS_strne ?_ | refine WS_booleq ?_ | refine WS_boolne ?_ | refine WS_off_undef rfl ?_ | refine WD_off_undef rfl rfl ?_ | refine WS_cmp rfl ?_ | refine WS_addi (by omega) ?_ | refine WS_subi (by omega) ?_ | refine WS_arith rfl ?_ | refine WS_not ?_ | refine WS_neg ?_ | refine WS_convert ?_ | refine WS_len_slice ?_ | refine WS_len_string ?_ | refine WS_fieldAddr ?_ | refine WS_load ?_ | refine WS_load_agg ?_ | refine WS_box_agg rfl ?_ | refine WS_box rfl ?_ | refine WS_makeFunc ?_ | refine WS_extract ?_ | refine WS_field ?_ | refine WS_build ?_ | refine WS_zero ?_ | refine WS_shift (by first | decide | omega) rfl ?_ | refine WS_strcmp rfl ?_ | refine WS_indexAddr (by first | decide | omega) ?_ | refine WS_alloc ?_ | refine WS_store rfl ?_ | refine WS_buildSlice (by decide) rfl rfl (by simp [Value.cells]) ?_ | refine WDK_go ?_ | refine WDT_go ?_ | refine WD_nil ?_ | refine WD_take_off rfl rfl (by first | rfl | assumption) ?_ | refine WD_load rfl ?_ | refine WD_load_on rfl rfl (by first | rfl | assumption) ?_ | refine WD_load_agg rfl ?_ | refine WD_load_agg_on rfl rfl (by first | rfl | assumption) ?_ | refine WD_take rfl rfl ?_ | refine WD_take_on rfl rfl (by first | rfl | assumption) rfl ?_ | refine WD_drop rfl rfl ?_ | refine WD_filt rfl ?_ | refine Filt_drop rfl ?_ | refine Filt_keep rfl ?_ | refine Filt_nil ?_ | refine WD_one rfl ?_ | refine WD_virt rfl rfl ?_) | (refine WS_guard rfl ?_ ?_ <;> intro hg) | (refine WD_guard rfl rfl ?_ ?_ <;> intro hg) | (refine V_cond_t (by first | rfl | assumption) ?_) | (refine V_cond_f (by first | rfl | assumption) ?_) | (refine V_cond ?_ ?_ <;> intro hc <;> try (cases hc; done)))
        have If := Id.grow hLBc oD lD hLe me hbe oq (by omega) (Nat.le_refl _)
        have ilf := If.loop
        rw [hLB] at ilf
        refine roundK2_go ?_
        refine ⟨rfl, dq ++ [((x, y), Hb.fresh)], ?_, ?_⟩
        · have hil : i < st.2.length := by omega
          rw [List.map_append, hdq, List.drop_eq_getElem_cons hil, List.reverse_cons, List.map_cons, List.map_nil]
          have hgd : st.2.getD i (0, 0) = st.2[i] := by simp [List.getD, hil]
          rw [hx1, hy1, hgd]
        · have := If.flip (L2 := L) hLBc (by omega) ndl
          rw [hLr] at this
          rw [hLr]
          exact this
      · rintro v h3 ⟨dq, hdq, I⟩
        have il := I.loop
        rw [hL] at il
        refine ⟨_, _, _, _, _, il, rfl, ?_⟩
        have hLc : ∀ c e x, L ≠ .cells c e x := by intro c e x he; rw [hL] at he; cases he
        have ndl : NeB H6.fresh (H6.fresh + 2) := ⟨by omega⟩
        refine V_gen ?_
        intro Hz hHz
        obtain ⟨LE, Iz⟩ : ∃ LE, SynI H4 H4.fresh H5.fresh H6.fresh (H6.fresh + 2) N asv n LE dq Hz := by
          rw [hHz]; exact ⟨_, I.flip hLc (by omega) ndl⟩
        clear hHz
        have t2 : ObjIs Hz H1.fresh [.int .i64 0, .int .i64 0, .slice none 0 0] 24 true := ⟨s2.even, Iz.ext.new _ _ s2.eq⟩
        obtain ⟨sv2, o2, l2⟩ := Iz.list
        obtain ⟨asv2, rfl⟩ := l2.isSlice
        have c7r : RowIs Hz H4.fresh 0 3 [.int .i64 N, .int .i64 0, .slice asv2 dq.length dq.length] := ⟨by rw [row_obj o2 0 (by simp)]; rfl⟩
        have izd := Iz.defr
        have nd1 : NeB H6.fresh H1.fresh := .fresh' (by omega)
        have nd2 : NeB H1.fresh H6.fresh := .fresh (by omega)
        repeat' (first | (first | refine V_seq ?_ | refine V_region ?_ | refine WS_nil ?_ | refine S_normal ?_ | refine V_block ?_ | refine B_normal ?_ | refine V_skip ?_ | refine V_exit ?_ | refine V_ret ?_ | refine S_exit ?_ | refine S_ret ?_ | refine B_exit ?_ | refine B_ret ?_ | refine B_pass rfl ?_ | refine C_normal ?_ | refine C_exit ?_ | refine C_ret ?_ | refine WS_off rfl (by first | rfl | assumption) ?_ | refine WS_on rfl (by first | rfl | assumption) ?_ | refine WS_move ?_ | refine WS_assign ?_ | refine WS_pick_t (by first | rfl | assumption) ?_ | refine WS_pick_f (by first | rfl | assumption) ?_ | refine WS_isnil ?_ | refine WS_notnil ?_ | refine WS_neq_same ?_ | refine WS_eql_same ?_ | refine WS_streq ?_ | refine WS_strne ?_ | refine WS_booleq ?_ | refine WS_boolne ?_ | refine WS_off_undef rfl ?_ | refine WD_off_undef rfl rfl ?_ | refine WS_cmp rfl ?_ | refine WS_addi (by omega) ?_ | refine WS_subi (by omega) ?_ | refine WS_arith rfl ?_ | refine WS_not ?_ | refine WS_neg ?_ | refine WS_convert ?_ | refine WS_len_slice ?_ | refine WS_len_string ?_ | refine WS_fieldAddr ?_ | refine WS_load ?_ | refine WS_load_agg ?_ | refine WS_box_agg rfl ?_ | refine WS_box rfl ?_ | refine WS_makeFunc ?_ | refine WS_extract ?_ | refine WS_field ?_ | refine WS_build ?_ | refine WS_zero ?_ | refine WS_shift (by first | decide | omega) rfl ?_ | refine WS_strcmp rfl ?_ | refine WS_indexAddr (by first | decide | omega) ?_ | refine WS_alloc ?_ | refine WS_store rfl ?_ | refine WS_buildSlice (by decide) rfl rfl (by simp [Value.cells]) ?_ | refine WDK_go ?_ | refine WDT_go ?_ | refine WD_nil ?_ | refine WD_take_off rfl rfl (by first | rfl | assumption) ?_ | refine WD_load rfl ?_ | refine WD_load_on rfl rfl (by first | rfl | assumption) ?_ | refine WD_load_agg rfl ?_ | refine WD_load_agg_on rfl rfl (by first | rfl | assumption) ?_ | refine WD_take rfl rfl ?_ | refine WD_take_on rfl rfl (by first | rfl | assumption) rfl ?_ | refine WD_drop rfl rfl ?_ | refine WD_filt rfl ?_ | refine Filt_drop rfl ?_ | refine Filt_keep rfl ?_ | refine Filt_nil ?_ | refine WD_one rfl ?_ | refine WD_virt rfl rfl ?_) | (refine WS_guard rfl ?_ ?_ <;> intro hg) | (refine WD_guard rfl rfl ?_ ?_ <;> intro hg) | (refine V_cond_t (by first | rfl | assumption) ?_) | (refine V_cond_f (by first | rfl | assumption) ?_) | (refine V_cond ?_ ?_ <;> intro hc <;> try (cases hc; done)))
        refine tailK_go ?_
        refine retK_ct ?_ (.inr rfl)
        refine ⟨?_, ?_⟩
        · exact ((e14.trans Iz.ext).putObj (by omega)).putObj (by omega)
        · rw [if_pos hck]
          refine ⟨_, dq, rfl, by simpa using hdq, ((l2.put (lst_ne l2 t2) t2.even).put (fun hh => lst_neA l2 izd (by intro c e x he; cases he) hh) izd.even).lower (by omega), fun d hd => ?_⟩
          obtain ⟨h5, h6⟩ := Iz.qs d hd
          have n5 : NeB d.2 H1.fresh := .of h6.even t2.even (by omega)
          have n6 : NeB d.2 H6.fresh := izd.ne h6 (by intro c e x he; cases he)
          exact ⟨by omega, inferInstance⟩
end Go.Ideal

-- Co
set_option linter.unusedSimpArgs false
set_option linter.unusedVariables false
namespace Go.Ideal
open Go Go.Proofs
/-! ### The circuit of a matrix -/
theorem fixK_hit {j n f i : Nat} {st : RSt} (hb : bitAt (st.1.getD j 0) j = true) {st' : RSt} (h : fixK j n f i st = some st') : st' = st := by
  cases f with
  | zero => cases h
  | succ f => rw [fixK, if_pos hb] at h; exact (Option.some.inj h).symm
theorem fixK_short {j n : Nat} (hj : j < n) : ∀ (f i : Nat) (st st' : RSt), st.1.length = n → fixK j n f i st = some st' → st'.2.length ≤ st.2.length + 1 := by
  intro f
  induction f with
  | zero => intro i st st' _ h; cases h
  | succ f ih =>
    intro i st st' hl h
    rw [fixK] at h
    split at h
    · obtain rfl := Option.some.inj h; omega
    · rename_i hb
      split at h
      · cases h
      · split at h
        · rename_i hb2
          have := fixK_hit (st := (addStep st.1 (i + 1) j, st.2 ++ [(i + 1, j)])) (by
            simp only
            rw [bitAt_tb, addStep_get (by omega), if_pos rfl, Nat.testBit_xor]
            rw [bitAt_tb] at hb hb2
            rw [hb2, Bool.not_eq_true _ |>.mp hb]; rfl) h
          rw [this]; simp
        · exact ih _ _ _ hl h
theorem clearK_short {j : Nat} : ∀ (m k : Nat) (st : RSt), (clearK j k m st).2.length + (if k ≤ j ∧ j < k + m then 1 else 0) ≤ st.2.length + m := by
  intro m
  induction m with
  | zero => intro k st; rw [clearK]; rw [if_neg (by omega)]; omega
  | succ m ih =>
    intro k st
    rw [clearK]
    have h1 := ih (k + 1) (if k ≠ j ∧ bitAt (st.1.getD k 0) j = true then (addStep st.1 j k, st.2 ++ [(j, k)]) else st)
    by_cases hk : k = j
    · have e : (if k ≠ j ∧ bitAt (st.1.getD k 0) j = true then (addStep st.1 j k, st.2 ++ [(j, k)]) else st) = st := if_neg (by rintro ⟨h, _⟩; exact h hk)
      rw [e] at h1 ⊢
      rw [if_neg (by omega)] at h1
      rw [if_pos (by omega)]
      omega
    · have e : (if k ≠ j ∧ bitAt (st.1.getD k 0) j = true then (addStep st.1 j k, st.2 ++ [(j, k)]) else st).2.length ≤ st.2.length + 1 := by
        split
        · simp
        · omega
      have e2 : (if k ≤ j ∧ j < k + (m + 1) then 1 else 0) = (if k + 1 ≤ j ∧ j < k + 1 + m then 1 else 0) := by
        split
        · rw [if_pos (by omega)]
        · rw [if_neg (by omega)]
      rw [e2]
      omega
theorem redK_short (xs : List Nat) : ∀ (j : Nat) (st : RSt), j ≤ xs.length → redK xs j = some st → st.2.length ≤ j * xs.length := by
  intro j
  induction j with
  | zero => intro st _ h; simp only [redK, Option.some.injEq] at h; subst h; simp
  | succ j ih =>
    intro st hj h
    have h0 := h
    simp only [redK, Option.bind_eq_some_iff, Option.map_eq_some_iff] at h
    obtain ⟨s1, h1, s2, h2, rfl⟩ := h
    have a := ih s1 (by omega) h1
    have l1 := (redK_cols xs j s1 (by omega) h1).2
    have b := fixK_short (show j < xs.length by omega) _ _ _ _ l1 h2
    have c := clearK_short (j := j) xs.length 0 s2
    rw [if_pos (by omega)] at c
    rw [Nat.add_mul, Nat.one_mul]
    omega
theorem addStep_back {X : List Nat} {f t : Nat} (hf : f ≠ t) (ht : t < X.length) : addStep (addStep X f t) f t = X := by
  refine List.ext_getElem? fun i => ?_
  have h1 : ∀ R : List Nat, R.length = X.length → ∀ i, i < X.length → R[i]? = some (R.getD i 0) := fun R hR i hi => by
    rw [List.getD_eq_getElem?_getD, List.getElem?_eq_getElem (by omega)]; rfl
  by_cases hi : i < X.length
  · rw [h1 _ (by simp [addStep_len]) i hi, h1 X rfl i hi]
    congr 1
    rw [addStep_get (by rw [addStep_len]; exact ht), addStep_get ht, addStep_get ht]
    by_cases e : i = t
    · rw [if_pos e, if_pos rfl, if_neg hf, Nat.xor_assoc, Nat.xor_self, Nat.xor_zero, e]
    · rw [if_neg e, addStep_get ht, if_neg e]
  · rw [List.getElem?_eq_none (by simp [addStep_len]; omega), List.getElem?_eq_none (by omega)]
theorem doSteps_back : ∀ (l : List (Nat × Nat)) (X : List Nat), StNe l → StOk X.length l → doSteps (doSteps X l) l.reverse = X := by
  intro l
  induction l with
  | nil => intro X _ _; rfl
  | cons p l ih =>
    intro X hn hk
    have h1 : doSteps X (p :: l) = doSteps (addStep X p.1 p.2) l := rfl
    rw [h1, List.reverse_cons, doSteps_append, ih (addStep X p.1 p.2) (fun q hq => hn q (List.mem_cons_of_mem _ hq)) (fun q hq => by rw [addStep_len]; exact hk q (List.mem_cons_of_mem _ hq))]
    exact addStep_back (hn p (List.mem_cons_self ..)) (hk p (List.mem_cons_self ..)).2
theorem cx_arity : arityS ⟨#[99, 120]⟩ = 2 := by decide
theorem cx_halves : halvesS ⟨#[99, 120]⟩ = 0 := by decide
theorem cx_isCx (p : Nat × Nat) : isCx (cxOp p) = true := by unfold isCx; show beqS ⟨#[99, 120]⟩ ⟨#[99, 120]⟩ = true; decide
theorem cx_good (p : Nat × Nat) : opBad (cxOp p) = false := by
  unfold opBad; rw [cx_isCx]; simp [cxOp]
theorem fromK_cx : ∀ (l : List (Nat × Nat)) (R : List Nat), fromK (l.map cxOp) R = some (doSteps R l) := by
  intro l
  induction l with
  | nil => intro R; rfl
  | cons p l ih =>
    intro R
    rw [List.map_cons, fromK, if_neg (by rw [cx_good]; decide), ih]
    congr 1
theorem cx_fault {p : Nat × Nat} {N : Int} (h1 : (p.1 : Int) < N) (h2 : (p.2 : Int) < N) (hne : p.1 ≠ p.2) : faultS (cxOp p) N 0 = 0 := by
  have hs : shapeBad (cxOp p) 0 = false := by
    simp [shapeBad, bad1, bad2, bad3, bad4, cxOp]
  have hn : nS (cxOp p) = 2 := by simp only [nS, cxOp, cx_arity]; decide
  unfold faultS
  rw [if_neg (by rw [hs]; decide), if_neg, if_neg, if_neg, if_neg, if_neg]
  · simp only [cxOp, List.length_cons, List.length_nil]
    simp [dupK]
    omega
  · simp [bitBad, cxOp]
  · simp [cxOp, outS]; omega
  · rw [hn]; simp [cxOp]
  · rintro ⟨_, h⟩
    rw [show (cxOp p).name = ⟨#[99, 120]⟩ from rfl, cx_arity] at h
    exact absurd h (by decide)
theorem cx_chk {N : Int} : ∀ (l : List (Nat × Nat)) (i n : Int), n ≤ 36 → StNe l → (∀ p ∈ l, (p.1 : Int) < N ∧ (p.2 : Int) < N) → chkK N 0 (l.map cxOp) i n = (0, 0) := by
  intro l
  induction l with
  | nil => intro i n _ _ _; rfl
  | cons p l ih =>
    intro i n h36 hn hk
    obtain ⟨a, b⟩ := hk p (List.mem_cons_self ..)
    have hh : halvesO (cxOp p) = 0 := by simp only [halvesO, cxOp, cx_halves]; decide
    rw [List.map_cons, chkK, cx_fault a b (hn p (List.mem_cons_self ..)), hh]
    simp only [ne_eq, not_true_eq_false, if_false]
    rw [if_neg (by omega)]
    exact ih _ _ (by omega) (fun q hq => hn q (List.mem_cons_of_mem _ hq)) (fun q hq => hk q (List.mem_cons_of_mem _ hq))
theorem synth_from {N : Int} {xs : List Nat} {st : RSt} (hN0 : 0 ≤ N) (hN : N ≤ 64) (hl : N.toNat = xs.length) (hlt : GLt xs xs.length) (hr : redK xs xs.length = some st) :
    fromC ⟨N, 0, st.2.reverse.map cxOp⟩ = (N, xs, 0) ∧ st.2.length ≤ xs.length * xs.length := by
  have hok : StOk xs.length st.2 := redK_ok xs xs.length st (Nat.le_refl _) hr
  have hne : StNe st.2 := redK_ne xs xs.length st hr
  have hsh := redK_short xs xs.length st (Nat.le_refl _) hr
  obtain ⟨hC, hlen⟩ := redK_cols xs xs.length st (Nat.le_refl _) hr
  have hst := redK_steps xs xs.length st hr
  have hG : GLt st.1 xs.length := by rw [hst]; exact hlt.steps _ _ rfl hok
  have heye : st.1 = eyeS N := by
    refine List.ext_getElem? fun i => ?_
    have h1 : ∀ R : List Nat, R.length = xs.length → ∀ i, i < xs.length → R[i]? = some (R.getD i 0) := fun R hR i hi => by
      rw [List.getD_eq_getElem?_getD, List.getElem?_eq_getElem (by omega)]; rfl
    have hel : (eyeS N).length = xs.length := by simp [eyeS, hl]
    by_cases hi : i < xs.length
    · rw [h1 _ hlen i hi, h1 _ hel i hi, cols_eye hC hG hi, eyeS_get (by omega)]
    · rw [List.getElem?_eq_none (by omega), List.getElem?_eq_none (by omega)]
  have h64 : xs.length * xs.length ≤ 4096 := Nat.le_trans (Nat.mul_le_mul (show xs.length ≤ 64 by omega) (show xs.length ≤ 64 by omega)) (by decide)
  refine ⟨?_, hsh⟩
  have hck : checkC ⟨N, 0, st.2.reverse.map cxOp⟩ = (0, 0) := by
    unfold checkC
    rw [if_neg (by simp [rangeBad]; omega), if_neg (by simp; omega)]
    refine cx_chk _ _ _ (by decide) (fun p hp => hne p (List.mem_reverse.1 hp)) (fun p hp => ?_)
    obtain ⟨a, b⟩ := hok p (List.mem_reverse.1 hp)
    show (p.1 : Int) < N ∧ (p.2 : Int) < N
    omega
  unfold fromC
  rw [hck]
  simp only [ne_eq, not_true_eq_false, if_false, fromK_cx]
  rw [← heye, hst, doSteps_back _ _ hne hok]
end Go.Ideal

-- Cpa
set_option linter.unusedSimpArgs false
set_option linter.unusedVariables false
namespace Go.Ideal
open Go Go.Proofs Go.RowKit
/-! ### LinearSynth -/
def SynV (h : IHp) (sv : Value) (dq : List ((Nat × Nat) × Nat)) : Prop := LstM 7 0 h sv dq.length (dq.map cxCells).flatten 44 ∧ ∀ d ∈ dq, ObjIs h d.2 [.int .i64 (d.1.1 : Nat), .int .i64 (d.1.2 : Nat)] 3 true
theorem SynV.ext {h h' : IHp} (e : Ext h h') {sv : Value} {dq : List ((Nat × Nat) × Nat)} (x : SynV h sv dq) : SynV h' sv dq :=
  ⟨x.1.ext e, fun d hd => ⟨(x.2 d hd).even, e.new _ _ (x.2 d hd).eq⟩⟩
theorem flat7 : ∀ (dq : List ((Nat × Nat) × Nat)) (i : Nat) (d : (Nat × Nat) × Nat), dq[i]? = some d → (((dq.map cxCells).flatten).drop (i * 7)).take 7 = cxCells d := by
  intro dq
  induction dq with
  | nil => intro i d hi; simp at hi
  | cons p l ih =>
    intro i d hi
    cases i with
    | zero => simp at hi; subst hi; simp [cxCells]
    | succ i =>
      have := ih i d (by simpa using hi)
      have e : (i + 1) * 7 = i * 7 + 7 := by omega
      rw [e, List.map_cons, List.flatten_cons]
      rw [show (cxCells p ++ (l.map cxCells).flatten).drop (i * 7 + 7) = ((l.map cxCells).flatten).drop (i * 7) by
        rw [Nat.add_comm, ← List.drop_drop]; rfl]
      exact this
theorem SynV.at {h : IHp} {sv : Value} {dq : List ((Nat × Nat) × Nat)} (x : SynV h sv dq) {i : Nat} {d : (Nat × Nat) × Nat} (hi : dq[i]? = some d) : ∃ b, sv = .slice (some (ad b 0)) dq.length dq.length ∧ RowIs h b (i * 7) 7 (cxCells d) ∧ ObjIs h d.2 [.int .i64 (d.1.1 : Nat), .int .i64 (d.1.2 : Nat)] 3 true := by
  have hlt := (List.getElem?_eq_some_iff.1 hi).1
  rcases x.1 with ⟨_, h2, _⟩ | ⟨b, _, h1, h2, _, h3⟩
  · omega
  · refine ⟨b, h1, ⟨?_⟩, x.2 d (List.mem_of_getElem? hi)⟩
    rw [row_obj h2 (i * 7) (by rw [h3]; omega), flat7 dq i d hi]
theorem SynV.circ {h : IHp} {sv : Value} {dq : List ((Nat × Nat) × Nat)} {N : Int} (x : SynV h sv dq) (hl : dq.length < 2 ^ 62) : CircV h (.agg [.int .i64 N, .int .i64 0, sv].toArray) ⟨N, 0, (dq.map Prod.fst).map cxOp⟩ := by
  have key : ∀ (i : Nat) (o : OpD), ((dq.map Prod.fst).map cxOp)[i]? = some o → ∃ d : (Nat × Nat) × Nat, dq[i]? = some d ∧ o = cxOp d.1 := by
    intro i o ho
    simp only [List.getElem?_map, Option.map_eq_some_iff] at ho
    obtain ⟨p, ⟨d, hd, rfl⟩, rfl⟩ := ho
    exact ⟨d, hd, rfl⟩
  obtain ⟨a, rfl⟩ := x.1.isSlice
  refine ⟨a, _, _, rfl, by simp, Nat.le_refl _, by omega, ?_⟩
  cases a with
  | none =>
    rcases x.1 with ⟨_, h2, _⟩ | ⟨b, _, h1, _⟩
    · exact h2
    · cases h1
  | some a =>
    intro i o ho
    obtain ⟨d, hd, rfl⟩ := key i o ho
    obtain ⟨b, h1, h2, h3⟩ := x.at hd
    cases h1
    refine ⟨cxCells d, by rw [Nat.zero_add]; exact h2.eq, some (ad d.2 0), 2, 2, rfl, ⟨rfl, Nat.le_refl _, ?_⟩, by simp [cxOp], by simp [cxOp], by decide, fun e he => by cases he; exact .inl rfl⟩
    have := row_obj (n := 2) h3 0 (by simp)
    simpa [cxOp, ints] using this
theorem Synth_w {A : Value} {N : Int} {xs : List Nat} {h : IHp} (ha : MatV h A N xs) : EvX Try.prog 32 [A].toArray h (fun v h' => Ext h h' ∧
      if checkS N xs = 0 then
        match redK xs xs.length with
        | none => v = .tuple [.agg [.int .i64 0, .int .i64 0, .slice none 0 0].toArray, .int .i64 200].toArray
        | some st => ∃ (sv : Value) (dq : List ((Nat × Nat) × Nat)), v = .tuple [.agg [.int .i64 N, .int .i64 0, sv].toArray, .int .i64 0].toArray ∧ dq.map Prod.fst = st.2.reverse ∧ SynV h' sv dq
      else v = .tuple [.agg [.int .i64 0, .int .i64 0, .slice none 0 0].toArray, .int .i64 (checkS N xs)].toArray) := by
  obtain ⟨a, l, c, rfl, hx, h64⟩ := ha
  refine (Synth_spec N a l c xs h hx h64).mono ?_
  rintro v h' ⟨e, hv⟩
  refine ⟨e, ?_⟩
  split
  · rename_i hck
    rw [if_pos hck] at hv
    cases hr : redK xs xs.length with
    | none => rw [hr] at hv; exact hv
    | some st =>
      rw [hr] at hv
      obtain ⟨sv, dq, h1, h2, h3, h4⟩ := hv
      exact ⟨sv, dq, h1, h2, h3.lower (Nat.zero_le _), fun d hd => (h4 d hd).2⟩
  · rename_i hck
    rw [if_neg hck] at hv
    exact hv
instance : CallIs Try.prog 32 := .of Try.func32 rfl rfl
theorem ne_new {h : IHp} {x : Nat} (hx : x < h.fresh) : NeB x h.fresh ∧ ∀ o : IObj, NeB x (h.push o).fresh :=
  ⟨⟨by unfold IHp.fresh at *; omega⟩, fun o => ⟨by rw [push_fresh]; unfold IHp.fresh at *; omega⟩⟩
theorem ne_two (h : IHp) (o : IObj) : NeB h.fresh (h.push o).fresh ∧ NeB (h.push o).fresh h.fresh := ⟨⟨by rw [push_fresh]; omega⟩, ⟨by rw [push_fresh]; omega⟩⟩
def regionOf (r : Nat) : Code → Option Code
  | .region id ops d => if id == r then some (.region id ops d) else none
  | .seq a b => match regionOf r a with | some x => some x | none => regionOf r b
  | .cond _ a b => match regionOf r a with | some x => some x | none => regionOf r b
  | .block _ b => regionOf r b
  | .loop b => regionOf r b
  | .rangeFunc _ _ a b => match regionOf r a with | some x => some x | none => regionOf r b
  | _ => none
set_option maxHeartbeats 4000000 in
set_option synthInstance.maxHeartbeats 400000 in
set_option synthInstance.maxSize 4000 in
theorem synthR18 {E : Env} {c : Code} {Q : IExit → SK} {s : Nat → Value} {h : IHp} {N : Int} {n i b1 b2 p p3 p8 : Nat} {d1 d2 : (Nat × Nat) × Nat} (hc : Try.f8.body.bind (regionOf 18) = some c) (hi : i < n) (l2 : b2 < h.fresh) (l8 : p8 < h.fresh)
    (r1 : RowIs h b1 (0 + (i : Int).toNat * 7) 7 (cxCells d1)) (r2 : RowIs h b2 (0 + (i : Int).toNat * 7) 7 (cxCells d2)) (o3 : ObjIs h p3 [.int .i64 N, .int .i64 0, .slice (some (ad b1 0)) n n] 24 true) (o8 : ObjIs h p8 [.int .i64 N, .int .i64 0, .slice (some (ad b2 0)) n n] 24 true)
    (g1 : Get s 1 (.pointer (some (ad p 0)))) (g3 : Get s 3 (.pointer (some (ad p3 0)))) (g8 : Get s 8 (.pointer (some (ad p8 0)))) (g10 : Get s 10 (.int .i64 (i : Int)))
    (k : ∀ s' H t1 t2, Ext h H → ObjIs H t1 (cxCells d1) 44 true → ObjIs H t2 (cxCells d2) 44 true → Get s' 11 (.pointer (some (ad t1 0))) → Get s' 12 (.pointer (some (ad t2 0))) → Get s' 1 (.pointer (some (ad p 0))) → Get s' 3 (.pointer (some (ad p3 0))) → Get s' 8 (.pointer (some (ad p8 0))) → Get s' 10 (.int .i64 (i : Int)) → Q .normal s' H) : V Try.prog E c Q s h := by
  have e := Option.some.inj hc
  subst e
  have hb : 0 ≤ (i : Int) ∧ (i : Int) < (n : Int) := by omega
  unfold cxCells at *
  have c3 : CellIs h p3 2 (.slice (some (ad b1 0)) n n) := inferInstance
  have c8 : CellIs h p8 2 (.slice (some (ad b2 0)) n n) := inferInstance
  clear o3 o8
  obtain ⟨k0, r1a⟩ := row_inv r1
  obtain ⟨k1, r1a⟩ := row_inv r1a
  obtain ⟨k2, r1a⟩ := row_inv r1a
  obtain ⟨k3, r1a⟩ := row_inv r1a
  obtain ⟨k4, r1a⟩ := row_inv r1a
  obtain ⟨k5, r1a⟩ := row_inv r1a
  obtain ⟨k6, _⟩ := row_inv r1a
  obtain ⟨m0, r2a⟩ := row_inv r2
  obtain ⟨m1, r2a⟩ := row_inv r2a
  obtain ⟨m2, r2a⟩ := row_inv r2a
  obtain ⟨m3, r2a⟩ := row_inv r2a
  obtain ⟨m4, r2a⟩ := row_inv r2a
  obtain ⟨m5, r2a⟩ := row_inv r2a
  obtain ⟨m6, _⟩ := row_inv r2a
  clear r1a r2a hc
  have w1 := (ne_new l2).1
  have w2 := (ne_new l8).1
  have w3 := fun o => (ne_two h o).2
  have w4 := fun o => (ne_two h o).1
  skip -- EvX_of Try.func8
  repeat' (first | (first | refine V_seq ?_ | refine V_region ?_ | refine WS_nil ?_ | refine S_normal ?_ | refine V_block ?_ | refine B_normal ?_ | refine V_skip ?_ | refine V_exit ?_ | refine V_ret ?_ | refine S_exit ?_ | refine S_ret ?_ | refine B_exit ?_ | refine B_ret ?_ | refine B_pass rfl ?_ | refine C_normal ?_ | refine C_exit ?_ | refine C_ret ?_ | refine WS_off rfl (by first | rfl | assumption) ?_ | refine WS_on rfl (by first | rfl | assumption) ?_ | refine WS_move ?_ | refine WS_assign ?_ | refine WS_pick_t (by first | rfl | assumption) ?_ | refine WS_pick_f (by first | rfl | assumption) ?_ | refine WS_isnil ?_ | refine WS_notnil ?_ | refine WS_neq_same ?_ | refine WS_eql_same ?_ | refine WS_streq ?_ | refine WS_strne ?_ | refine WS_booleq ?_ | refine WS_boolne ?_ | refine WS_off_undef rfl ?_ | refine WD_off_undef rfl rfl ?_ | refine WS_cmp rfl ?_ | refine WS_addi (by omega) ?_ | refine WS_subi (by omega) ?_ | refine WS_arith rfl ?_ | refine WS_not ?_ | refine WS_neg ?_ | refine WS_convert ?_ | refine WS_len_slice ?_ | refine WS_len_string ?_ | refine WS_fieldAddr ?_ | refine WS_load ?_ | refine WS_load_agg ?_ | refine WS_box_agg rfl ?_ | refine WS_box rfl ?_ | refine WS_makeFunc ?_ | refine WS_extract ?_ | refine WS_field ?_ | refine WS_build ?_ | refine WS_zero ?_ | refine WS_shift (by first | decide | omega) rfl ?_ | refine WS_strcmp rfl ?_ | refine WS_indexAddr (by first | decide | omega) ?_ | refine WS_alloc ?_ | refine WS_store rfl ?_ | refine WS_buildSlice (by decide) rfl rfl (by simp [Value.cells]) ?_ | refine WDK_go ?_ | refine WDT_go ?_ | refine WD_nil ?_ | refine WD_take_off rfl rfl (by first | rfl | assumption) ?_ | refine WD_load rfl ?_ | refine WD_load_on rfl rfl (by first | rfl | assumption) ?_ | refine WD_load_agg rfl ?_ | refine WD_load_agg_on rfl rfl (by first | rfl | assumption) ?_ | refine WD_take rfl rfl ?_ | refine WD_take_on rfl rfl (by first | rfl | assumption) rfl ?_ | refine WD_drop rfl rfl ?_ | refine WD_filt rfl ?_ | refine Filt_drop rfl ?_ | refine Filt_keep rfl ?_ | refine Filt_nil ?_ | refine WD_one rfl ?_ | refine WD_virt rfl rfl ?_ | refine V_draw (id := 18) (plan := [.take 0, .take 1, .take 2, .take 3, .take 4, .take 5, .take 6, .take 7, .take 8, .take 9, .virt 10, .one 11, .one 12, .one 13]) (by kernel_rfl) ?_ | refine V_draw (id := 19) (plan := [.take 0, .take 1, .take 2, .take 3, .take 4, .take 5, .take 6, .take 7, .take 8, .take 9, .take 10, .take 11, .take 12, .take 13, .take 14, .take 15, .take 16, .take 17, .take 18, .take 19, .take 20, .take 21, .take 22, .take 23, .take 24, .take 25, .take 26, .take 27, .take 28, .take 29, .take 30, .take 31, .take 32, .take 33, .take 34, .take 35, .take 36, .take 37, .take 38, .take 39, .take 40, .take 41, .take 42, .take 43, .take 44, .take 45]) (by kernel_rfl) ?_) | (refine WS_guard rfl ?_ ?_ <;> intro hg) | (refine WD_guard rfl rfl ?_ ?_ <;> intro hg) | (refine V_cond_t (by first | rfl | assumption) ?_) | (refine V_cond_f (by first | rfl | assumption) ?_) | (refine V_cond ?_ ?_ <;> intro hc <;> try (cases hc; done)))
  exact k _ _ _ _ (((Ext.push _ _).push' _).putObj (Nat.le_refl _) |>.putObj (by rw [push_fresh]; omega)) inferInstance inferInstance inferInstance inferInstance inferInstance inferInstance inferInstance inferInstance
set_option maxHeartbeats 4000000 in
set_option synthInstance.maxHeartbeats 400000 in
set_option synthInstance.maxSize 4000 in
theorem synthR19 {E : Env} {c : Code} {Q : IExit → SK} {s : Nat → Value} {h : IHp} {i t1 t2 p p3 p8 : Nat} {d1 d2 : (Nat × Nat) × Nat} (hc : Try.f8.body.bind (regionOf 19) = some c) (hd : d2.1 = d1.1)
    (o1 : ObjIs h t1 (cxCells d1) 44 true) (o2 : ObjIs h t2 (cxCells d2) 44 true) (q1 : ObjIs h d1.2 [.int .i64 (d1.1.1 : Nat), .int .i64 (d1.1.2 : Nat)] 3 true) (q2 : ObjIs h d2.2 [.int .i64 (d2.1.1 : Nat), .int .i64 (d2.1.2 : Nat)] 3 true)
    (g11 : Get s 11 (.pointer (some (ad t1 0)))) (g12 : Get s 12 (.pointer (some (ad t2 0)))) (g1 : Get s 1 (.pointer (some (ad p 0)))) (g3 : Get s 3 (.pointer (some (ad p3 0)))) (g8 : Get s 8 (.pointer (some (ad p8 0)))) (g10 : Get s 10 (.int .i64 (i : Int)))
    (k : ∀ s', Get s' 153 (.bool false) → Get s' 1 (.pointer (some (ad p 0))) → Get s' 3 (.pointer (some (ad p3 0))) → Get s' 8 (.pointer (some (ad p8 0))) → Get s' 10 (.int .i64 (i : Int)) → Q .normal s' h) : V Try.prog E c Q s h := by
  have e := Option.some.inj hc
  subst e
  rw [hd] at q2
  unfold cxCells at *
  have h0 : 0 ≤ (0 : Int) ∧ (0 : Int) < ((2 : Nat) : Int) := by decide
  have h1 : 0 ≤ (1 : Int) ∧ (1 : Int) < ((2 : Nat) : Int) := by decide
  have a0 : CellIs h d1.2 (0 + (0 : Int).toNat * 1) (.int .i64 (d1.1.1 : Nat)) := ⟨by rw [q1.cell]; rfl⟩
  have a1 : CellIs h d1.2 (0 + (1 : Int).toNat * 1) (.int .i64 (d1.1.2 : Nat)) := ⟨by rw [q1.cell]; rfl⟩
  have b0 : CellIs h d2.2 (0 + (0 : Int).toNat * 1) (.int .i64 (d1.1.1 : Nat)) := ⟨by rw [q2.cell]; rfl⟩
  have b1 : CellIs h d2.2 (0 + (1 : Int).toNat * 1) (.int .i64 (d1.1.2 : Nat)) := ⟨by rw [q2.cell]; rfl⟩
  clear hc q1 q2
  skip -- EvX_of Try.func8
  repeat' (first | (first | refine V_seq ?_ | refine V_region ?_ | refine WS_nil ?_ | refine S_normal ?_ | refine V_block ?_ | refine B_normal ?_ | refine V_skip ?_ | refine V_exit ?_ | refine V_ret ?_ | refine S_exit ?_ | refine S_ret ?_ | refine B_exit ?_ | refine B_ret ?_ | refine B_pass rfl ?_ | refine C_normal ?_ | refine C_exit ?_ | refine C_ret ?_ | refine WS_off rfl (by first | rfl | assumption) ?_ | refine WS_on rfl (by first | rfl | assumption) ?_ | refine WS_move ?_ | refine WS_assign ?_ | refine WS_pick_t (by first | rfl | assumption) ?_ | refine WS_pick_f (by first | rfl | assumption) ?_ | refine WS_isnil ?_ | refine WS_notnil ?_ | refine WS_neq_same ?_ | refine WS_eql_same ?_ | refine WS_streq ?_ | refine WS_strne ?_ | refine WS_booleq ?_ | refine WS_boolne ?_ | refine WS_off_undef rfl ?_ | refine WD_off_undef rfl rfl ?_ | refine WS_cmp rfl ?_ | refine WS_addi (by omega) ?_ | refine WS_subi (by omega) ?_ | refine WS_arith rfl ?_ | refine WS_not ?_ | refine WS_neg ?_ | refine WS_convert ?_ | refine WS_len_slice ?_ | refine WS_len_string ?_ | refine WS_fieldAddr ?_ | refine WS_load ?_ | refine WS_load_agg ?_ | refine WS_box_agg rfl ?_ | refine WS_box rfl ?_ | refine WS_makeFunc ?_ | refine WS_extract ?_ | refine WS_field ?_ | refine WS_build ?_ | refine WS_zero ?_ | refine WS_shift (by first | decide | omega) rfl ?_ | refine WS_strcmp rfl ?_ | refine WS_indexAddr (by first | decide | omega) ?_ | refine WS_alloc ?_ | refine WS_store rfl ?_ | refine WS_buildSlice (by decide) rfl rfl (by simp [Value.cells]) ?_ | refine WDK_go ?_ | refine WDT_go ?_ | refine WD_nil ?_ | refine WD_take_off rfl rfl (by first | rfl | assumption) ?_ | refine WD_load rfl ?_ | refine WD_load_on rfl rfl (by first | rfl | assumption) ?_ | refine WD_load_agg rfl ?_ | refine WD_load_agg_on rfl rfl (by first | rfl | assumption) ?_ | refine WD_take rfl rfl ?_ | refine WD_take_on rfl rfl (by first | rfl | assumption) rfl ?_ | refine WD_drop rfl rfl ?_ | refine WD_filt rfl ?_ | refine Filt_drop rfl ?_ | refine Filt_keep rfl ?_ | refine Filt_nil ?_ | refine WD_one rfl ?_ | refine WD_virt rfl rfl ?_ | refine V_draw (id := 18) (plan := [.take 0, .take 1, .take 2, .take 3, .take 4, .take 5, .take 6, .take 7, .take 8, .take 9, .virt 10, .one 11, .one 12, .one 13]) (by kernel_rfl) ?_ | refine V_draw (id := 19) (plan := [.take 0, .take 1, .take 2, .take 3, .take 4, .take 5, .take 6, .take 7, .take 8, .take 9, .take 10, .take 11, .take 12, .take 13, .take 14, .take 15, .take 16, .take 17, .take 18, .take 19, .take 20, .take 21, .take 22, .take 23, .take 24, .take 25, .take 26, .take 27, .take 28, .take 29, .take 30, .take 31, .take 32, .take 33, .take 34, .take 35, .take 36, .take 37, .take 38, .take 39, .take 40, .take 41, .take 42, .take 43, .take 44, .take 45]) (by kernel_rfl) ?_) | (refine WS_guard rfl ?_ ?_ <;> intro hg) | (refine WD_guard rfl rfl ?_ ?_ <;> intro hg) | (refine V_cond_t (by first | rfl | assumption) ?_) | (refine V_cond_f (by first | rfl | assumption) ?_) | (refine V_cond ?_ ?_ <;> intro hc <;> try (cases hc; done)))
  all_goals exact k _ inferInstance inferInstance inferInstance inferInstance inferInstance
end Go.Ideal

-- Cp
set_option linter.unusedSimpArgs false
set_option linter.unusedVariables false
namespace Go.Ideal
open Go Go.Proofs Go.RowKit
set_option maxHeartbeats 4000000 in
theorem linSynth {N : Int} {A : Value} {xs : List Nat} {h : IHp} (hnew : h.new = []) (ha : MatV h A N xs) : EvX Try.prog 8 [A].toArray h (fun v h' => v = .bool true) := by
  obtain ⟨a, la, ca, hA⟩ := box_cells ha
  rw [hA]
  rw [hA] at ha
  refine EvX_of Try.func8 rfl (by show 1 ≤ 166; decide) ?_
  repeat' (first | (first | refine V_seq ?_ | refine V_region ?_ | refine WS_nil ?_ | refine S_normal ?_ | refine V_block ?_ | refine B_normal ?_ | refine V_skip ?_ | refine V_exit ?_ | refine V_ret ?_ | refine S_exit ?_ | refine S_ret ?_ | refine B_exit ?_ | refine B_ret ?_ | refine B_pass rfl ?_ | refine C_normal ?_ | refine C_exit ?_ | refine C_ret ?_ | refine WS_off rfl (by first | rfl | assumption) ?_ | refine WS_on rfl (by first | rfl | assumption) ?_ | refine WS_move ?_ | refine WS_assign ?_ | refine WS_pick_t (by first | rfl | assumption) ?_ | refine WS_pick_f (by first | rfl | assumption) ?_ | refine WS_isnil ?_ | refine WS_notnil ?_ | refine WS_neq_same ?_ | refine WS_eql_same ?_ | refine WS_streq ?_ | refine WS_strne ?_ | refine WS_booleq ?_ | refine WS_boolne ?_ | refine WS_off_undef rfl ?_ | refine WD_off_undef rfl rfl ?_ | refine WS_cmp rfl ?_ | refine WS_addi (by omega) ?_ | refine WS_subi (by omega) ?_ | refine WS_arith rfl ?_ | refine WS_not ?_ | refine WS_neg ?_ | refine WS_convert ?_ | refine WS_len_slice ?_ | refine WS_len_string ?_ | refine WS_fieldAddr ?_ | refine WS_load ?_ | refine WS_load_agg ?_ | refine WS_box_agg rfl ?_ | refine WS_box rfl ?_ | refine WS_makeFunc ?_ | refine WS_extract ?_ | refine WS_field ?_ | refine WS_build ?_ | refine WS_zero ?_ | refine WS_shift (by first | decide | omega) rfl ?_ | refine WS_strcmp rfl ?_ | refine WS_indexAddr (by first | decide | omega) ?_ | refine WS_alloc ?_ | refine WS_store rfl ?_ | refine WS_buildSlice (by decide) rfl rfl (by simp [Value.cells]) ?_ | refine WDK_go ?_ | refine WDT_go ?_ | refine WD_nil ?_ | refine WD_take_off rfl rfl (by first | rfl | assumption) ?_ | refine WD_load rfl ?_ | refine WD_load_on rfl rfl (by first | rfl | assumption) ?_ | refine WD_load_agg rfl ?_ | refine WD_load_agg_on rfl rfl (by first | rfl | assumption) ?_ | refine WD_take rfl rfl ?_ | refine WD_take_on rfl rfl (by first | rfl | assumption) rfl ?_ | refine WD_drop rfl rfl ?_ | refine WD_filt rfl ?_ | refine Filt_drop rfl ?_ | refine Filt_keep rfl ?_ | refine Filt_nil ?_ | refine WD_one rfl ?_ | refine WD_virt rfl rfl ?_ | refine V_draw (id := 18) (plan := [.take 0, .take 1, .take 2, .take 3, .take 4, .take 5, .take 6, .take 7, .take 8, .take 9, .virt 10, .one 11, .one 12, .one 13]) (by kernel_rfl) ?_ | refine V_draw (id := 19) (plan := [.take 0, .take 1, .take 2, .take 3, .take 4, .take 5, .take 6, .take 7, .take 8, .take 9, .take 10, .take 11, .take 12, .take 13, .take 14, .take 15, .take 16, .take 17, .take 18, .take 19, .take 20, .take 21, .take 22, .take 23, .take 24, .take 25, .take 26, .take 27, .take 28, .take 29, .take 30, .take 31, .take 32, .take 33, .take 34, .take 35, .take 36, .take 37, .take 38, .take 39, .take 40, .take 41, .take 42, .take 43, .take 44, .take 45]) (by kernel_rfl) ?_) | (refine WS_guard rfl ?_ ?_ <;> intro hg) | (refine WD_guard rfl rfl ?_ ?_ <;> intro hg) | (refine V_cond_t (by first | rfl | assumption) ?_) | (refine V_cond_f (by first | rfl | assumption) ?_) | (refine V_cond ?_ ?_ <;> intro hc <;> try (cases hc; done)))
  refine WS_call (alive20_1 (push1_new hnew _)) ?_
  rintro _ H ⟨rfl, eX⟩
  have o1 : ObjIs H h.fresh [.int .i64 N, .slice a la ca] 53 true := inferInstance
  have e0 : Ext h H := (Ext.push h _).trans eX
  clear eX
  generalize h.fresh = p at *
  have ha1 := ha.ext e0
  clear e0 ha hnew
  repeat' (first | (first | refine V_seq ?_ | refine V_region ?_ | refine WS_nil ?_ | refine S_normal ?_ | refine V_block ?_ | refine B_normal ?_ | refine V_skip ?_ | refine V_exit ?_ | refine V_ret ?_ | refine S_exit ?_ | refine S_ret ?_ | refine B_exit ?_ | refine B_ret ?_ | refine B_pass rfl ?_ | refine C_normal ?_ | refine C_exit ?_ | refine C_ret ?_ | refine WS_off rfl (by first | rfl | assumption) ?_ | refine WS_on rfl (by first | rfl | assumption) ?_ | refine WS_move ?_ | refine WS_assign ?_ | refine WS_pick_t (by first | rfl | assumption) ?_ | refine WS_pick_f (by first | rfl | assumption) ?_ | refine WS_isnil ?_ | refine WS_notnil ?_ | refine WS_neq_same ?_ | refine WS_eql_same ?_ | refine WS_streq ?_ | refine WS_strne ?_ | refine WS_booleq ?_ | refine WS_boolne ?_ | refine WS_off_undef rfl ?_ | refine WD_off_undef rfl rfl ?_ | refine WS_cmp rfl ?_ | refine WS_addi (by omega) ?_ | refine WS_subi (by omega) ?_ | refine WS_arith rfl ?_ | refine WS_not ?_ | refine WS_neg ?_ | refine WS_convert ?_ | refine WS_len_slice ?_ | refine WS_len_string ?_ | refine WS_fieldAddr ?_ | refine WS_load ?_ | refine WS_load_agg ?_ | refine WS_box_agg rfl ?_ | refine WS_box rfl ?_ | refine WS_makeFunc ?_ | refine WS_extract ?_ | refine WS_field ?_ | refine WS_build ?_ | refine WS_zero ?_ | refine WS_shift (by first | decide | omega) rfl ?_ | refine WS_strcmp rfl ?_ | refine WS_indexAddr (by first | decide | omega) ?_ | refine WS_alloc ?_ | refine WS_store rfl ?_ | refine WS_buildSlice (by decide) rfl rfl (by simp [Value.cells]) ?_ | refine WDK_go ?_ | refine WDT_go ?_ | refine WD_nil ?_ | refine WD_take_off rfl rfl (by first | rfl | assumption) ?_ | refine WD_load rfl ?_ | refine WD_load_on rfl rfl (by first | rfl | assumption) ?_ | refine WD_load_agg rfl ?_ | refine WD_load_agg_on rfl rfl (by first | rfl | assumption) ?_ | refine WD_take rfl rfl ?_ | refine WD_take_on rfl rfl (by first | rfl | assumption) rfl ?_ | refine WD_drop rfl rfl ?_ | refine WD_filt rfl ?_ | refine Filt_drop rfl ?_ | refine Filt_keep rfl ?_ | refine Filt_nil ?_ | refine WD_one rfl ?_ | refine WD_virt rfl rfl ?_ | refine V_draw (id := 18) (plan := [.take 0, .take 1, .take 2, .take 3, .take 4, .take 5, .take 6, .take 7, .take 8, .take 9, .virt 10, .one 11, .one 12, .one 13]) (by kernel_rfl) ?_ | refine V_draw (id := 19) (plan := [.take 0, .take 1, .take 2, .take 3, .take 4, .take 5, .take 6, .take 7, .take 8, .take 9, .take 10, .take 11, .take 12, .take 13, .take 14, .take 15, .take 16, .take 17, .take 18, .take 19, .take 20, .take 21, .take 22, .take 23, .take 24, .take 25, .take 26, .take 27, .take 28, .take 29, .take 30, .take 31, .take 32, .take 33, .take 34, .take 35, .take 36, .take 37, .take 38, .take 39, .take 40, .take 41, .take 42, .take 43, .take 44, .take 45]) (by kernel_rfl) ?_) | (refine WS_guard rfl ?_ ?_ <;> intro hg) | (refine WD_guard rfl rfl ?_ ?_ <;> intro hg) | (refine V_cond_t (by first | rfl | assumption) ?_) | (refine V_cond_f (by first | rfl | assumption) ?_) | (refine V_cond ?_ ?_ <;> intro hc <;> try (cases hc; done)))
  refine WS_call (Synth_w ha1) ?_
  rintro v1 H1 ⟨e1, hv1⟩
  have ha2 := ha1.ext e1
  have o1 := ObjIs.ext (e := e1) (i := o1)
  by_cases hck : checkS N xs = 0
  · rw [if_pos hck] at hv1
    cases hr : redK xs xs.length with
    | none =>
      rw [hr] at hv1
      simp only at hv1
      subst hv1
      repeat' (first | (first | refine V_seq ?_ | refine V_region ?_ | refine WS_nil ?_ | refine S_normal ?_ | refine V_block ?_ | refine B_normal ?_ | refine V_skip ?_ | refine V_exit ?_ | refine V_ret ?_ | refine S_exit ?_ | refine S_ret ?_ | refine B_exit ?_ | refine B_ret ?_ | refine B_pass rfl ?_ | refine C_normal ?_ | refine C_exit ?_ | refine C_ret ?_ | refine WS_off rfl (by first | rfl | assumption) ?_ | refine WS_on rfl (by first | rfl | assumption) ?_ | refine WS_move ?_ | refine WS_assign ?_ | refine WS_pick_t (by first | rfl | assumption) ?_ | refine WS_pick_f (by first | rfl | assumption) ?_ | refine WS_isnil ?_ | refine WS_notnil ?_ | refine WS_neq_same ?_ | refine WS_eql_same ?_ | refine WS_streq ?_ | refine WS_strne ?_ | refine WS_booleq ?_ | refine WS_boolne ?_ | refine WS_off_undef rfl ?_ | refine WD_off_undef rfl rfl ?_ | refine WS_cmp rfl ?_ | refine WS_addi (by omega) ?_ | refine WS_subi (by omega) ?_ | refine WS_arith rfl ?_ | refine WS_not ?_ | refine WS_neg ?_ | refine WS_convert ?_ | refine WS_len_slice ?_ | refine WS_len_string ?_ | refine WS_fieldAddr ?_ | refine WS_load ?_ | refine WS_load_agg ?_ | refine WS_box_agg rfl ?_ | refine WS_box rfl ?_ | refine WS_makeFunc ?_ | refine WS_extract ?_ | refine WS_field ?_ | refine WS_build ?_ | refine WS_zero ?_ | refine WS_shift (by first | decide | omega) rfl ?_ | refine WS_strcmp rfl ?_ | refine WS_indexAddr (by first | decide | omega) ?_ | refine WS_alloc ?_ | refine WS_store rfl ?_ | refine WS_buildSlice (by decide) rfl rfl (by simp [Value.cells]) ?_ | refine WDK_go ?_ | refine WDT_go ?_ | refine WD_nil ?_ | refine WD_take_off rfl rfl (by first | rfl | assumption) ?_ | refine WD_load rfl ?_ | refine WD_load_on rfl rfl (by first | rfl | assumption) ?_ | refine WD_load_agg rfl ?_ | refine WD_load_agg_on rfl rfl (by first | rfl | assumption) ?_ | refine WD_take rfl rfl ?_ | refine WD_take_on rfl rfl (by first | rfl | assumption) rfl ?_ | refine WD_drop rfl rfl ?_ | refine WD_filt rfl ?_ | refine Filt_drop rfl ?_ | refine Filt_keep rfl ?_ | refine Filt_nil ?_ | refine WD_one rfl ?_ | refine WD_virt rfl rfl ?_ | refine V_draw (id := 18) (plan := [.take 0, .take 1, .take 2, .take 3, .take 4, .take 5, .take 6, .take 7, .take 8, .take 9, .virt 10, .one 11, .one 12, .one 13]) (by kernel_rfl) ?_ | refine V_draw (id := 19) (plan := [.take 0, .take 1, .take 2, .take 3, .take 4, .take 5, .take 6, .take 7, .take 8, .take 9, .take 10, .take 11, .take 12, .take 13, .take 14, .take 15, .take 16, .take 17, .take 18, .take 19, .take 20, .take 21, .take 22, .take 23, .take 24, .take 25, .take 26, .take 27, .take 28, .take 29, .take 30, .take 31, .take 32, .take 33, .take 34, .take 35, .take 36, .take 37, .take 38, .take 39, .take 40, .take 41, .take 42, .take 43, .take 44, .take 45]) (by kernel_rfl) ?_) | (refine WS_guard rfl ?_ ?_ <;> intro hg) | (refine WD_guard rfl rfl ?_ ?_ <;> intro hg) | (refine V_cond_t (by first | rfl | assumption) ?_) | (refine V_cond_f (by first | rfl | assumption) ?_) | (refine V_cond ?_ ?_ <;> intro hc <;> try (cases hc; done)))
      refine WS_gen ?_
      intro H2 hH2
      have e2 : Ext H1 H2 := hH2 ▸ (Ext.push _ _).putObj (Nat.le_refl _)
      have o1 := ObjIs.ext (e := e2) (i := o1)
      have o3 : ObjIs H2 H1.fresh [.int .i64 0, .int .i64 0, .slice none 0 0] 24 true := hH2 ▸ inferInstance
      have ha3 := ha2.ext e2
      clear hH2 e2 ha2
      generalize H1.fresh = p3 at *
      repeat' (first | (first | refine V_seq ?_ | refine V_region ?_ | refine WS_nil ?_ | refine S_normal ?_ | refine V_block ?_ | refine B_normal ?_ | refine V_skip ?_ | refine V_exit ?_ | refine V_ret ?_ | refine S_exit ?_ | refine S_ret ?_ | refine B_exit ?_ | refine B_ret ?_ | refine B_pass rfl ?_ | refine C_normal ?_ | refine C_exit ?_ | refine C_ret ?_ | refine WS_off rfl (by first | rfl | assumption) ?_ | refine WS_on rfl (by first | rfl | assumption) ?_ | refine WS_move ?_ | refine WS_assign ?_ | refine WS_pick_t (by first | rfl | assumption) ?_ | refine WS_pick_f (by first | rfl | assumption) ?_ | refine WS_isnil ?_ | refine WS_notnil ?_ | refine WS_neq_same ?_ | refine WS_eql_same ?_ | refine WS_streq ?_ | refine WS_strne ?_ | refine WS_booleq ?_ | refine WS_boolne ?_ | refine WS_off_undef rfl ?_ | refine WD_off_undef rfl rfl ?_ | refine WS_cmp rfl ?_ | refine WS_addi (by omega) ?_ | refine WS_subi (by omega) ?_ | refine WS_arith rfl ?_ | refine WS_not ?_ | refine WS_neg ?_ | refine WS_convert ?_ | refine WS_len_slice ?_ | refine WS_len_string ?_ | refine WS_fieldAddr ?_ | refine WS_load ?_ | refine WS_load_agg ?_ | refine WS_box_agg rfl ?_ | refine WS_box rfl ?_ | refine WS_makeFunc ?_ | refine WS_extract ?_ | refine WS_field ?_ | refine WS_build ?_ | refine WS_zero ?_ | refine WS_shift (by first | decide | omega) rfl ?_ | refine WS_strcmp rfl ?_ | refine WS_indexAddr (by first | decide | omega) ?_ | refine WS_alloc ?_ | refine WS_store rfl ?_ | refine WS_buildSlice (by decide) rfl rfl (by simp [Value.cells]) ?_ | refine WDK_go ?_ | refine WDT_go ?_ | refine WD_nil ?_ | refine WD_take_off rfl rfl (by first | rfl | assumption) ?_ | refine WD_load rfl ?_ | refine WD_load_on rfl rfl (by first | rfl | assumption) ?_ | refine WD_load_agg rfl ?_ | refine WD_load_agg_on rfl rfl (by first | rfl | assumption) ?_ | refine WD_take rfl rfl ?_ | refine WD_take_on rfl rfl (by first | rfl | assumption) rfl ?_ | refine WD_drop rfl rfl ?_ | refine WD_filt rfl ?_ | refine Filt_drop rfl ?_ | refine Filt_keep rfl ?_ | refine Filt_nil ?_ | refine WD_one rfl ?_ | refine WD_virt rfl rfl ?_ | refine V_draw (id := 18) (plan := [.take 0, .take 1, .take 2, .take 3, .take 4, .take 5, .take 6, .take 7, .take 8, .take 9, .virt 10, .one 11, .one 12, .one 13]) (by kernel_rfl) ?_ | refine V_draw (id := 19) (plan := [.take 0, .take 1, .take 2, .take 3, .take 4, .take 5, .take 6, .take 7, .take 8, .take 9, .take 10, .take 11, .take 12, .take 13, .take 14, .take 15, .take 16, .take 17, .take 18, .take 19, .take 20, .take 21, .take 22, .take 23, .take 24, .take 25, .take 26, .take 27, .take 28, .take 29, .take 30, .take 31, .take 32, .take 33, .take 34, .take 35, .take 36, .take 37, .take 38, .take 39, .take 40, .take 41, .take 42, .take 43, .take 44, .take 45]) (by kernel_rfl) ?_) | (refine WS_guard rfl ?_ ?_ <;> intro hg) | (refine WD_guard rfl rfl ?_ ?_ <;> intro hg) | (refine V_cond_t (by first | rfl | assumption) ?_) | (refine V_cond_f (by first | rfl | assumption) ?_) | (refine V_cond ?_ ?_ <;> intro hc <;> try (cases hc; done)))
      refine WS_call (Check_w ha3) ?_
      rintro _ H3 ⟨rfl, e3⟩
      rw [hck]
      have o1 := ObjIs.ext (e := e3) (i := o1)
      have o3 := ObjIs.ext (e := e3) (i := o3)
      have ha3 := ha3.ext e3
      clear e3
      repeat' (first | (first | refine V_seq ?_ | refine V_region ?_ | refine WS_nil ?_ | refine S_normal ?_ | refine V_block ?_ | refine B_normal ?_ | refine V_skip ?_ | refine V_exit ?_ | refine V_ret ?_ | refine S_exit ?_ | refine S_ret ?_ | refine B_exit ?_ | refine B_ret ?_ | refine B_pass rfl ?_ | refine C_normal ?_ | refine C_exit ?_ | refine C_ret ?_ | refine WS_off rfl (by first | rfl | assumption) ?_ | refine WS_on rfl (by first | rfl | assumption) ?_ | refine WS_move ?_ | refine WS_assign ?_ | refine WS_pick_t (by first | rfl | assumption) ?_ | refine WS_pick_f (by first | rfl | assumption) ?_ | refine WS_isnil ?_ | refine WS_notnil ?_ | refine WS_neq_same ?_ | refine WS_eql_same ?_ | refine WS_streq ?_ | refine WS_strne ?_ | refine WS_booleq ?_ | refine WS_boolne ?_ | refine WS_off_undef rfl ?_ | refine WD_off_undef rfl rfl ?_ | refine WS_cmp rfl ?_ | refine WS_addi (by omega) ?_ | refine WS_subi (by omega) ?_ | refine WS_arith rfl ?_ | refine WS_not ?_ | refine WS_neg ?_ | refine WS_convert ?_ | refine WS_len_slice ?_ | refine WS_len_string ?_ | refine WS_fieldAddr ?_ | refine WS_load ?_ | refine WS_load_agg ?_ | refine WS_box_agg rfl ?_ | refine WS_box rfl ?_ | refine WS_makeFunc ?_ | refine WS_extract ?_ | refine WS_field ?_ | refine WS_build ?_ | refine WS_zero ?_ | refine WS_shift (by first | decide | omega) rfl ?_ | refine WS_strcmp rfl ?_ | refine WS_indexAddr (by first | decide | omega) ?_ | refine WS_alloc ?_ | refine WS_store rfl ?_ | refine WS_buildSlice (by decide) rfl rfl (by simp [Value.cells]) ?_ | refine WDK_go ?_ | refine WDT_go ?_ | refine WD_nil ?_ | refine WD_take_off rfl rfl (by first | rfl | assumption) ?_ | refine WD_load rfl ?_ | refine WD_load_on rfl rfl (by first | rfl | assumption) ?_ | refine WD_load_agg rfl ?_ | refine WD_load_agg_on rfl rfl (by first | rfl | assumption) ?_ | refine WD_take rfl rfl ?_ | refine WD_take_on rfl rfl (by first | rfl | assumption) rfl ?_ | refine WD_drop rfl rfl ?_ | refine WD_filt rfl ?_ | refine Filt_drop rfl ?_ | refine Filt_keep rfl ?_ | refine Filt_nil ?_ | refine WD_one rfl ?_ | refine WD_virt rfl rfl ?_ | refine V_draw (id := 18) (plan := [.take 0, .take 1, .take 2, .take 3, .take 4, .take 5, .take 6, .take 7, .take 8, .take 9, .virt 10, .one 11, .one 12, .one 13]) (by kernel_rfl) ?_ | refine V_draw (id := 19) (plan := [.take 0, .take 1, .take 2, .take 3, .take 4, .take 5, .take 6, .take 7, .take 8, .take 9, .take 10, .take 11, .take 12, .take 13, .take 14, .take 15, .take 16, .take 17, .take 18, .take 19, .take 20, .take 21, .take 22, .take 23, .take 24, .take 25, .take 26, .take 27, .take 28, .take 29, .take 30, .take 31, .take 32, .take 33, .take 34, .take 35, .take 36, .take 37, .take 38, .take 39, .take 40, .take 41, .take 42, .take 43, .take 44, .take 45]) (by kernel_rfl) ?_) | (refine WS_guard rfl ?_ ?_ <;> intro hg) | (refine WD_guard rfl rfl ?_ ?_ <;> intro hg) | (refine V_cond_t (by first | rfl | assumption) ?_) | (refine V_cond_f (by first | rfl | assumption) ?_) | (refine V_cond ?_ ?_ <;> intro hc <;> try (cases hc; done)))
      refine WS_call (Inverse_w ha3) ?_
      rintro _ H4 ⟨e4, m, rfl, hm, _⟩
      obtain ⟨a4, l4, c4, rfl⟩ := mat_cells hm
      have hinv : invR N xs = (0, [], 200) := by unfold invR; rw [if_pos hck, hr]
      rw [hinv] at hm ⊢
      have o1 := ObjIs.ext (e := e4) (i := o1)
      have o3 := ObjIs.ext (e := e4) (i := o3)
      clear e4
      have n3 : NeB p3 H4.fresh := .lt o3 (Nat.le_refl _)
      have n1 : NeB p H4.fresh := .lt o1 (Nat.le_refl _)
      refine WS_live4 1 3 4 31 ?_
      intro s g1 g3 g4 g31
      repeat' (first | (first | refine V_seq ?_ | refine V_region ?_ | refine WS_nil ?_ | refine S_normal ?_ | refine V_block ?_ | refine B_normal ?_ | refine V_skip ?_ | refine V_exit ?_ | refine V_ret ?_ | refine S_exit ?_ | refine S_ret ?_ | refine B_exit ?_ | refine B_ret ?_ | refine B_pass rfl ?_ | refine C_normal ?_ | refine C_exit ?_ | refine C_ret ?_ | refine WS_off rfl (by first | rfl | assumption) ?_ | refine WS_on rfl (by first | rfl | assumption) ?_ | refine WS_move ?_ | refine WS_assign ?_ | refine WS_pick_t (by first | rfl | assumption) ?_ | refine WS_pick_f (by first | rfl | assumption) ?_ | refine WS_isnil ?_ | refine WS_notnil ?_ | refine WS_neq_same ?_ | refine WS_eql_same ?_ | refine WS_streq ?_ | refine WS_strne ?_ | refine WS_booleq ?_ | refine WS_boolne ?_ | refine WS_off_undef rfl ?_ | refine WD_off_undef rfl rfl ?_ | refine WS_cmp rfl ?_ | refine WS_addi (by omega) ?_ | refine WS_subi (by omega) ?_ | refine WS_arith rfl ?_ | refine WS_not ?_ | refine WS_neg ?_ | refine WS_convert ?_ | refine WS_len_slice ?_ | refine WS_len_string ?_ | refine WS_fieldAddr ?_ | refine WS_load ?_ | refine WS_load_agg ?_ | refine WS_box_agg rfl ?_ | refine WS_box rfl ?_ | refine WS_makeFunc ?_ | refine WS_extract ?_ | refine WS_field ?_ | refine WS_build ?_ | refine WS_zero ?_ | refine WS_shift (by first | decide | omega) rfl ?_ | refine WS_strcmp rfl ?_ | refine WS_indexAddr (by first | decide | omega) ?_ | refine WS_alloc ?_ | refine WS_store rfl ?_ | refine WS_buildSlice (by decide) rfl rfl (by simp [Value.cells]) ?_ | refine WDK_go ?_ | refine WDT_go ?_ | refine WD_nil ?_ | refine WD_take_off rfl rfl (by first | rfl | assumption) ?_ | refine WD_load rfl ?_ | refine WD_load_on rfl rfl (by first | rfl | assumption) ?_ | refine WD_load_agg rfl ?_ | refine WD_load_agg_on rfl rfl (by first | rfl | assumption) ?_ | refine WD_take rfl rfl ?_ | refine WD_take_on rfl rfl (by first | rfl | assumption) rfl ?_ | refine WD_drop rfl rfl ?_ | refine WD_filt rfl ?_ | refine Filt_drop rfl ?_ | refine Filt_keep rfl ?_ | refine Filt_nil ?_ | refine WD_one rfl ?_ | refine WD_virt rfl rfl ?_ | refine V_draw (id := 18) (plan := [.take 0, .take 1, .take 2, .take 3, .take 4, .take 5, .take 6, .take 7, .take 8, .take 9, .virt 10, .one 11, .one 12, .one 13]) (by kernel_rfl) ?_ | refine V_draw (id := 19) (plan := [.take 0, .take 1, .take 2, .take 3, .take 4, .take 5, .take 6, .take 7, .take 8, .take 9, .take 10, .take 11, .take 12, .take 13, .take 14, .take 15, .take 16, .take 17, .take 18, .take 19, .take 20, .take 21, .take 22, .take 23, .take 24, .take 25, .take 26, .take 27, .take 28, .take 29, .take 30, .take 31, .take 32, .take 33, .take 34, .take 35, .take 36, .take 37, .take 38, .take 39, .take 40, .take 41, .take 42, .take 43, .take 44, .take 45]) (by kernel_rfl) ?_) | (refine WS_guard rfl ?_ ?_ <;> intro hg) | (refine WD_guard rfl rfl ?_ ?_ <;> intro hg) | (refine V_cond_t (by first | rfl | assumption) ?_) | (refine V_cond_f (by first | rfl | assumption) ?_) | (refine V_cond ?_ ?_ <;> intro hc <;> try (cases hc; done)))
      exact retK_1 rfl (.inr rfl)
    | some st =>
      rw [hr] at hv1
      obtain ⟨sv, dq, rfl, hdq, hS⟩ := hv1
      obtain ⟨hN0, hN1, hN2, _⟩ := checkS_zero hck
      obtain ⟨a0, l0, c0, hmA, _, h64⟩ := ha1
      obtain ⟨hl, hglt⟩ := glt_of hck h64
      obtain ⟨hfrom, hshort⟩ := synth_from hN0 hN1 hl hglt hr
      have hdl : dq.length = st.2.length := by have := congrArg List.length hdq; simpa using this
      have hsm : dq.length ≤ 4096 := by
        rw [hdl]
        exact Nat.le_trans hshort (Nat.le_trans (Nat.mul_le_mul (show xs.length ≤ 64 by omega) (show xs.length ≤ 64 by omega)) (by decide))
      obtain ⟨asv, rfl⟩ := hS.1.isSlice
      repeat' (first | (first | refine V_seq ?_ | refine V_region ?_ | refine WS_nil ?_ | refine S_normal ?_ | refine V_block ?_ | refine B_normal ?_ | refine V_skip ?_ | refine V_exit ?_ | refine V_ret ?_ | refine S_exit ?_ | refine S_ret ?_ | refine B_exit ?_ | refine B_ret ?_ | refine B_pass rfl ?_ | refine C_normal ?_ | refine C_exit ?_ | refine C_ret ?_ | refine WS_off rfl (by first | rfl | assumption) ?_ | refine WS_on rfl (by first | rfl | assumption) ?_ | refine WS_move ?_ | refine WS_assign ?_ | refine WS_pick_t (by first | rfl | assumption) ?_ | refine WS_pick_f (by first | rfl | assumption) ?_ | refine WS_isnil ?_ | refine WS_notnil ?_ | refine WS_neq_same ?_ | refine WS_eql_same ?_ | refine WS_streq ?_ | refine WS_strne ?_ | refine WS_booleq ?_ | refine WS_boolne ?_ | refine WS_off_undef rfl ?_ | refine WD_off_undef rfl rfl ?_ | refine WS_cmp rfl ?_ | refine WS_addi (by omega) ?_ | refine WS_subi (by omega) ?_ | refine WS_arith rfl ?_ | refine WS_not ?_ | refine WS_neg ?_ | refine WS_convert ?_ | refine WS_len_slice ?_ | refine WS_len_string ?_ | refine WS_fieldAddr ?_ | refine WS_load ?_ | refine WS_load_agg ?_ | refine WS_box_agg rfl ?_ | refine WS_box rfl ?_ | refine WS_makeFunc ?_ | refine WS_extract ?_ | refine WS_field ?_ | refine WS_build ?_ | refine WS_zero ?_ | refine WS_shift (by first | decide | omega) rfl ?_ | refine WS_strcmp rfl ?_ | refine WS_indexAddr (by first | decide | omega) ?_ | refine WS_alloc ?_ | refine WS_store rfl ?_ | refine WS_buildSlice (by decide) rfl rfl (by simp [Value.cells]) ?_ | refine WDK_go ?_ | refine WDT_go ?_ | refine WD_nil ?_ | refine WD_take_off rfl rfl (by first | rfl | assumption) ?_ | refine WD_load rfl ?_ | refine WD_load_on rfl rfl (by first | rfl | assumption) ?_ | refine WD_load_agg rfl ?_ | refine WD_load_agg_on rfl rfl (by first | rfl | assumption) ?_ | refine WD_take rfl rfl ?_ | refine WD_take_on rfl rfl (by first | rfl | assumption) rfl ?_ | refine WD_drop rfl rfl ?_ | refine WD_filt rfl ?_ | refine Filt_drop rfl ?_ | refine Filt_keep rfl ?_ | refine Filt_nil ?_ | refine WD_one rfl ?_ | refine WD_virt rfl rfl ?_ | refine V_draw (id := 18) (plan := [.take 0, .take 1, .take 2, .take 3, .take 4, .take 5, .take 6, .take 7, .take 8, .take 9, .virt 10, .one 11, .one 12, .one 13]) (by kernel_rfl) ?_ | refine V_draw (id := 19) (plan := [.take 0, .take 1, .take 2, .take 3, .take 4, .take 5, .take 6, .take 7, .take 8, .take 9, .take 10, .take 11, .take 12, .take 13, .take 14, .take 15, .take 16, .take 17, .take 18, .take 19, .take 20, .take 21, .take 22, .take 23, .take 24, .take 25, .take 26, .take 27, .take 28, .take 29, .take 30, .take 31, .take 32, .take 33, .take 34, .take 35, .take 36, .take 37, .take 38, .take 39, .take 40, .take 41, .take 42, .take 43, .take 44, .take 45]) (by kernel_rfl) ?_) | (refine WS_guard rfl ?_ ?_ <;> intro hg) | (refine WD_guard rfl rfl ?_ ?_ <;> intro hg) | (refine V_cond_t (by first | rfl | assumption) ?_) | (refine V_cond_f (by first | rfl | assumption) ?_) | (refine V_cond ?_ ?_ <;> intro hc <;> try (cases hc; done)))
      refine WS_gen ?_
      intro H2 hH2
      have e2 : Ext H1 H2 := hH2 ▸ (Ext.push _ _).putObj (Nat.le_refl _)
      have o1 := ObjIs.ext (e := e2) (i := o1)
      have o3 : ObjIs H2 H1.fresh [.int .i64 N, .int .i64 0, .slice asv dq.length dq.length] 24 true := hH2 ▸ inferInstance
      have ha3 := ha2.ext e2
      have hS := hS.ext e2
      clear hH2 e2 ha2
      generalize H1.fresh = p3 at *
      repeat' (first | (first | refine V_seq ?_ | refine V_region ?_ | refine WS_nil ?_ | refine S_normal ?_ | refine V_block ?_ | refine B_normal ?_ | refine V_skip ?_ | refine V_exit ?_ | refine V_ret ?_ | refine S_exit ?_ | refine S_ret ?_ | refine B_exit ?_ | refine B_ret ?_ | refine B_pass rfl ?_ | refine C_normal ?_ | refine C_exit ?_ | refine C_ret ?_ | refine WS_off rfl (by first | rfl | assumption) ?_ | refine WS_on rfl (by first | rfl | assumption) ?_ | refine WS_move ?_ | refine WS_assign ?_ | refine WS_pick_t (by first | rfl | assumption) ?_ | refine WS_pick_f (by first | rfl | assumption) ?_ | refine WS_isnil ?_ | refine WS_notnil ?_ | refine WS_neq_same ?_ | refine WS_eql_same ?_ | refine WS_streq ?_ | refine WS_strne ?_ | refine WS_booleq ?_ | refine WS_boolne ?_ | refine WS_off_undef rfl ?_ | refine WD_off_undef rfl rfl ?_ | refine WS_cmp rfl ?_ | refine WS_addi (by omega) ?_ | refine WS_subi (by omega) ?_ | refine WS_arith rfl ?_ | refine WS_not ?_ | refine WS_neg ?_ | refine WS_convert ?_ | refine WS_len_slice ?_ | refine WS_len_string ?_ | refine WS_fieldAddr ?_ | refine WS_load ?_ | refine WS_load_agg ?_ | refine WS_box_agg rfl ?_ | refine WS_box rfl ?_ | refine WS_makeFunc ?_ | refine WS_extract ?_ | refine WS_field ?_ | refine WS_build ?_ | refine WS_zero ?_ | refine WS_shift (by first | decide | omega) rfl ?_ | refine WS_strcmp rfl ?_ | refine WS_indexAddr (by first | decide | omega) ?_ | refine WS_alloc ?_ | refine WS_store rfl ?_ | refine WS_buildSlice (by decide) rfl rfl (by simp [Value.cells]) ?_ | refine WDK_go ?_ | refine WDT_go ?_ | refine WD_nil ?_ | refine WD_take_off rfl rfl (by first | rfl | assumption) ?_ | refine WD_load rfl ?_ | refine WD_load_on rfl rfl (by first | rfl | assumption) ?_ | refine WD_load_agg rfl ?_ | refine WD_load_agg_on rfl rfl (by first | rfl | assumption) ?_ | refine WD_take rfl rfl ?_ | refine WD_take_on rfl rfl (by first | rfl | assumption) rfl ?_ | refine WD_drop rfl rfl ?_ | refine WD_filt rfl ?_ | refine Filt_drop rfl ?_ | refine Filt_keep rfl ?_ | refine Filt_nil ?_ | refine WD_one rfl ?_ | refine WD_virt rfl rfl ?_ | refine V_draw (id := 18) (plan := [.take 0, .take 1, .take 2, .take 3, .take 4, .take 5, .take 6, .take 7, .take 8, .take 9, .virt 10, .one 11, .one 12, .one 13]) (by kernel_rfl) ?_ | refine V_draw (id := 19) (plan := [.take 0, .take 1, .take 2, .take 3, .take 4, .take 5, .take 6, .take 7, .take 8, .take 9, .take 10, .take 11, .take 12, .take 13, .take 14, .take 15, .take 16, .take 17, .take 18, .take 19, .take 20, .take 21, .take 22, .take 23, .take 24, .take 25, .take 26, .take 27, .take 28, .take 29, .take 30, .take 31, .take 32, .take 33, .take 34, .take 35, .take 36, .take 37, .take 38, .take 39, .take 40, .take 41, .take 42, .take 43, .take 44, .take 45]) (by kernel_rfl) ?_) | (refine WS_guard rfl ?_ ?_ <;> intro hg) | (refine WD_guard rfl rfl ?_ ?_ <;> intro hg) | (refine V_cond_t (by first | rfl | assumption) ?_) | (refine V_cond_f (by first | rfl | assumption) ?_) | (refine V_cond ?_ ?_ <;> intro hc <;> try (cases hc; done)))
      refine WS_call (Check_w ha3) ?_
      rintro _ H3 ⟨rfl, e3⟩
      rw [hck]
      have o1 := ObjIs.ext (e := e3) (i := o1)
      have o3 := ObjIs.ext (e := e3) (i := o3)
      have ha3 := ha3.ext e3
      have hS := hS.ext e3
      clear e3
      repeat' (first | (first | refine V_seq ?_ | refine V_region ?_ | refine WS_nil ?_ | refine S_normal ?_ | refine V_block ?_ | refine B_normal ?_ | refine V_skip ?_ | refine V_exit ?_ | refine V_ret ?_ | refine S_exit ?_ | refine S_ret ?_ | refine B_exit ?_ | refine B_ret ?_ | refine B_pass rfl ?_ | refine C_normal ?_ | refine C_exit ?_ | refine C_ret ?_ | refine WS_off rfl (by first | rfl | assumption) ?_ | refine WS_on rfl (by first | rfl | assumption) ?_ | refine WS_move ?_ | refine WS_assign ?_ | refine WS_pick_t (by first | rfl | assumption) ?_ | refine WS_pick_f (by first | rfl | assumption) ?_ | refine WS_isnil ?_ | refine WS_notnil ?_ | refine WS_neq_same ?_ | refine WS_eql_same ?_ | refine WS_streq ?_ | refine WS_strne ?_ | refine WS_booleq ?_ | refine WS_boolne ?_ | refine WS_off_undef rfl ?_ | refine WD_off_undef rfl rfl ?_ | refine WS_cmp rfl ?_ | refine WS_addi (by omega) ?_ | refine WS_subi (by omega) ?_ | refine WS_arith rfl ?_ | refine WS_not ?_ | refine WS_neg ?_ | refine WS_convert ?_ | refine WS_len_slice ?_ | refine WS_len_string ?_ | refine WS_fieldAddr ?_ | refine WS_load ?_ | refine WS_load_agg ?_ | refine WS_box_agg rfl ?_ | refine WS_box rfl ?_ | refine WS_makeFunc ?_ | refine WS_extract ?_ | refine WS_field ?_ | refine WS_build ?_ | refine WS_zero ?_ | refine WS_shift (by first | decide | omega) rfl ?_ | refine WS_strcmp rfl ?_ | refine WS_indexAddr (by first | decide | omega) ?_ | refine WS_alloc ?_ | refine WS_store rfl ?_ | refine WS_buildSlice (by decide) rfl rfl (by simp [Value.cells]) ?_ | refine WDK_go ?_ | refine WDT_go ?_ | refine WD_nil ?_ | refine WD_take_off rfl rfl (by first | rfl | assumption) ?_ | refine WD_load rfl ?_ | refine WD_load_on rfl rfl (by first | rfl | assumption) ?_ | refine WD_load_agg rfl ?_ | refine WD_load_agg_on rfl rfl (by first | rfl | assumption) ?_ | refine WD_take rfl rfl ?_ | refine WD_take_on rfl rfl (by first | rfl | assumption) rfl ?_ | refine WD_drop rfl rfl ?_ | refine WD_filt rfl ?_ | refine Filt_drop rfl ?_ | refine Filt_keep rfl ?_ | refine Filt_nil ?_ | refine WD_one rfl ?_ | refine WD_virt rfl rfl ?_ | refine V_draw (id := 18) (plan := [.take 0, .take 1, .take 2, .take 3, .take 4, .take 5, .take 6, .take 7, .take 8, .take 9, .virt 10, .one 11, .one 12, .one 13]) (by kernel_rfl) ?_ | refine V_draw (id := 19) (plan := [.take 0, .take 1, .take 2, .take 3, .take 4, .take 5, .take 6, .take 7, .take 8, .take 9, .take 10, .take 11, .take 12, .take 13, .take 14, .take 15, .take 16, .take 17, .take 18, .take 19, .take 20, .take 21, .take 22, .take 23, .take 24, .take 25, .take 26, .take 27, .take 28, .take 29, .take 30, .take 31, .take 32, .take 33, .take 34, .take 35, .take 36, .take 37, .take 38, .take 39, .take 40, .take 41, .take 42, .take 43, .take 44, .take 45]) (by kernel_rfl) ?_) | (refine WS_guard rfl ?_ ?_ <;> intro hg) | (refine WD_guard rfl rfl ?_ ?_ <;> intro hg) | (refine V_cond_t (by first | rfl | assumption) ?_) | (refine V_cond_f (by first | rfl | assumption) ?_) | (refine V_cond ?_ ?_ <;> intro hc <;> try (cases hc; done)))
      refine WS_call (Inverse_w ha3) ?_
      rintro _ H4 ⟨e4, m, rfl, hm, _⟩
      obtain ⟨a4, l4, c4, rfl⟩ := mat_cells hm
      have hinv : (invR N xs).2.2 = 0 := by unfold invR; rw [if_pos hck, hr]
      rw [hinv]
      have o1 := ObjIs.ext (e := e4) (i := o1)
      have o3 := ObjIs.ext (e := e4) (i := o3)
      have ha3 := ha3.ext e4
      have hS := hS.ext e4
      clear e4
      have n3 : NeB p3 H4.fresh := .lt o3 (Nat.le_refl _)
      have n1 : NeB p H4.fresh := .lt o1 (Nat.le_refl _)
      refine WS_live4 1 3 4 31 ?_
      intro s g1 g3 g4 g31
      repeat' (first | (first | refine V_seq ?_ | refine V_region ?_ | refine WS_nil ?_ | refine S_normal ?_ | refine V_block ?_ | refine B_normal ?_ | refine V_skip ?_ | refine V_exit ?_ | refine V_ret ?_ | refine S_exit ?_ | refine S_ret ?_ | refine B_exit ?_ | refine B_ret ?_ | refine B_pass rfl ?_ | refine C_normal ?_ | refine C_exit ?_ | refine C_ret ?_ | refine WS_off rfl (by first | rfl | assumption) ?_ | refine WS_on rfl (by first | rfl | assumption) ?_ | refine WS_move ?_ | refine WS_assign ?_ | refine WS_pick_t (by first | rfl | assumption) ?_ | refine WS_pick_f (by first | rfl | assumption) ?_ | refine WS_isnil ?_ | refine WS_notnil ?_ | refine WS_neq_same ?_ | refine WS_eql_same ?_ | refine WS_streq ?_ | refine WS_strne ?_ | refine WS_booleq ?_ | refine WS_boolne ?_ | refine WS_off_undef rfl ?_ | refine WD_off_undef rfl rfl ?_ | refine WS_cmp rfl ?_ | refine WS_addi (by omega) ?_ | refine WS_subi (by omega) ?_ | refine WS_arith rfl ?_ | refine WS_not ?_ | refine WS_neg ?_ | refine WS_convert ?_ | refine WS_len_slice ?_ | refine WS_len_string ?_ | refine WS_fieldAddr ?_ | refine WS_load ?_ | refine WS_load_agg ?_ | refine WS_box_agg rfl ?_ | refine WS_box rfl ?_ | refine WS_makeFunc ?_ | refine WS_extract ?_ | refine WS_field ?_ | refine WS_build ?_ | refine WS_zero ?_ | refine WS_shift (by first | decide | omega) rfl ?_ | refine WS_strcmp rfl ?_ | refine WS_indexAddr (by first | decide | omega) ?_ | refine WS_alloc ?_ | refine WS_store rfl ?_ | refine WS_buildSlice (by decide) rfl rfl (by simp [Value.cells]) ?_ | refine WDK_go ?_ | refine WDT_go ?_ | refine WD_nil ?_ | refine WD_take_off rfl rfl (by first | rfl | assumption) ?_ | refine WD_load rfl ?_ | refine WD_load_on rfl rfl (by first | rfl | assumption) ?_ | refine WD_load_agg rfl ?_ | refine WD_load_agg_on rfl rfl (by first | rfl | assumption) ?_ | refine WD_take rfl rfl ?_ | refine WD_take_on rfl rfl (by first | rfl | assumption) rfl ?_ | refine WD_drop rfl rfl ?_ | refine WD_filt rfl ?_ | refine Filt_drop rfl ?_ | refine Filt_keep rfl ?_ | refine Filt_nil ?_ | refine WD_one rfl ?_ | refine WD_virt rfl rfl ?_ | refine V_draw (id := 18) (plan := [.take 0, .take 1, .take 2, .take 3, .take 4, .take 5, .take 6, .take 7, .take 8, .take 9, .virt 10, .one 11, .one 12, .one 13]) (by kernel_rfl) ?_ | refine V_draw (id := 19) (plan := [.take 0, .take 1, .take 2, .take 3, .take 4, .take 5, .take 6, .take 7, .take 8, .take 9, .take 10, .take 11, .take 12, .take 13, .take 14, .take 15, .take 16, .take 17, .take 18, .take 19, .take 20, .take 21, .take 22, .take 23, .take 24, .take 25, .take 26, .take 27, .take 28, .take 29, .take 30, .take 31, .take 32, .take 33, .take 34, .take 35, .take 36, .take 37, .take 38, .take 39, .take 40, .take 41, .take 42, .take 43, .take 44, .take 45]) (by kernel_rfl) ?_) | (refine WS_guard rfl ?_ ?_ <;> intro hg) | (refine WD_guard rfl rfl ?_ ?_ <;> intro hg) | (refine V_cond_t (by first | rfl | assumption) ?_) | (refine V_cond_f (by first | rfl | assumption) ?_) | (refine V_cond ?_ ?_ <;> intro hc <;> try (cases hc; done)))
      obtain ⟨H5, hH5⟩ : ∃ H, H = (H4.push (IObj.cells [Value.int IntKind.i64 0, Value.slice none 0 0] 53 true)).put H4.fresh [.int .i64 (invR N xs).1, .slice a4 l4 c4] 53 true := ⟨_, rfl⟩
      have e5 : Ext H4 H5 := hH5 ▸ (Ext.push _ _).putObj (Nat.le_refl _)
      rw [← hH5]
      have o1 := ObjIs.ext (e := e5) (i := o1)
      have o3 := ObjIs.ext (e := e5) (i := o3)
      have ha3 := ha3.ext e5
      have hS := hS.ext e5
      clear e5 hH5 n1 n3
      refine WS_call (Synth_w ha3) ?_
      rintro _ H6 ⟨e6, hv6⟩
      rw [if_pos hck, hr] at hv6
      obtain ⟨sv2, dq2, rfl, hdq2, hS2⟩ := hv6
      obtain ⟨asv2, rfl⟩ := hS2.1.isSlice
      have hd2l : dq2.length = dq.length := by have := congrArg List.length (hdq2.trans hdq.symm); simpa using this
      rw [hd2l]
      have o1 := ObjIs.ext (e := e6) (i := o1)
      have o3 := ObjIs.ext (e := e6) (i := o3)
      have ha3 := ha3.ext e6
      have hS := hS.ext e6
      clear e6
      have n3 : NeB p3 H6.fresh := .lt o3 (Nat.le_refl _)
      have n1 : NeB p H6.fresh := .lt o1 (Nat.le_refl _)
      refine WS_live3 1 3 54 ?_
      intro s g1 g3 g54
      repeat' (first | (first | refine V_seq ?_ | refine V_region ?_ | refine WS_nil ?_ | refine S_normal ?_ | refine V_block ?_ | refine B_normal ?_ | refine V_skip ?_ | refine V_exit ?_ | refine V_ret ?_ | refine S_exit ?_ | refine S_ret ?_ | refine B_exit ?_ | refine B_ret ?_ | refine B_pass rfl ?_ | refine C_normal ?_ | refine C_exit ?_ | refine C_ret ?_ | refine WS_off rfl (by first | rfl | assumption) ?_ | refine WS_on rfl (by first | rfl | assumption) ?_ | refine WS_move ?_ | refine WS_assign ?_ | refine WS_pick_t (by first | rfl | assumption) ?_ | refine WS_pick_f (by first | rfl | assumption) ?_ | refine WS_isnil ?_ | refine WS_notnil ?_ | refine WS_neq_same ?_ | refine WS_eql_same ?_ | refine WS_streq ?_ | refine WS_strne ?_ | refine WS_booleq ?_ | refine WS_boolne ?_ | refine WS_off_undef rfl ?_ | refine WD_off_undef rfl rfl ?_ | refine WS_cmp rfl ?_ | refine WS_addi (by omega) ?_ | refine WS_subi (by omega) ?_ | refine WS_arith rfl ?_ | refine WS_not ?_ | refine WS_neg ?_ | refine WS_convert ?_ | refine WS_len_slice ?_ | refine WS_len_string ?_ | refine WS_fieldAddr ?_ | refine WS_load ?_ | refine WS_load_agg ?_ | refine WS_box_agg rfl ?_ | refine WS_box rfl ?_ | refine WS_makeFunc ?_ | refine WS_extract ?_ | refine WS_field ?_ | refine WS_build ?_ | refine WS_zero ?_ | refine WS_shift (by first | decide | omega) rfl ?_ | refine WS_strcmp rfl ?_ | refine WS_indexAddr (by first | decide | omega) ?_ | refine WS_alloc ?_ | refine WS_store rfl ?_ | refine WS_buildSlice (by decide) rfl rfl (by simp [Value.cells]) ?_ | refine WDK_go ?_ | refine WDT_go ?_ | refine WD_nil ?_ | refine WD_take_off rfl rfl (by first | rfl | assumption) ?_ | refine WD_load rfl ?_ | refine WD_load_on rfl rfl (by first | rfl | assumption) ?_ | refine WD_load_agg rfl ?_ | refine WD_load_agg_on rfl rfl (by first | rfl | assumption) ?_ | refine WD_take rfl rfl ?_ | refine WD_take_on rfl rfl (by first | rfl | assumption) rfl ?_ | refine WD_drop rfl rfl ?_ | refine WD_filt rfl ?_ | refine Filt_drop rfl ?_ | refine Filt_keep rfl ?_ | refine Filt_nil ?_ | refine WD_one rfl ?_ | refine WD_virt rfl rfl ?_ | refine V_draw (id := 18) (plan := [.take 0, .take 1, .take 2, .take 3, .take 4, .take 5, .take 6, .take 7, .take 8, .take 9, .virt 10, .one 11, .one 12, .one 13]) (by kernel_rfl) ?_ | refine V_draw (id := 19) (plan := [.take 0, .take 1, .take 2, .take 3, .take 4, .take 5, .take 6, .take 7, .take 8, .take 9, .take 10, .take 11, .take 12, .take 13, .take 14, .take 15, .take 16, .take 17, .take 18, .take 19, .take 20, .take 21, .take 22, .take 23, .take 24, .take 25, .take 26, .take 27, .take 28, .take 29, .take 30, .take 31, .take 32, .take 33, .take 34, .take 35, .take 36, .take 37, .take 38, .take 39, .take 40, .take 41, .take 42, .take 43, .take 44, .take 45]) (by kernel_rfl) ?_) | (refine WS_guard rfl ?_ ?_ <;> intro hg) | (refine WD_guard rfl rfl ?_ ?_ <;> intro hg) | (refine V_cond_t (by first | rfl | assumption) ?_) | (refine V_cond_f (by first | rfl | assumption) ?_) | (refine V_cond ?_ ?_ <;> intro hc <;> try (cases hc; done)))
      rotate_left
      · exfalso
        have hNN : ((xs.length * xs.length : Nat) : Int) = N * N := by rw [Int.natCast_mul, hN2]
        have h4096 : N * N ≤ 64 * 64 := Int.mul_le_mul hN1 hN1 hN0 (by decide)
        have hN00 : 0 ≤ N * N := Int.mul_nonneg hN0 hN0
        have hwr : IntKind.i64.wrap (N * N) = N * N := wrap_i64_id ⟨by omega, by omega⟩
        rw [hwr] at hg
        simp at hg
        omega
      clear hg
      refine V_gen ?_
      intro H7 hH7
      have e7 : Ext H6 H7 := hH7 ▸ (Ext.push _ _).putObj (Nat.le_refl _)
      have o8 : ObjIs H7 H6.fresh [.int .i64 N, .int .i64 0, .slice asv2 dq.length dq.length] 24 true := hH7 ▸ inferInstance
      have o1 := ObjIs.ext (e := e7) (i := o1)
      have o3 := ObjIs.ext (e := e7) (i := o3)
      have ha3 := ha3.ext e7
      have hS := hS.ext e7
      have hS2 := hS2.ext e7
      clear e7 hH7
      generalize H6.fresh = p8 at *
      have g1' := g1
      have g3' := g3
      refine V_loop (fun d s' h' => ∃ i : Nat, d = dq.length - i ∧ i ≤ dq.length ∧ Get s' 10 (.int .i64 (i : Int)) ∧ Get s' 3 (.pointer (some (ad p3 0))) ∧ Get s' 8 (.pointer (some (ad p8 0))) ∧ Get s' 1 (.pointer (some (ad p 0))) ∧ Ext H7 h') dq.length ⟨0, by omega, by omega, get_as rfl, inferInstance, inferInstance, inferInstance, Ext.refl _⟩ ?_
      rintro d s' h' ⟨i, rfl, hi, g10, g3, g8, g1, eh⟩
      have o1 := ObjIs.ext (e := eh) (i := o1)
      have o3 := ObjIs.ext (e := eh) (i := o3)
      have o8 := ObjIs.ext (e := eh) (i := o8)
      have hS := hS.ext eh
      have hS2 := hS2.ext eh
      by_cases hil : i < dq.length
      · obtain ⟨d1, hd1⟩ : ∃ d1, dq[i]? = some d1 := ⟨_, List.getElem?_eq_getElem hil⟩
        obtain ⟨d2, hd2⟩ : ∃ d2, dq2[i]? = some d2 := ⟨_, List.getElem?_eq_getElem (by omega)⟩
        have hd12 : d2.1 = d1.1 := by
          have h1 : (dq.map Prod.fst)[i]? = some d1.1 := by rw [List.getElem?_map, hd1]; rfl
          have h2 : (dq2.map Prod.fst)[i]? = some d2.1 := by rw [List.getElem?_map, hd2]; rfl
          rw [hdq2, ← hdq, h1] at h2
          exact (Option.some.inj h2).symm
        obtain ⟨b1, hb1, r1, q1⟩ := hS.at hd1
        obtain ⟨b2, hb2, r2, q2⟩ := hS2.at hd2
        injection hb1 with hb1 _ _
        injection hb2 with hb2 _ _
        subst hb1
        subst hb2
        rw [hd12] at q2
        have hb : 0 ≤ (i : Int) ∧ (i : Int) < (dq.length : Int) := by omega
        have r1' : RowIs h' b1 (0 + (i : Int).toNat * 7) 7 (cxCells d1) := by rw [Int.toNat_natCast, Nat.zero_add]; exact r1
        have r2' : RowIs h' b2 (0 + (i : Int).toNat * 7) 7 (cxCells d2) := by rw [Int.toNat_natCast, Nat.zero_add]; exact r2
        clear r1 r2
        have lb1 := (hS.1.block rfl).2
        have lb2 := (hS2.1.block rfl).2
        have lp8 := o8.lt
        repeat' (first | (first | refine V_seq ?_ | refine V_region ?_ | refine WS_nil ?_ | refine S_normal ?_ | refine V_block ?_ | refine B_normal ?_ | refine V_skip ?_ | refine V_exit ?_ | refine V_ret ?_ | refine S_exit ?_ | refine S_ret ?_ | refine B_exit ?_ | refine B_ret ?_ | refine B_pass rfl ?_ | refine C_normal ?_ | refine C_exit ?_ | refine C_ret ?_ | refine WS_off rfl (by first | rfl | assumption) ?_ | refine WS_on rfl (by first | rfl | assumption) ?_ | refine WS_move ?_ | refine WS_assign ?_ | refine WS_pick_t (by first | rfl | assumption) ?_ | refine WS_pick_f (by first | rfl | assumption) ?_ | refine WS_isnil ?_ | refine WS_notnil ?_ | refine WS_cmp rfl ?_ | refine WS_addi (by omega) ?_ | refine WS_subi (by omega) ?_ | refine WS_arith rfl ?_ | refine WS_not ?_ | refine WS_neg ?_ | refine WS_convert ?_ | refine WS_len_slice ?_ | refine WS_len_string ?_ | refine WS_fieldAddr ?_ | refine WS_load ?_ | refine WS_load_agg ?_ | refine WS_box_agg rfl ?_ | refine WS_box rfl ?_ | refine WS_makeFunc ?_ | refine WS_extract ?_ | refine WS_field ?_ | refine WS_build ?_ | refine WS_zero ?_ | refine WS_shift (by first | decide | omega) rfl ?_ | refine WS_strcmp rfl ?_ | refine WS_indexAddr (by first | decide | omega) ?_ | refine WS_alloc ?_ | refine WS_store rfl ?_ | refine WS_buildSlice (by decide) rfl rfl (by simp [Value.cells]) ?_ | refine WDK_go ?_ | refine WDT_go ?_ | refine WD_nil ?_ | refine WD_take_off rfl rfl (by first | rfl | assumption) ?_ | refine WD_load rfl ?_ | refine WD_load_on rfl rfl (by first | rfl | assumption) ?_ | refine WD_load_agg rfl ?_ | refine WD_load_agg_on rfl rfl (by first | rfl | assumption) ?_ | refine WD_take rfl rfl ?_ | refine WD_take_on rfl rfl (by first | rfl | assumption) rfl ?_ | refine WD_drop rfl rfl ?_ | refine WD_one rfl ?_ | refine WD_virt rfl rfl ?_) | (refine WS_guard rfl ?_ ?_ <;> intro hg) | (refine V_cond ?_ ?_ <;> intro hc <;> try (cases hc; done)))
        all_goals first | (exfalso; simp at hc; omega) | skip
        refine synthR18 rfl hil lb2 lp8 r1' r2' o3 o8 inferInstance inferInstance inferInstance inferInstance ?_
        rintro s H t1 t2 eH ot1 ot2 g11 g12 g1 g3 g8 g10
        repeat' (first | (first | refine V_seq ?_ | refine V_region ?_ | refine WS_nil ?_ | refine S_normal ?_ | refine V_block ?_ | refine B_normal ?_ | refine V_skip ?_ | refine V_exit ?_ | refine V_ret ?_ | refine S_exit ?_ | refine S_ret ?_ | refine B_exit ?_ | refine B_ret ?_ | refine B_pass rfl ?_ | refine C_normal ?_ | refine C_exit ?_ | refine C_ret ?_ | refine WS_off rfl (by first | rfl | assumption) ?_ | refine WS_on rfl (by first | rfl | assumption) ?_ | refine WS_move ?_ | refine WS_assign ?_ | refine WS_pick_t (by first | rfl | assumption) ?_ | refine WS_pick_f (by first | rfl | assumption) ?_ | refine WS_isnil ?_ | refine WS_notnil ?_ | refine WS_cmp rfl ?_ | refine WS_addi (by omega) ?_ | refine WS_subi (by omega) ?_ | refine WS_arith rfl ?_ | refine WS_not ?_ | refine WS_neg ?_ | refine WS_convert ?_ | refine WS_len_slice ?_ | refine WS_len_string ?_ | refine WS_fieldAddr ?_ | refine WS_load ?_ | refine WS_load_agg ?_ | refine WS_box_agg rfl ?_ | refine WS_box rfl ?_ | refine WS_makeFunc ?_ | refine WS_extract ?_ | refine WS_field ?_ | refine WS_build ?_ | refine WS_zero ?_ | refine WS_shift (by first | decide | omega) rfl ?_ | refine WS_strcmp rfl ?_ | refine WS_indexAddr (by first | decide | omega) ?_ | refine WS_alloc ?_ | refine WS_store rfl ?_ | refine WS_buildSlice (by decide) rfl rfl (by simp [Value.cells]) ?_ | refine WDK_go ?_ | refine WDT_go ?_ | refine WD_nil ?_ | refine WD_take_off rfl rfl (by first | rfl | assumption) ?_ | refine WD_load rfl ?_ | refine WD_load_on rfl rfl (by first | rfl | assumption) ?_ | refine WD_load_agg rfl ?_ | refine WD_load_agg_on rfl rfl (by first | rfl | assumption) ?_ | refine WD_take rfl rfl ?_ | refine WD_take_on rfl rfl (by first | rfl | assumption) rfl ?_ | refine WD_drop rfl rfl ?_ | refine WD_one rfl ?_ | refine WD_virt rfl rfl ?_) | (refine WS_guard rfl ?_ ?_ <;> intro hg) | (refine V_cond ?_ ?_ <;> intro hc <;> try (cases hc; done)))
        refine synthR19 rfl hd12 ot1 ot2 (ObjIs.ext (e := eH) (i := q1)) (ObjIs.ext (e := eH) (i := hd12 ▸ q2)) inferInstance inferInstance inferInstance inferInstance inferInstance inferInstance ?_
        intro s g153 g1 g3 g8 g10
        clear r1' r2' q1 q2 ot1 ot2
        repeat' (first | (first | refine V_seq ?_ | refine V_region ?_ | refine WS_nil ?_ | refine S_normal ?_ | refine V_block ?_ | refine B_normal ?_ | refine V_skip ?_ | refine V_exit ?_ | refine V_ret ?_ | refine S_exit ?_ | refine S_ret ?_ | refine B_exit ?_ | refine B_ret ?_ | refine B_pass rfl ?_ | refine C_normal ?_ | refine C_exit ?_ | refine C_ret ?_ | refine WS_off rfl (by first | rfl | assumption) ?_ | refine WS_on rfl (by first | rfl | assumption) ?_ | refine WS_move ?_ | refine WS_assign ?_ | refine WS_pick_t (by first | rfl | assumption) ?_ | refine WS_pick_f (by first | rfl | assumption) ?_ | refine WS_isnil ?_ | refine WS_notnil ?_ | refine WS_neq_same ?_ | refine WS_eql_same ?_ | refine WS_streq ?_ | refine WS_strne ?_ | refine WS_booleq ?_ | refine WS_boolne ?_ | refine WS_off_undef rfl ?_ | refine WD_off_undef rfl rfl ?_ | refine WS_cmp rfl ?_ | refine WS_addi (by omega) ?_ | refine WS_subi (by omega) ?_ | refine WS_arith rfl ?_ | refine WS_not ?_ | refine WS_neg ?_ | refine WS_convert ?_ | refine WS_len_slice ?_ | refine WS_len_string ?_ | refine WS_fieldAddr ?_ | refine WS_load ?_ | refine WS_load_agg ?_ | refine WS_box_agg rfl ?_ | refine WS_box rfl ?_ | refine WS_makeFunc ?_ | refine WS_extract ?_ | refine WS_field ?_ | refine WS_build ?_ | refine WS_zero ?_ | refine WS_shift (by first | decide | omega) rfl ?_ | refine WS_strcmp rfl ?_ | refine WS_indexAddr (by first | decide | omega) ?_ | refine WS_alloc ?_ | refine WS_store rfl ?_ | refine WS_buildSlice (by decide) rfl rfl (by simp [Value.cells]) ?_ | refine WDK_go ?_ | refine WDT_go ?_ | refine WD_nil ?_ | refine WD_take_off rfl rfl (by first | rfl | assumption) ?_ | refine WD_load rfl ?_ | refine WD_load_on rfl rfl (by first | rfl | assumption) ?_ | refine WD_load_agg rfl ?_ | refine WD_load_agg_on rfl rfl (by first | rfl | assumption) ?_ | refine WD_take rfl rfl ?_ | refine WD_take_on rfl rfl (by first | rfl | assumption) rfl ?_ | refine WD_drop rfl rfl ?_ | refine WD_filt rfl ?_ | refine Filt_drop rfl ?_ | refine Filt_keep rfl ?_ | refine Filt_nil ?_ | refine WD_one rfl ?_ | refine WD_virt rfl rfl ?_ | refine V_draw (id := 18) (plan := [.take 0, .take 1, .take 2, .take 3, .take 4, .take 5, .take 6, .take 7, .take 8, .take 9, .virt 10, .one 11, .one 12, .one 13]) (by kernel_rfl) ?_ | refine V_draw (id := 19) (plan := [.take 0, .take 1, .take 2, .take 3, .take 4, .take 5, .take 6, .take 7, .take 8, .take 9, .take 10, .take 11, .take 12, .take 13, .take 14, .take 15, .take 16, .take 17, .take 18, .take 19, .take 20, .take 21, .take 22, .take 23, .take 24, .take 25, .take 26, .take 27, .take 28, .take 29, .take 30, .take 31, .take 32, .take 33, .take 34, .take 35, .take 36, .take 37, .take 38, .take 39, .take 40, .take 41, .take 42, .take 43, .take 44, .take 45]) (by kernel_rfl) ?_) | (refine WS_guard rfl ?_ ?_ <;> intro hg) | (refine WD_guard rfl rfl ?_ ?_ <;> intro hg) | (refine V_cond_t (by first | rfl | assumption) ?_) | (refine V_cond_f (by first | rfl | assumption) ?_) | (refine V_cond ?_ ?_ <;> intro hc <;> try (cases hc; done)))
        refine ⟨_, ?_, i + 1, rfl, by omega, get_as (by simp), inferInstance, inferInstance, inferInstance, eh.trans eH⟩
        omega
      · have hie : i = dq.length := by omega
        subst hie
        have ha4 := ha3.ext eh
        have hfr := hS.circ (N := N) (by omega)
        rw [hdq] at hfr
        repeat' (first | (first | refine V_seq ?_ | refine V_region ?_ | refine WS_nil ?_ | refine S_normal ?_ | refine V_block ?_ | refine B_normal ?_ | refine V_skip ?_ | refine V_exit ?_ | refine V_ret ?_ | refine S_exit ?_ | refine S_ret ?_ | refine B_exit ?_ | refine B_ret ?_ | refine B_pass rfl ?_ | refine C_normal ?_ | refine C_exit ?_ | refine C_ret ?_ | refine WS_off rfl (by first | rfl | assumption) ?_ | refine WS_on rfl (by first | rfl | assumption) ?_ | refine WS_move ?_ | refine WS_assign ?_ | refine WS_pick_t (by first | rfl | assumption) ?_ | refine WS_pick_f (by first | rfl | assumption) ?_ | refine WS_isnil ?_ | refine WS_notnil ?_ | refine WS_neq_same ?_ | refine WS_eql_same ?_ | refine WS_streq ?_ | refine WS_strne ?_ | refine WS_booleq ?_ | refine WS_boolne ?_ | refine WS_off_undef rfl ?_ | refine WD_off_undef rfl rfl ?_ | refine WS_cmp rfl ?_ | refine WS_addi (by omega) ?_ | refine WS_subi (by omega) ?_ | refine WS_arith rfl ?_ | refine WS_not ?_ | refine WS_neg ?_ | refine WS_convert ?_ | refine WS_len_slice ?_ | refine WS_len_string ?_ | refine WS_fieldAddr ?_ | refine WS_load ?_ | refine WS_load_agg ?_ | refine WS_box_agg rfl ?_ | refine WS_box rfl ?_ | refine WS_makeFunc ?_ | refine WS_extract ?_ | refine WS_field ?_ | refine WS_build ?_ | refine WS_zero ?_ | refine WS_shift (by first | decide | omega) rfl ?_ | refine WS_strcmp rfl ?_ | refine WS_indexAddr (by first | decide | omega) ?_ | refine WS_alloc ?_ | refine WS_store rfl ?_ | refine WS_buildSlice (by decide) rfl rfl (by simp [Value.cells]) ?_ | refine WDK_go ?_ | refine WDT_go ?_ | refine WD_nil ?_ | refine WD_take_off rfl rfl (by first | rfl | assumption) ?_ | refine WD_load rfl ?_ | refine WD_load_on rfl rfl (by first | rfl | assumption) ?_ | refine WD_load_agg rfl ?_ | refine WD_load_agg_on rfl rfl (by first | rfl | assumption) ?_ | refine WD_take rfl rfl ?_ | refine WD_take_on rfl rfl (by first | rfl | assumption) rfl ?_ | refine WD_drop rfl rfl ?_ | refine WD_filt rfl ?_ | refine Filt_drop rfl ?_ | refine Filt_keep rfl ?_ | refine Filt_nil ?_ | refine WD_one rfl ?_ | refine WD_virt rfl rfl ?_ | refine V_draw (id := 18) (plan := [.take 0, .take 1, .take 2, .take 3, .take 4, .take 5, .take 6, .take 7, .take 8, .take 9, .virt 10, .one 11, .one 12, .one 13]) (by kernel_rfl) ?_ | refine V_draw (id := 19) (plan := [.take 0, .take 1, .take 2, .take 3, .take 4, .take 5, .take 6, .take 7, .take 8, .take 9, .take 10, .take 11, .take 12, .take 13, .take 14, .take 15, .take 16, .take 17, .take 18, .take 19, .take 20, .take 21, .take 22, .take 23, .take 24, .take 25, .take 26, .take 27, .take 28, .take 29, .take 30, .take 31, .take 32, .take 33, .take 34, .take 35, .take 36, .take 37, .take 38, .take 39, .take 40, .take 41, .take 42, .take 43, .take 44, .take 45]) (by kernel_rfl) ?_) | (refine WS_guard rfl ?_ ?_ <;> intro hg) | (refine WD_guard rfl rfl ?_ ?_ <;> intro hg) | (refine V_cond_t (by first | rfl | assumption) ?_) | (refine V_cond_f (by first | rfl | assumption) ?_) | (refine V_cond ?_ ?_ <;> intro hc <;> try (cases hc; done)))
        all_goals first | (exfalso; simp at hc; done) | skip
        refine WS_call (From_spec hfr) ?_
        rintro _ H8 ⟨e8, m8, rfl, hm8, _⟩
        obtain ⟨a8, l8, c8, rfl⟩ := mat_cells hm8
        rw [hfrom] at hm8 ⊢
        have o1 := ObjIs.ext (e := e8) (i := o1)
        have ha5 := ha4.ext e8
        have n1 : NeB p H8.fresh := .lt o1 (Nat.le_refl _)
        refine WS_live2 1 156 ?_
        intro s9 g1 g156
        repeat' (first | (first | refine V_seq ?_ | refine V_region ?_ | refine WS_nil ?_ | refine S_normal ?_ | refine V_block ?_ | refine B_normal ?_ | refine V_skip ?_ | refine V_exit ?_ | refine V_ret ?_ | refine S_exit ?_ | refine S_ret ?_ | refine B_exit ?_ | refine B_ret ?_ | refine B_pass rfl ?_ | refine C_normal ?_ | refine C_exit ?_ | refine C_ret ?_ | refine WS_off rfl (by first | rfl | assumption) ?_ | refine WS_on rfl (by first | rfl | assumption) ?_ | refine WS_move ?_ | refine WS_assign ?_ | refine WS_pick_t (by first | rfl | assumption) ?_ | refine WS_pick_f (by first | rfl | assumption) ?_ | refine WS_isnil ?_ | refine WS_notnil ?_ | refine WS_neq_same ?_ | refine WS_eql_same ?_ | refine WS_streq ?_ | refine WS_strne ?_ | refine WS_booleq ?_ | refine WS_boolne ?_ | refine WS_off_undef rfl ?_ | refine WD_off_undef rfl rfl ?_ | refine WS_cmp rfl ?_ | refine WS_addi (by omega) ?_ | refine WS_subi (by omega) ?_ | refine WS_arith rfl ?_ | refine WS_not ?_ | refine WS_neg ?_ | refine WS_convert ?_ | refine WS_len_slice ?_ | refine WS_len_string ?_ | refine WS_fieldAddr ?_ | refine WS_load ?_ | refine WS_load_agg ?_ | refine WS_box_agg rfl ?_ | refine WS_box rfl ?_ | refine WS_makeFunc ?_ | refine WS_extract ?_ | refine WS_field ?_ | refine WS_build ?_ | refine WS_zero ?_ | refine WS_shift (by first | decide | omega) rfl ?_ | refine WS_strcmp rfl ?_ | refine WS_indexAddr (by first | decide | omega) ?_ | refine WS_alloc ?_ | refine WS_store rfl ?_ | refine WS_buildSlice (by decide) rfl rfl (by simp [Value.cells]) ?_ | refine WDK_go ?_ | refine WDT_go ?_ | refine WD_nil ?_ | refine WD_take_off rfl rfl (by first | rfl | assumption) ?_ | refine WD_load rfl ?_ | refine WD_load_on rfl rfl (by first | rfl | assumption) ?_ | refine WD_load_agg rfl ?_ | refine WD_load_agg_on rfl rfl (by first | rfl | assumption) ?_ | refine WD_take rfl rfl ?_ | refine WD_take_on rfl rfl (by first | rfl | assumption) rfl ?_ | refine WD_drop rfl rfl ?_ | refine WD_filt rfl ?_ | refine Filt_drop rfl ?_ | refine Filt_keep rfl ?_ | refine Filt_nil ?_ | refine WD_one rfl ?_ | refine WD_virt rfl rfl ?_ | refine V_draw (id := 18) (plan := [.take 0, .take 1, .take 2, .take 3, .take 4, .take 5, .take 6, .take 7, .take 8, .take 9, .virt 10, .one 11, .one 12, .one 13]) (by kernel_rfl) ?_ | refine V_draw (id := 19) (plan := [.take 0, .take 1, .take 2, .take 3, .take 4, .take 5, .take 6, .take 7, .take 8, .take 9, .take 10, .take 11, .take 12, .take 13, .take 14, .take 15, .take 16, .take 17, .take 18, .take 19, .take 20, .take 21, .take 22, .take 23, .take 24, .take 25, .take 26, .take 27, .take 28, .take 29, .take 30, .take 31, .take 32, .take 33, .take 34, .take 35, .take 36, .take 37, .take 38, .take 39, .take 40, .take 41, .take 42, .take 43, .take 44, .take 45]) (by kernel_rfl) ?_) | (refine WS_guard rfl ?_ ?_ <;> intro hg) | (refine WD_guard rfl rfl ?_ ?_ <;> intro hg) | (refine V_cond_t (by first | rfl | assumption) ?_) | (refine V_cond_f (by first | rfl | assumption) ?_) | (refine V_cond ?_ ?_ <;> intro hc <;> try (cases hc; done)))
        refine WS_gen ?_
        intro H9 hH9
        have e9 : Ext H8 H9 := hH9 ▸ (Ext.push _ _).putObj (Nat.le_refl _)
        refine WS_call (Same_t (hm8.ext e9) (ha5.ext e9) (show xs.length < 2 ^ 62 by omega)) ?_
        rintro _ H10 ⟨rfl, e10⟩
        repeat' (first | (first | refine V_seq ?_ | refine V_region ?_ | refine WS_nil ?_ | refine S_normal ?_ | refine V_block ?_ | refine B_normal ?_ | refine V_skip ?_ | refine V_exit ?_ | refine V_ret ?_ | refine S_exit ?_ | refine S_ret ?_ | refine B_exit ?_ | refine B_ret ?_ | refine B_pass rfl ?_ | refine C_normal ?_ | refine C_exit ?_ | refine C_ret ?_ | refine WS_off rfl (by first | rfl | assumption) ?_ | refine WS_on rfl (by first | rfl | assumption) ?_ | refine WS_move ?_ | refine WS_assign ?_ | refine WS_pick_t (by first | rfl | assumption) ?_ | refine WS_pick_f (by first | rfl | assumption) ?_ | refine WS_isnil ?_ | refine WS_notnil ?_ | refine WS_neq_same ?_ | refine WS_eql_same ?_ | refine WS_streq ?_ | refine WS_strne ?_ | refine WS_booleq ?_ | refine WS_boolne ?_ | refine WS_off_undef rfl ?_ | refine WD_off_undef rfl rfl ?_ | refine WS_cmp rfl ?_ | refine WS_addi (by omega) ?_ | refine WS_subi (by omega) ?_ | refine WS_arith rfl ?_ | refine WS_not ?_ | refine WS_neg ?_ | refine WS_convert ?_ | refine WS_len_slice ?_ | refine WS_len_string ?_ | refine WS_fieldAddr ?_ | refine WS_load ?_ | refine WS_load_agg ?_ | refine WS_box_agg rfl ?_ | refine WS_box rfl ?_ | refine WS_makeFunc ?_ | refine WS_extract ?_ | refine WS_field ?_ | refine WS_build ?_ | refine WS_zero ?_ | refine WS_shift (by first | decide | omega) rfl ?_ | refine WS_strcmp rfl ?_ | refine WS_indexAddr (by first | decide | omega) ?_ | refine WS_alloc ?_ | refine WS_store rfl ?_ | refine WS_buildSlice (by decide) rfl rfl (by simp [Value.cells]) ?_ | refine WDK_go ?_ | refine WDT_go ?_ | refine WD_nil ?_ | refine WD_take_off rfl rfl (by first | rfl | assumption) ?_ | refine WD_load rfl ?_ | refine WD_load_on rfl rfl (by first | rfl | assumption) ?_ | refine WD_load_agg rfl ?_ | refine WD_load_agg_on rfl rfl (by first | rfl | assumption) ?_ | refine WD_take rfl rfl ?_ | refine WD_take_on rfl rfl (by first | rfl | assumption) rfl ?_ | refine WD_drop rfl rfl ?_ | refine WD_filt rfl ?_ | refine Filt_drop rfl ?_ | refine Filt_keep rfl ?_ | refine Filt_nil ?_ | refine WD_one rfl ?_ | refine WD_virt rfl rfl ?_ | refine V_draw (id := 18) (plan := [.take 0, .take 1, .take 2, .take 3, .take 4, .take 5, .take 6, .take 7, .take 8, .take 9, .virt 10, .one 11, .one 12, .one 13]) (by kernel_rfl) ?_ | refine V_draw (id := 19) (plan := [.take 0, .take 1, .take 2, .take 3, .take 4, .take 5, .take 6, .take 7, .take 8, .take 9, .take 10, .take 11, .take 12, .take 13, .take 14, .take 15, .take 16, .take 17, .take 18, .take 19, .take 20, .take 21, .take 22, .take 23, .take 24, .take 25, .take 26, .take 27, .take 28, .take 29, .take 30, .take 31, .take 32, .take 33, .take 34, .take 35, .take 36, .take 37, .take 38, .take 39, .take 40, .take 41, .take 42, .take 43, .take 44, .take 45]) (by kernel_rfl) ?_) | (refine WS_guard rfl ?_ ?_ <;> intro hg) | (refine WD_guard rfl rfl ?_ ?_ <;> intro hg) | (refine V_cond_t (by first | rfl | assumption) ?_) | (refine V_cond_f (by first | rfl | assumption) ?_) | (refine V_cond ?_ ?_ <;> intro hc <;> try (cases hc; done)))
        exact retK_1 rfl (.inr rfl)
  · rw [if_neg hck] at hv1
    subst hv1
    repeat' (first | (first | refine V_seq ?_ | refine V_region ?_ | refine WS_nil ?_ | refine S_normal ?_ | refine V_block ?_ | refine B_normal ?_ | refine V_skip ?_ | refine V_exit ?_ | refine V_ret ?_ | refine S_exit ?_ | refine S_ret ?_ | refine B_exit ?_ | refine B_ret ?_ | refine B_pass rfl ?_ | refine C_normal ?_ | refine C_exit ?_ | refine C_ret ?_ | refine WS_off rfl (by first | rfl | assumption) ?_ | refine WS_on rfl (by first | rfl | assumption) ?_ | refine WS_move ?_ | refine WS_assign ?_ | refine WS_pick_t (by first | rfl | assumption) ?_ | refine WS_pick_f (by first | rfl | assumption) ?_ | refine WS_isnil ?_ | refine WS_notnil ?_ | refine WS_neq_same ?_ | refine WS_eql_same ?_ | refine WS_streq ?_ | refine WS_strne ?_ | refine WS_booleq ?_ | refine WS_boolne ?_ | refine WS_off_undef rfl ?_ | refine WD_off_undef rfl rfl ?_ | refine WS_cmp rfl ?_ | refine WS_addi (by omega) ?_ | refine WS_subi (by omega) ?_ | refine WS_arith rfl ?_ | refine WS_not ?_ | refine WS_neg ?_ | refine WS_convert ?_ | refine WS_len_slice ?_ | refine WS_len_string ?_ | refine WS_fieldAddr ?_ | refine WS_load ?_ | refine WS_load_agg ?_ | refine WS_box_agg rfl ?_ | refine WS_box rfl ?_ | refine WS_makeFunc ?_ | refine WS_extract ?_ | refine WS_field ?_ | refine WS_build ?_ | refine WS_zero ?_ | refine WS_shift (by first | decide | omega) rfl ?_ | refine WS_strcmp rfl ?_ | refine WS_indexAddr (by first | decide | omega) ?_ | refine WS_alloc ?_ | refine WS_store rfl ?_ | refine WS_buildSlice (by decide) rfl rfl (by simp [Value.cells]) ?_ | refine WDK_go ?_ | refine WDT_go ?_ | refine WD_nil ?_ | refine WD_take_off rfl rfl (by first | rfl | assumption) ?_ | refine WD_load rfl ?_ | refine WD_load_on rfl rfl (by first | rfl | assumption) ?_ | refine WD_load_agg rfl ?_ | refine WD_load_agg_on rfl rfl (by first | rfl | assumption) ?_ | refine WD_take rfl rfl ?_ | refine WD_take_on rfl rfl (by first | rfl | assumption) rfl ?_ | refine WD_drop rfl rfl ?_ | refine WD_filt rfl ?_ | refine Filt_drop rfl ?_ | refine Filt_keep rfl ?_ | refine Filt_nil ?_ | refine WD_one rfl ?_ | refine WD_virt rfl rfl ?_ | refine V_draw (id := 18) (plan := [.take 0, .take 1, .take 2, .take 3, .take 4, .take 5, .take 6, .take 7, .take 8, .take 9, .virt 10, .one 11, .one 12, .one 13]) (by kernel_rfl) ?_ | refine V_draw (id := 19) (plan := [.take 0, .take 1, .take 2, .take 3, .take 4, .take 5, .take 6, .take 7, .take 8, .take 9, .take 10, .take 11, .take 12, .take 13, .take 14, .take 15, .take 16, .take 17, .take 18, .take 19, .take 20, .take 21, .take 22, .take 23, .take 24, .take 25, .take 26, .take 27, .take 28, .take 29, .take 30, .take 31, .take 32, .take 33, .take 34, .take 35, .take 36, .take 37, .take 38, .take 39, .take 40, .take 41, .take 42, .take 43, .take 44, .take 45]) (by kernel_rfl) ?_) | (refine WS_guard rfl ?_ ?_ <;> intro hg) | (refine WD_guard rfl rfl ?_ ?_ <;> intro hg) | (refine V_cond_t (by first | rfl | assumption) ?_) | (refine V_cond_f (by first | rfl | assumption) ?_) | (refine V_cond ?_ ?_ <;> intro hc <;> try (cases hc; done)))
    refine WS_gen ?_
    intro H2 hH2
    have e2 : Ext H1 H2 := hH2 ▸ (Ext.push _ _).putObj (Nat.le_refl _)
    have o1 := ObjIs.ext (e := e2) (i := o1)
    clear hH2
    repeat' (first | (first | refine V_seq ?_ | refine V_region ?_ | refine WS_nil ?_ | refine S_normal ?_ | refine V_block ?_ | refine B_normal ?_ | refine V_skip ?_ | refine V_exit ?_ | refine V_ret ?_ | refine S_exit ?_ | refine S_ret ?_ | refine B_exit ?_ | refine B_ret ?_ | refine B_pass rfl ?_ | refine C_normal ?_ | refine C_exit ?_ | refine C_ret ?_ | refine WS_off rfl (by first | rfl | assumption) ?_ | refine WS_on rfl (by first | rfl | assumption) ?_ | refine WS_move ?_ | refine WS_assign ?_ | refine WS_pick_t (by first | rfl | assumption) ?_ | refine WS_pick_f (by first | rfl | assumption) ?_ | refine WS_isnil ?_ | refine WS_notnil ?_ | refine WS_neq_same ?_ | refine WS_eql_same ?_ | refine WS_streq ?_ | refine WS_strne ?_ | refine WS_booleq ?_ | refine WS_boolne ?_ | refine WS_off_undef rfl ?_ | refine WD_off_undef rfl rfl ?_ | refine WS_cmp rfl ?_ | refine WS_addi (by omega) ?_ | refine WS_subi (by omega) ?_ | refine WS_arith rfl ?_ | refine WS_not ?_ | refine WS_neg ?_ | refine WS_convert ?_ | refine WS_len_slice ?_ | refine WS_len_string ?_ | refine WS_fieldAddr ?_ | refine WS_load ?_ | refine WS_load_agg ?_ | refine WS_box_agg rfl ?_ | refine WS_box rfl ?_ | refine WS_makeFunc ?_ | refine WS_extract ?_ | refine WS_field ?_ | refine WS_build ?_ | refine WS_zero ?_ | refine WS_shift (by first | decide | omega) rfl ?_ | refine WS_strcmp rfl ?_ | refine WS_indexAddr (by first | decide | omega) ?_ | refine WS_alloc ?_ | refine WS_store rfl ?_ | refine WS_buildSlice (by decide) rfl rfl (by simp [Value.cells]) ?_ | refine WDK_go ?_ | refine WDT_go ?_ | refine WD_nil ?_ | refine WD_take_off rfl rfl (by first | rfl | assumption) ?_ | refine WD_load rfl ?_ | refine WD_load_on rfl rfl (by first | rfl | assumption) ?_ | refine WD_load_agg rfl ?_ | refine WD_load_agg_on rfl rfl (by first | rfl | assumption) ?_ | refine WD_take rfl rfl ?_ | refine WD_take_on rfl rfl (by first | rfl | assumption) rfl ?_ | refine WD_drop rfl rfl ?_ | refine WD_filt rfl ?_ | refine Filt_drop rfl ?_ | refine Filt_keep rfl ?_ | refine Filt_nil ?_ | refine WD_one rfl ?_ | refine WD_virt rfl rfl ?_ | refine V_draw (id := 18) (plan := [.take 0, .take 1, .take 2, .take 3, .take 4, .take 5, .take 6, .take 7, .take 8, .take 9, .virt 10, .one 11, .one 12, .one 13]) (by kernel_rfl) ?_ | refine V_draw (id := 19) (plan := [.take 0, .take 1, .take 2, .take 3, .take 4, .take 5, .take 6, .take 7, .take 8, .take 9, .take 10, .take 11, .take 12, .take 13, .take 14, .take 15, .take 16, .take 17, .take 18, .take 19, .take 20, .take 21, .take 22, .take 23, .take 24, .take 25, .take 26, .take 27, .take 28, .take 29, .take 30, .take 31, .take 32, .take 33, .take 34, .take 35, .take 36, .take 37, .take 38, .take 39, .take 40, .take 41, .take 42, .take 43, .take 44, .take 45]) (by kernel_rfl) ?_) | (refine WS_guard rfl ?_ ?_ <;> intro hg) | (refine WD_guard rfl rfl ?_ ?_ <;> intro hg) | (refine V_cond_t (by first | rfl | assumption) ?_) | (refine V_cond_f (by first | rfl | assumption) ?_) | (refine V_cond ?_ ?_ <;> intro hc <;> try (cases hc; done)))
    refine WS_call (Check_w (ha2.ext e2)) ?_
    rintro _ H3 ⟨rfl, e3⟩
    repeat' (first | (first | refine V_seq ?_ | refine V_region ?_ | refine WS_nil ?_ | refine S_normal ?_ | refine V_block ?_ | refine B_normal ?_ | refine V_skip ?_ | refine V_exit ?_ | refine V_ret ?_ | refine S_exit ?_ | refine S_ret ?_ | refine B_exit ?_ | refine B_ret ?_ | refine B_pass rfl ?_ | refine C_normal ?_ | refine C_exit ?_ | refine C_ret ?_ | refine WS_off rfl (by first | rfl | assumption) ?_ | refine WS_on rfl (by first | rfl | assumption) ?_ | refine WS_move ?_ | refine WS_assign ?_ | refine WS_pick_t (by first | rfl | assumption) ?_ | refine WS_pick_f (by first | rfl | assumption) ?_ | refine WS_isnil ?_ | refine WS_notnil ?_ | refine WS_neq_same ?_ | refine WS_eql_same ?_ | refine WS_streq ?_ | refine WS_strne ?_ | refine WS_booleq ?_ | refine WS_boolne ?_ | refine WS_off_undef rfl ?_ | refine WD_off_undef rfl rfl ?_ | refine WS_cmp rfl ?_ | refine WS_addi (by omega) ?_ | refine WS_subi (by omega) ?_ | refine WS_arith rfl ?_ | refine WS_not ?_ | refine WS_neg ?_ | refine WS_convert ?_ | refine WS_len_slice ?_ | refine WS_len_string ?_ | refine WS_fieldAddr ?_ | refine WS_load ?_ | refine WS_load_agg ?_ | refine WS_box_agg rfl ?_ | refine WS_box rfl ?_ | refine WS_makeFunc ?_ | refine WS_extract ?_ | refine WS_field ?_ | refine WS_build ?_ | refine WS_zero ?_ | refine WS_shift (by first | decide | omega) rfl ?_ | refine WS_strcmp rfl ?_ | refine WS_indexAddr (by first | decide | omega) ?_ | refine WS_alloc ?_ | refine WS_store rfl ?_ | refine WS_buildSlice (by decide) rfl rfl (by simp [Value.cells]) ?_ | refine WDK_go ?_ | refine WDT_go ?_ | refine WD_nil ?_ | refine WD_take_off rfl rfl (by first | rfl | assumption) ?_ | refine WD_load rfl ?_ | refine WD_load_on rfl rfl (by first | rfl | assumption) ?_ | refine WD_load_agg rfl ?_ | refine WD_load_agg_on rfl rfl (by first | rfl | assumption) ?_ | refine WD_take rfl rfl ?_ | refine WD_take_on rfl rfl (by first | rfl | assumption) rfl ?_ | refine WD_drop rfl rfl ?_ | refine WD_filt rfl ?_ | refine Filt_drop rfl ?_ | refine Filt_keep rfl ?_ | refine Filt_nil ?_ | refine WD_one rfl ?_ | refine WD_virt rfl rfl ?_ | refine V_draw (id := 18) (plan := [.take 0, .take 1, .take 2, .take 3, .take 4, .take 5, .take 6, .take 7, .take 8, .take 9, .virt 10, .one 11, .one 12, .one 13]) (by kernel_rfl) ?_ | refine V_draw (id := 19) (plan := [.take 0, .take 1, .take 2, .take 3, .take 4, .take 5, .take 6, .take 7, .take 8, .take 9, .take 10, .take 11, .take 12, .take 13, .take 14, .take 15, .take 16, .take 17, .take 18, .take 19, .take 20, .take 21, .take 22, .take 23, .take 24, .take 25, .take 26, .take 27, .take 28, .take 29, .take 30, .take 31, .take 32, .take 33, .take 34, .take 35, .take 36, .take 37, .take 38, .take 39, .take 40, .take 41, .take 42, .take 43, .take 44, .take 45]) (by kernel_rfl) ?_) | (refine WS_guard rfl ?_ ?_ <;> intro hg) | (refine WD_guard rfl rfl ?_ ?_ <;> intro hg) | (refine V_cond_t (by first | rfl | assumption) ?_) | (refine V_cond_f (by first | rfl | assumption) ?_) | (refine V_cond ?_ ?_ <;> intro hc <;> try (cases hc; done)))
    · exact retK_1 (by simp) (.inr rfl)
    · simp at hc; exact absurd hc hck
set_option maxRecDepth 100000 in
theorem mat_two {h : IHp} {n : Nat} {cs : List Value} (hd : IRd Try.prog h (n + 3) 53 cs) : ∃ x : Int × List Nat, MatV h (.agg cs.toArray) x.1 x.2 := by
  have h1 := mat_of hd
  clear hd
  obtain ⟨N, xs, hm⟩ := h1
  exact ⟨(N, xs), hm⟩
end Go.Ideal
