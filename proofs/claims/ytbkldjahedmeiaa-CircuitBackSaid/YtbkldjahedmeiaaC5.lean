/- Part 5 of what the proof stands on: an interpreter over an ideal memory that is proved sound, steps over it, and contracts of the functions that are called. No condition: no law is claimed here. -/
import Derived.Test.YtbkldjahedmeiaaC4
import Derived.Carry
import Derived.OpenShut
-- Cg
set_option linter.unusedSimpArgs false
set_option linter.unusedVariables false
namespace Go.Ideal
open Go Go.Proofs
set_option maxHeartbeats 8000000 in
theorem fault_spec (o : OpD) (a : Option Addr) (l c : Nat) (q bits : Int) (cv : Option Addr) (cl cc : Nat) (hb : 0 ≤ bits ∧ bits ≤ 64) (hm : o.mask < 2 ^ 64) (hv : o.value < 2 ^ 64) (h : IHp) (hs : SlIs h a l c (ints o.qs)) (hc63 : c < 2 ^ 63) (hsp : SpotOk a c) :
    EvX Try.prog 99 [.agg [.int .i64 q, .int .i64 bits, .slice cv cl cc].toArray, .agg (o.cells a l c).toArray].toArray h (fun v h' => v = .int .i64 (faultS o q bits) ∧ Ext h h') := by
  have hlen : o.qs.length = l := by have := hs.1; rwa [ints_len] at this
  have hlc : l ≤ c := hs.2.1
  refine EvX_of Try.func99 rfl (by show 2 ≤ 142; decide) ?_
  unfold OpD.cells
  repeat (first | refine V_seq ?_ | refine V_region ?_ | refine WS_nil ?_ | refine S_normal ?_ | refine WS_move ?_ | refine WS_assign ?_ | refine WS_cmp rfl ?_ | refine WS_fieldAddr ?_ | refine WS_load ?_ | refine WS_box_agg rfl ?_)
  refine WS_gen ?_
  intro H hH
  obtain ⟨r, hr⟩ : ∃ r, r = (h.push (.cells [.int .i64 q, .int .i64 bits, .slice cv cl cc] 24 true)).fresh := ⟨_, rfl⟩
  have o2 : ObjIs H h.fresh [.int .i64 q, .int .i64 bits, .slice cv cl cc] 24 true := hH ▸ inferInstance
  have o3 : ObjIs H r [.int .i64 o.kind, .string o.name, .slice a l c, .int .i64 o.bit, .bool o.iff, .int .u64 o.mask, .int .u64 o.value] 44 true := hr ▸ hH ▸ inferInstance
  have eH : Ext h H := hH ▸ (Ext.push _ _).push' _
  rw [← hr]
  clear hH hr
  generalize h.fresh = p at *
  refine WS_cut (fun s' h' => Get s' 5 (.bool (knownS o)) ∧ Get s' 2 (.pointer (some (ad p 0))) ∧ Get s' 3 (.pointer (some (ad r 0))) ∧ h' = H) ?_ ?_
  · repeat' (first | refine WS_nil ?_ | refine WS_off rfl (by first | rfl | assumption) ?_ | refine WS_on rfl (by first | rfl | assumption) ?_ | refine WS_move ?_ | refine WS_assign ?_ | refine WS_pick_t (by first | rfl | assumption) ?_ | refine WS_pick_f (by first | rfl | assumption) ?_ | refine WS_cmp rfl ?_ | refine WS_fieldAddr ?_ | refine WS_load ?_ | (refine WS_guard rfl ?_ ?_ <;> intro hg))
    all_goals exact ⟨get_as (by simp only [knownS, *] <;> rfl), inferInstance, inferInstance, rfl⟩
  rintro s H ⟨g5, g2, g3, rfl⟩
  repeat (first | refine V_seq ?_ | refine V_region ?_ | refine WS_nil ?_ | refine S_normal ?_ | refine WS_assign ?_ | refine WS_cmp rfl ?_ | refine WS_arith rfl ?_ | refine WS_fieldAddr ?_ | refine WS_load ?_ | refine WS_shift (by first | decide | omega) rfl ?_)
  refine V_cut (fun s' h' => Get s' 6 (.int .u64 (bmS bits : Nat)) ∧ Get s' 5 (.bool (knownS o)) ∧ Get s' 2 (.pointer (some (ad p 0))) ∧ Get s' 3 (.pointer (some (ad r 0))) ∧ h' = H) ?_ ?_
  · refine V_cond ?_ ?_ <;> intro hk
    · repeat' (first | refine V_region ?_ | refine WS_nil ?_ | refine C_normal ?_ | refine WS_assign ?_)
      exact ⟨get_as (congrArg (Value.int .u64) (bm_64 (by simpa using hk))), inferInstance, inferInstance, inferInstance, rfl⟩
    · repeat' (first | refine V_skip ?_ | refine C_normal ?_)
      exact ⟨get_as (congrArg (Value.int .u64) (bm_lt hb.1 hb.2 (by simpa using hk))), inferInstance, inferInstance, inferInstance, rfl⟩
  rintro s H ⟨g6, g5, g2, g3, rfl⟩
  repeat (first | refine V_seq ?_ | refine V_region ?_ | refine WS_nil ?_ | refine S_normal ?_ | refine V_block ?_ | refine WS_move ?_ | refine WS_assign ?_ | refine WS_not ?_)
  refine V_cut (fun s' h' => Get s' 32 (.bool (bad5 o bits)) ∧ Get s' 2 (.pointer (some (ad p 0))) ∧ Get s' 3 (.pointer (some (ad r 0))) ∧ h' = H) ?_ ?_
  · repeat' (first | refine V_seq ?_ | refine V_region ?_ | refine WS_nil ?_ | refine S_normal ?_ | refine V_skip ?_ | refine C_normal ?_ | refine WS_off rfl (by first | rfl | assumption) ?_ | refine WS_on rfl (by first | rfl | assumption) ?_ | refine WS_move ?_ | refine WS_assign ?_ | refine WS_pick_t (by first | rfl | assumption) ?_ | refine WS_pick_f (by first | rfl | assumption) ?_ | refine WS_off_undef rfl ?_ | refine WS_cmp rfl ?_ | refine WS_arith rfl ?_ | refine WS_not ?_ | refine WS_fieldAddr ?_ | refine WS_load ?_ | (refine WS_guard rfl ?_ ?_ <;> intro hg) | refine V_cond_t (by first | rfl | assumption) ?_ | refine V_cond_f (by first | rfl | assumption) ?_ | (refine V_cond ?_ ?_ <;> intro hc <;> try (cases hc; done)))
    all_goals exact ⟨get_as (by simp_all [bad5, anS] <;> rfl), inferInstance, inferInstance, rfl⟩
  rintro s H ⟨g32, g2, g3, rfl⟩
  skip
  refine V_cond ?_ ?_ <;> intro h5
  · repeat' (first | refine V_seq ?_ | refine V_region ?_ | refine WS_nil ?_ | refine S_normal ?_ | refine V_ret ?_ | refine S_ret ?_ | refine B_ret ?_ | refine WS_assign ?_)
    refine retK_1 ⟨?_, eH⟩ (.inr rfl)
    rw [faultS, ← bad_same hm hv hb, h5]; rfl
  repeat (first | refine V_seq ?_ | refine V_region ?_ | refine WS_move ?_ | refine WS_cmp rfl ?_ | refine WS_fieldAddr ?_ | refine WS_load ?_)
  refine WS_cut (fun s' h' => Get s' 66 (.bool (!decide (o.kind = 1) && !beqS o.name ⟨#[]⟩)) ∧ Get s' 2 (.pointer (some (ad p 0))) ∧ Get s' 3 (.pointer (some (ad r 0))) ∧ h' = H) ?_ ?_
  · repeat' (first | refine WS_nil ?_ | refine WS_off rfl (by first | rfl | assumption) ?_ | refine WS_on rfl (by first | rfl | assumption) ?_ | refine WS_assign ?_ | refine WS_pick_t (by first | rfl | assumption) ?_ | refine WS_pick_f (by first | rfl | assumption) ?_ | refine WS_strne ?_ | refine WS_fieldAddr ?_ | refine WS_load ?_ | (refine WS_guard rfl ?_ ?_ <;> intro hg))
    all_goals exact ⟨get_as (by simp only [*] <;> rfl), inferInstance, inferInstance, rfl⟩
  rintro s H ⟨g66, g2, g3, rfl⟩
  skip
  refine V_cond ?_ ?_ <;> intro h41
  · repeat' (first | refine V_seq ?_ | refine V_region ?_ | refine WS_nil ?_ | refine S_normal ?_ | refine V_skip ?_ | refine V_ret ?_ | refine S_ret ?_ | refine B_ret ?_ | refine WS_assign ?_ | refine V_cond_t (by first | rfl | assumption) ?_)
    refine retK_1 ⟨?_, eH⟩ (.inr rfl)
    rw [faultS, ← bad_same hm hv hb, h5, bad4, h41]; rfl
  repeat (first | refine V_region ?_ | refine WS_move ?_ | refine WS_cmp rfl ?_ | refine WS_fieldAddr ?_ | refine WS_load ?_)
  refine WS_cut (fun s' h' => Get s' 66 (.bool (!decide (o.kind = 2) && !decide (o.bit = 0))) ∧ Get s' 2 (.pointer (some (ad p 0))) ∧ Get s' 3 (.pointer (some (ad r 0))) ∧ h' = H) ?_ ?_
  · repeat' (first | refine WS_nil ?_ | refine WS_off rfl (by first | rfl | assumption) ?_ | refine WS_on rfl (by first | rfl | assumption) ?_ | refine WS_assign ?_ | refine WS_pick_t (by first | rfl | assumption) ?_ | refine WS_pick_f (by first | rfl | assumption) ?_ | refine WS_cmp rfl ?_ | refine WS_fieldAddr ?_ | refine WS_load ?_ | (refine WS_guard rfl ?_ ?_ <;> intro hg))
    all_goals exact ⟨get_as (by simp only [*] <;> rfl), inferInstance, inferInstance, rfl⟩
  rintro s H ⟨g66, g2, g3, rfl⟩
  skip
  refine V_cond ?_ ?_ <;> intro h42
  · repeat' (first | refine V_seq ?_ | refine V_region ?_ | refine WS_nil ?_ | refine S_normal ?_ | refine V_ret ?_ | refine S_ret ?_ | refine B_ret ?_ | refine WS_assign ?_)
    refine retK_1 ⟨?_, eH⟩ (.inr rfl)
    rw [faultS, ← bad_same hm hv hb, h5, bad4, h41, h42]; rfl
  have hsb : ¬ shapeBad o bits = true := by rw [← bad_same hm hv hb, h5, bad4, h41, h42]; decide
  repeat (first | refine V_seq ?_ | refine V_region ?_ | refine WS_nil ?_ | refine S_normal ?_ | refine B_normal ?_ | refine V_skip ?_ | refine WS_assign ?_ | refine WS_cmp rfl ?_ | refine WS_fieldAddr ?_ | refine WS_load ?_)
  refine V_cut (fun s' h' => ∃ H2, Get s' 7 (.int .i64 (nS o)) ∧ (o.kind = 1 → arityS o.name ≠ 0) ∧ Get s' 2 (.pointer (some (ad p 0))) ∧ Get s' 3 (.pointer (some (ad r 0))) ∧ h' = H2 ∧ Ext H H2) ?_ ?_
  · refine V_cond ?_ ?_ <;> intro hk
    · repeat' (first | refine V_seq ?_ | refine V_region ?_ | refine WS_fieldAddr ?_ | refine WS_load ?_)
      refine WS_call (gateArity_spec o.name _) ?_
      rintro _ H2 ⟨rfl, e2⟩
      have hk1 : o.kind = 1 := by simpa using hk
      repeat' (first | refine V_seq ?_ | refine V_region ?_ | refine WS_nil ?_ | refine S_normal ?_ | refine V_skip ?_ | refine V_ret ?_ | refine S_ret ?_ | refine C_normal ?_ | refine C_ret ?_ | refine WS_move ?_ | refine WS_assign ?_ | refine WS_cmp rfl ?_ | (refine V_cond ?_ ?_ <;> intro hc <;> try (cases hc; done)))
      · refine retK_1 ⟨?_, eH.trans e2⟩ (.inr rfl)
        rw [faultS, if_neg hsb, if_pos ⟨hk1, by simpa using hc⟩]
      · exact ⟨H2, get_as (by simp [nS, hk1]), fun _ => by simpa using hc, inferInstance, inferInstance, rfl, e2⟩
    · repeat' (first | refine V_skip ?_ | refine C_normal ?_)
      have hk1 : ¬ o.kind = 1 := by simpa using hk
      exact ⟨H, get_as (by simp [nS, hk1]), fun h => absurd h hk1, inferInstance, inferInstance, rfl, Ext.refl _⟩
  rintro s H2 ⟨_, g7, hk1, g2, g3, rfl, e2⟩
  have p2 := ObjIs.ext (e := e2) (i := o2)
  have p3 := ObjIs.ext (e := e2) (i := o3)
  have eH2 := eH.trans e2
  clear e2 eH o2 o3
  have hk2 : ¬ (o.kind = 1 ∧ arityS o.name = 0) := fun hh => hk1 hh.1 hh.2
  repeat (first | refine V_seq ?_ | refine V_region ?_ | refine WS_nil ?_ | refine S_normal ?_ | refine WS_move ?_ | refine WS_cmp rfl ?_ | refine WS_len_slice ?_ | refine WS_fieldAddr ?_ | refine WS_load ?_)
  refine V_cond ?_ ?_ <;> intro hn
  · have hn1 : (o.qs.length : Int) ≠ nS o := by rw [hlen]; simpa using hn
    repeat' (first | refine V_seq ?_ | refine V_region ?_ | refine WS_nil ?_ | refine S_normal ?_ | refine V_ret ?_ | refine S_ret ?_ | refine WS_assign ?_)
    refine retK_1 ⟨?_, eH2⟩ (.inr rfl)
    rw [faultS, if_neg hsb, if_neg hk2, if_pos hn1]
  have hn2 : ¬ (o.qs.length : Int) ≠ nS o := by rw [hlen]; simpa using hn
  repeat (first | refine V_seq ?_ | refine V_region ?_ | refine WS_nil ?_ | refine S_normal ?_ | refine V_block ?_ | refine V_skip ?_ | refine WS_move ?_ | refine WS_len_slice ?_ | refine WS_fieldAddr ?_ | refine WS_load ?_)
  refine V_loop (fun d s h' => ∃ i : Int, d = (l - i).toNat ∧ 0 ≤ i ∧ i ≤ l ∧ Get s 99 (.int .i64 i) ∧ Get s 98 (.int .i64 l) ∧ Get s 97 (.slice a l c) ∧ Get s 2 (.pointer (some (ad p 0))) ∧ Get s 3 (.pointer (some (ad r 0))) ∧ h' = H2 ∧ (o.qs.take i.toNat).any (outS q) = false) l
    ⟨0, by omega, by omega, by omega, inferInstance, inferInstance, inferInstance, inferInstance, inferInstance, rfl, by simp⟩ ?_
  rintro d s H2 ⟨i, rfl, hi0, hi1, g99, g98, g97, g2, g3, rfl, hany⟩
  repeat (first | refine V_seq ?_ | refine V_region ?_ | refine WS_nil ?_ | refine S_normal ?_ | refine WS_cmp rfl ?_)
  refine V_cond ?_ ?_ <;> intro hi
  · have hil : i < l := by simpa using hi
    obtain ⟨b, v, rfl, hv1, c1⟩ := (hs.ext eH2).at hi0 hil
    obtain ⟨x, rfl, hx⟩ := ints_get hv1
    have hbnd : 0 ≤ i ∧ i < (l : Int) := ⟨hi0, hil⟩
    repeat (first | refine V_seq ?_ | refine V_region ?_ | refine WS_nil ?_ | refine S_normal ?_ | refine V_block ?_ | refine V_skip ?_ | refine WS_move ?_ | refine WS_assign ?_ | refine WS_cmp rfl ?_ | refine WS_load ?_ | refine WS_indexAddr (by first | decide | omega) ?_)
    refine WS_cut (fun s' h' => Get s' 110 (.bool (outS q x)) ∧ Get s' 99 (.int .i64 i) ∧ Get s' 98 (.int .i64 l) ∧ Get s' 97 (.slice (some b) l c) ∧ Get s' 2 (.pointer (some (ad p 0))) ∧ Get s' 3 (.pointer (some (ad r 0))) ∧ h' = H2) ?_ ?_
    · repeat' (first | refine WS_nil ?_ | refine WS_off rfl (by first | rfl | assumption) ?_ | refine WS_on rfl (by first | rfl | assumption) ?_ | refine WS_move ?_ | refine WS_pick_t (by first | rfl | assumption) ?_ | refine WS_pick_f (by first | rfl | assumption) ?_ | refine WS_cmp rfl ?_ | refine WS_fieldAddr ?_ | refine WS_load ?_ | (refine WS_guard rfl ?_ ?_ <;> intro hg))
      all_goals exact ⟨get_as (by rw [outS, hg]; rfl), inferInstance, inferInstance, inferInstance, inferInstance, inferInstance, rfl⟩
    rintro s H2 ⟨g110, g99, g98, g97, g2, g3, rfl⟩
    repeat' (first | refine V_seq ?_ | refine V_region ?_ | refine WS_nil ?_ | refine S_normal ?_ | refine B_normal ?_ | refine V_skip ?_ | refine V_ret ?_ | refine S_ret ?_ | refine B_ret ?_ | refine WS_move ?_ | refine WS_assign ?_ | refine WS_addi (by omega) ?_ | (refine V_cond ?_ ?_ <;> intro hc <;> try (cases hc; done)))
    · refine retK_1 ⟨?_, eH2⟩ (.inr rfl)
      rw [faultS, if_neg hsb, if_neg hk2, if_neg hn2, if_pos (any_at hx hc)]
    · refine ⟨_, ?_, i + 1, rfl, by omega, by omega, inferInstance, inferInstance, inferInstance, inferInstance, inferInstance, rfl, ?_⟩
      · omega
      · rw [show (i + 1).toNat = i.toNat + 1 by omega]; exact any_take hany hx hc
  have hil : i = l := by simp at hi; omega
  rw [hil, Int.toNat_natCast, List.take_of_length_le (by omega)] at hany
  repeat (first | refine V_seq ?_ | refine V_region ?_ | refine S_normal ?_ | refine V_exit ?_ | refine S_exit ?_ | refine B_exit ?_ | refine WS_move ?_ | refine WS_cmp rfl ?_ | refine WS_fieldAddr ?_ | refine WS_load ?_)
  refine WS_cut (fun s' h' => Get s' 126 (.bool (bitBad o bits)) ∧ Get s' 3 (.pointer (some (ad r 0))) ∧ h' = H2) ?_ ?_
  · repeat' (first | refine WS_nil ?_ | refine WS_off rfl (by first | rfl | assumption) ?_ | refine WS_on rfl (by first | rfl | assumption) ?_ | refine WS_move ?_ | refine WS_pick_t (by first | rfl | assumption) ?_ | refine WS_pick_f (by first | rfl | assumption) ?_ | refine WS_off_undef rfl ?_ | refine WS_cmp rfl ?_ | refine WS_fieldAddr ?_ | refine WS_load ?_ | (refine WS_guard rfl ?_ ?_ <;> intro hg))
    all_goals exact ⟨get_as (by simp only [bitBad, *] <;> rfl), inferInstance, rfl⟩
  rintro s H2 ⟨g126, g3, rfl⟩
  skip
  refine V_cond ?_ ?_ <;> intro hbb
  · repeat' (first | refine V_seq ?_ | refine V_region ?_ | refine WS_nil ?_ | refine S_normal ?_ | refine V_ret ?_ | refine S_ret ?_ | refine WS_assign ?_)
    refine retK_1 ⟨?_, eH2⟩ (.inr rfl)
    rw [faultS, if_neg hsb, if_neg hk2, if_neg hn2, if_neg (by rw [hany]; decide), if_pos hbb]
  repeat (first | refine V_seq ?_ | refine V_region ?_ | refine WS_nil ?_ | refine S_normal ?_ | refine V_block ?_ | refine V_skip ?_ | refine WS_move ?_ | refine WS_len_slice ?_ | refine WS_fieldAddr ?_ | refine WS_load ?_)
  refine V_loop (fun d s h' => ∃ i : Int, d = (l - i).toNat ∧ 0 ≤ i ∧ i ≤ l ∧ Get s 130 (.int .i64 i) ∧ Get s 129 (.int .i64 l) ∧ Get s 128 (.slice a l c) ∧ Get s 3 (.pointer (some (ad r 0))) ∧ h' = H2 ∧ dupK o.qs i.toNat = false) l
    ⟨0, by omega, by omega, by omega, inferInstance, inferInstance, inferInstance, inferInstance, rfl, rfl⟩ ?_
  rintro d s H2 ⟨i, rfl, hi0, hi1, g130, g129, g128, g3, rfl, hdup⟩
  repeat (first | refine V_seq ?_ | refine V_region ?_ | refine WS_nil ?_ | refine S_normal ?_ | refine WS_cmp rfl ?_)
  refine V_cond ?_ ?_ <;> intro hi
  · have hil : i < l := by simpa using hi
    obtain ⟨b, v, rfl, hv1, c1⟩ := (hs.ext eH2).at hi0 hil
    obtain ⟨x, rfl, hx⟩ := ints_get hv1
    have hbnd : 0 ≤ i ∧ i < (l : Int) := ⟨hi0, hil⟩
    have hspot : b.spot = none := by
      rcases hsp b rfl with h1 | h1
      · exact h1
      · omega
    repeat (first | refine V_seq ?_ | refine V_region ?_ | refine WS_nil ?_ | refine S_normal ?_ | refine V_block ?_ | refine V_skip ?_ | refine WS_move ?_ | refine WS_assign ?_ | refine WS_fieldAddr ?_ | refine WS_load ?_ | refine WS_indexAddr (by first | decide | omega) ?_)
    refine WS_slice_hi hspot (by omega) ?_
    repeat (refine WS_move ?_)
    have hsl : SlIs H2 (some (ad b.block b.off)) i.toNat c (ints (o.qs.take i.toNat)) := by
      obtain ⟨s1, s2, s3⟩ := hs.ext eH2
      refine ⟨by simp [ints]; omega, by omega, ?_⟩
      simp only at s3 ⊢
      have := row_take s3 (show i.toNat ≤ l by omega)
      rw [this, ints, ints, List.map_take]
    refine WS_call (Contains_spec _ _ _ _ x _ hsl (by omega)) ?_
    rintro _ _ ⟨rfl, rfl⟩
    repeat' (first | refine V_seq ?_ | refine V_region ?_ | refine WS_nil ?_ | refine S_normal ?_ | refine B_normal ?_ | refine V_skip ?_ | refine V_ret ?_ | refine S_ret ?_ | refine B_ret ?_ | refine WS_move ?_ | refine WS_assign ?_ | refine WS_addi (by omega) ?_ | (refine V_cond ?_ ?_ <;> intro hc <;> try (cases hc; done)))
    · have hd : dupK o.qs (i.toNat + 1) = true := by
        rw [dupK, getD_at hx, Bool.or_eq_true]; exact .inr hc
      refine retK_1 ⟨?_, eH2⟩ (.inr rfl)
      rw [faultS, if_neg hsb, if_neg hk2, if_neg hn2, if_neg (by rw [hany]; decide), if_neg (by rw [hbb]; decide), if_pos (dupK_more hd _ (by omega))]
    · refine ⟨_, ?_, i + 1, rfl, by omega, by omega, inferInstance, inferInstance, inferInstance, inferInstance, rfl, ?_⟩
      · omega
      · rw [show (i + 1).toNat = i.toNat + 1 by omega, dupK, hdup, getD_at hx, hc]; rfl
  have hil : i = l := by simp at hi; omega
  repeat' (first | refine V_seq ?_ | refine V_region ?_ | refine WS_nil ?_ | refine S_normal ?_ | refine V_exit ?_ | refine V_ret ?_ | refine S_exit ?_ | refine B_exit ?_ | refine WS_assign ?_)
  refine retK_1 ⟨?_, eH2⟩ (.inr rfl)
  rw [hil, Int.toNat_natCast, ← hlen] at hdup
  rw [faultS, if_neg hsb, if_neg hk2, if_neg hn2, if_neg (by rw [hany]; decide), if_neg (by rw [hbb]; decide), if_neg (by rw [hdup]; decide)]
instance : CallIs Try.prog 99 := .of Try.func99 rfl rfl
end Go.Ideal

-- Ch
set_option linter.unusedSimpArgs false
set_option linter.unusedVariables false
namespace Go.Ideal
open Go Go.Proofs
/-! ### Check -/
def rangeBad (c : CircD) : Bool := decide (c.qubits < 0) || decide (64 < c.qubits) || decide (c.bits < 0) || decide (64 < c.bits)
theorem rangeBad_no {c : CircD} (h : rangeBad c = false) : 0 ≤ c.qubits ∧ c.qubits ≤ 64 ∧ 0 ≤ c.bits ∧ c.bits ≤ 64 := by
  simp [rangeBad] at h; omega
def chkK (q b : Int) : List OpD → Int → Int → Int × Int
  | [], _, _ => (0, 0)
  | o :: os, i, n => if faultS o q b ≠ 0 then (i, faultS o q b) else if 36 < n + halvesO o then (i, 116) else chkK q b os (i + 1) (n + halvesO o)
def checkC (c : CircD) : Int × Int :=
  if rangeBad c = true then (0, 2) else if 4096 < c.ops.length then (0, 115) else chkK c.qubits c.bits c.ops 0 0
theorem drop_at {α : Type} {l : List α} {i : Nat} {x : α} (h : l[i]? = some x) : l.drop i = x :: l.drop (i + 1) := by
  have hi := (List.getElem?_eq_some_iff.1 h).1
  rw [List.drop_eq_getElem_cons hi]
  rw [List.getElem?_eq_getElem hi] at h
  rw [Option.some.inj h]
set_option maxHeartbeats 4000000 in
theorem circCheck_spec {c : CircD} {v : Value} {h : IHp} (hv : CircV h v c) : EvX Try.prog 53 [v].toArray h (fun v h' => v = .tuple [.int .i64 (checkC c).1, .int .i64 (checkC c).2].toArray ∧ Ext h h') := by
  obtain ⟨a, l, k, rfl, hops⟩ := hv
  have hlen : c.ops.length = l := hops.1
  have hlk : l ≤ k := hops.2.1
  refine EvX_of Try.func53 rfl (by show 1 ≤ 53; decide) ?_
  repeat (first | refine V_seq ?_ | refine V_region ?_ | refine WS_nil ?_ | refine S_normal ?_ | refine WS_move ?_ | refine WS_assign ?_ | refine WS_cmp rfl ?_ | refine WS_fieldAddr ?_ | refine WS_load ?_ | refine WS_box_agg rfl ?_)
  refine WS_gen ?_
  intro H hH
  have o1 : ObjIs H h.fresh [.int .i64 c.qubits, .int .i64 c.bits, .slice a l k] 24 true := hH ▸ inferInstance
  have eH : Ext h H := hH ▸ Ext.push _ _
  clear hH
  generalize h.fresh = p at *
  refine WS_cut (fun s' h' => Get s' 25 (.bool (rangeBad c)) ∧ Get s' 1 (.pointer (some (ad p 0))) ∧ h' = H) ?_ ?_
  · repeat' (first | refine WS_nil ?_ | refine WS_off rfl (by first | rfl | assumption) ?_ | refine WS_on rfl (by first | rfl | assumption) ?_ | refine WS_move ?_ | refine WS_pick_t (by first | rfl | assumption) ?_ | refine WS_pick_f (by first | rfl | assumption) ?_ | refine WS_cmp rfl ?_ | refine WS_fieldAddr ?_ | refine WS_load ?_ | (refine WS_guard rfl ?_ ?_ <;> intro hg))
    all_goals exact ⟨get_as (by simp only [rangeBad, *] <;> rfl), inferInstance, rfl⟩
  rintro s H ⟨g25, g1, rfl⟩
  skip
  refine V_cond ?_ ?_ <;> intro hr
  · repeat' (first | refine V_seq ?_ | refine V_region ?_ | refine WS_nil ?_ | refine S_normal ?_ | refine V_ret ?_ | refine S_ret ?_ | refine WS_assign ?_)
    refine retK_2 ⟨?_, eH⟩ (.inr rfl)
    rw [checkC, if_pos hr]
  have hrn : ¬ rangeBad c = true := by rw [hr]; decide
  obtain ⟨hq0, hq1, hb0, hb1⟩ := rangeBad_no hr
  repeat (first | refine V_seq ?_ | refine V_region ?_ | refine WS_nil ?_ | refine S_normal ?_ | refine V_skip ?_ | refine WS_cmp rfl ?_ | refine WS_len_slice ?_ | refine WS_fieldAddr ?_ | refine WS_load ?_)
  refine V_cond ?_ ?_ <;> intro hm
  · repeat' (first | refine V_seq ?_ | refine V_region ?_ | refine WS_nil ?_ | refine S_normal ?_ | refine V_ret ?_ | refine S_ret ?_ | refine WS_assign ?_)
    refine retK_2 ⟨?_, eH⟩ (.inr rfl)
    rw [checkC, if_neg hrn, if_pos (by simp at hm; omega)]
  have hmn : ¬ 4096 < c.ops.length := by simp at hm; omega
  repeat (first | refine V_seq ?_ | refine V_region ?_ | refine WS_nil ?_ | refine S_normal ?_ | refine V_block ?_ | refine V_skip ?_ | refine WS_move ?_ | refine WS_assign ?_ | refine WS_len_slice ?_ | refine WS_fieldAddr ?_ | refine WS_load ?_)
  refine V_loop (fun d s h' => ∃ i n : Int, d = (l - i).toNat ∧ 0 ≤ i ∧ i ≤ l ∧ 0 ≤ n ∧ n ≤ 36 ∧ Get s 33 (.int .i64 i) ∧ Get s 32 (.int .i64 l) ∧ Get s 31 (.slice a l k) ∧ Get s 4 (.int .i64 n) ∧ Get s 1 (.pointer (some (ad p 0))) ∧ Ext H h' ∧ chkK c.qubits c.bits c.ops 0 0 = chkK c.qubits c.bits (c.ops.drop i.toNat) i n) l
    ⟨0, 0, by omega, by omega, by omega, by omega, by omega, inferInstance, inferInstance, inferInstance, inferInstance, inferInstance, Ext.refl _, rfl⟩ ?_
  rintro d s h' ⟨i, n, rfl, hi0, hi1, hn0, hn1, g33, g32, g31, g4, g1, e', hK⟩
  repeat (first | refine V_seq ?_ | refine V_region ?_ | refine WS_nil ?_ | refine S_normal ?_ | refine WS_cmp rfl ?_)
  refine V_cond ?_ ?_ <;> intro hi
  · have hil : i < l := by simpa using hi
    obtain ⟨b, o, cells, rfl, ho, hrow, hC⟩ := ((hops.ext eH).ext e').at hi0 hil
    obtain ⟨qa, ql, qc, rfl, hs, hmk, hvl, hc63, hsp⟩ := hC
    unfold OpD.cells at hrow
    have hbnd : 0 ≤ i ∧ i < (l : Int) := ⟨hi0, hil⟩
    rw [drop_at ho, chkK] at hK
    repeat (first | refine V_seq ?_ | refine V_region ?_ | refine WS_nil ?_ | refine S_normal ?_ | refine V_block ?_ | refine V_skip ?_ | refine WS_move ?_ | refine WS_assign ?_ | refine WS_load_agg ?_ | refine WS_indexAddr (by first | decide | omega) ?_ | refine WS_alloc ?_ | refine WS_store rfl ?_)
    refine WS_gen ?_
    intro H1 hH1
    have o6 : ObjIs H1 h'.fresh [.int .i64 o.kind, .string o.name, .slice qa ql qc, .int .i64 o.bit, .bool o.iff, .int .u64 o.mask, .int .u64 o.value] 44 true := hH1 ▸ inferInstance
    have e1 : Ext h' H1 := hH1 ▸ (Ext.push _ _).putObj (Nat.le_refl _)
    have x1 : Ext H H1 := e'.trans e1
    clear hH1
    generalize h'.fresh = r at *
    repeat (refine WS_load_agg ?_)
    refine WS_call (fault_spec o qa ql qc c.qubits c.bits (some b) l k ⟨hb0, hb1⟩ hmk hvl _ (hs.ext e1) hc63 hsp) ?_
    rintro _ H2 ⟨rfl, e2⟩
    have x2 := x1.trans e2
    have o6' := ObjIs.ext (e := e2) (i := o6)
    clear e1 e2 x1 o6 e'
    repeat (first | refine V_seq ?_ | refine V_region ?_ | refine WS_nil ?_ | refine S_normal ?_ | refine WS_move ?_ | refine WS_assign ?_ | refine WS_cmp rfl ?_)
    refine V_cond ?_ ?_ <;> intro hf
    · have hf1 : faultS o c.qubits c.bits ≠ 0 := by simpa using hf
      repeat' (first | refine V_seq ?_ | refine V_region ?_ | refine WS_nil ?_ | refine S_normal ?_ | refine V_ret ?_ | refine S_ret ?_ | refine B_ret ?_ | refine WS_move ?_ | refine WS_assign ?_)
      refine retK_2 ⟨?_, eH.trans x2⟩ (.inr rfl)
      rw [checkC, if_neg hrn, if_neg hmn, hK, if_pos hf1]
    · have hf1 : ¬ faultS o c.qubits c.bits ≠ 0 := by simpa using hf
      repeat (first | refine V_seq ?_ | refine V_region ?_ | refine S_normal ?_ | refine V_skip ?_ | refine WS_move ?_ | refine WS_load_agg ?_)
      refine WS_call (halves_spec o qa ql qc _) ?_
      rintro _ H3 ⟨rfl, e3⟩
      have x3 := x2.trans e3
      have h01 := halvesO_01 o
      clear e3 x2 o6'
      repeat' (first | refine V_seq ?_ | refine V_region ?_ | refine WS_nil ?_ | refine S_normal ?_ | refine B_normal ?_ | refine V_skip ?_ | refine V_ret ?_ | refine S_ret ?_ | refine B_ret ?_ | refine WS_move ?_ | refine WS_assign ?_ | refine WS_cmp rfl ?_ | refine WS_addi (by omega) ?_ | (refine V_cond ?_ ?_ <;> intro hc <;> try (cases hc; done)))
      · refine retK_2 ⟨?_, eH.trans x3⟩ (.inr rfl)
        rw [checkC, if_neg hrn, if_neg hmn, hK, if_neg hf1, if_pos (by simpa using hc)]
      · have hc1 : ¬ 36 < n + halvesO o := by simpa using hc
        refine ⟨_, ?_, i + 1, n + halvesO o, rfl, by omega, by omega, by omega, by omega, inferInstance, inferInstance, inferInstance, inferInstance, inferInstance, x3, ?_⟩
        · omega
        · rw [hK, if_neg hf1, if_neg hc1, show (i + 1).toNat = i.toNat + 1 by omega]
  · have hil : i = l := by simp at hi; omega
    repeat' (first | refine V_seq ?_ | refine V_region ?_ | refine WS_nil ?_ | refine S_normal ?_ | refine V_exit ?_ | refine V_ret ?_ | refine S_exit ?_ | refine B_exit ?_ | refine WS_assign ?_)
    refine retK_2 ⟨?_, eH.trans e'⟩ (.inr rfl)
    rw [checkC, if_neg hrn, if_neg hmn, hK, List.drop_of_length_le (by omega)]; rfl
instance : CallIs Try.prog 53 := .of Try.func53 rfl rfl
instance : CallIs Try.prog 55 := .of Try.func55 rfl rfl
end Go.Ideal

-- Cia
set_option linter.unusedSimpArgs false
set_option linter.unusedVariables false
namespace Go.Ideal
open Go Go.Proofs Go.RowKit
theorem chk_ok {q b : Int} : ∀ (ops : List OpD) (i n : Int), (chkK q b ops i n).2 = 0 → ∀ o ∈ ops, faultS o q b = 0 := by
  intro ops
  induction ops with
  | nil => intro i n _ o ho; cases ho
  | cons o ops ih =>
    intro i n h o' ho'
    rw [chkK] at h
    split at h
    · rename_i hf; exact absurd h hf
    · rename_i hf
      split at h
      · cases h
      · rcases List.mem_cons.1 ho' with rfl | h2
        · exact Decidable.not_not.1 hf
        · exact ih _ _ h o' h2
theorem checkC_ok {c : CircD} (h : (checkC c).2 = 0) : rangeBad c = false ∧ c.ops.length ≤ 4096 ∧ ∀ o ∈ c.ops, faultS o c.qubits c.bits = 0 := by
  unfold checkC at h
  split at h
  · cases h
  · rename_i hr
    split at h
    · cases h
    · rename_i hm
      exact ⟨by simpa using hr, by omega, chk_ok _ _ _ h⟩
theorem fault_ok {o : OpD} {q b : Int} (h : faultS o q b = 0) : shapeBad o b = false ∧ ¬ (o.kind = 1 ∧ arityS o.name = 0) ∧ (o.qs.length : Int) = nS o ∧ o.qs.any (outS q) = false ∧ bitBad o b = false ∧ dupK o.qs o.qs.length = false := by
  unfold faultS at h
  split at h
  · cases h
  · rename_i h1
    split at h
    · cases h
    · rename_i h2
      split at h
      · cases h
      · rename_i h3
        split at h
        · cases h
        · rename_i h4
          split at h
          · cases h
          · rename_i h5
            split at h
            · cases h
            · rename_i h6
              exact ⟨by simpa using h1, h2, Decidable.not_not.1 h3, by simpa using h4, by simpa using h5, by simpa using h6⟩
end Go.Ideal

-- Bra
set_option linter.unusedSimpArgs false
set_option linter.unusedVariables false
namespace Go.Ideal
open Go Go.Proofs Go.RowKit
theorem wf_u64 {i : Int} (h : (Lit.int .u64 i).wf = true) : ∃ x : Nat, i = x ∧ x < 2 ^ 64 := by
  have := bounds_u64 h
  exact ⟨i.toNat, by omega, by omega⟩
theorem row_of {h : IHp} {b : Nat} : ∀ (n off : Nat) (f : Nat → Value), (∀ i, i < n → h.cell? b (off + i) = some (f i)) → h.row b off n = some ((List.range n).map f) := by
  intro n
  induction n with
  | zero => intro off f _; rfl
  | succ n ih =>
    intro off f hf
    have h0 := hf 0 (by omega)
    have h1 := ih (off + 1) (fun i => f (i + 1)) (fun i hi => by rw [show off + 1 + i = off + (i + 1) by omega]; exact hf (i + 1) (by omega))
    rw [Nat.add_zero] at h0
    simp only [IHp.row, h0, Option.bind_some, h1, List.range_succ_eq_map, List.map_cons, List.map_map]
    rfl
theorem row_one {h : IHp} {b off : Nat} {v : Value} (hr : h.row b off 1 = some [v]) : h.cell? b off = some v := by
  simp only [IHp.row, Option.bind_eq_some_iff] at hr
  obtain ⟨u, hu, vs, hvs, h3⟩ := hr
  have := Option.some.inj h3
  simp at this
  rw [hu, this.1]
theorem law_of_EvX {P : Program} {f : Nat} {args args' : Array Value} {w : World} (hP : okProg P = true) (h : EvX P f args (heapOf w) (fun v _ => v = .bool true)) (ha : RA RM0 args args') :
    Calls P f args' w fun e w' => e = .returned (.bool true) ∧ Below w.heap.size w w' := by
  unfold EvX at h
  obtain ⟨v, h', ⟨n, h1⟩, rfl⟩ := h
  exact law_of_ideal hP h1 ha
end Go.Ideal

-- Cka
set_option linter.unusedSimpArgs false
set_option linter.unusedVariables false
namespace Go.Ideal
open Go Go.Proofs Go.RowKit
set_option maxRecDepth 10000 in
theorem SlIs_ints {h : IHp} {n : Nat} {v : Value} (hd : IRd Try.prog h (n + 2) 25 [v]) : ∃ a l c xs, v = .slice a l c ∧ SlIs h a l c (ints xs) ∧ c < 2 ^ 63 ∧ SpotOk a c := by
  rw [IRd, (UnderIs.eq : Try.prog.underlying 25 = _)] at hd
  rcases hd with h1 | ⟨a, l, c, h1, h2, h3, h5, h4⟩
  · cases h1
    exact ⟨none, 0, 0, [], rfl, ⟨rfl, Nat.le_refl _, rfl⟩, by decide, fun d hd => by cases hd⟩
  · cases h1
    have hc : Try.prog.cellsOf 3 = 1 := by kernel_rfl
    have key : ∀ i, i < c → ∃ x : Int, h.cell? a.block (a.off + i) = some (.int .i64 x) := by
      intro i hi
      obtain ⟨row, g1, g2⟩ := h4 i hi
      rw [IRd, (UnderIs.eq : Try.prog.underlying 3 = _)] at g2
      obtain ⟨z, rfl, g3⟩ := g2
      rw [hc, Nat.mul_one] at g1
      exact ⟨z, row_one g1⟩
    have hex : ∃ f : Nat → Int, ∀ i, i < l → h.cell? a.block (a.off + i) = some (.int .i64 (f i)) :=
      ⟨fun i => if hi : i < c then Classical.choose (key i hi) else 0, fun i hi => by
        have hic : i < c := by omega
        simp only [hic, dif_pos]
        exact Classical.choose_spec (key i hic)⟩
    obtain ⟨f, hf⟩ := hex
    refine ⟨some a, l, c, (List.range l).map f, rfl, ⟨by simp [ints], h2, ?_⟩, by unfold maxLen at h3; omega, fun d hd => by cases hd; exact h5⟩
    have := row_of (h := h) (b := a.block) l a.off (fun i => .int .i64 (f i)) hf
    simp only
    rw [this]; simp [ints]
set_option maxRecDepth 10000 in
theorem op_of {h : IHp} {n : Nat} {cs : List Value} (hd : IRd Try.prog h (n + 3) 44 cs) : ∃ o, OpC h cs o := by
  have hu : ∃ f0 f1 f2 f3 f4 f5 f6, Try.prog.underlying 44 = some (.struct #[f0, f1, f2, f3, f4, f5, f6]) ∧ (f0.type = 3 ∧ f0.offset = 0) ∧ (f1.type = 9 ∧ f1.offset = 1) ∧ (f2.type = 25 ∧ f2.offset = 2) ∧ (f3.type = 3 ∧ f3.offset = 3) ∧ (f4.type = 4 ∧ f4.offset = 4) ∧ (f5.type = 42 ∧ f5.offset = 5) ∧ (f6.type = 42 ∧ f6.offset = 6) :=
    ⟨_, _, _, _, _, _, _, Try.underlying44, ⟨rfl, rfl⟩, ⟨rfl, rfl⟩, ⟨rfl, rfl⟩, ⟨rfl, rfl⟩, ⟨rfl, rfl⟩, ⟨rfl, rfl⟩, ⟨rfl, rfl⟩⟩
  obtain ⟨f0, f1, f2, f3, f4, f5, f6, hu, ⟨t0, o0⟩, ⟨t1, o1⟩, ⟨t2, o2⟩, ⟨t3, o3⟩, ⟨t4, o4⟩, ⟨t5, o5⟩, ⟨t6, o6⟩⟩ := hu
  have ci : Try.prog.cellsOf 3 = 1 := by kernel_rfl
  have cst : Try.prog.cellsOf 9 = 1 := by kernel_rfl
  have csl : Try.prog.cellsOf 25 = 1 := by kernel_rfl
  have cb : Try.prog.cellsOf 4 = 1 := by kernel_rfl
  have cu : Try.prog.cellsOf 42 = 1 := by kernel_rfl
  have co : Try.prog.cellsOf 44 = 7 := by kernel_rfl
  rw [IRd, hu] at hd
  obtain ⟨hl, hf⟩ := hd
  rw [co] at hl
  match cs, hl with
  | [v0, v1, v2, v3, v4, v5, v6], _ =>
    have h0 := hf 0 f0 rfl
    have h1 := hf 1 f1 rfl
    have h2 := hf 2 f2 rfl
    have h3 := hf 3 f3 rfl
    have h4 := hf 4 f4 rfl
    have h5 := hf 5 f5 rfl
    have h6 := hf 6 f6 rfl
    rw [t0, o0, ci] at h0
    rw [t1, o1, cst] at h1
    rw [t2, o2, csl] at h2
    rw [t3, o3, ci] at h3
    rw [t4, o4, cb] at h4
    rw [t5, o5, cu] at h5
    rw [t6, o6, cu] at h6
    simp only [List.drop_zero, List.take_succ_cons, List.take_zero, List.drop_succ_cons] at h0 h1 h2 h3 h4 h5 h6
    rw [IRd, (UnderIs.eq : Try.prog.underlying 3 = _)] at h0 h3
    rw [IRd, (UnderIs.eq : Try.prog.underlying 9 = _)] at h1
    rw [IRd, (UnderIs.eq : Try.prog.underlying 4 = _)] at h4
    rw [IRd, (UnderIs.eq : Try.prog.underlying 42 = _)] at h5 h6
    obtain ⟨kd, e0, _⟩ := h0
    obtain ⟨nm, e1, _⟩ := h1
    obtain ⟨bt, e3, _⟩ := h3
    obtain ⟨b, e4⟩ := h4
    obtain ⟨m, e5, wm⟩ := h5
    obtain ⟨w, e6, ww⟩ := h6
    cases e0; cases e1; cases e3; cases e4; cases e5; cases e6
    obtain ⟨m', rfl, hm⟩ := wf_u64 wm
    obtain ⟨w', rfl, hw⟩ := wf_u64 ww
    obtain ⟨a, l, c, xs, rfl, hs, hc, hsp⟩ := SlIs_ints h2
    exact ⟨⟨kd, nm, xs, bt, b, m', w'⟩, a, l, c, rfl, hs, hm, hw, hc, hsp⟩
set_option maxRecDepth 10000 in
theorem circ_of {h : IHp} {n : Nat} {cs : List Value} (hd : IRd Try.prog h (n + 5) 24 cs) : ∃ c, CircV h (.agg cs.toArray) c := by
  have hu : ∃ f0 f1 f2, Try.prog.underlying 24 = some (.struct #[f0, f1, f2]) ∧ (f0.type = 3 ∧ f0.offset = 0) ∧ (f1.type = 3 ∧ f1.offset = 1) ∧ (f2.type = 22 ∧ f2.offset = 2) :=
    ⟨_, _, _, Try.underlying24, ⟨rfl, rfl⟩, ⟨rfl, rfl⟩, ⟨rfl, rfl⟩⟩
  obtain ⟨f0, f1, f2, hu, ⟨t0, o0⟩, ⟨t1, o1⟩, ⟨t2, o2⟩⟩ := hu
  have ci : Try.prog.cellsOf 3 = 1 := by kernel_rfl
  have csl : Try.prog.cellsOf 22 = 1 := by kernel_rfl
  have co : Try.prog.cellsOf 44 = 7 := by kernel_rfl
  have cc : Try.prog.cellsOf 24 = 3 := by kernel_rfl
  rw [IRd, hu] at hd
  obtain ⟨hl, hf⟩ := hd
  rw [cc] at hl
  match cs, hl with
  | [v0, v1, v2], _ =>
    have h0 := hf 0 f0 rfl
    have h1 := hf 1 f1 rfl
    have h2 := hf 2 f2 rfl
    rw [t0, o0, ci] at h0
    rw [t1, o1, ci] at h1
    rw [t2, o2, csl] at h2
    simp only [List.drop_zero, List.take_succ_cons, List.take_zero, List.drop_succ_cons] at h0 h1 h2
    rw [IRd, (UnderIs.eq : Try.prog.underlying 3 = _)] at h0 h1
    rw [IRd, (UnderIs.eq : Try.prog.underlying 22 = _)] at h2
    obtain ⟨q, e0, _⟩ := h0
    obtain ⟨b, e1, _⟩ := h1
    cases e0; cases e1
    rcases h2 with e2 | ⟨a, l, c, e2, h3, h4, h6, h5⟩
    · cases e2
      exact ⟨⟨q, b, []⟩, none, 0, 0, rfl, rfl, Nat.le_refl _, by decide, rfl⟩
    · cases e2
      have key : ∀ i, i < c → ∃ o : OpD, ∃ row, h.row a.block (a.off + i * 7) 7 = some row ∧ OpC h row o := by
        intro i hi
        obtain ⟨row, g1, g2⟩ := h5 i hi
        rw [co] at g1
        obtain ⟨o, ho⟩ := op_of g2
        exact ⟨o, row, g1, ho⟩
      refine ⟨⟨q, b, (List.range l).map fun i => if hi : i < c then Classical.choose (key i hi) else ⟨0, ⟨#[]⟩, [], 0, false, 0, 0⟩⟩, some a, l, c, rfl, by simp, h3, by unfold maxLen at h4; omega, ?_⟩
      intro i o hio
      simp only [List.getElem?_map, Option.map_eq_some_iff] at hio
      obtain ⟨j, hj, rfl⟩ := hio
      obtain ⟨hji, hje⟩ := List.getElem?_eq_some_iff.1 hj
      simp only [List.getElem_range] at hje
      subst hje
      simp only [List.length_range] at hji
      have hic : i < c := by omega
      simp only [hic, dif_pos]
      exact Classical.choose_spec (key i hic)
end Go.Ideal

-- Ta
set_option linter.unusedSimpArgs false
set_option linter.unusedVariables false
namespace Go.Ideal
open Go Go.Proofs Go.RowKit
/-! ### Circuits as trees; functions of flat values -/
@[reducible] def intT (z : Int) : Tr := .v (.int .i64 z)
@[reducible] def boolT (b : Bool) : Tr := .v (.bool b)
@[reducible] def strT (b : ByteArray) : Tr := .v (.string b)
@[reducible] def u64T (n : Nat) : Tr := .v (.int .u64 n)
def intRows (xs : List Int) : List (List Tr) := xs.map fun x => [intT x]
@[reducible] def opCs (o : OpD) : List Tr := [intT o.kind, strT o.name, .sl 1 (intRows o.qs), intT o.bit, boolT o.iff, u64T o.mask, u64T o.value]
def opRows (os : List OpD) : List (List Tr) := os.map opCs
@[reducible] def circCs (c : CircD) : List Tr := [intT c.qubits, intT c.bits, .sl 7 (opRows c.ops)]
@[reducible] def circT (c : CircD) : Tr := .agg (circCs c)
def OpW (o : OpD) : Prop := o.mask < 2 ^ 64 ∧ o.value < 2 ^ 64
def CircW (c : CircD) : Prop := ∀ o ∈ c.ops, OpW o
theorem NthG.map {α β : Type} {l : List α} {i : Nat} {a : α} (f : α → β) (h : l[i]? = some a) : NthG (l.map f) i (f a) := ⟨by rw [List.getElem?_map, h]; rfl⟩
instance {xs : List Int} : LenO (intRows xs) xs.length := ⟨by simp [intRows]⟩
instance {os : List OpD} : LenO (opRows os) os.length := ⟨by simp [opRows]⟩
instance {xs : List Int} : LenT (intRows xs) xs.length := ⟨by simp [intRows]⟩
instance {os : List OpD} : LenT (opRows os) os.length := ⟨by simp [opRows]⟩
theorem intRows_at {F : Mem} {b : Nat} : ∀ {xs : List Int} {off : Nat}, RepR F b 1 (intRows xs) off → rowM F b off xs.length = some (ints xs) := by
  intro xs
  induction xs with
  | nil => intro off _; rfl
  | cons x xs ih =>
    intro off h
    simp only [intRows, List.map_cons, RepR] at h
    obtain ⟨⟨vs, h1, h2⟩, h3⟩ := h
    simp only [RepL, Rep] at h2
    obtain ⟨v, ws, rfl, rfl, rfl⟩ := h2
    simp only [rowM, Option.bind_eq_some_iff] at h1
    obtain ⟨u, hu, us, hus, h4⟩ := h1
    obtain rfl := Option.some.inj hus
    simp only [Option.some.injEq, List.cons.injEq, and_true] at h4
    subst h4
    simp only [List.length_cons, rowM, hu, Option.bind_some, ih h3, ints, List.map_cons]
theorem sl_ints {F : Mem} {h : IHp} (hs : Sub F h.cell?) {xs : List Int} {v : Value} (hv : Rep F (.sl 1 (intRows xs)) v) : ∃ a l c, v = .slice a l c ∧ SlIs h a l c (ints xs) ∧ c < 2 ^ 63 ∧ SpotOk a c := by
  simp only [Rep] at hv
  obtain ⟨a, n, c, rfl, h2, h3, h4, h5, h6⟩ := hv
  have hl : xs.length = n := by rw [← h2]; simp [intRows]
  refine ⟨a, n, c, rfl, ⟨by rw [ints_len]; exact hl, h3, ?_⟩, h4, h5⟩
  cases a with
  | none => exact h6
  | some a =>
    simp only
    rw [row_rowM, ← hl]
    exact rowM_sub hs (intRows_at h6)
theorem op_inv {F : Mem} {h : IHp} (hs : Sub F h.cell?) {o : OpD} {vs : List Value} (hv : RepL F (opCs o) vs) : ∃ a l c, vs = o.cells a l c ∧ SlIs h a l c (ints o.qs) ∧ c < 2 ^ 63 ∧ SpotOk a c := by
  unfold opCs at hv
  simp only [RepL, Rep.val] at hv
  obtain ⟨_, _, rfl, rfl, _, _, rfl, rfl, v, _, rfl, h1, _, _, rfl, rfl, _, _, rfl, rfl, _, _, rfl, rfl, _, _, rfl, rfl, rfl⟩ := hv
  obtain ⟨a, l, c, rfl, h2, h3, h4⟩ := sl_ints hs h1
  exact ⟨a, l, c, rfl, h2, h3, h4⟩
theorem circ_inv {F : Mem} {h : IHp} (hs : Sub F h.cell?) {c : CircD} (hw : CircW c) {v : Value} (hv : Rep F (circT c) v) : CircV h v c := by
  unfold circT circCs at hv
  simp only [Rep, RepL] at hv
  obtain ⟨_, rfl, _, _, rfl, rfl, _, _, rfl, rfl, _, _, rfl, ⟨a, n, k, rfl, h2, h3, h4, h5, h6⟩, rfl⟩ := hv
  have hl : c.ops.length = n := by rw [← h2]; simp [opRows]
  refine ⟨a, n, k, rfl, hl, h3, h4, ?_⟩
  cases a with
  | none => exact h6
  | some a =>
    intro i o ho
    obtain ⟨vs, h7, h8⟩ := RepR.get h6 (i := i) (row := opCs o) (by simp only [opRows, List.getElem?_map, ho]; rfl)
    obtain ⟨qa, ql, qc, rfl, h9, h10, h11⟩ := op_inv hs h8
    refine ⟨_, by rw [row_rowM]; exact rowM_sub hs h7, qa, ql, qc, rfl, h9, (hw o (List.mem_of_getElem? ho)).1, (hw o (List.mem_of_getElem? ho)).2, h10, h11⟩
theorem vals_inv {F : Mem} : ∀ {ws vs : List Value}, RepL F (ws.map Tr.v) vs → vs = ws := by
  intro ws
  induction ws with
  | nil => intro vs h; simpa only [List.map_nil, RepL] using h
  | cons w ws ih =>
    intro vs h
    simp only [List.map_cons, RepL, Rep.val] at h
    obtain ⟨_, us, rfl, rfl, h3⟩ := h
    rw [ih h3]
/-- a function of plain values -/
theorem Fn_vals {P : Program} {f : FuncId} {ws : List Value} {w : Value} (x : ∀ h : IHp, EvX P f ws.toArray h (fun v h' => v = w ∧ Ext h h')) {t : Tr} (ht : ∀ F, Rep F t w) : Fn P f (ws.map Tr.v) (fun r => r = t) :=
  Fn_flat (fun F0 h vs h1 h2 => by rw [vals_inv h2]; exact x h) ht
theorem rep_pair {F : Mem} (a b : Value) : Rep F (.tup [.v a, .v b]) (.tuple [a, b].toArray) := by
  simp only [Rep]; exact ⟨_, rfl, RepL.cons (rep_v _) (RepL.cons (rep_v _) RepL.nil)⟩
theorem backT (b : ByteArray) : Fn Try.prog 65 [strT b] (fun r => r = .tup [strT (backS b).1, intT (backS b).2]) := Fn_vals (ws := [_]) (fun h => gateInverse_spec b h) (fun F => rep_pair _ _)
theorem checkT {c : CircD} (hw : CircW c) : Fn Try.prog 53 [circT c] (fun r => r = .tup [intT (checkC c).1, intT (checkC c).2]) :=
  Fn_flat (fun F0 h vs h1 h2 => by
    simp only [RepL] at h2
    obtain ⟨v, _, rfl, h3, rfl⟩ := h2
    exact circCheck_spec (circ_inv h1 hw h3)) (fun F => rep_pair _ _)
theorem halvesT (o : OpD) : Fn Try.prog 67 [.agg (opCs o)] (fun r => r = intT (halvesO o)) :=
  Fn_flat (fun F0 h vs h1 h2 => by
    simp only [RepL] at h2
    obtain ⟨v, _, rfl, h3, rfl⟩ := h2
    simp only [Rep] at h3
    obtain ⟨ws, rfl, h4⟩ := h3
    obtain ⟨a, l, k, rfl, _⟩ := op_inv h1 h4
    exact halves_spec o a l k h) (fun F => rep_v _)
/-! ### Halves -/
def sumH : List OpD → Int
  | [] => 0
  | o :: os => halvesO o + sumH os
def halvesC (c : CircD) : Int × Int := if (checkC c).2 = 0 then (sumH c.ops, 0) else (0, (checkC c).2)
theorem sumH_nn : ∀ os : List OpD, 0 ≤ sumH os ∧ sumH os ≤ os.length := by
  intro os
  induction os with
  | nil => simp [sumH]
  | cons o os ih => have := halvesO_01 o; simp only [sumH, List.length_cons]; omega
theorem sumH_take {os : List OpD} {i : Nat} {o : OpD} (h : os[i]? = some o) : sumH (os.take (i + 1)) = sumH (os.take i) + halvesO o := by
  induction os generalizing i with
  | nil => simp at h
  | cons p os ih =>
    cases i with
    | zero => simp at h; subst h; simp [sumH]
    | succ i => simp only [List.take_succ_cons, sumH]; rw [ih (by simpa using h)]; omega
theorem circHalvesT {c : CircD} (hw : CircW c) : Fn Try.prog 27 [circT c] (fun r => r = .tup [intT (halvesC c).1, intT (halvesC c).2]) := by
  refine Fn_of Try.func27 rfl (Nat.le_of_ble_eq_true rfl) (fun X => ?_)
  repeat (first | refine StepC.go ?_ | intro _)
  refine TS_callE (checkT hw) ?_
  repeat' (first | refine StepC.go ?_ | (refine TV_cond ?_ ?_ <;> intro hc <;> try (cases hc; done)))
  · refine retT_2 (.inr rfl) ?_
    simp only [tret, halvesC]
    rw [if_neg (by simpa using hc)]
  · rename_i p
    have hck : (checkC c).2 = 0 := by simpa using hc
    obtain ⟨_, hlen, _⟩ := checkC_ok hck
    refine TV_loop (fun d σ B => ∃ i : Nat, d = c.ops.length - i ∧ i ≤ c.ops.length ∧ TGet σ 20 (intT i) ∧ TGet σ 19 (intT c.ops.length) ∧ TGet σ 18 (.sl 7 (opRows c.ops)) ∧ TGet σ 6 (intT (sumH (c.ops.take i))) ∧ SubB [] B) c.ops.length
      ⟨0, by omega, by omega, inferInstance, tget_as (by simp [opRows]), inferInstance, tget_as rfl, inferInstance⟩ ?_
    rintro d σ B ⟨i, rfl, hi, g20, g19, g18, g6, hB⟩
    refine TV_drop _ hB.eq ?_
    repeat' (first | refine StepC.go ?_ | (refine TV_cond ?_ ?_ <;> intro hc <;> try (cases hc; done)))
    · have hil : i < c.ops.length := by simp at hc; omega
      obtain ⟨o, ho⟩ : ∃ o, c.ops[i]? = some o := ⟨_, List.getElem?_eq_getElem hil⟩
      have ng : NthG (opRows c.ops) i (opCs o) := .map opCs ho
      have h1 := sumH_nn (c.ops.take i)
      have h2 := halvesO_01 o
      simp only [List.length_take] at h1
      repeat (first | refine StepC.go ?_ | intro _)
      refine TS_callE (halvesT o) ?_
      repeat (first | refine StepC.go ?_ | refine TS_puw (Pu.addi (by omega)) ?_)
      refine ⟨_, ?_, i + 1, rfl, by omega, inferInstance, inferInstance, inferInstance, tget_as (by rw [sumH_take ho]), inferInstance⟩
      omega
    · have hil : i = c.ops.length := by simp at hc; omega
      refine retT_2 (.inr rfl) ?_
      simp only [tret, halvesC]
      rw [if_pos hck, hil, List.take_length]
instance : CallIs Try.prog 27 := .of Try.func27 rfl rfl
end Go.Ideal

-- Tb
set_option linter.unusedSimpArgs false
set_option linter.unusedVariables false
namespace Go.Ideal
open Go Go.Proofs Go.RowKit
/-! ### Is it so of all operations? -/
def idxF {α : Type} (p : α → Bool) : List α → Nat → Int
  | [], _ => -1
  | r :: rs, i => if p r = true then i else idxF p rs (i + 1)
theorem idxF_any {α : Type} (p : α → Bool) : ∀ (l : List α) (i : Nat), decide (0 ≤ idxF p l i) = l.any p := by
  intro l
  induction l with
  | nil => intro i; simp [idxF]
  | cons a l ih =>
    intro i
    rw [idxF]
    by_cases h : p a = true
    · simp [h]
    · rw [if_neg h, ih]; simp [h]
theorem drop_cons {α : Type} {l : List α} {i : Nat} {a : α} (h : l[i]? = some a) : l.drop i = a :: l.drop (i + 1) := by
  have hi := (List.getElem?_eq_some_iff.1 h).1
  rw [List.drop_eq_getElem_cons hi]
  rw [List.getElem?_eq_getElem hi] at h
  rw [Option.some.inj h]
theorem indexOpsT {os : List OpD} {f : Nat} {a b : List Tr} [c : CallIs Try.prog f] {p : OpD → Bool} (hp : ∀ o ∈ os, Fn Try.prog f ((a ++ [.agg (opCs o)]) ++ b) (fun r => r = boolT (p o))) : Fn Try.prog 141 [.sl 7 (opRows os), .fn f a b] (fun r => r = intT (idxF p os 0)) := by
  refine Fn_of Try.func141 rfl (Nat.le_of_ble_eq_true rfl) (fun X => ?_)
  refine TV_fact 0 (fun F v h => rep_small h) fun hsm => ?_
  rw [show (opRows os).length = os.length by simp [opRows]] at hsm
  repeat (refine StepC.go ?_)
  refine TV_loop (fun d σ B => ∃ i : Nat, d = os.length - i ∧ i ≤ os.length ∧ TGet σ 8 (intT i) ∧ TGet σ 7 (intT os.length) ∧ TGet σ 0 (.sl 7 (opRows os)) ∧ TGet σ 1 (.fn f a b) ∧ SubB [] B ∧ idxF p os 0 = idxF p (os.drop i) i) os.length
    ⟨0, by omega, by omega, inferInstance, tget_as (by simp [opRows]), inferInstance, inferInstance, inferInstance, rfl⟩ ?_
  rintro d σ B ⟨i, rfl, hi, g8, g7, g0, g1, hB, hK⟩
  refine TV_drop _ hB.eq ?_
  repeat' (first | refine StepC.go ?_ | (refine TV_cond ?_ ?_ <;> intro hc <;> try (cases hc; done)))
  · have hil : i < os.length := by simp at hc; omega
    obtain ⟨o, ho⟩ : ∃ o, os[i]? = some o := ⟨_, List.getElem?_eq_getElem hil⟩
    have ng : NthG (opRows os) i (opCs o) := .map opCs ho
    rw [drop_cons ho, idxF] at hK
    repeat (refine StepC.go ?_)
    refine TS_callV (hp o (List.mem_of_getElem? ho)) ?_
    rintro _ rfl
    repeat' (first | refine StepC.go ?_ | refine TS_puw (Pu.addi (by omega)) ?_ | (refine TV_cond ?_ ?_ <;> intro hc <;> try (cases hc; done)))
    · refine retT_1 (.inr rfl) ?_
      simp only [tret]
      rw [hK, if_pos hc]
    · refine ⟨_, ?_, i + 1, rfl, by omega, inferInstance, inferInstance, inferInstance, inferInstance, inferInstance, by rw [hK, if_neg (by rw [hc]; decide)]⟩
      omega
  · have hil : i = os.length := by simp at hc; omega
    refine retT_1 (.inr rfl) ?_
    simp only [tret]
    rw [hK, List.drop_of_length_le (by omega)]; rfl
instance : CallIs Try.prog 141 := .of Try.func141 rfl rfl
theorem anyOpsT {os : List OpD} {f : Nat} {a b : List Tr} [c : CallIs Try.prog f] {p : OpD → Bool} (hp : ∀ o ∈ os, Fn Try.prog f ((a ++ [.agg (opCs o)]) ++ b) (fun r => r = boolT (p o))) : Fn Try.prog 105 [.sl 7 (opRows os), .fn f a b] (fun r => r = boolT (os.any p)) := by
  refine Fn_of Try.func105 rfl (Nat.le_of_ble_eq_true rfl) (fun X => ?_)
  repeat (refine StepC.go ?_)
  refine TS_call (indexOpsT hp) ?_
  rintro _ rfl
  repeat (refine StepC.go ?_)
  refine retT_1 (.inr rfl) ?_
  simp only [tret]
  rw [idxF_any]
instance : CallIs Try.prog 105 := .of Try.func105 rfl rfl
theorem all1T {o : OpD} {f : Nat} {a b : List Tr} [c : CallIs Try.prog f] {p : Bool} (hp : Fn Try.prog f ((a ++ [.agg (opCs o)]) ++ b) (fun r => r = boolT p)) : Fn Try.prog 106 [.agg (opCs o), .pf [.fn f a b]] (fun r => r = boolT (!p)) := by
  refine Fn_of Try.func106 rfl (Nat.le_of_ble_eq_true rfl) (fun X => ?_)
  repeat (first | refine StepC.go ?_ | intro _)
  refine TS_callV hp ?_
  rintro _ rfl
  repeat (refine StepC.go ?_)
  exact retT_1 (.inr rfl) rfl
instance : CallIs Try.prog 106 := .of Try.func106 rfl rfl
theorem allT {c : CircD} (hw : CircW c) {f : Nat} {a b : List Tr} [ci : CallIs Try.prog f] {p : OpD → Bool} (hp : ∀ o ∈ c.ops, Fn Try.prog f ((a ++ [.agg (opCs o)]) ++ b) (fun r => r = boolT (p o))) : Fn Try.prog 62 [circT c, .fn f a b] (fun r => r = .tup [boolT (if (checkC c).2 = 0 then c.ops.all p else false), intT (checkC c).2]) := by
  refine Fn_of Try.func62 rfl (Nat.le_of_ble_eq_true rfl) (fun X => ?_)
  repeat (first | refine StepC.go ?_ | intro _)
  refine TS_callE (checkT hw) ?_
  repeat' (first | refine StepC.go ?_ | (refine TV_cond ?_ ?_ <;> intro hc <;> try (cases hc; done)))
  · refine retT_2 (.inr rfl) ?_
    simp only [tret]
    rw [if_neg (by simpa using hc)]
  · have hck : (checkC c).2 = 0 := by simpa using hc
    refine TS_callE (anyOpsT (p := fun o => !p o) fun o ho => all1T (hp o ho)) ?_
    repeat (refine StepC.go ?_)
    refine retT_2 (.inr rfl) ?_
    simp only [tret]
    rw [if_pos hck, hck]
    simp only [List.any_eq_not_all_not, Bool.not_not]
instance : CallIs Try.prog 62 := .of Try.func62 rfl rfl
end Go.Ideal

-- Tc
set_option linter.unusedSimpArgs false
set_option linter.unusedVariables false
namespace Go.Ideal
open Go Go.Proofs Go.RowKit
/-! ### Which operations are bound -/
def OpP (o : OpD) : Prop := (∀ q ∈ o.qs, 0 ≤ q) ∧ (o.kind = 2 → 0 ≤ o.bit) ∧ OpW o
def bitN (q : Int) : Nat := (1 <<< q.toNat) % 18446744073709551616
def qbS (qs : List Int) : Nat := qs.foldl (fun a q => a ||| bitN q) 0
def wrS (o : OpD) : Nat := if o.kind = 2 then bitN o.bit else 0
def rdS (o : OpD) : Nat := if o.iff then o.mask else 0
instance bitN_lt {q : Int} : Lt64 (bitN q) := ⟨Nat.mod_lt _ (by decide)⟩
theorem qb_lt (qs : List Int) : ∀ a, a < 2 ^ 64 → qs.foldl (fun a q => a ||| bitN q) a < 2 ^ 64 := by
  induction qs with
  | nil => intro a h; exact h
  | cons q qs ih => intro a h; exact ih _ (Nat.or_lt_two_pow h bitN_lt.lt)
instance qbS_lt {qs : List Int} : Lt64 (qbS qs) := ⟨qb_lt qs 0 (by decide)⟩
instance wrS_lt {o : OpD} : Lt64 (wrS o) := ⟨by unfold wrS; split; exact bitN_lt.lt; decide⟩
theorem rdS_lt {o : OpD} (h : OpW o) : Lt64 (rdS o) := ⟨by unfold rdS; split; exact h.1; decide⟩
theorem qbS_take {qs : List Int} {i : Nat} {q : Int} (h : qs[i]? = some q) : qbS (qs.take (i + 1)) = qbS (qs.take i) ||| bitN q := by
  unfold qbS
  rw [List.take_add_one, h]
  simp only [Option.toList_some, List.foldl_append, List.foldl_cons, List.foldl_nil]
theorem asNat_of {z : Int} (h : 0 ≤ z) : AsNat z z.toNat := ⟨(Int.toNat_of_nonneg h).symm⟩
theorem touchedT {o : OpD} (hp : OpP o) : Fn Try.prog 102 [.agg (opCs o)] (fun r => r = .tup [u64T (qbS o.qs), u64T (wrS o), u64T (rdS o), boolT (!decide (o.kind = 1))]) := by
  obtain ⟨hq, hb, hw⟩ := hp
  refine Fn_of Try.func102 rfl (Nat.le_of_ble_eq_true rfl) (fun X => ?_)
  refine TV_fact 0 (fun F v h => by obtain ⟨w, h1⟩ := rep_agg_at h (i := 2) rfl; exact rep_small h1) fun hsm => ?_
  rw [show (intRows o.qs).length = o.qs.length by simp [intRows]] at hsm
  repeat (first | refine StepC.go ?_ | intro _)
  rename_i p
  refine TV_loop (fun d σ B => ∃ i : Nat, d = o.qs.length - i ∧ i ≤ o.qs.length ∧ TGet σ 11 (intT i) ∧ TGet σ 10 (intT o.qs.length) ∧ TGet σ 9 (.sl 1 (intRows o.qs)) ∧ TGet σ 2 (u64T (qbS (o.qs.take i))) ∧ TGet σ 1 (.v (.pointer (some (ad p 0)))) ∧ TGet σ 3 (u64T 0) ∧ TGet σ 4 (u64T 0) ∧ SubB [(p, .cells (opCs o) 44 true)] B) o.qs.length
    ⟨0, by omega, by omega, inferInstance, tget_as (by simp [intRows]), inferInstance, tget_as rfl, inferInstance, tget_as rfl, tget_as rfl, inferInstance⟩ ?_
  rintro d σ B ⟨i, rfl, hi, g11, g10, g9, g2, g1, g3, g4, hB⟩
  refine TV_drop _ hB.eq ?_
  repeat (refine StepC.go ?_)
  refine TV_cond ?_ ?_ <;> intro hc
  · have hil : i < o.qs.length := by simp at hc; omega
    obtain ⟨q, hq1⟩ : ∃ q, o.qs[i]? = some q := ⟨_, List.getElem?_eq_getElem hil⟩
    have ng : NthG (intRows o.qs) i [intT q] := .map (fun x => [intT x]) hq1
    have hq0 := asNat_of (hq q (List.mem_of_getElem? hq1))
    repeat (first | refine StepC.go ?_ | refine TS_puw (Pu.addi (by omega)) ?_)
    refine ⟨_, ?_, i + 1, rfl, by omega, inferInstance, inferInstance, inferInstance, tget_as (by rw [qbS_take hq1]; rfl), inferInstance, inferInstance, inferInstance, inferInstance⟩
    omega
  have hil : i = o.qs.length := by simp at hc; omega
  subst hil
  rw [List.take_length] at g2
  repeat (refine StepC.go ?_)
  refine TV_cut (fun σ B => TGet σ 2 (u64T (qbS o.qs)) ∧ TGet σ 1 (.v (.pointer (some (ad p 0)))) ∧ TGet σ 3 (u64T (wrS o)) ∧ TGet σ 4 (u64T 0) ∧ SubB [(p, .cells (opCs o) 44 true)] B) ?_ ?_
  · refine TV_cond ?_ ?_ <;> intro hc
    · have hk : o.kind = 2 := by simpa using hc
      have := asNat_of (hb hk)
      repeat (refine StepC.go ?_)
      exact ⟨inferInstance, inferInstance, tget_as (by simp [wrS, hk, bitN]), inferInstance, inferInstance⟩
    · have hk : ¬ o.kind = 2 := by simpa using hc
      repeat (refine StepC.go ?_)
      exact ⟨inferInstance, inferInstance, tget_as (by simp [wrS, hk]), inferInstance, inferInstance⟩
  rintro σ B ⟨g2, g1, g3, g4, hB⟩
  refine TV_drop _ hB.eq ?_
  repeat' (first | refine StepC.go ?_ | refine TD_take rfl rfl ?_ | refine TD_load rfl rfl ?_ | refine TV_draw (id := 10) (plan := [.take 0, .take 1, .take 2, .take 3, .take 4, .take 5, .take 6, .take 7, .take 8, .take 9]) (by kernel_rfl) ?_ | (refine TV_cond ?_ ?_ <;> intro hc <;> try (cases hc; done)))
  · refine retT_4 (.inr rfl) ?_
    simp only [tret, rdS, hc, if_true]
  · refine retT_4 (.inr rfl) ?_
    simp only [tret, rdS, hc, Bool.false_eq_true, if_false]
instance : CallIs Try.prog 102 := .of Try.func102 rfl rfl
def boundS (a b : OpD) : Bool := decide (qbS a.qs &&& qbS b.qs ≠ 0) || decide (wrS a &&& (wrS b ||| rdS b) ≠ 0) || decide (wrS b &&& rdS a ≠ 0) || (!decide (a.kind = 1) && !decide (b.kind = 1))
theorem nat0 {n : Nat} : decide ((n : Int) = 0) = decide (n = 0) := by
  by_cases h : n = 0
  · subst h; rfl
  · rw [decide_eq_false h, decide_eq_false (by omega)]
theorem boundT {a b : OpD} (ha : OpP a) (hb : OpP b) : Fn Try.prog 57 [.agg (opCs a), .agg (opCs b)] (fun r => r = boolT (boundS a b)) := by
  have := rdS_lt ha.2.2
  have := rdS_lt hb.2.2
  refine Fn_of Try.func57 rfl (Nat.le_of_ble_eq_true rfl) (fun X => ?_)
  repeat (first | refine StepC.go ?_ | intro _)
  refine TS_callE (touchedT ha) ?_
  repeat (refine StepC.go ?_)
  refine TS_callE (touchedT hb) ?_
  repeat' (first | refine StepC.go ?_ | refine TS_on rfl (by first | rfl | assumption) ?_ | refine TS_off rfl (by first | rfl | assumption) ?_ | refine TS_off_undef rfl ?_ | refine TS_puw (Pu.pick_t (by first | rfl | assumption)) ?_ | refine TS_puw (Pu.pick_f (by first | rfl | assumption)) ?_ | (refine TS_guard rfl ?_ ?_ <;> intro hg))
  all_goals
    refine retT_1 (.inr rfl) ?_
    simp only [nat0] at *
    simp_all [tret, boundS]
instance : CallIs Try.prog 57 := .of Try.func57 rfl rfl
end Go.Ideal

-- Td
set_option linter.unusedSimpArgs false
set_option linter.unusedVariables false
namespace Go.Ideal
open Go Go.Proofs Go.RowKit
/-! ### Layers -/
instance {xs : List Int} {i : Nat} {z : Int} : SetR (intRows xs) i [intT z] (intRows (xs.set i z)) := ⟨by simp [intRows, List.map_set]⟩
theorem intRows_app (xs ys : List Int) : intRows (xs ++ ys) = intRows xs ++ intRows ys := by simp [intRows]
theorem replicate_int (n : Nat) (z : Int) : List.replicate n [intT z] = intRows (List.replicate n z) := by simp [intRows]
/-- the step of an operation behind others that have theirs -/
def stepK (bd : OpD → OpD → Bool) (o : OpD) : List OpD → List Int → Int → Int
  | a :: os, x :: xs, s => stepK bd o os xs (if s ≤ x ∧ bd a o = true then x + 1 else s)
  | _, _, s => s
def stepsS (bd : OpD → OpD → Bool) (os : List OpD) : Nat → List Int
  | 0 => []
  | n + 1 => stepsS bd os n ++ [stepK bd (os.getD n ⟨0, .empty, [], 0, false, 0, 0⟩) os (stepsS bd os n) 0]
theorem stepsS_len (bd : OpD → OpD → Bool) (os : List OpD) : ∀ n, (stepsS bd os n).length = n := by
  intro n
  induction n with
  | zero => rfl
  | succ n ih => simp [stepsS, ih]
theorem stepK_app (bd : OpD → OpD → Bool) (o a : OpD) (x : Int) : ∀ (os1 : List OpD) (xs1 : List Int) (os2 : List OpD) (xs2 : List Int) (s : Int), os1.length = xs1.length → stepK bd o (os1 ++ a :: os2) (xs1 ++ x :: xs2) s = stepK bd o os2 xs2 (if stepK bd o os1 xs1 s ≤ x ∧ bd a o = true then x + 1 else stepK bd o os1 xs1 s) := by
  intro os1
  induction os1 with
  | nil => intro xs1 os2 xs2 s h; have : xs1 = [] := List.eq_nil_of_length_eq_zero h.symm; subst this; rfl
  | cons b os1 ih =>
    intro xs1 os2 xs2 s h
    cases xs1 with
    | nil => simp at h
    | cons y xs1 => simp only [List.cons_append, stepK]; exact ih xs1 os2 xs2 _ (by simpa using h)
theorem stepK_take (bd : OpD → OpD → Bool) (o : OpD) {os : List OpD} {xs : List Int} {j : Nat} {a : OpD} {x : Int} (ha : os[j]? = some a) (hx : xs[j]? = some x) : stepK bd o (os.take (j + 1)) (xs.take (j + 1)) 0 = if stepK bd o (os.take j) (xs.take j) 0 ≤ x ∧ bd a o = true then x + 1 else stepK bd o (os.take j) (xs.take j) 0 := by
  have hj := (List.getElem?_eq_some_iff.1 ha).1
  have hj2 := (List.getElem?_eq_some_iff.1 hx).1
  rw [List.take_add_one, List.take_add_one, ha, hx]
  simp only [Option.toList_some]
  rw [stepK_app bd o a x _ _ [] [] 0 (by simp; omega)]
  rfl
theorem stepK_bounds (bd : OpD → OpD → Bool) (o : OpD) (L : Int) : ∀ (os : List OpD) (xs : List Int) (s : Int), 0 ≤ s → s ≤ L → (∀ x ∈ xs, 0 ≤ x ∧ x < L) → 0 ≤ stepK bd o os xs s ∧ stepK bd o os xs s ≤ L := by
  intro os
  induction os with
  | nil => intro xs s h0 h1 _; cases xs <;> exact ⟨h0, h1⟩
  | cons a os ih =>
    intro xs s h0 h1 hx
    cases xs with
    | nil => exact ⟨h0, h1⟩
    | cons x xs =>
      simp only [stepK]
      have h2 := hx x List.mem_cons_self
      refine ih xs _ ?_ ?_ (fun y hy => hx y (List.mem_cons_of_mem _ hy))
      · split <;> omega
      · split <;> omega
theorem stepK_short (bd : OpD → OpD → Bool) (o : OpD) : ∀ (os : List OpD) (xs : List Int) (s : Int), stepK bd o os xs s = stepK bd o (os.take xs.length) xs s := by
  intro os
  induction os with
  | nil => intro xs s; simp
  | cons a os ih =>
    intro xs s
    cases xs with
    | nil => rfl
    | cons x xs => simp only [List.length_cons, List.take_succ_cons, stepK]; exact ih xs _
/-- an operation goes into its layer -/
def layS (ls : List (List Int)) (s i : Int) : List (List Int) :=
  let ls' := if s.toNat = ls.length then ls ++ [[]] else ls
  ls'.set s.toNat (ls'.getD s.toNat [] ++ [i])
def laysK : List Int → Int → List (List Int) → List (List Int)
  | [], _, ls => ls
  | s :: ss, i, ls => laysK ss (i + 1) (layS ls s i)
def laysS (ss : List Int) : List (List Int) := laysK ss 0 []
theorem laysK_app (ss ts : List Int) : ∀ (i : Int) (ls : List (List Int)), laysK (ss ++ ts) i ls = laysK ts (i + ss.length) (laysK ss i ls) := by
  induction ss with
  | nil => intro i ls; simp [laysK]
  | cons s ss ih => intro i ls; simp only [List.cons_append, laysK, ih, List.length_cons]; congr 1; omega
def layersC (c : CircD) : List (List Int) × Int := if (checkC c).2 = 0 then (laysS (stepsS boundS c.ops c.ops.length), 0) else ([], (checkC c).2)
def layRowsT (ls : List (List Int)) : List (List Tr) := ls.map fun l => [.sl 1 (intRows l)]
@[reducible] def layT (ls : List (List Int)) : Tr := .sl 1 (layRowsT ls)
/-- lists that are being made, each in a block of its own -/
def famB (e : Nat) (fam : List (Nat × List Int)) : Boxes := fam.map fun x => (x.1, .arr 1 (intRows x.2) e false)
def famR (fam : List (Nat × List Int)) : List (List Tr) := fam.map fun x => [.v (gsv x.1 x.2.length)]
theorem famB_is {e : Nat} {fam : List (Nat × List Int)} {k b : Nat} {l : List Int} (h : fam[k]? = some (b, l)) : BoxIs (famB e fam) b (.arr 1 (intRows l) e false) := ⟨List.mem_map.2 ⟨(b, l), List.mem_of_getElem? h, rfl⟩⟩
theorem famB_in {e : Nat} {fam : List (Nat × List Int)} {k b : Nat} {l : List Int} (h : fam[k]? = some (b, l)) : InKeys (famB e fam) b := ⟨List.mem_map.2 ⟨(b, .arr 1 (intRows l) e false), (famB_is h).mem, rfl⟩⟩
theorem famB_put {e : Nat} {fam : List (Nat × List Int)} {k b : Nat} {l l2 : List Int} (h : fam[k]? = some (b, l)) (b' : Nat) : BoxPut (famB e fam) b b' (.arr 1 (intRows l ++ intRows l2) e false) (famB e (fam.set k (b', l ++ l2))) := ⟨by
  have hk := (List.getElem?_eq_some_iff.1 h).1
  have hd := drop_cons h
  refine ⟨famB e (fam.take k), .arr 1 (intRows l) e false, famB e (fam.drop (k + 1)), ?_, ?_⟩
  · conv => lhs; rw [← List.take_append_drop k fam, hd]
    simp [famB]
  · rw [List.set_eq_take_append_cons_drop, if_pos hk]
    simp [famB, intRows_app]⟩
theorem famR_at {fam : List (Nat × List Int)} {k b : Nat} {l : List Int} (h : fam[k]? = some (b, l)) : NthG (famR fam) k [.v (gsv b l.length)] := ⟨by simp [famR, h]⟩
instance {fam : List (Nat × List Int)} : LenO (famR fam) fam.length := ⟨by simp [famR]⟩
instance {fam : List (Nat × List Int)} : LenT (famR fam) fam.length := ⟨by simp [famR]⟩
theorem famR_frz {B : Boxes} {e : Nat} {fam : List (Nat × List Int)} (hb : ∀ x ∈ fam, BoxIs B x.1 (.arr 1 (intRows x.2) e false)) (hs : ∀ x ∈ fam, x.2.length < 2 ^ 63) : FrzR B (famR fam) (layRowsT (fam.map Prod.snd)) := ⟨by simp [famR, layRowsT], fun i row hr => by
  simp only [famR, List.getElem?_map, Option.map_eq_some_iff] at hr
  obtain ⟨x, hx, rfl⟩ := hr
  have hm := List.mem_of_getElem? hx
  have := hb x hm
  have : Sm63 x.2.length := ⟨hs x hm⟩
  refine ⟨[.sl 1 (intRows x.2)], by simp [layRowsT, hx], ?_⟩
  have : FrzL B [.v (gsv x.1 x.2.length)] [.sl 1 (intRows x.2)] := inferInstance
  exact this.eq⟩
theorem qs_range {o : OpD} {q b : Int} (h : faultS o q b = 0) (hq : q ≤ 64) (hb : b ≤ 64) (hw : OpW o) : OpP o := by
  obtain ⟨_, _, _, h4, h5, _⟩ := fault_ok h
  refine ⟨fun x hx => ?_, fun hk => ?_, hw⟩
  · have := List.any_eq_false.1 h4 x hx
    simp [outS] at this
    exact this.1
  · simp only [bitBad, hk] at h5
    simp at h5
    exact h5.1
theorem set_mid {α : Type} (a : List α) (x y : α) (b : List α) {i : Nat} (h : a.length = i) : (a ++ x :: b).set i y = a ++ y :: b := by
  subst h; simp
set_option maxHeartbeats 2000000 in
theorem layersT {c : CircD} (hw : CircW c) : Fn Try.prog 18 [circT c] (fun r => r = .tup [layT (layersC c).1, intT (layersC c).2]) := by
  refine Fn_of Try.func18 rfl (Nat.le_of_ble_eq_true rfl) (fun X => ?_)
  repeat (first | refine StepC.go ?_ | intro _)
  rename_i p
  refine TS_callE (checkT hw) ?_
  repeat (refine StepC.go ?_)
  refine TV_cond ?_ ?_ <;> intro hc
  · repeat (refine StepC.go ?_)
    refine retT_2c [.sl 1 [], intT (checkC c).2] (.inr rfl) ?_
    simp only [tret, layersC]
    rw [if_neg (by simpa using hc)]; rfl
  have hck : (checkC c).2 = 0 := by simpa using hc
  obtain ⟨hr, hlen, hfl⟩ := checkC_ok hck
  obtain ⟨_, hq64, _, hb64⟩ := rangeBad_no hr
  have hop : ∀ o ∈ c.ops, OpP o := fun o ho => qs_range (hfl o ho) hq64 hb64 (hw o ho)
  have hl1 : LenT (opRows c.ops) c.ops.length := inferInstance
  have hl2 := hl1.eq
  repeat (first | refine StepC.go ?_ | refine TS_makeSlice (by omega) (fun _ => ?_))
  rename_i bs
  rw [hl2, replicate_int]
  obtain ⟨n, hn⟩ : ∃ n, n = c.ops.length := ⟨_, rfl⟩
  rw [← hn]
  refine TV_ghost 1 25 ?_
  intro bl
  have hstep0 : stepsS boundS c.ops 0 = [] := rfl
  refine TV_loop (fun d σ B => ∃ (i : Nat) (bl : Nat) (fam : List (Nat × List Int)), d = n - i ∧ i ≤ n ∧ TGet σ 26 (intT i) ∧ TGet σ 25 (intT n) ∧ TGet σ 24 (.sl 7 (opRows c.ops)) ∧ TGet σ 1 (.v (.pointer (some (ad p 0)))) ∧ TGet σ 7 (.v (.slice (some (ad bs 0)) n n)) ∧ TGet σ 6 (.v (gsv bl fam.length)) ∧
      SubP B ((p, .cells (circCs c) 24 true) :: (bs, .arr 1 (intRows (stepsS boundS c.ops i ++ List.replicate (n - i) 0)) 3 true) :: (bl, .arr 1 (famR fam) 25 false) :: famB 3 fam) ∧
      fam.map Prod.snd = laysS (stepsS boundS c.ops i) ∧ (∀ x ∈ stepsS boundS c.ops i, 0 ≤ x ∧ x < fam.length) ∧ fam.length ≤ i ∧ ∀ x ∈ fam, x.2.length ≤ i) n
    ⟨0, bl, [], by omega, by omega, inferInstance, inferInstance, inferInstance, inferInstance, tget_as (by rw [hn]), tget_as rfl, by
      rw [hstep0, List.nil_append, Nat.sub_zero]
      show SubP _ [_, _, (bl, .arr 1 [] 25 false)]
      infer_instance, rfl, by simp [hstep0], by simp, by simp⟩ ?_
  rintro d σ B ⟨i, bl, fam, rfl, hi, g26, g25, g24, g1, g7, g6, hB, hfam, hst, hfl1, hfl2⟩
  refine TV_keep _ (p := hB) ?_
  repeat (refine StepC.go ?_)
  refine TV_cond ?_ ?_ <;> intro hc2
  · have hil : i < n := by simp at hc2; omega
    obtain ⟨o, ho⟩ : ∃ o, c.ops[i]? = some o := ⟨_, List.getElem?_eq_getElem (by omega)⟩
    have ng : NthG (opRows c.ops) i (opCs o) := .map opCs ho
    have hpo := hop o (List.mem_of_getElem? ho)
    have hsl := stepsS_len boundS c.ops i
    have hrep : List.replicate (n - i) (0 : Int) = 0 :: List.replicate (n - i - 1) 0 := by rw [← List.replicate_succ]; congr 1; omega
    rw [hrep]
    repeat (first | refine StepC.go ?_ | intro _)
    rename_i q
    have hLn : ∀ s : Int, LenT (intRows (stepsS boundS c.ops i ++ s :: List.replicate (n - i - 1) 0)) n := fun s => ⟨by simp [intRows, hsl]; omega⟩
    have hAi : ∀ s : Int, NthG (intRows (stepsS boundS c.ops i ++ s :: List.replicate (n - i - 1) 0)) i [intT s] := fun s => .map (fun x => [intT x]) (by simp [hsl])
    have hSi : ∀ s z : Int, SetR (intRows (stepsS boundS c.ops i ++ s :: List.replicate (n - i - 1) 0)) i [intT z] (intRows (stepsS boundS c.ops i ++ z :: List.replicate (n - i - 1) 0)) := fun s z => ⟨by
      rw [← set_mid (stepsS boundS c.ops i) s z _ hsl]; simp [intRows, List.map_set]⟩
    refine TV_loop (fun d σ B => ∃ (j : Nat) (s : Int), d = i - j ∧ j ≤ i ∧ TGet σ 32 (intT j) ∧ TGet σ 31 (intT i) ∧ TGet σ 8 (intT i) ∧ TGet σ 9 (.v (.pointer (some (ad q 0)))) ∧ TGet σ 26 (intT i) ∧ TGet σ 25 (intT n) ∧ TGet σ 24 (.sl 7 (opRows c.ops)) ∧ TGet σ 1 (.v (.pointer (some (ad p 0)))) ∧ TGet σ 7 (.v (.slice (some (ad bs 0)) n n)) ∧ TGet σ 6 (.v (gsv bl fam.length)) ∧
      SubP B ((q, .cells (opCs o) 44 true) :: (p, .cells (circCs c) 24 true) :: (bs, .arr 1 (intRows (stepsS boundS c.ops i ++ s :: List.replicate (n - i - 1) 0)) 3 true) :: (bl, .arr 1 (famR fam) 25 false) :: famB 3 fam) ∧
      s = stepK boundS o (c.ops.take j) ((stepsS boundS c.ops i).take j) 0) i
      ⟨0, 0, by omega, by omega, inferInstance, inferInstance, inferInstance, inferInstance, inferInstance, inferInstance, inferInstance, inferInstance, inferInstance, inferInstance, inferInstance, by simp [stepK]⟩ ?_
    rintro d σ B ⟨j, s, rfl, hj, g32, g31, g8, g9, g26, g25, g24, g1, g7, g6, hB, hs⟩
    have hsb := stepK_bounds boundS o fam.length (c.ops.take j) ((stepsS boundS c.ops i).take j) 0 (by omega) (by omega) (fun x hx => hst x (List.mem_of_mem_take hx))
    rw [← hs] at hsb
    refine TV_keep _ (p := hB) ?_
    repeat (refine StepC.go ?_)
    refine TV_cond ?_ ?_ <;> intro hc3
    · have hji : j < i := by simp at hc3; omega
      obtain ⟨a, ha⟩ : ∃ a, c.ops[j]? = some a := ⟨_, List.getElem?_eq_getElem (by omega)⟩
      obtain ⟨x, hx⟩ : ∃ x, (stepsS boundS c.ops i)[j]? = some x := ⟨_, List.getElem?_eq_getElem (by omega)⟩
      have hxb := hst x (List.mem_of_getElem? hx)
      have nga : NthG (opRows c.ops) j (opCs a) := .map opCs ha
      have hAj : NthG (intRows (stepsS boundS c.ops i ++ s :: List.replicate (n - i - 1) 0)) j [intT x] := .map (fun x => [intT x]) (by rw [List.getElem?_append_left (by omega)]; exact hx)
      have hstep := stepK_take boundS o ha hx
      rw [← hs] at hstep
      iterate 3 refine StepC.go ?_
      refine TV_cut (fun σ B => ∃ s', TGet σ 32 (intT j) ∧ TGet σ 31 (intT i) ∧ TGet σ 8 (intT i) ∧ TGet σ 9 (.v (.pointer (some (ad q 0)))) ∧ TGet σ 26 (intT i) ∧ TGet σ 25 (intT n) ∧ TGet σ 24 (.sl 7 (opRows c.ops)) ∧ TGet σ 1 (.v (.pointer (some (ad p 0)))) ∧ TGet σ 7 (.v (.slice (some (ad bs 0)) n n)) ∧ TGet σ 6 (.v (gsv bl fam.length)) ∧
        SubP B ((q, .cells (opCs o) 44 true) :: (p, .cells (circCs c) 24 true) :: (bs, .arr 1 (intRows (stepsS boundS c.ops i ++ s' :: List.replicate (n - i - 1) 0)) 3 true) :: (bl, .arr 1 (famR fam) 25 false) :: famB 3 fam) ∧
        s' = if s ≤ x ∧ boundS a o = true then x + 1 else s) ?_ ?_
      · have h0 : -9223372036854775808 ≤ x + 1 ∧ x + 1 ≤ 9223372036854775807 := by omega
        repeat (first | refine StepC.go ?_ | refine TD_take rfl rfl ?_ | refine TD_load rfl rfl ?_ | refine TV_draw (id := 12) (plan := [.take 0, .take 1, .take 2, .take 3, .take 4, .take 5, .take 6, .take 7, .take 8, .take 9, .take 10, .take 11, .take 12, .take 13, .take 14, .take 15, .one 16, .take 17]) (by kernel_rfl) ?_)
        refine TD_guard rfl rfl ?_ ?_ <;> intro hg
        · have hsx : s ≤ x := by simpa using hg
          repeat (first | refine TS_on rfl (by first | rfl | assumption) ?_ | refine TD_one rfl ?_ | refine FiltT_nil ?_ | refine FiltT_drop rfl ?_ | refine FiltT_keep rfl ?_ | refine TD_take_on rfl rfl (by first | rfl | assumption) rfl ?_ | refine TD_load_on rfl rfl (by first | rfl | assumption) rfl ?_)
          refine TS_callE (boundT (hop a (List.mem_of_getElem? ha)) hpo) ?_
          repeat (first | refine StepC.go ?_ | refine TD_take rfl rfl ?_)
          refine TV_cond ?_ ?_ <;> intro hb
          · have hbd : boundS a o = true := by simpa [hsx] using hb
            repeat (first | refine StepC.go ?_ | refine TS_puw (Pu.addi (by omega)) ?_)
            exact ⟨x + 1, inferInstance, inferInstance, inferInstance, inferInstance, inferInstance, inferInstance, inferInstance, inferInstance, inferInstance, inferInstance, inferInstance, by rw [if_pos ⟨hsx, hbd⟩]⟩
          · have hbd : ¬ boundS a o = true := by simpa [hsx] using hb
            repeat (refine StepC.go ?_)
            exact ⟨s, inferInstance, inferInstance, inferInstance, inferInstance, inferInstance, inferInstance, inferInstance, inferInstance, inferInstance, inferInstance, inferInstance, by rw [if_neg fun h => hbd h.2]⟩
        · have hsx : ¬ s ≤ x := by simpa using hg
          repeat (first | refine StepC.go ?_ | refine TS_off rfl (by first | rfl | assumption) ?_ | refine TD_one rfl ?_ | refine FiltT_nil ?_ | refine FiltT_keep rfl ?_ | refine TD_off rfl rfl (by first | rfl | assumption) ?_ | refine TD_takew rfl rfl (Pu.pick_f (by first | rfl | assumption)) ?_ | refine TV_cond_f (by first | rfl | assumption) ?_)
          exact ⟨s, inferInstance, inferInstance, inferInstance, inferInstance, inferInstance, inferInstance, inferInstance, inferInstance, inferInstance, inferInstance, inferInstance, by rw [if_neg fun h => hsx h.1]⟩
      · rintro σ B ⟨s', g32, g31, g8, g9, g26, g25, g24, g1, g7, g6, hB, hs'⟩
        repeat (first | refine StepC.go ?_ | refine TS_puw (Pu.addi (by omega)) ?_)
        refine ⟨_, ?_, j + 1, s', rfl, by omega, inferInstance, inferInstance, inferInstance, inferInstance, inferInstance, inferInstance, inferInstance, inferInstance, inferInstance, inferInstance, hB, by rw [hs', hstep]⟩
        omega
    · have hji : j = i := by simp at hc3; omega
      subst hji
      rw [List.take_of_length_le (Nat.le_of_eq hsl)] at hs
      have hgd : c.ops.getD j ⟨0, .empty, [], 0, false, 0, 0⟩ = o := by simp [List.getD, ho]
      have hSs : stepsS boundS c.ops (j + 1) = stepsS boundS c.ops j ++ [s] := by
        rw [stepsS, hgd, stepK_short, hsl, ← hs]
      have hss := asNat_of hsb.1
      repeat (refine StepC.go ?_)
      refine TV_cut (fun σ B => ∃ (bl : Nat) (fam' : List (Nat × List Int)), TGet σ 8 (intT j) ∧ TGet σ 26 (intT j) ∧ TGet σ 25 (intT n) ∧ TGet σ 24 (.sl 7 (opRows c.ops)) ∧ TGet σ 1 (.v (.pointer (some (ad p 0)))) ∧ TGet σ 7 (.v (.slice (some (ad bs 0)) n n)) ∧ TGet σ 6 (.v (gsv bl fam'.length)) ∧
        SubP B ((p, .cells (circCs c) 24 true) :: (bs, .arr 1 (intRows (stepsS boundS c.ops j ++ s :: List.replicate (n - j - 1) 0)) 3 true) :: (bl, .arr 1 (famR fam') 25 false) :: famB 3 fam') ∧
        fam'.map Prod.snd = (if s.toNat = fam.length then fam.map Prod.snd ++ [[]] else fam.map Prod.snd) ∧ s.toNat < fam'.length ∧ fam.length ≤ fam'.length ∧ fam'.length ≤ j + 1 ∧ ∀ x ∈ fam', x.2.length ≤ j) ?_ ?_
      · refine TV_cond ?_ ?_ <;> intro hs2
        · have hsL : s.toNat = fam.length := by simp at hs2; omega
          refine TV_ghost 1 3 ?_
          intro bg
          repeat (first | refine StepC.go ?_ | intro _ | refine TS_append (by omega) (fun _ => ?_))
          have hR : famR fam ++ [[.v (.slice none 0 0)]] = famR (fam ++ [(bg, [])]) := by simp [famR, gsv]
          rw [hR]
          rename_i bl2
          have hF : famB 3 (fam ++ [(bg, [])]) = famB 3 fam ++ [(bg, .arr 1 [] 3 false)] := by simp [famB, intRows]
          refine ⟨bl2, fam ++ [(bg, [])], inferInstance, inferInstance, inferInstance, inferInstance, inferInstance, inferInstance, tget_as (by rw [List.length_append]; rfl), ?_, by rw [if_pos hsL]; simp, by simp; omega, by simp, by simp; omega, ?_⟩
          · rw [hF]
            refine SubP.last (k := (bg, .arr 1 [] 3 false)) (L := (p, .cells (circCs c) 24 true) :: (bs, .arr 1 (intRows (stepsS boundS c.ops j ++ s :: List.replicate (n - j - 1) 0)) 3 true) :: (bl2, .arr 1 (famR (fam ++ [(bg, [])])) 25 false) :: famB 3 fam) ?_
            infer_instance
          · intro x hx
            rcases List.mem_append.1 hx with h1 | h1
            · exact hfl2 x h1
            · simp at h1; subst h1; simp
        · have hsL : ¬ s.toNat = fam.length := by simp at hs2; omega
          repeat (refine StepC.go ?_)
          exact ⟨bl, fam, inferInstance, inferInstance, inferInstance, inferInstance, inferInstance, inferInstance, inferInstance, inferInstance, by rw [if_neg hsL], by omega, Nat.le_refl _, by omega, hfl2⟩
      · clear hfl2
        rintro σ B ⟨bl, fam', g8, g26, g25, g24, g1, g7, g6, hB, hf1, hf2, hf3, hf4, hfl2⟩
        refine TV_keep _ (p := hB) ?_
        obtain ⟨x, hx⟩ : ∃ x, fam'[s.toNat]? = some x := ⟨_, List.getElem?_eq_getElem hf2⟩
        obtain ⟨bk, lk⟩ := x
        have hlk := hfl2 _ (List.mem_of_getElem? hx)
        simp only at hlk
        have q1 := famB_is (e := 3) hx
        have q2 := famB_in (e := 3) hx
        have q3 : ∀ b', BoxPut (famB 3 fam') bk b' (.arr 1 (intRows lk ++ [[intT (j : Int)]]) 3 false) (famB 3 (fam'.set s.toNat (b', lk ++ [(j : Int)]))) := fun b' => famB_put (l2 := [(j : Int)]) hx b'
        have q4 := famR_at hx
        have q5 : ∀ b', SetR (famR fam') s.toNat [.v (gsv b' (lk.length + 1))] (famR (fam'.set s.toNat (b', lk ++ [(j : Int)]))) := fun b' => ⟨by simp [famR, List.map_set]⟩
        repeat (first | refine StepC.go ?_ | intro _ | refine TS_puw (Pu.addi (by omega)) ?_ | refine TS_append (by omega) (fun _ => ?_) | refine TD_take rfl rfl ?_ | refine TD_load rfl rfl ?_ | refine TD_one rfl ?_ | refine FiltT_nil ?_ | refine FiltT_drop rfl ?_ | refine FiltT_keep rfl ?_ | refine TV_draw (id := 17) (plan := [.take 0, .take 1, .take 2, .take 3, .take 4, .take 5, .take 6, .take 7, .take 8, .take 9, .take 10, .take 11, .take 12, .one 13, .one 14, .take 15, .one 16]) (by kernel_rfl) ?_)
        have hr2 : List.replicate (n - (j + 1)) (0 : Int) = List.replicate (n - j - 1) 0 := by congr 1
        rename_i bk2
        refine ⟨_, ?_, j + 1, bl, fam'.set s.toNat (bk2, lk ++ [(j : Int)]), rfl, by omega, inferInstance, inferInstance, inferInstance, inferInstance, inferInstance, tget_as (by rw [List.length_set]), ?_, ?_, ?_, ?_, ?_⟩
        · omega
        · rw [hSs, hr2, List.append_assoc]
          show SubP _ (_ :: (bs, .arr 1 (intRows (stepsS boundS c.ops j ++ s :: List.replicate (n - j - 1) 0)) 3 true) :: _)
          infer_instance
        · rw [hSs, laysS, laysK_app, ← laysS, ← hfam]
          simp only [laysK, layS, hsl, Int.zero_add, List.length_map]
          rw [List.map_set, ← hf1]
          congr 1
          simp [List.getD, hx]
        · rw [hSs, List.length_set]
          intro y hy
          rcases List.mem_append.1 hy with h1 | h1
          · have := hst y h1; omega
          · simp at h1; subst h1; omega
        · rw [List.length_set]; omega
        · intro y hy
          rcases List.mem_or_eq_of_mem_set hy with h1 | rfl
          · have := hfl2 y h1; omega
          · simp; omega
  · have hil : i = n := by simp at hc2; omega
    subst hil
    have : Sm63 fam.length := ⟨by omega⟩
    have hfz := famR_frz (B := (p, .cells (circCs c) 24 true) :: (bs, .arr 1 (intRows (stepsS boundS c.ops i ++ List.replicate (i - i) 0)) 3 true) :: (bl, .arr 1 (famR fam) 25 false) :: famB 3 fam) (e := 3) (fam := fam) (fun x hx => by
      have : BoxIs (famB 3 fam) x.1 (.arr 1 (intRows x.2) 3 false) := ⟨List.mem_map.2 ⟨x, hx, rfl⟩⟩
      infer_instance) (fun x hx => by have := hfl2 x hx; omega)
    repeat (refine StepC.go ?_)
    refine retT_2 (.inr rfl) ?_
    simp only [tret, layersC]
    rw [if_pos hck, hfam, hn]
instance : CallIs Try.prog 18 := .of Try.func18 rfl rfl
end Go.Ideal

-- Te
set_option linter.unusedSimpArgs false
set_option linter.unusedVariables false
namespace Go.Ideal
open Go Go.Proofs Go.RowKit
/-! ### Copies; the circuit that takes it back -/
theorem cloneIntT (xs : List Int) (hl : xs.length < 2 ^ 36) : Fn Try.prog 103 [.sl 1 (intRows xs)] (fun r => r = .sl 1 (intRows xs)) := by
  refine Fn_of Try.func103 rfl (Nat.le_of_ble_eq_true rfl) (fun X => ?_)
  have : Sm63 (0 + xs.length) := ⟨by omega⟩
  repeat (refine StepC.go ?_)
  refine TS_isnil ?_
  intro b hb
  repeat' (first | refine StepC.go ?_ | intro _ | refine TS_append_own (by omega) (fun _ => ?_) | (refine TV_cond ?_ ?_ <;> intro hc <;> try (cases hc; done)))
  · have : xs = [] := by have := hb hc; simpa [intRows] using this
    subst this
    refine retT_1c [.sl 1 []] (.inr rfl) ?_
    rfl
  · refine retT_1 (.inr rfl) ?_
    rfl
instance : CallIs Try.prog 103 := .of Try.func103 rfl rfl
theorem copiedT (o : OpD) (hl : o.qs.length < 2 ^ 36) : Fn Try.prog 58 [.agg (opCs o)] (fun r => r = .agg (opCs o)) := by
  refine Fn_of Try.func58 rfl (Nat.le_of_ble_eq_true rfl) (fun X => ?_)
  repeat (first | refine StepC.go ?_ | intro _)
  refine TS_call (cloneIntT o.qs hl) ?_
  rintro _ rfl
  repeat (refine StepC.go ?_)
  refine retT_1 (.inr rfl) ?_
  rfl
instance : CallIs Try.prog 58 := .of Try.func58 rfl rfl
def gateO (o : OpD) : Bool := decide (o.kind = 1)
theorem inverse1T (o : OpD) : Fn Try.prog 63 [.agg (opCs o)] (fun r => r = boolT (gateO o)) := by
  refine Fn_of Try.func63 rfl (Nat.le_of_ble_eq_true rfl) (fun X => ?_)
  repeat (first | refine StepC.go ?_ | intro _)
  exact retT_1 (.inr rfl) rfl
instance : CallIs Try.prog 63 := .of Try.func63 rfl rfl
theorem retK_none {P : Program} {E : Env} {s : Nat → Value} {h : IHp} {Φ : Value → IHp → Prop} (k : Φ (.tuple #[]) h) {e : IExit} (he : e = .normal ∨ e = .ret) : retK P E [] Φ e s h := by
  unfold retK; exact ⟨he, [], rfl, k⟩
theorem backOps : BackSpec Try.prog 107 7 := by
  intro y bx off n cap sa cs I h hn hbox helem hbody h0
  refine EvX_of Try.func107 rfl (by show 2 ≤ 19; decide) ?_
  have c0 := hbox n h (Nat.le_refl _) h0
  repeat' (first | refine V_seq ?_ | refine V_region ?_ | refine WS_nil ?_ | refine S_normal ?_ | refine V_block ?_ | refine WS_assign ?_ | refine WS_subi (by omega) ?_ | refine WS_len_slice ?_ | refine WS_load ?_)
  refine V_loop (fun d s h' => ∃ i : Nat, d = i ∧ i ≤ n ∧ Get s 3 (.int .i64 ((i : Int) - 1)) ∧ Get s 0 (.func (.yield y) #[] #[]) ∧ Get s 1 (.pointer (some (ad bx off))) ∧ I i h') n ⟨n, rfl, Nat.le_refl _, get_as rfl, inferInstance, inferInstance, h0⟩ ?_
  rintro d s h' ⟨_, rfl, hi, g3, g0, g1, hI⟩
  cases d with
  | zero =>
    repeat' (first | refine V_seq ?_ | refine V_region ?_ | refine WS_nil ?_ | refine S_normal ?_ | refine V_exit ?_ | refine S_exit ?_ | refine B_exit ?_ | refine WS_move ?_ | refine WS_cmp rfl ?_ | refine V_cond_f (by first | rfl | assumption) ?_)
    exact retK_none hI (.inl rfl)
  | succ j =>
    have g3' : Get s 3 (.int .i64 (j : Int)) := ⟨g3.eq.trans (by congr 1; omega)⟩
    clear g3
    have c1 := hbox (j + 1) h' hi hI
    obtain ⟨a, rfl, hr⟩ := helem j h' (by omega) hI
    have hb : 0 ≤ (j : Int) ∧ (j : Int) < (n : Int) := by omega
    have hr' : RowIs h' a.block (a.off + (j : Int).toNat * 7) 7 (cs j) := by rw [Int.toNat_natCast]; exact hr
    repeat' (first | refine V_seq ?_ | refine V_region ?_ | refine WS_nil ?_ | refine S_normal ?_ | refine V_block ?_ | refine V_skip ?_ | refine WS_move ?_ | refine WS_cmp rfl ?_ | refine WS_load ?_ | refine WS_load_agg ?_ | refine WS_indexAddr (by first | decide | omega) ?_ | refine V_cond_t (by first | rfl | assumption) ?_)
    refine WS_yield (hbody j h' (by omega) hI) ?_
    rintro _ H ⟨rfl, hI'⟩
    repeat' (first | refine V_region ?_ | refine WS_nil ?_ | refine S_normal ?_ | refine B_normal ?_ | refine V_skip ?_ | refine WS_move ?_ | refine WS_assign ?_ | refine WS_subi (by omega) ?_ | refine WS_not ?_ | refine V_cond_f (by first | rfl | assumption) ?_)
    refine ⟨_, ?_, j, rfl, by omega, inferInstance, inferInstance, inferInstance, hI'⟩
    omega
instance : CallIs Try.prog 107 := .of Try.func107 rfl rfl
theorem backwardT (rows : List (List Tr)) : Fn Try.prog 64 [.sl 7 rows] (fun r => r = .fn 107 [] [.pf [.sl 7 rows]]) := by
  refine Fn_of Try.func64 rfl (Nat.le_of_ble_eq_true rfl) (fun X => ?_)
  repeat (first | refine StepC.go ?_ | intro _)
  refine retT_1 (.inr rfl) ?_
  rfl
instance : CallIs Try.prog 64 := .of Try.func64 rfl rfl
def invO (o : OpD) : OpD := { o with name := (backS o.name).1 }
def inverseC (c : CircD) : CircD × Int :=
  if (checkC c).2 = 0 then (if c.ops.all gateO = true then (⟨c.qubits, c.bits, (c.ops.reverse.map invO)⟩, 0) else (⟨0, 0, []⟩, 121)) else (⟨0, 0, []⟩, (checkC c).2)
theorem opRows_app (xs ys : List OpD) : opRows (xs ++ ys) = opRows xs ++ opRows ys := by simp [opRows]
theorem qs_len {o : OpD} {q b : Int} (h : faultS o q b = 0) : o.qs.length ≤ 3 := by
  obtain ⟨_, _, h3, _⟩ := fault_ok h
  have : nS o ≤ 3 := by
    unfold nS
    split
    · have := arityS_03 o.name; omega
    · omega
  omega
theorem circInverseT {c : CircD} (hw : CircW c) : Fn Try.prog 25 [circT c] (fun r => r = .tup [circT (inverseC c).1, intT (inverseC c).2]) := by
  refine Fn_of_range Try.func25 rfl rfl (Nat.le_of_ble_eq_true rfl) (fun X => ?_)
  dsimp only
  repeat (first | refine StepC.go ?_ | intro _)
  rename_i p pr
  refine TS_callE (allT hw (p := gateO) fun o _ => inverse1T o) ?_
  repeat (refine StepC.go ?_)
  refine TV_cond ?_ ?_ <;> intro hc
  · repeat (refine StepC.go ?_)
    refine rangeT_ret (retT_2c [.agg [intT 0, intT 0, .sl 7 []], intT (checkC c).2] (.inr rfl) ?_)
    simp only [tret, inverseC]
    rw [if_neg (by simpa using hc)]; rfl
  have hck : (checkC c).2 = 0 := by simpa using hc
  obtain ⟨hr, hlen, hfl⟩ := checkC_ok hck
  rw [if_pos hck]
  repeat (refine StepC.go ?_)
  refine TV_cond ?_ ?_ <;> intro hg
  · repeat (refine StepC.go ?_)
    refine rangeT_ret (retT_2c [.agg [intT 0, intT 0, .sl 7 []], intT 121] (.inr rfl) ?_)
    simp only [tret, inverseC]
    rw [if_pos hck, if_neg (by simpa using hg)]; rfl
  have hga : c.ops.all gateO = true := by simpa using hg
  refine TV_ghost 7 44 ?_
  intro bl0
  repeat (first | refine StepC.go ?_ | intro _)
  rename_i pd
  refine TS_call (backwardT _) ?_
  rintro _ rfl
  repeat (refine StepC.go ?_)
  have hlo : (opRows c.ops).length = c.ops.length := by simp [opRows]
  refine rangeT_back backOps (fun i B => ∃ bl, SubP B [(pr, .cells [intT 0, intT 0, .v (.slice none 0 0)] 24 true), (pd, .cells [intT c.qubits, intT c.bits, .v (gsv bl (c.ops.length - i))] 24 true), (bl, .arr 7 (opRows ((c.ops.drop i).reverse.map invO)) 44 false)]) (by rw [hlo]; omega) ?_ ?_ ?_
  · rw [hlo, Nat.sub_self, List.drop_length]
    exact ⟨bl0, inferInstanceAs (SubP _ [(pr, .cells [intT 0, intT 0, .v (.slice none 0 0)] 24 true), (pd, .cells [intT c.qubits, intT c.bits, .v (.slice none 0 0)] 24 true), (bl0, .arr 7 [] 44 false)])⟩
  · rintro X1 X2 i row B hrow ⟨bl, hB⟩
    refine TV_keep _ (p := hB) ?_
    simp only [opRows, List.getElem?_map, Option.map_eq_some_iff] at hrow
    obtain ⟨o, ho, rfl⟩ := hrow
    have hil := (List.getElem?_eq_some_iff.1 ho).1
    have hql := qs_len (hfl o (List.mem_of_getElem? ho))
    repeat (first | refine StepC.go ?_ | intro _)
    refine ⟨rfl, ?_⟩
    repeat (refine StepC.go ?_)
    refine TS_call (copiedT o (by omega)) ?_
    rintro _ rfl
    repeat (first | refine StepC.go ?_ | intro _)
    refine TS_callE (backT o.name) ?_
    have hL : LenT (opRows ((c.ops.drop (i + 1)).reverse.map invO)) (c.ops.length - (i + 1)) := ⟨by simp [opRows]⟩
    repeat (first | refine StepC.go ?_ | intro _ | refine TS_append (by omega) (fun _ => ?_))
    rename_i bl2
    refine ⟨rfl, bl2, ?_⟩
    have hd : opRows ((c.ops.drop i).reverse.map invO) = opRows ((c.ops.drop (i + 1)).reverse.map invO) ++ [opCs (invO o)] := by
      rw [drop_cons ho, List.reverse_cons, List.map_append, opRows_app]; rfl
    have hn : c.ops.length - i = c.ops.length - (i + 1) + 1 := by omega
    rw [hd, hn]
    exact inferInstanceAs (SubP _ [_, _, (bl2, .arr 7 (opRows ((c.ops.drop (i + 1)).reverse.map invO) ++ [[intT o.kind, strT (backS o.name).1, .sl 1 (intRows o.qs), intT o.bit, boolT o.iff, u64T o.mask, u64T o.value]]) 44 false)])
  · rintro B mk ⟨bl, hB⟩ X2
    refine TV_keep _ (p := hB) ?_
    rw [Nat.sub_zero, List.drop_zero]
    have hL : LenT (opRows (c.ops.reverse.map invO)) c.ops.length := ⟨by simp [opRows]⟩
    have : Sm63 c.ops.length := ⟨by omega⟩
    repeat (refine StepC.go ?_)
    refine retT_2 (.inr rfl) ?_
    simp only [tret, inverseC]
    rw [if_pos hck, if_pos hga]
instance : CallIs Try.prog 25 := .of Try.func25 rfl rfl
end Go.Ideal

-- Tf
set_option linter.unusedSimpArgs false
set_option linter.unusedVariables false
namespace Go.Ideal
open Go Go.Proofs Go.RowKit
/-! ### The laws' own example -/
def gateD (nm : ByteArray) (qs : List Int) : OpD := ⟨1, nm, qs, 0, false, 0, 0⟩
theorem gateT (nm : ByteArray) (qs : List Int) : Fn Try.prog 54 [strT nm, .sl 1 (intRows qs)] (fun r => r = .agg (opCs (gateD nm qs))) := by
  refine Fn_of Try.func54 rfl (Nat.le_of_ble_eq_true rfl) (fun X => ?_)
  repeat (first | refine StepC.go ?_ | intro _)
  exact retT_1 (.inr rfl) rfl
instance : CallIs Try.prog 54 := .of Try.func54 rfl rfl
def nmH : ByteArray := ⟨#[104]⟩
def nmCx : ByteArray := ⟨#[99, 120]⟩
def pairD : CircD := ⟨2, 1, [gateD nmH [0], gateD nmCx [0, 1]]⟩
def badD : CircD := ⟨2, 0, [gateD nmH [0], gateD nmCx [0, 0]]⟩
theorem pairT : Fn Try.prog 52 [] (fun r => r = circT pairD) := by
  refine Fn_of Try.func52 rfl (Nat.le_of_ble_eq_true rfl) (fun X => ?_)
  repeat (first | refine StepC.go ?_ | intro _)
  rename_i b
  refine TS_freeze 1 b ?_
  refine TS_call (gateT nmH [0]) ?_
  rintro _ rfl
  repeat (first | refine StepC.go ?_ | intro _)
  rename_i b2
  refine TS_freeze 3 b2 ?_
  refine TS_call (gateT nmCx [0, 1]) ?_
  rintro _ rfl
  repeat (first | refine StepC.go ?_ | intro _)
  exact retT_1 (.inr rfl) rfl
instance : CallIs Try.prog 52 := .of Try.func52 rfl rfl
theorem pairW : CircW pairD := by
  intro o ho
  simp only [pairD, List.mem_cons, List.not_mem_nil, or_false] at ho
  rcases ho with rfl | rfl <;> exact ⟨by decide, by decide⟩
theorem badW : CircW badD := by
  intro o ho
  simp only [badD, List.mem_cons, List.not_mem_nil, or_false] at ho
  rcases ho with rfl | rfl <;> exact ⟨by decide, by decide⟩
theorem pair_halves : halvesC pairD = (1, 0) := by decide +kernel
theorem pair_layers : (layersC pairD).2 = 0 ∧ (layersC pairD).1.length = 2 := by decide +kernel
theorem pair_inverse : inverseC pairD = (⟨2, 1, [gateD nmCx [0, 1], gateD nmH [0]]⟩, 0) := by kernel_rfl
theorem bad_check : checkC badD = (1, 113) := by decide +kernel
theorem awake11T : Fn Try.prog 15 [] (fun r => r = boolT true) := by
  refine Fn_of Try.func15 rfl (Nat.le_of_ble_eq_true rfl) (fun X => ?_)
  repeat (refine StepC.go ?_)
  refine TS_call pairT ?_
  rintro _ rfl
  skip
  refine TS_callE (circHalvesT pairW) ?_
  rw [pair_halves]
  repeat (refine StepC.go ?_)
  refine TS_call pairT ?_
  rintro _ rfl
  skip
  refine TS_call (layersT pairW) ?_
  rintro _ rfl
  rw [pair_layers.1]
  have hl := pair_layers.2
  repeat (refine StepC.go ?_)
  refine TS_call pairT ?_
  rintro _ rfl
  skip
  refine TS_call (circInverseT pairW) ?_
  rintro _ rfl
  rw [pair_inverse]
  repeat (first | refine StepC.go ?_ | intro _)
  rename_i b
  refine TS_freeze 25 b ?_
  refine TS_call (gateT nmH [0]) ?_
  rintro _ rfl
  repeat (first | refine StepC.go ?_ | intro _)
  rename_i b2
  refine TS_freeze 27 b2 ?_
  refine TS_call (gateT nmCx [0, 0]) ?_
  rintro _ rfl
  repeat (first | refine StepC.go ?_ | intro _)
  refine TS_callE (checkT (c := badD) badW) ?_
  rw [bad_check]
  have ng : NthG (opRows [gateD nmCx [0, 1], gateD nmH [0]]) 0 (opCs (gateD nmCx [0, 1])) := ⟨rfl⟩
  have hl2 : (layRowsT (layersC pairD).1).length = 2 := by rw [← hl]; simp [layRowsT]
  repeat (first | refine StepC.go ?_ | refine TS_on rfl (by first | rfl | assumption) ?_)
  refine retT_1 (.inr rfl) ?_
  simp [tret, hl2, opRows, gateD, nmCx, beqS]
instance : CallIs Try.prog 15 := .of Try.func15 rfl rfl
end Go.Ideal

-- Tj
set_option linter.unusedSimpArgs false
set_option linter.unusedVariables false
namespace Go.Ideal
open Go Go.Proofs Go.RowKit
/-! ### The reference's order of operations -/
instance : CallIs Try.prog 60 := .of Try.func60 rfl rfl
instance : CallIs Try.prog 59 := .of Try.func59 rfl rfl
instance : CallIs Try.prog 22 := .of Try.func22 rfl rfl
end Go.Ideal

-- Tk
set_option linter.unusedSimpArgs false
set_option linter.unusedVariables false
namespace Go.Ideal
open Go Go.Proofs Go.RowKit
/-! ### The reference's steps and layers -/
/-- what an operation that is none at fault is like -/
structure OpG (o : OpD) : Prop where
  qs : ∀ q ∈ o.qs, 0 ≤ q ∧ q < 64
  bit : o.kind = 2 → 0 ≤ o.bit ∧ o.bit < 64
  mask : o.iff = false → o.mask = 0
  w : OpW o
  len : o.qs.length ≤ 3
theorem OpG.p {o : OpD} (h : OpG o) : OpP o := ⟨fun q hq => (h.qs q hq).1, fun hk => (h.bit hk).1, h.w⟩
theorem opG_of {o : OpD} {q b : Int} (h : faultS o q b = 0) (hq : q ≤ 64) (hb : b ≤ 64) (hw : OpW o) : OpG o := by
  have hl := qs_len h
  obtain ⟨h1, _, _, h4, h5, _⟩ := fault_ok h
  refine ⟨fun x hx => ?_, fun hk => ?_, fun hi => ?_, hw, hl⟩
  · have := List.any_eq_false.1 h4 x hx
    simp [outS] at this
    omega
  · simp only [bitBad, hk] at h5
    simp at h5
    omega
  · simp only [shapeBad, Bool.or_eq_false_iff] at h1
    have h2 := h1.1.1.2
    simp only [bad2, hi] at h2
    simp at h2
    exact h2.1
end Go.Ideal

-- Tl
set_option linter.unusedSimpArgs false
set_option linter.unusedVariables false
namespace Go.Ideal
open Go Go.Proofs Go.RowKit
instance : CallIs Try.prog 56 := .of Try.func56 rfl rfl
end Go.Ideal

-- Tm
set_option linter.unusedSimpArgs false
set_option linter.unusedVariables false
namespace Go.Ideal
open Go Go.Proofs Go.RowKit
/-! ### The reference's layers; lists that are the same -/
theorem circ_good {c : CircD} (hw : CircW c) (h : (checkC c).2 = 0) : c.ops.length ≤ 4096 ∧ ∀ o ∈ c.ops, OpG o := by
  obtain ⟨hr, hlen, hfl⟩ := checkC_ok h
  obtain ⟨_, hq64, _, hb64⟩ := rangeBad_no hr
  exact ⟨hlen, fun o ho => opG_of (hfl o ho) hq64 hb64 (hw o ho)⟩
instance : CallIs Try.prog 16 := .of Try.func16 rfl rfl
end Go.Ideal

-- Tn
set_option linter.unusedSimpArgs false
set_option linter.unusedVariables false
namespace Go.Ideal
open Go Go.Proofs Go.RowKit
/-! ### The same lists, the same circuits -/
instance : CallIs Try.prog 20 := .of Try.func20 rfl rfl
set_option synthInstance.maxSize 4000 in
set_option synthInstance.maxHeartbeats 400000 in
set_option maxHeartbeats 4000000 in
theorem sameT {c : CircD} (hs : ∀ o ∈ c.ops, o.qs.length < 2 ^ 40) : Fn Try.prog 21 [circT c, circT c] (fun r => r = boolT true) := by
  refine Fn_of Try.func21 rfl (Nat.le_of_ble_eq_true rfl) (fun X => ?_)
  refine TV_fact 0 (fun F v h => by obtain ⟨w, h1⟩ := rep_agg_at h (i := 2) rfl; exact rep_small h1) fun hsm => ?_
  have hL : (opRows c.ops).length = c.ops.length := by simp [opRows]
  rw [hL] at hsm
  repeat (first | refine StepC.go ?_ | intro _ | refine TS_on rfl (by first | rfl | assumption) ?_ | refine TV_cond_f (by first | rfl | assumption) ?_)
  rename_i pa pb
  refine TV_loop (fun d σ B => ∃ i : Nat, d = c.ops.length - i ∧ i ≤ c.ops.length ∧ TGet σ 5 (intT i) ∧ TGet σ 2 (.v (.pointer (some (ad pa 0)))) ∧ TGet σ 3 (.v (.pointer (some (ad pb 0)))) ∧ SubP B [(pa, .cells (circCs c) 24 true), (pb, .cells (circCs c) 24 true)]) c.ops.length
    ⟨0, by omega, by omega, inferInstance, inferInstance, inferInstance, inferInstance⟩ ?_
  rintro d σ B ⟨i, rfl, hi, g5, g2, g3, hB⟩
  refine TV_keep _ (p := hB) ?_
  repeat (refine StepC.go ?_)
  rw [hL]
  refine TV_cond ?_ ?_ <;> intro hc
  · have hil : i < c.ops.length := by simp at hc; omega
    obtain ⟨o, ho⟩ : ∃ o, c.ops[i]? = some o := ⟨_, List.getElem?_eq_getElem hil⟩
    have ng : NthG (opRows c.ops) i (opCs o) := .map opCs ho
    have hL2 : (intRows o.qs).length = o.qs.length := by simp [intRows]
    repeat (first | refine StepC.go ?_ | intro _ | refine TS_on rfl (by first | rfl | assumption) ?_ | refine TD_take rfl rfl ?_ | refine TD_load rfl rfl ?_ | refine TD_one rfl ?_ | refine FiltT_nil ?_ | refine FiltT_drop rfl ?_ | refine FiltT_keep rfl ?_ | refine TD_virt rfl rfl rfl (fun _ => ?_) | refine TV_draw (id := 6) (plan := [.take 0, .take 1, .take 2, .take 3, .take 4, .take 5, .take 6, .take 7, .take 8, .take 9, .virt 10, .one 11, .one 12, .one 13]) (by kernel_rfl) ?_)
    rename_i px py
    have hbb : (!o.iff == o.iff) = false := by simp
    rw [hbb]
    repeat (first | refine StepC.go ?_ | refine TS_on rfl (by first | rfl | assumption) ?_ | refine TV_cond_f (by first | rfl | assumption) ?_)
    refine TV_loop (fun d σ B => ∃ j : Nat, d = o.qs.length - j ∧ j ≤ o.qs.length ∧ TGet σ 8 (intT j) ∧ TGet σ 5 (intT i) ∧ TGet σ 6 (.v (.pointer (some (ad px 0)))) ∧ TGet σ 7 (.v (.pointer (some (ad py 0)))) ∧ TGet σ 2 (.v (.pointer (some (ad pa 0)))) ∧ TGet σ 3 (.v (.pointer (some (ad pb 0)))) ∧ SubP B [(px, .cells (opCs o) 44 true), (py, .cells (opCs o) 44 true), (pa, .cells (circCs c) 24 true), (pb, .cells (circCs c) 24 true)]) o.qs.length
      ⟨0, by omega, by omega, inferInstance, inferInstance, inferInstance, inferInstance, inferInstance, inferInstance, inferInstance⟩ ?_
    rintro d σ B ⟨j, rfl, hj, g8, g5, g6, g7, g2, g3, hB⟩
    refine TV_keep _ (p := hB) ?_
    have hqs := hs o (List.mem_of_getElem? ho)
    repeat (refine StepC.go ?_)
    rw [hL2]
    refine TV_cond ?_ ?_ <;> intro hc2
    · have hjl : j < o.qs.length := by simp at hc2; omega
      obtain ⟨x, hx⟩ : ∃ x, o.qs[j]? = some x := ⟨_, List.getElem?_eq_getElem hjl⟩
      have ngx : NthG (intRows o.qs) j [intT x] := .map (fun x => [intT x]) hx
      repeat (first | refine StepC.go ?_ | refine TS_puw (Pu.addi (by omega)) ?_ | refine TD_take rfl rfl ?_ | refine TD_load rfl rfl ?_ | refine TV_draw (id := 12) (plan := [.take 0, .take 1, .take 2, .take 3, .take 4, .take 5, .take 6, .take 7, .take 8, .take 9, .take 10]) (by kernel_rfl) ?_ | refine TV_cond_f (by first | rfl | assumption) ?_)
      refine ⟨_, ?_, j + 1, rfl, by omega, inferInstance, inferInstance, inferInstance, inferInstance, inferInstance, inferInstance, inferInstance⟩
      omega
    · repeat (first | refine StepC.go ?_ | refine TS_puw (Pu.addi (by omega)) ?_)
      refine ⟨_, ?_, i + 1, rfl, by omega, inferInstance, inferInstance, inferInstance, inferInstance⟩
      omega
  · repeat (refine StepC.go ?_)
    refine retT_1 (.inr rfl) ?_
    rfl
instance : CallIs Try.prog 21 := .of Try.func21 rfl rfl
end Go.Ideal

-- To
set_option linter.unusedSimpArgs false
set_option linter.unusedVariables false
namespace Go.Ideal
open Go Go.Proofs Go.RowKit
/-! ### A circuit in memory of its own -/
instance : CallIs Try.prog 35 := .of Try.func35 rfl rfl
end Go.Ideal

-- Tp
set_option linter.unusedSimpArgs false
set_option linter.unusedVariables false
namespace Go.Ideal
open Go Go.Proofs Go.RowKit
/-! ### Operations in another order -/
def boolRows (xs : List Bool) : List (List Tr) := xs.map fun x => [boolT x]
instance {xs : List Bool} {i : Nat} {z : Bool} : SetR (boolRows xs) i [boolT z] (boolRows (xs.set i z)) := ⟨by simp [boolRows, List.map_set]⟩
theorem take_succ {α : Type} {l : List α} {i : Nat} {a : α} (h : l[i]? = some a) : l.take (i + 1) = l.take i ++ [a] := by rw [List.take_add_one, h]; rfl
instance : CallIs Try.prog 19 := .of Try.func19 rfl rfl
end Go.Ideal

-- Tq
set_option linter.unusedSimpArgs false
set_option linter.unusedVariables false
namespace Go.Ideal
open Go Go.Proofs Go.RowKit
/-! ### The reference's order -/
instance : CallIs Try.prog 17 := .of Try.func17 rfl rfl
end Go.Ideal

-- Th
set_option linter.unusedSimpArgs false
set_option linter.unusedVariables false
namespace Go.Ideal
open Go Go.Proofs Go.RowKit
/-! ### From the arguments to trees -/
theorem repR_of {F : Mem} {b m : Nat} : ∀ {rows : List (List Tr)} {off : Nat}, (∀ (i : Nat) (row : List Tr), rows[i]? = some row → ∃ vs, rowM F b (off + i * m) m = some vs ∧ RepL F row vs) → RepR F b m rows off := by
  intro rows
  induction rows with
  | nil => intro off _; simp [RepR]
  | cons r rows ih =>
    intro off h
    simp only [RepR]
    refine ⟨by simpa using h 0 r rfl, ih fun i row hr => ?_⟩
    have := h (i + 1) row (by simpa using hr)
    rw [show off + (i + 1) * m = off + m + i * m by rw [Nat.add_mul]; omega] at this
    exact this
theorem ints_rep {h : IHp} {a : Option Addr} {l c : Nat} {xs : List Int} (hs : SlIs h a l c (ints xs)) (hc : c < 2 ^ 63) (hsp : SpotOk a c) : Rep h.cell? (.sl 1 (intRows xs)) (.slice a l c) := by
  obtain ⟨h1, h2, h3⟩ := hs
  rw [ints_len] at h1
  rw [Rep]
  refine ⟨a, l, c, rfl, by simp [intRows, h1], h2, hc, hsp, ?_⟩
  cases a with
  | none => exact h3
  | some a =>
    simp only at h3 ⊢
    refine repR_of fun i row hr => ?_
    simp only [intRows, List.getElem?_map, Option.map_eq_some_iff] at hr
    obtain ⟨x, hx, rfl⟩ := hr
    have hi := (List.getElem?_eq_some_iff.1 hx).1
    have hcell := row_cell h3 i (by omega)
    have hv : (ints xs)[i]? = some (.int .i64 x) := by simp [ints, hx]
    rw [hv] at hcell
    refine ⟨[.int .i64 x], ?_, RepL.cons (rep_v _) RepL.nil⟩
    rw [Nat.mul_one]
    simp [rowM, hcell]
theorem op_rep {h : IHp} {cells : List Value} {o : OpD} (x : OpC h cells o) : RepL h.cell? (opCs o) cells ∧ OpW o := by
  obtain ⟨a, l, c, rfl, h1, h2, h3, h4, h5⟩ := x
  exact ⟨RepL.cons (rep_v _) (RepL.cons (rep_v _) (RepL.cons (ints_rep h1 h4 h5) (RepL.cons (rep_v _) (RepL.cons (rep_v _) (RepL.cons (rep_v _) (RepL.cons (rep_v _) RepL.nil)))))), h2, h3⟩
theorem circ_rep {h : IHp} {a : Option Addr} {l k : Nat} {c : CircD} (x : OpsV h a l k c.ops) (hsp : SpotOk a k) : Rep h.cell? (circT c) (.agg [.int .i64 c.qubits, .int .i64 c.bits, .slice a l k].toArray) ∧ CircW c := by
  obtain ⟨h1, h2, h3, h4⟩ := x
  have hw : CircW c := by
    intro o ho
    obtain ⟨i, hi⟩ := List.getElem?_of_mem ho
    cases a with
    | none => simp only at h4; have : c.ops = [] := List.eq_nil_of_length_eq_zero (by omega); rw [this] at ho; cases ho
    | some a =>
      obtain ⟨cells, _, h6⟩ := h4 i o hi
      exact (op_rep h6).2
  refine ⟨?_, hw⟩
  rw [Rep]
  refine ⟨_, rfl, RepL.cons (rep_v _) (RepL.cons (rep_v _) (RepL.cons ?_ RepL.nil))⟩
  rw [Rep]
  refine ⟨a, l, k, rfl, by simp [opRows, h1], h2, h3, hsp, ?_⟩
  cases a with
  | none => exact h4
  | some a =>
    simp only
    refine repR_of fun i row hr => ?_
    simp only [opRows, List.getElem?_map, Option.map_eq_some_iff] at hr
    obtain ⟨o, ho, rfl⟩ := hr
    obtain ⟨cells, h5, h6⟩ := h4 i o ho
    exact ⟨cells, by rw [← row_rowM]; exact h5, (op_rep h6).1⟩
set_option maxRecDepth 100000 in
theorem circ_sp {h : IHp} {n : Nat} {cs : List Value} (hd : IRd Try.prog h (n + 5) 24 cs) : ∃ (c : CircD) (a : Option Addr) (l k : Nat), OpsV h a l k c.ops ∧ cs = [.int .i64 c.qubits, .int .i64 c.bits, .slice a l k] ∧ SpotOk a k := by
  obtain ⟨c, a, l, k, h1, h2⟩ := circ_of hd
  have h3 : cs = [.int .i64 c.qubits, .int .i64 c.bits, .slice a l k] := by simpa using h1
  refine ⟨c, a, l, k, h2, h3, ?_⟩
  have hu : ∃ f0 f1 f2, Try.prog.underlying 24 = some (.struct #[f0, f1, f2]) ∧ (f2.type = 22 ∧ f2.offset = 2) :=
    ⟨_, _, _, Try.underlying24, ⟨rfl, rfl⟩⟩
  obtain ⟨f0, f1, f2, hu, ⟨t2, o2⟩⟩ := hu
  have csl : Try.prog.cellsOf 22 = 1 := by kernel_rfl
  rw [IRd, hu] at hd
  obtain ⟨_, hf⟩ := hd
  have g2 := hf 2 f2 rfl
  rw [t2, o2, csl, h3] at g2
  simp only [List.take_succ_cons, List.take_zero, List.drop_zero, List.drop_succ_cons] at g2
  rw [IRd, (UnderIs.eq : Try.prog.underlying 22 = _)] at g2
  rcases g2 with e2 | ⟨a', l', c', e2, _, _, h6, _⟩
  · cases e2; exact fun d hd => by cases hd
  · cases e2
    intro d hd
    cases hd
    exact h6
set_option maxRecDepth 100000 in
theorem circ_tree {h : IHp} {n : Nat} {cs : List Value} (hd : IRd Try.prog h (n + 5) 24 cs) : ∃ c : CircD, Rep h.cell? (circT c) (.agg cs.toArray) ∧ CircW c := by
  have h0 := circ_sp hd
  clear hd
  obtain ⟨c, a, l, k, h1, h2, h3⟩ := h0
  exact ⟨c, by rw [h2]; exact circ_rep h1 h3⟩
theorem EvX_of_Fn {P : Program} {f : FuncId} {ts : List Tr} {vs : List Value} {h : IHp} (x : Fn P f ts (fun r => r = boolT true)) (hr : RepL h.cell? ts vs) : EvX P f vs.toArray h (fun v _ => v = .bool true) := by
  unfold Fn at x
  refine (x h.cell? h vs (Sub.refl _) hr).mono ?_
  rintro v h' ⟨_, F, r, _, _, _, h1, rfl⟩
  simpa only [Rep] using h1
end Go.Ideal

-- Tr
set_option linter.unusedSimpArgs false
set_option linter.unusedVariables false
namespace Go.Ideal
open Go Go.Proofs Go.RowKit
end Go.Ideal

-- Ts
set_option linter.unusedSimpArgs false
set_option linter.unusedVariables false
namespace Go.Ideal
open Go Go.Proofs Go.RowKit
/-! ### One circuit behind the other -/
end Go.Ideal

-- Tt
set_option linter.unusedSimpArgs false
set_option linter.unusedVariables false
namespace Go.Ideal
open Go Go.Proofs Go.RowKit
theorem growT {n : Nat} (hn : n ≤ 2 ^ 20) : FnO Try.prog 109 [.v (.slice none 0 0), intT n] (fun r B => (n = 0 ∧ r = .v (.slice none 0 0) ∧ B = []) ∨ (n ≠ 0 ∧ ∃ b rows, r = .v (.slice (some (ad b 0)) 0 n) ∧ rows.length = n ∧ B = [(b, .arr 7 rows 44 false)])) := by
  refine FnO_of Try.func109 rfl (Nat.le_of_ble_eq_true rfl) (fun X => ?_)
  have d0 : decide ((n : Int) < 0) = false := by simp
  repeat (first | refine StepC.go ?_ | refine TS_puw (Pu.subi (by omega)) ?_ | refine TV_cond_f (by first | rfl | assumption) ?_)
  have e0 : (n : Int) - (0 - ((0 : Nat) : Int)) = n := by simp
  rw [e0]
  refine TV_cond ?_ ?_ <;> intro hc
  · have h0 : n ≠ 0 := by simp at hc; omega
    repeat (refine StepC.go ?_)
    refine TS_puw Pu.slice_nil ?_
    repeat (refine StepC.go ?_)
    refine TS_append_make h0 (by omega) (fun b => ?_)
    repeat (refine StepC.go ?_)
    refine TS_puw (Pu.slice_own (Nat.zero_le _)) ?_
    repeat (refine StepC.go ?_)
    refine retO_1 [(b, .arr 7 (List.replicate n [.v (.int .i64 0), .v (.string ByteArray.empty), .v (.slice none 0 0), .v (.int .i64 0), .v (.bool false), .v (.int .u64 0), .v (.int .u64 0)]) 44 false)] (.inr rfl) (fun p hp => ?_) (.inr ⟨h0, b, _, rfl, List.length_replicate, rfl⟩)
    rw [List.mem_singleton.1 hp]
    intro h1
    exact absurd (by have := congrArg List.length h1; simpa using this) h0
  · have h0 : n = 0 := by simp at hc; omega
    repeat (refine StepC.go ?_)
    exact retO_1 [] (.inr rfl) (by simp) (.inl ⟨h0, rfl, rfl⟩)
instance : CallIs Try.prog 109 := .of Try.func109 rfl rfl
def opsLs (ls : List (List OpD)) : List (List Tr) := ls.map fun l => [.sl 7 (opRows l)]
def totS (ls : List (List OpD)) (i : Nat) : Nat := (ls.take i).flatten.length
theorem totS_succ {ls : List (List OpD)} {i : Nat} {l : List OpD} (h : ls[i]? = some l) : totS ls (i + 1) = totS ls i + l.length := by
  unfold totS; rw [take_succ h, List.flatten_append]; simp
theorem totS_le (ls : List (List OpD)) (i : Nat) : totS ls i ≤ ls.flatten.length := by
  unfold totS
  have : ls.flatten = (ls.take i).flatten ++ (ls.drop i).flatten := by rw [← List.flatten_append, List.take_append_drop]
  rw [this, List.length_append]; omega
theorem totS_all (ls : List (List OpD)) : totS ls ls.length = ls.flatten.length := by unfold totS; rw [List.take_length]
set_option maxHeartbeats 1000000 in
theorem concatT {ls : List (List OpD)} (hn : ls.flatten.length ≤ 2 ^ 20) (hl : ls.length ≤ 2 ^ 20) : Fn Try.prog 66 [.sl 1 (opsLs ls)] (fun r => r = .sl 7 (opRows ls.flatten)) := by
  refine Fn_of Try.func66 rfl (Nat.le_of_ble_eq_true rfl) (fun X => ?_)
  have hL : (opsLs ls).length = ls.length := by simp [opsLs]
  repeat (refine StepC.go ?_)
  rw [hL]
  refine TV_loop (fun d σ B => ∃ (i : Nat), d = ls.length - i ∧ i ≤ ls.length ∧ TGet σ 11 (intT i) ∧ TGet σ 10 (intT ls.length) ∧ TGet σ 9 (.sl 1 (opsLs ls)) ∧ TGet σ 0 (.sl 1 (opsLs ls)) ∧ TGet σ 3 (intT (totS ls i))) ls.length
    ⟨0, by omega, by omega, inferInstance, inferInstance, inferInstance, inferInstance, tget_as rfl⟩ ?_
  rintro d σ B ⟨i, rfl, hi, g11, g10, g9, g0, g3⟩
  repeat (refine StepC.go ?_)
  refine TV_cond ?_ ?_ <;> intro hc
  · have hil : i < ls.length := by simp at hc; omega
    obtain ⟨l, hl1⟩ : ∃ l, ls[i]? = some l := ⟨_, List.getElem?_eq_getElem hil⟩
    have ng : NthG (opsLs ls) i [.sl 7 (opRows l)] := .map (fun l => [Tr.sl 7 (opRows l)]) hl1
    have hL2 : (opRows l).length = l.length := by simp [opRows]
    have ht := totS_succ hl1
    have ht2 := totS_le ls (i + 1)
    have d0 : decide (((totS ls i : Nat) : Int) + ((opRows l).length : Nat) < 0) = false := by simp; omega
    repeat (first | refine StepC.go ?_ | refine TS_puw (Pu.addi (by omega)) ?_ | refine TV_cond_f (by first | rfl | assumption) ?_)
    refine ⟨_, ?_, i + 1, rfl, by omega, inferInstance, inferInstance, inferInstance, inferInstance, tget_as (by rw [ht, hL2]; simp)⟩
    omega
  have hil : i = ls.length := by simp at hc; omega
  subst hil
  rw [totS_all] at g3
  repeat (refine StepC.go ?_)
  refine TS_callO (growT hn) ?_
  rintro r B1 (⟨h0, rfl, rfl⟩ | ⟨h0, b, rows, rfl, hr, rfl⟩)
  · -- there is nothing
    rw [List.nil_append]
    have hz : ∀ l ∈ ls, l = [] := fun l hl => by
      have : l.length ≤ ls.flatten.length := by
        obtain ⟨a, c, rfl⟩ := List.append_of_mem hl
        simp
        omega
      exact List.eq_nil_of_length_eq_zero (by omega)
    have hnil : ls.flatten = [] := List.eq_nil_of_length_eq_zero h0
    repeat (refine StepC.go ?_)
    rw [hL]
    refine TV_ghost 7 44 ?_
    intro b0
    refine TV_loop (fun d σ B => ∃ (i b : Nat), d = ls.length - i ∧ i ≤ ls.length ∧ TGet σ 27 (intT i) ∧ TGet σ 26 (intT ls.length) ∧ TGet σ 25 (.sl 1 (opsLs ls)) ∧ TGet σ 6 (.v (gsv b 0)) ∧ SubP B [(b, .arr 7 [] 44 false)]) ls.length
      ⟨0, b0, by omega, by omega, inferInstance, inferInstance, inferInstance, tget_as rfl, inferInstance⟩ ?_
    rintro d σ B ⟨i, b, rfl, hi, g27, g26, g25, g6, hB⟩
    refine TV_keep _ (p := hB) ?_
    repeat (refine StepC.go ?_)
    refine TV_cond ?_ ?_ <;> intro hc2
    · have hil : i < ls.length := by simp at hc2; omega
      obtain ⟨l, hl1⟩ : ∃ l, ls[i]? = some l := ⟨_, List.getElem?_eq_getElem hil⟩
      have hle := hz l (List.mem_of_getElem? hl1)
      subst hle
      have ng : NthG (opsLs ls) i [.sl 7 []] := .map (fun l => [Tr.sl 7 (opRows l)]) hl1
      repeat (first | refine StepC.go ?_ | refine TS_puw (Pu.addi (by omega)) ?_ | refine TS_append (by omega) (fun _ => ?_))
      rename_i b2
      refine ⟨_, ?_, i + 1, b2, rfl, by omega, inferInstance, inferInstance, inferInstance, inferInstance, inferInstanceAs (SubP [(b2, Box.arr 7 [] 44 false)] [(b2, Box.arr 7 [] 44 false)])⟩
      omega
    · repeat (refine StepC.go ?_)
      refine retT_1 (.inr rfl) ?_
      rw [hnil]; rfl
  · rw [List.singleton_append]
    repeat (refine StepC.go ?_)
    rw [hL]
    refine TV_loop (fun d σ B => ∃ (i : Nat) (rest : List (List Tr)), d = ls.length - i ∧ i ≤ ls.length ∧ TGet σ 27 (intT i) ∧ TGet σ 26 (intT ls.length) ∧ TGet σ 25 (.sl 1 (opsLs ls)) ∧ TGet σ 6 (.v (.slice (some (ad b 0)) (totS ls i) ls.flatten.length)) ∧ SubP B [(b, .arr 7 (opRows (ls.take i).flatten ++ rest) 44 false)] ∧ totS ls i + rest.length = ls.flatten.length) ls.length
      ⟨0, rows, by omega, by omega, inferInstance, inferInstance, inferInstance, tget_as rfl, inferInstanceAs (SubP _ [(b, .arr 7 rows 44 false)]), by simp [totS, hr]⟩ ?_
    rintro d σ B ⟨i, rest, rfl, hi, g27, g26, g25, g6, hB, hrl⟩
    refine TV_keep _ (p := hB) ?_
    have hrx : RealX (opRows (ls.take i).flatten ++ rest) false := ⟨fun h => by
      have := congrArg List.length h
      simp only [List.length_append, opRows, List.length_map, List.length_nil] at this
      simp only [totS] at hrl
      omega⟩
    have hLt : LenT (opRows (ls.take i).flatten ++ rest) ls.flatten.length := ⟨by
      simp only [List.length_append, opRows, List.length_map]; simp only [totS] at hrl; omega⟩
    have hSm : Sm63 ls.flatten.length := ⟨by omega⟩
    repeat (refine StepC.go ?_)
    refine TV_cond ?_ ?_ <;> intro hc2
    · have hil : i < ls.length := by simp at hc2; omega
      obtain ⟨l, hl1⟩ : ∃ l, ls[i]? = some l := ⟨_, List.getElem?_eq_getElem hil⟩
      have ng : NthG (opsLs ls) i [.sl 7 (opRows l)] := .map (fun l => [Tr.sl 7 (opRows l)]) hl1
      have ht := totS_succ hl1
      have ht2 := totS_le ls (i + 1)
      have hLl : LenO (opRows l) l.length := ⟨by simp [opRows]⟩
      have hrow : (opRows (ls.take i).flatten ++ rest).take (totS ls i) ++ (opRows l ++ (opRows (ls.take i).flatten ++ rest).drop (totS ls i + l.length)) = opRows (ls.take (i + 1)).flatten ++ rest.drop l.length := by
        have e1 : (opRows (ls.take i).flatten).length = totS ls i := by rw [opRows, List.length_map]; rfl
        rw [← e1, List.take_left, List.drop_append, take_succ hl1, List.flatten_append, opRows_app]
        simp
      repeat (refine StepC.go ?_)
      refine TS_append_in (by omega) (by omega) ?_
      rw [hrow]
      repeat (first | refine StepC.go ?_ | refine TS_puw (Pu.addi (by omega)) ?_)
      refine ⟨_, ?_, i + 1, rest.drop l.length, rfl, by omega, inferInstance, inferInstance, inferInstance, tget_as (by rw [ht]), inferInstance, by rw [List.length_drop]; omega⟩
      omega
    · have hil : i = ls.length := by simp at hc2; omega
      subst hil
      have hre : rest = [] := List.eq_nil_of_length_eq_zero (by rw [totS_all] at hrl; omega)
      subst hre
      rw [totS_all] at g6
      rw [List.take_length, List.append_nil] at hrx hLt ⊢
      repeat (refine StepC.go ?_)
      refine retT_1 (.inr rfl) ?_
      rfl
instance : CallIs Try.prog 66 := .of Try.func66 rfl rfl
end Go.Ideal

-- Tu
set_option linter.unusedSimpArgs false
set_option linter.unusedVariables false
namespace Go.Ideal
open Go Go.Proofs Go.RowKit
def thenC (a b : CircD) : CircD × Int :=
  if (checkC a).2 = 0 then
    (if (checkC b).2 = 0 then
      (if a.qubits = b.qubits ∧ a.bits = b.bits then
        (if (checkC ⟨a.qubits, a.bits, a.ops ++ b.ops⟩).2 = 0 then (⟨a.qubits, a.bits, a.ops ++ b.ops⟩, 0) else (⟨0, 0, []⟩, (checkC ⟨a.qubits, a.bits, a.ops ++ b.ops⟩).2))
      else (⟨0, 0, []⟩, 2))
    else (⟨0, 0, []⟩, (checkC b).2))
  else (⟨0, 0, []⟩, (checkC a).2)
theorem catW {a b : CircD} (ha : CircW a) (hb : CircW b) : CircW ⟨a.qubits, a.bits, a.ops ++ b.ops⟩ := fun o ho => by
  rcases List.mem_append.1 ho with h | h
  · exact ha o h
  · exact hb o h
instance : CallIs Try.prog 24 := .of Try.func24 rfl rfl
end Go.Ideal

-- Tv
set_option linter.unusedSimpArgs false
set_option linter.unusedVariables false
namespace Go.Ideal
open Go Go.Proofs Go.RowKit
set_option synthInstance.maxSize 4000 in
set_option synthInstance.maxHeartbeats 400000 in
set_option maxHeartbeats 4000000 in
theorem circThenT {a b : CircD} (ha : CircW a) (hb : CircW b) : Fn Try.prog 26 [circT a, circT b] (fun r => r = .tup [circT (thenC a b).1, intT (thenC a b).2]) := by
  refine Fn_of Try.func26 rfl (Nat.le_of_ble_eq_true rfl) (fun X => ?_)
  repeat (first | refine StepC.go ?_ | intro _)
  rename_i pa pb pr bs
  refine TV_loop (fun d σ B => ∃ (i : Nat), d = 2 - i ∧ i ≤ 2 ∧ TGet σ 19 (intT i) ∧ TGet σ 18 (intT 2) ∧ TGet σ 17 (.v (.slice (some (ad bs 0)) 2 2)) ∧ TGet σ 2 (.v (.pointer (some (ad pa 0)))) ∧ TGet σ 3 (.v (.pointer (some (ad pb 0)))) ∧ TGet σ 4 (.v (.pointer (some (ad pr 0)))) ∧ TGet σ 5 (intT 0) ∧
      SubP B [(bs, .arr 3 [circCs a, circCs b] 24 true), (pa, .cells (circCs a) 24 true), (pb, .cells (circCs b) 24 true), (pr, .cells [intT 0, intT 0, .v (.slice none 0 0)] 24 true)] ∧ (1 ≤ i → (checkC a).2 = 0) ∧ (2 ≤ i → (checkC b).2 = 0)) 2
    ⟨0, by omega, by omega, inferInstance, inferInstance, inferInstance, inferInstance, inferInstance, inferInstance, inferInstance, inferInstance, by omega, by omega⟩ ?_
  rintro d σ B ⟨i, rfl, hi, g19, g18, g17, g2, g3, g4, g5, hB, hi1, hi2⟩
  refine TV_keep _ (p := hB) ?_
  repeat (refine StepC.go ?_)
  refine TV_cond ?_ ?_ <;> intro hc
  · have hil : i = 0 ∨ i = 1 := by simp at hc; omega
    rcases hil with rfl | rfl
    · repeat (first | refine StepC.go ?_ | intro _)
      refine TS_callE (checkT ha) ?_
      repeat (refine StepC.go ?_)
      refine TV_cond ?_ ?_ <;> intro hc2
      · repeat (refine StepC.go ?_)
        refine retT_2c [.agg [intT 0, intT 0, .sl 7 []], intT (checkC a).2] (.inr rfl) ?_
        simp only [tret, thenC]
        rw [if_neg (by simpa using hc2)]; rfl
      · have hca : (checkC a).2 = 0 := by simpa using hc2
        repeat (first | refine StepC.go ?_ | refine TS_puw (Pu.addi (by omega)) ?_)
        refine ⟨_, ?_, 1, rfl, by omega, inferInstance, inferInstance, inferInstance, inferInstance, inferInstance, inferInstance, inferInstance, inferInstance, fun _ => hca, by omega⟩
        omega
    · have hca := hi1 (by omega)
      repeat (first | refine StepC.go ?_ | intro _)
      refine TS_callE (checkT hb) ?_
      repeat (refine StepC.go ?_)
      refine TV_cond ?_ ?_ <;> intro hc2
      · repeat (refine StepC.go ?_)
        refine retT_2c [.agg [intT 0, intT 0, .sl 7 []], intT (checkC b).2] (.inr rfl) ?_
        simp only [tret, thenC]
        rw [if_pos hca, if_neg (by simpa using hc2)]; rfl
      · have hcb : (checkC b).2 = 0 := by simpa using hc2
        repeat (first | refine StepC.go ?_ | refine TS_puw (Pu.addi (by omega)) ?_)
        refine ⟨_, ?_, 2, rfl, by omega, inferInstance, inferInstance, inferInstance, inferInstance, inferInstance, inferInstance, inferInstance, inferInstance, fun _ => hca, fun _ => hcb⟩
        omega
  have hil : i = 2 := by simp at hc; omega
  have hca := hi1 (by omega)
  have hcb := hi2 (by omega)
  clear hil hi hc hi1 hi2
  obtain ⟨hla, hga⟩ := circ_good ha hca
  obtain ⟨hlb, hgb⟩ := circ_good hb hcb
  by_cases hq : a.qubits = b.qubits ∧ a.bits = b.bits
  case neg =>
    have d1 : (if (!decide (a.qubits = b.qubits)) = true then true else !decide (a.bits = b.bits)) = true := by
      by_cases h1 : a.qubits = b.qubits
      · have : a.bits ≠ b.bits := fun h => hq ⟨h1, h⟩
        simp [h1, this]
      · simp [h1]
    by_cases h1 : a.qubits = b.qubits
    · have d2 : (!decide (a.qubits = b.qubits)) = false := by simp [h1]
      repeat (first | refine StepC.go ?_ | refine TS_on rfl (by first | rfl | assumption) ?_ | refine TV_cond_t (by first | rfl | assumption) ?_)
      refine retT_2c [.agg [intT 0, intT 0, .sl 7 []], intT 2] (.inr rfl) ?_
      simp only [tret, thenC]
      rw [if_pos hca, if_pos hcb, if_neg hq]; rfl
    · have d2 : (!decide (a.qubits = b.qubits)) = true := by simp [h1]
      repeat (first | refine StepC.go ?_ | refine TS_off rfl (by first | rfl | assumption) ?_ | refine TS_puw (Pu.pick_t (by first | rfl | assumption)) ?_ | refine TV_cond_t (by first | rfl | assumption) ?_)
      refine retT_2c [.agg [intT 0, intT 0, .sl 7 []], intT 2] (.inr rfl) ?_
      simp only [tret, thenC]
      rw [if_pos hca, if_pos hcb, if_neg hq]; rfl
  have d1 : (if (!decide (a.qubits = b.qubits)) = true then true else !decide (a.bits = b.bits)) = false := by simp [hq.1, hq.2]
  have d2 : (!decide (a.qubits = b.qubits)) = false := by simp [hq.1]
  obtain ⟨ab, hab⟩ : ∃ ab, ab = a.ops ++ b.ops := ⟨_, rfl⟩
  have hcat : Fn Try.prog 66 [.sl 1 [[.sl 7 (opRows a.ops)], [.sl 7 (opRows b.ops)]]] (fun r => r = .sl 7 (opRows ab)) := by
    have h1 := concatT (ls := [a.ops, b.ops]) (by simp; omega) (by simp)
    simp only [opsLs, List.map_cons, List.map_nil, List.flatten_cons, List.flatten_nil, List.append_nil, ← hab] at h1
    exact h1
  have hnab : ab.length ≤ 8192 := by rw [hab, List.length_append]; omega
  have hgab : ∀ o ∈ ab, OpG o := fun o ho => by
    rw [hab] at ho
    rcases List.mem_append.1 ho with h | h
    · exact hga o h
    · exact hgb o h
  have hLab : (opRows ab).length = ab.length := by simp [opRows]
  refine TV_ghost 7 44 ?_
  intro b0
  repeat (first | refine StepC.go ?_ | intro _ | refine TS_on rfl (by first | rfl | assumption) ?_ | refine TV_cond_f (by first | rfl | assumption) ?_)
  rename_i pd bl
  refine TS_freeze 55 bl ?_
  refine TS_call hcat ?_
  rintro _ rfl
  repeat (refine StepC.go ?_)
  rw [hLab]
  refine TV_loop (fun d σ B => ∃ (i bk : Nat), d = ab.length - i ∧ i ≤ ab.length ∧ TGet σ 58 (intT i) ∧ TGet σ 57 (intT ab.length) ∧ TGet σ 56 (.sl 7 (opRows ab)) ∧ TGet σ 10 (.v (.pointer (some (ad pd 0)))) ∧ TGet σ 4 (.v (.pointer (some (ad pr 0)))) ∧ TGet σ 5 (intT 0) ∧
      SubP B [(pr, .cells [intT 0, intT 0, .v (.slice none 0 0)] 24 true), (pd, .cells [intT a.qubits, intT a.bits, .v (gsv bk i)] 24 true), (bk, .arr 7 (opRows (ab.take i)) 44 false)]) ab.length
    ⟨0, b0, by omega, by omega, inferInstance, inferInstance, inferInstance, inferInstance, inferInstance, inferInstance, inferInstanceAs (SubP _ [(pr, .cells [intT 0, intT 0, .v (.slice none 0 0)] 24 true), (pd, .cells [intT a.qubits, intT a.bits, .v (.slice none 0 0)] 24 true), (b0, .arr 7 [] 44 false)])⟩ ?_
  clear hB g2 g3 g4 g5 g17 g18 g19
  rintro d σ B ⟨i, bk, rfl, hi, g58, g57, g56, g10, g4, g5, hB⟩
  refine TV_keep _ (p := hB) ?_
  have hLn : LenT (opRows (ab.take i)) i := ⟨by simp [opRows]; omega⟩
  have hSm : Sm63 i := ⟨by omega⟩
  repeat (refine StepC.go ?_)
  refine TV_cond ?_ ?_ <;> intro hc3
  · have hil : i < ab.length := by simp at hc3; omega
    obtain ⟨o, ho⟩ : ∃ o, ab[i]? = some o := ⟨_, List.getElem?_eq_getElem hil⟩
    have ng : NthG (opRows ab) i (opCs o) := .map opCs ho
    have hgo := (hgab o (List.mem_of_getElem? ho)).len
    repeat (first | refine StepC.go ?_ | intro _ | refine TD_take rfl rfl ?_ | refine TD_load rfl rfl ?_ | refine TD_one rfl ?_ | refine FiltT_nil ?_ | refine FiltT_drop rfl ?_ | refine FiltT_keep rfl ?_ | refine TV_draw (id := 14) (plan := [.take 0, .take 1, .take 2, .one 3, .one 4, .one 5, .take 6, .one 7]) (by kernel_rfl) ?_)
    refine TS_call (copiedT o (by omega)) ?_
    rintro _ rfl
    repeat (first | refine StepC.go ?_ | intro _ | refine TS_puw (Pu.addi (by omega)) ?_ | refine TS_append (by omega) (fun _ => ?_) | refine TD_take rfl rfl ?_ | refine TD_one rfl ?_ | refine FiltT_nil ?_ | refine FiltT_drop rfl ?_ | refine FiltT_keep rfl ?_)
    rename_i b2
    refine ⟨_, ?_, i + 1, b2, rfl, by omega, inferInstance, inferInstance, inferInstance, inferInstance, inferInstance, inferInstance, ?_⟩
    · omega
    · rw [take_succ ho, opRows_app]
      exact inferInstanceAs (SubP _ [_, _, (b2, .arr 7 (opRows (ab.take i) ++ [opCs o]) 44 false)])
  have hil : i = ab.length := by simp at hc3; omega
  subst hil
  rw [List.take_length] at hLn ⊢
  have hck := checkT (catW ha hb)
  rw [← hab] at hck
  repeat (refine StepC.go ?_)
  refine TS_callE hck ?_
  repeat (refine StepC.go ?_)
  refine TV_cond ?_ ?_ <;> intro hc4
  · repeat (refine StepC.go ?_)
    refine retT_2c [.agg [intT 0, intT 0, .sl 7 []], intT (checkC ⟨a.qubits, a.bits, ab⟩).2] (.inr rfl) ?_
    simp only [tret, thenC]
    rw [if_pos hca, if_pos hcb, if_pos hq, ← hab, if_neg (by simpa using hc4)]; rfl
  · have hcd : (checkC ⟨a.qubits, a.bits, ab⟩).2 = 0 := by simpa using hc4
    repeat (refine StepC.go ?_)
    refine retT_2 (.inr rfl) ?_
    simp only [tret, thenC]
    rw [if_pos hca, if_pos hcb, if_pos hq, ← hab, if_pos hcd]
instance : CallIs Try.prog 26 := .of Try.func26 rfl rfl
end Go.Ideal

-- Tw
set_option linter.unusedSimpArgs false
set_option linter.unusedVariables false
namespace Go.Ideal
open Go Go.Proofs Go.RowKit
/-! ### The gate that takes it back, as the reference tells -/
instance : CallIs Try.prog 61 := .of Try.func61 rfl rfl
end Go.Ideal

-- Tx
set_option linter.unusedSimpArgs false
set_option linter.unusedVariables false
namespace Go.Ideal
open Go Go.Proofs Go.RowKit
instance : CallIs Try.prog 23 := .of Try.func23 rfl rfl
end Go.Ideal

-- Ty
set_option linter.unusedSimpArgs false
set_option linter.unusedVariables false
namespace Go.Ideal
open Go Go.Proofs Go.RowKit
/-! ### Back, and back again -/
theorem KT_back : (KT.all fun e => (kOf e.back).any fun e' => decide (e'.arity = e.arity) && decide (e'.halves = e.halves) && beqS e'.back e.name && decide (0 < e.arity)) = true := by decide +kernel
theorem back_facts {b : ByteArray} (h : arityS b ≠ 0) : arityS (backS b).1 = arityS b ∧ halvesS (backS b).1 = halvesS b ∧ (backS (backS b).1).1 = b := by
  unfold arityS at h
  cases hk : kOf b with
  | none => rw [hk] at h; exact absurd rfl h
  | some e =>
    obtain ⟨hm, rfl⟩ := kOf_mem hk
    have h1 := List.all_eq_true.1 KT_back e hm
    have hb : (backS e.name).1 = e.back := by unfold backS; rw [hk]
    rw [hb]
    cases hk2 : kOf e.back with
    | none => rw [hk2] at h1; cases h1
    | some e' =>
      rw [hk2] at h1
      simp only [Option.any_some, Bool.and_eq_true, decide_eq_true_eq] at h1
      obtain ⟨⟨⟨h2, h3⟩, h4⟩, _⟩ := h1
      refine ⟨?_, ?_, ?_⟩
      · unfold arityS; rw [hk2, hk]; exact h2
      · unfold halvesS; rw [hk2, hk]; exact h3
      · unfold backS; rw [hk2]; exact beqS_iff.1 h4
theorem inv_facts {o : OpD} {q b : Int} (hk : o.kind = 1) (hf : faultS o q b = 0) : faultS (invO o) q b = 0 ∧ halvesO (invO o) = halvesO o ∧ invO (invO o) = o := by
  obtain ⟨h1, h2, h3, h4, h5, h6⟩ := fault_ok hf
  have ha : arityS o.name ≠ 0 := fun h => h2 ⟨hk, h⟩
  obtain ⟨g1, g2, g3⟩ := back_facts ha
  have hs : shapeBad (invO o) b = shapeBad o b := by
    have hk' : (invO o).kind = 1 := hk
    simp only [shapeBad, bad1, bad2, bad3, bad4, hk, hk']
    rfl
  refine ⟨?_, ?_, ?_⟩
  · unfold faultS
    rw [hs, h1, if_neg (by simp)]
    rw [if_neg (by rintro ⟨_, h⟩; exact ha (g1.symm.trans h))]
    have hn : nS (invO o) = nS o := by
      show (if o.kind = 1 then arityS (backS o.name).1 else 1) = (if o.kind = 1 then arityS o.name else 1)
      rw [g1]
    rw [hn]
    show (if ((o.qs.length : Int) ≠ nS o) then 111 else if o.qs.any (outS q) = true then 112 else if bitBad o b = true then 112 else if dupK o.qs o.qs.length = true then 113 else 0) = (0 : Int)
    rw [if_neg (by simpa using h3), if_neg (by simp [h4]), if_neg (by simp [h5]), if_neg (by simp [h6])]
  · show (if o.kind = 1 then halvesS (backS o.name).1 else 0) = (if o.kind = 1 then halvesS o.name else 0)
    rw [g2]
  · show ({ o with name := (backS (backS o.name).1).1 } : OpD) = o
    rw [g3]
theorem sumH_app (a b : List OpD) : sumH (a ++ b) = sumH a + sumH b := by
  induction a with
  | nil => simp [sumH]
  | cons o a ih => simp only [List.cons_append, sumH, ih]; omega
theorem sumH_rev (a : List OpD) : sumH a.reverse = sumH a := by
  induction a with
  | nil => rfl
  | cons o a ih => rw [List.reverse_cons, sumH_app, ih]; simp only [sumH]; omega
theorem sumH_inv {a : List OpD} (h : ∀ o ∈ a, halvesO (invO o) = halvesO o) : sumH (a.map invO) = sumH a := by
  induction a with
  | nil => rfl
  | cons o a ih => simp only [List.map_cons, sumH, h o List.mem_cons_self, ih fun x hx => h x (List.mem_cons_of_mem _ hx)]
theorem chkK_sum {q b : Int} : ∀ (ops : List OpD) (i n : Int), (∀ o ∈ ops, faultS o q b = 0) → n ≤ 36 → (chkK q b ops i n).2 = if n + sumH ops ≤ 36 then 0 else 116 := by
  intro ops
  induction ops with
  | nil => intro i n _ hn; simp [chkK, sumH, hn]
  | cons o ops ih =>
    intro i n hf hn
    have h0 := hf o List.mem_cons_self
    have hh := halvesO_01 o
    have hs := sumH_nn ops
    rw [chkK, if_neg (by simpa using h0)]
    by_cases h1 : 36 < n + halvesO o
    · rw [if_pos h1, if_neg (by simp only [sumH]; omega)]
    · rw [if_neg h1, ih _ _ (fun x hx => hf x (List.mem_cons_of_mem _ hx)) (by omega)]
      show (if n + halvesO o + sumH ops ≤ 36 then (0 : Int) else 116) = if n + (halvesO o + sumH ops) ≤ 36 then 0 else 116
      rw [Int.add_assoc]
theorem checkC_sum {c : CircD} (hr : rangeBad c = false) (hf : ∀ o ∈ c.ops, faultS o c.qubits c.bits = 0) : (checkC c).2 = if 4096 < c.ops.length then 115 else if sumH c.ops ≤ 36 then 0 else 116 := by
  unfold checkC
  rw [if_neg (by simp [hr])]
  split
  · rfl
  · rw [chkK_sum _ _ _ hf (by omega)]; simp
theorem inverse_ok {c : CircD} (h : (inverseC c).2 = 0) : (checkC c).2 = 0 ∧ c.ops.all gateO = true ∧ (inverseC c).1 = ⟨c.qubits, c.bits, c.ops.reverse.map invO⟩ := by
  unfold inverseC at h ⊢
  split at h
  · rename_i h1
    split at h
    · rename_i h2
      exact ⟨h1, h2, by rw [if_pos h1, if_pos h2]⟩
    · cases h
  · rename_i h1; exact absurd h h1
theorem inverse_no {c : CircD} (h : (inverseC c).2 ≠ 0) : (inverseC c).1 = ⟨0, 0, []⟩ := by
  unfold inverseC at h ⊢
  split
  · rename_i h1
    rw [if_pos h1] at h
    split
    · rename_i h2; rw [if_pos h2] at h; exact absurd rfl h
    · rfl
  · rfl
theorem gate_of {ops : List OpD} (h : ops.all gateO = true) : ∀ o ∈ ops, o.kind = 1 := fun o ho => by
  have := List.all_eq_true.1 h o ho
  simpa [gateO] using this
theorem mem_rinv {ops : List OpD} {o : OpD} (h : o ∈ ops.reverse.map invO) : ∃ x ∈ ops, o = invO x := by
  simp only [List.mem_map, List.mem_reverse] at h
  obtain ⟨x, hx, rfl⟩ := h
  exact ⟨x, hx, rfl⟩
theorem back_valid {c : CircD} (h1 : (checkC c).2 = 0) (h2 : c.ops.all gateO = true) : (checkC ⟨c.qubits, c.bits, c.ops.reverse.map invO⟩).2 = 0 ∧ (c.ops.reverse.map invO).all gateO = true ∧ sumH (c.ops.reverse.map invO) = sumH c.ops ∧ (c.ops.reverse.map invO).reverse.map invO = c.ops := by
  obtain ⟨hr, hlen, hf⟩ := checkC_ok h1
  have hg := gate_of h2
  have hi := fun o (ho : o ∈ c.ops) => inv_facts (hg o ho) (hf o ho)
  have hs : sumH (c.ops.reverse.map invO) = sumH c.ops := by rw [sumH_inv (fun o ho => (hi o (List.mem_reverse.1 ho)).2.1), sumH_rev]
  have hsum := checkC_sum hr hf
  rw [h1, if_neg (by omega)] at hsum
  refine ⟨?_, ?_, hs, ?_⟩
  · rw [checkC_sum (c := ⟨c.qubits, c.bits, c.ops.reverse.map invO⟩) hr (fun o ho => by obtain ⟨x, hx, rfl⟩ := mem_rinv ho; exact (hi x hx).1)]
    simp only [List.length_map, List.length_reverse]
    rw [if_neg (by omega), hs, ← hsum]
  · rw [List.all_eq_true]
    intro o ho
    obtain ⟨x, hx, rfl⟩ := mem_rinv ho
    have : (invO x).kind = 1 := hg x hx
    simp [gateO, this]
  · rw [← List.map_reverse, List.reverse_reverse, List.map_map]
    conv => rhs; rw [← List.map_id c.ops]
    exact List.map_congr_left fun o ho => (hi o ho).2.2
theorem inverse_val {c : CircD} (h1 : (checkC c).2 = 0) (h2 : c.ops.all gateO = true) : inverseC c = (⟨c.qubits, c.bits, c.ops.reverse.map invO⟩, 0) := by
  rw [inverseC, if_pos h1, if_pos h2]
theorem then_no {a b : CircD} (h : (thenC a b).2 ≠ 0) : (thenC a b).1 = ⟨0, 0, []⟩ := by
  unfold thenC at h ⊢
  split
  · rename_i h1
    rw [if_pos h1] at h
    split
    · rename_i h2
      rw [if_pos h2] at h
      split
      · rename_i h3
        rw [if_pos h3] at h
        split
        · rename_i h4; rw [if_pos h4] at h; exact absurd rfl h
        · rfl
      · rfl
    · rfl
  · rfl
theorem then_ok {a b : CircD} (h : (thenC a b).2 = 0) : (checkC ⟨a.qubits, a.bits, a.ops ++ b.ops⟩).2 = 0 ∧ (thenC a b).1 = ⟨a.qubits, a.bits, a.ops ++ b.ops⟩ ∧ a.qubits = b.qubits ∧ a.bits = b.bits := by
  unfold thenC at h ⊢
  split at h
  · rename_i h1
    split at h
    · rename_i h2
      split at h
      · rename_i h3
        split at h
        · rename_i h4
          exact ⟨h4, by rw [if_pos h1, if_pos h2, if_pos h3, if_pos h4], h3.1, h3.2⟩
        · rename_i h4; exact absurd h h4
      · cases h
    · rename_i h2; exact absurd h h2
  · rename_i h1; exact absurd h h1
/-- two circuits, and back the other way round -/
theorem then_back {a b : CircD} (a1 : (checkC a).2 = 0) (a2 : a.ops.all gateO = true) (b1 : (checkC b).2 = 0) (b2 : b.ops.all gateO = true) :
    (thenC ⟨b.qubits, b.bits, b.ops.reverse.map invO⟩ ⟨a.qubits, a.bits, a.ops.reverse.map invO⟩).2 = (thenC a b).2 := by
  obtain ⟨xa, _, sa, _⟩ := back_valid a1 a2
  obtain ⟨xb, _, sb, _⟩ := back_valid b1 b2
  obtain ⟨ra, la, fa⟩ := checkC_ok a1
  obtain ⟨rb, lb, fb⟩ := checkC_ok b1
  unfold thenC
  rw [if_pos xb, if_pos xa, if_pos a1, if_pos b1]
  by_cases hq : a.qubits = b.qubits ∧ a.bits = b.bits
  · rw [if_pos (show b.qubits = a.qubits ∧ b.bits = a.bits from ⟨hq.1.symm, hq.2.symm⟩), if_pos hq]
    have e1 := checkC_sum (c := ⟨a.qubits, a.bits, a.ops ++ b.ops⟩) ra (fun o ho => by
      rcases List.mem_append.1 ho with h | h
      · exact fa o h
      · show faultS o a.qubits a.bits = 0
        rw [hq.1, hq.2]; exact fb o h)
    have e2 := checkC_sum (c := ⟨b.qubits, b.bits, b.ops.reverse.map invO ++ a.ops.reverse.map invO⟩) rb (fun o ho => by
      rcases List.mem_append.1 ho with h | h
      · obtain ⟨x, hx, rfl⟩ := mem_rinv h; exact (inv_facts (gate_of b2 x hx) (fb x hx)).1
      · obtain ⟨x, hx, rfl⟩ := mem_rinv h
        show faultS (invO x) b.qubits b.bits = 0
        rw [← hq.1, ← hq.2]; exact (inv_facts (gate_of a2 x hx) (fa x hx)).1)
    have e3 : (checkC ⟨b.qubits, b.bits, b.ops.reverse.map invO ++ a.ops.reverse.map invO⟩).2 = (checkC ⟨a.qubits, a.bits, a.ops ++ b.ops⟩).2 := by
      rw [e1, e2]
      simp only [List.length_append, List.length_map, List.length_reverse, sumH_app, sa, sb]
      rw [Nat.add_comm b.ops.length, Int.add_comm (sumH b.ops)]
    simp only [e3]
    split <;> rfl
  · rw [if_neg (fun h => hq ⟨h.1.symm, h.2.symm⟩), if_neg hq]
end Go.Ideal

-- Tz
set_option linter.unusedSimpArgs false
set_option linter.unusedVariables false
namespace Go.Ideal
open Go Go.Proofs Go.RowKit
theorem Fn_cv {P : Program} {f : FuncId} {ts ts' : List Tr} {Φ : Tr → Prop} [c : CvL ts ts'] (x : Fn P f ts' Φ) : Fn P f ts Φ := by
  unfold Fn at *
  intro F0 h vs h1 h2
  exact x F0 h vs h1 (c.eq F0 vs h2)
theorem sameNil : Fn Try.prog 21 [circT ⟨0, 0, []⟩, .agg [.v (.int .i64 0), .v (.int .i64 0), .v (.slice none 0 0)]] (fun r => r = boolT true) :=
  have : CvL [circT ⟨0, 0, []⟩, .agg [.v (.int .i64 0), .v (.int .i64 0), .v (.slice none 0 0)]] [circT ⟨0, 0, []⟩, circT ⟨0, 0, []⟩] := inferInstanceAs (CvL [.agg [.v (.int .i64 0), .v (.int .i64 0), .sl 7 []], .agg [.v (.int .i64 0), .v (.int .i64 0), .v (.slice none 0 0)]] [.agg [.v (.int .i64 0), .v (.int .i64 0), .sl 7 []], .agg [.v (.int .i64 0), .v (.int .i64 0), .sl 7 []]])
  Fn_cv (sameT (c := ⟨0, 0, []⟩) (fun o ho => by cases ho))
theorem inverse_to {c x : CircD} (hw : CircW c) (h : inverseC c = (x, 0)) : Fn Try.prog 25 [circT c] (fun r => r = .tup [circT x, intT 0]) := by
  have := circInverseT hw
  rw [h] at this
  exact this
theorem halves_to {c : CircD} (hw : CircW c) (h : (checkC c).2 = 0) : Fn Try.prog 27 [circT c] (fun r => r = .tup [intT (sumH c.ops), intT 0]) := by
  have := circHalvesT hw
  rw [halvesC, if_pos h] at this
  exact this
theorem rinvW {c : CircD} (hw : CircW c) : CircW ⟨c.qubits, c.bits, c.ops.reverse.map invO⟩ := fun o ho => by
  obtain ⟨x, hx, rfl⟩ := mem_rinv ho
  exact hw x hx
set_option synthInstance.maxSize 8000 in
set_option synthInstance.maxHeartbeats 800000 in
set_option maxHeartbeats 4000000 in
theorem circuitBackT {a b : CircD} (ha : CircW a) (hb : CircW b) : Fn Try.prog 6 [circT a, circT b] (fun r => r = boolT true) := by
  refine Fn_of Try.func6 rfl (Nat.le_of_ble_eq_true rfl) (fun X => ?_)
  repeat (first | refine StepC.go ?_ | intro _)
  refine TS_callE awake11T ?_
  repeat (first | refine StepC.go ?_ | refine TV_cond_f (by first | rfl | assumption) ?_)
  by_cases he : (inverseC a).2 = 0
  case neg =>
    have hx := inverse_no he
    have d1 : (!decide ((inverseC a).2 = 0)) = true := by simpa using he
    have d2 : decide ((inverseC a).2 = 0) = false := by simpa using he
    refine TS_call (circInverseT ha) ?_
    rintro _ rfl
    rw [hx]
    repeat (first | refine StepC.go ?_ | intro _)
    refine TS_call (circInverseT hb) ?_
    rintro _ rfl
    repeat (first | refine StepC.go ?_ | intro _ | refine TS_on rfl (by first | rfl | assumption) ?_ | refine TS_off rfl (by first | rfl | assumption) ?_ | refine TS_puw (Pu.pick_t (by first | rfl | assumption)) ?_ | refine TV_cond_t (by first | rfl | assumption) ?_)
    refine TS_callE sameNil ?_
    repeat (refine StepC.go ?_)
    refine retT_1 (.inr rfl) ?_
    simp [tret]
  obtain ⟨a1, a2, ax⟩ := inverse_ok he
  have ea := inverse_val a1 a2
  by_cases hf : (inverseC b).2 = 0
  case neg =>
    have d1 : (!decide ((inverseC b).2 = 0)) = true := by simpa using hf
    refine TS_call (inverse_to ha ea) ?_
    rintro _ rfl
    repeat (first | refine StepC.go ?_ | intro _)
    refine TS_call (circInverseT hb) ?_
    rintro _ rfl
    repeat (first | refine StepC.go ?_ | intro _ | refine TS_on rfl (by first | rfl | assumption) ?_ | refine TS_off rfl (by first | rfl | assumption) ?_ | refine TV_cond_t (by first | rfl | assumption) ?_)
    refine retT_1 (.inr rfl) ?_
    simp [tret]
  obtain ⟨b1, b2, bx⟩ := inverse_ok hf
  have eb := inverse_val b1 b2
  obtain ⟨xa, ga, sa, ra⟩ := back_valid a1 a2
  obtain ⟨xb, gb, sb, rb⟩ := back_valid b1 b2
  have ez : inverseC ⟨a.qubits, a.bits, a.ops.reverse.map invO⟩ = (a, 0) := by
    rw [inverse_val xa ga]; simp only [ra]
  have hq : ∀ o ∈ a.ops, o.qs.length < 2 ^ 40 := fun o ho => by have := ((circ_good ha a1).2 o ho).len; omega
  have hsa := sumH_nn a.ops
  have hsb := sumH_nn b.ops
  have hla := (circ_good ha a1).1
  have hlb := (circ_good hb b1).1
  refine TS_call (inverse_to ha ea) ?_
  rintro _ rfl
  repeat (first | refine StepC.go ?_ | intro _)
  refine TS_call (inverse_to hb eb) ?_
  rintro _ rfl
  repeat (first | refine StepC.go ?_ | intro _ | refine TS_on rfl (by first | rfl | assumption) ?_ | refine TV_cond_f (by first | rfl | assumption) ?_)
  refine TS_call (inverse_to (rinvW ha) ez) ?_
  rintro _ rfl
  repeat (first | refine StepC.go ?_ | intro _)
  refine TS_callE (halves_to ha a1) ?_
  repeat (refine StepC.go ?_)
  have hh := halves_to (rinvW ha) xa
  simp only [sa] at hh
  refine TS_callE hh ?_
  repeat (first | refine StepC.go ?_ | refine TS_on rfl (by first | rfl | assumption) ?_)
  refine TS_callE (sameT hq) ?_
  repeat (first | refine StepC.go ?_ | refine TS_on rfl (by first | rfl | assumption) ?_ | refine TV_cond_f (by first | rfl | assumption) ?_)
  have htb := then_back a1 a2 b1 b2
  have h2 := circThenT (rinvW hb) (rinvW ha)
  rw [htb] at h2
  by_cases hl : (thenC a b).2 = 0
  case neg =>
    have hn := then_no hl
    have d1 : (!decide ((thenC a b).2 = 0)) = true := by simpa using hl
    have h1 := circThenT ha hb
    rw [hn] at h1
    refine TS_call h1 ?_
    rintro _ rfl
    repeat (first | refine StepC.go ?_ | intro _)
    refine TS_call h2 ?_
    rintro _ rfl
    repeat (first | refine StepC.go ?_ | intro _ | refine TV_cond_t (by first | rfl | assumption) ?_ | refine TV_cond_f (by first | rfl | assumption) ?_)
    refine TS_callE sameNil ?_
    repeat (refine StepC.go ?_)
    exact retT_1 (.inr rfl) rfl
  obtain ⟨c1, c2, q1, q2⟩ := then_ok hl
  have hall : (a.ops ++ b.ops).all gateO = true := by rw [List.all_append, a2, b2]; rfl
  have hwc : CircW ⟨a.qubits, a.bits, a.ops ++ b.ops⟩ := catW ha hb
  have ec := inverse_val (c := ⟨a.qubits, a.bits, a.ops ++ b.ops⟩) c1 hall
  have hyx : (thenC ⟨b.qubits, b.bits, b.ops.reverse.map invO⟩ ⟨a.qubits, a.bits, a.ops.reverse.map invO⟩).1 = ⟨a.qubits, a.bits, (a.ops ++ b.ops).reverse.map invO⟩ := by
    rw [(then_ok (htb.trans hl)).2.1]
    simp only [List.reverse_append, List.map_append, q1, q2]
  have h1 := circThenT ha hb
  rw [c2, hl] at h1
  rw [hyx, hl] at h2
  have hqc : ∀ o ∈ (a.ops ++ b.ops).reverse.map invO, o.qs.length < 2 ^ 40 := fun o ho => by
    obtain ⟨x, hx, rfl⟩ := mem_rinv ho
    have := ((circ_good hwc c1).2 x hx).len
    show x.qs.length < _
    omega
  have hh3 := halves_to hwc c1
  simp only [sumH_app] at hh3
  refine TS_call h1 ?_
  rintro _ rfl
  repeat (first | refine StepC.go ?_ | intro _)
  refine TS_call h2 ?_
  rintro _ rfl
  repeat (first | refine StepC.go ?_ | intro _ | refine TV_cond_f (by first | rfl | assumption) ?_)
  refine TS_call (inverse_to hwc ec) ?_
  rintro _ rfl
  repeat (first | refine StepC.go ?_ | intro _)
  refine TS_callE hh3 ?_
  repeat (refine StepC.go ?_)
  refine TS_callE (halves_to hb b1) ?_
  repeat (first | refine StepC.go ?_ | refine TS_on rfl (by first | rfl | assumption) ?_)
  refine TS_callE (sameT (c := ⟨a.qubits, a.bits, (a.ops ++ b.ops).reverse.map invO⟩) hqc) ?_
  repeat (first | refine StepC.go ?_ | refine TS_on rfl (by first | rfl | assumption) ?_ | refine TS_puw (Pu.addi (by omega)) ?_)
  exact retT_1 (.inr rfl) rfl
theorem circuitBackW {h : IHp} (hnew : h.new = []) {v v2 : Value} {a b : CircD} (hv : Rep h.cell? (circT a) v ∧ CircW a) (hv2 : Rep h.cell? (circT b) v2 ∧ CircW b) : EvX Try.prog 6 [v, v2].toArray h (fun v _ => v = .bool true) :=
  EvX_of_Fn (circuitBackT hv.2 hv2.2) (RepL.cons hv.1 (RepL.cons hv2.1 RepL.nil))
end Go.Ideal
