/- Part 6 of what the proof stands on: an interpreter over an ideal memory that is proved sound, steps over it, and contracts of the functions that are called. No condition: no law is claimed here. -/
import Derived.Test.YtfpfjlbgodgmlaaC5
import Derived.Carry
import Derived.OpenShut
-- Jb
set_option linter.unusedSimpArgs false
set_option linter.unusedVariables false
namespace Go.Ideal
open Go Go.Proofs Go.RowKit
/-! ### The gates with what tells their columns -/
def KC : List ColD := [
  .flip 0 [0],
  .flip 1 [0],
  .flip 1 [2, 6],
  .last 1 4,
  .mixed 0 0 4,
  .last 1 2,
  .last 1 6,
  .last 1 1,
  .last 1 7,
  .mixed 1 7 1,
  .mixed 7 1 7,
  .flip 0 [1],
  .flip 0 [7],
  .swapped 1 3 0,
  .turnedY,
  .last 3 4,
  .controlled,
  .last 3 2,
  .last 3 6,
  .swapped 1 2 0,
  .swapped 1 2 2,
  .swapped 1 2 6,
  .swapped 3 7 0,
  .last 7 4,
  .swapped 3 5 0]
structure KInv2 (h0 H : IHp) (m n : Nat) (cs : List Value) : Prop where
  ext : Ext h0 H
  lo : h0.fresh ≤ m
  map : MapIs H m (rowsOf (KT.take n) cs)
  len : cs.length = n
  fns : ∀ (i : Nat) c, cs[i]? = some c → ∃ q, KC[i]? = some q ∧ Rep (newMem h0 H) (colT q) c
theorem KInv2.grow {h0 H H' : IHp} {m n : Nat} {cs : List Value} (k : KInv2 h0 H m n cs) (e : Ext H H') : KInv2 h0 H' m n cs := ⟨k.ext.trans e, k.lo, k.map.ext e, k.len, fun i c hc => let ⟨q, a, b⟩ := k.fns i c hc; ⟨q, a, Rep.sub (newMem_ext e) b⟩⟩
theorem KInv2.add {h0 H H' : IHp} {m n : Nat} {cs : List Value} {c : Value} {e : KE} {q : ColD} {b : ByteArray} {v : Value} (k : KInv2 h0 H m n cs) (he : KT[n]? = some e) (hq : KC[n]? = some q) (hb : (b, v) = krow e c) (hc : Rep (newMem h0 H) (colT q) c)
    (hH : H' = H.putObj m (.map (ents (rowsOf (KT.take n) cs ++ [(b, v)]) 0) (rowsOf (KT.take n) cs ++ [(b, v)]).length)) : KInv2 h0 H' m (n + 1) (cs ++ [c]) := by
  have hn : n < KT.length := (List.getElem?_eq_some_iff.1 he).1
  have hr : rowsOf (KT.take (n + 1)) (cs ++ [c]) = rowsOf (KT.take n) cs ++ [(b, v)] := by
    rw [List.take_add_one, he, rowsOf, rowsOf, hb]
    simp only [Option.toList_some]
    rw [List.zipWith_append (by rw [List.length_take, k.len]; omega)]
    rfl
  have hs : Sub (newMem h0 H) (newMem h0 H') := fun b off u h => by
    unfold newMem at *
    split at h
    · rename_i hb2
      rw [if_pos hb2, hH]
      have hm := k.map
      unfold IHp.cell? at h ⊢
      split
      · rename_i ho; rw [if_pos ho] at h; exact h
      · rename_i ho
        rw [if_neg ho] at h
        simp only [IHp.putObj]
        by_cases e2 : b / 2 = m / 2
        · rw [e2, hm.eq] at h; cases h
        · rw [List.getElem?_set_ne (fun x => e2 x.symm)]; exact h
    · cases h
  refine ⟨by rw [hH]; exact k.ext.putObj k.lo, k.lo, ?_, by simp [k.len], fun i c' hc' => ?_⟩
  · rw [hr, hH]
    refine ⟨k.map.even, ?_⟩
    have := (List.getElem?_eq_some_iff.1 k.map.eq).1
    simp [IHp.putObj, this]
  · rw [List.getElem?_append] at hc'
    split at hc'
    · obtain ⟨q', a, r⟩ := k.fns i c' hc'
      exact ⟨q', a, Rep.sub hs r⟩
    · rename_i hi
      have hi2 : i = n := by
        have := (List.getElem?_eq_some_iff.1 hc').1
        simp at this
        have := k.len
        omega
      subst hi2
      rw [k.len, Nat.sub_self] at hc'
      cases hc'
      exact ⟨q, hq, Rep.sub hs hc⟩
theorem KInv2.fresh {h0 H : IHp} {m n : Nat} {cs : List Value} (k : KInv2 h0 H m n cs) : h0.fresh ≤ H.fresh := k.ext.fresh
theorem col_fn {F : Mem} {q : ColD} {c : Value} (h : Rep F (colT q) c) : ∃ f a b, c = .func (.func f) a b := by
  cases q <;> (simp only [colT, Rep] at h; obtain ⟨va, vb, h, _⟩ := h; exact ⟨_, _, _, h⟩)
set_option maxHeartbeats 4000000 in
theorem kinds_spec2 (h : IHp) : EvX Try.prog 77 [].toArray h (fun v h' => Ext h h' ∧ ∃ m cs, v = .map (some m) ∧ h.fresh ≤ m ∧ MapIs h' m (rowsOf KT cs) ∧ cs.length = 25 ∧ ∀ (i : Nat) c, cs[i]? = some c → ∃ q, KC[i]? = some q ∧ Rep (newMem h h') (colT q) c) := by
  refine EvX_of Try.func77 rfl (by show 0 ≤ 56; decide) ?_
  repeat (first | refine V_seq ?_ | refine V_region ?_ | refine WS_nil ?_ | refine S_normal ?_ | refine WS_assign ?_)
  refine WS_makeMap ?_
  refine WS_gen ?_
  intro H0 hH0
  have k0 : KInv2 h H0 h.fresh 0 [] := ⟨hH0 ▸ Ext.push _ _, Nat.le_refl _, ⟨by unfold IHp.fresh; omega, by rw [hH0]; exact obj_push h _⟩, rfl, fun i c hc => by simp at hc⟩
  obtain ⟨m, hm⟩ : ∃ m, m = h.fresh := ⟨_, rfl⟩
  rw [← hm] at k0 ⊢
  clear hH0
  repeat (refine WS_buildSlice (by decide) rfl rfl (by simp [Value.cells]) ?_)
  refine WS_gen ?_
  intro G hG
  have sl : Rep (newMem h G) (.sl 1 (intRows [0])) (.slice (some (ad H0.fresh 0)) 1 1) := hG ▸ slice_new k0.fresh [0] (by decide)
  have k0 := k0.grow (H' := G) (hG ▸ Ext.push _ _)
  clear hG
  refine WS_call (made_ev (flipT 0 [0]) k0.fresh (RepL.cons (rep_v _) (RepL.cons sl RepL.nil))) ?_
  rintro c G ⟨eG, rc⟩
  have k0 := k0.grow eG
  obtain ⟨f, a, b, rfl⟩ := col_fn rc
  repeat (refine WS_build ?_)
  refine WS_insert (mi := k0.map) (look_none _ _ (by decide +kernel)) ?_
  refine WS_gen ?_
  intro H1 hH
  have k1 := k0.add (e := ⟨(⟨#[105]⟩ : ByteArray), 1, 0, true, true, (⟨#[105]⟩ : ByteArray)⟩) rfl rfl rfl rc hH
  refine WS_live1 1 ?_
  intro s g1
  clear hH
  repeat (refine WS_buildSlice (by decide) rfl rfl (by simp [Value.cells]) ?_)
  refine WS_gen ?_
  intro G hG
  have sl : Rep (newMem h G) (.sl 1 (intRows [0])) (.slice (some (ad H1.fresh 0)) 1 1) := hG ▸ slice_new k1.fresh [0] (by decide)
  have k1 := k1.grow (H' := G) (hG ▸ Ext.push _ _)
  clear hG
  refine WS_call (made_ev (flipT 1 [0]) k1.fresh (RepL.cons (rep_v _) (RepL.cons sl RepL.nil))) ?_
  rintro c G ⟨eG, rc⟩
  have k1 := k1.grow eG
  obtain ⟨f, a, b, rfl⟩ := col_fn rc
  repeat (refine WS_build ?_)
  refine WS_insert (mi := k1.map) (look_none _ _ (by decide +kernel)) ?_
  refine WS_gen ?_
  intro H2 hH
  have k2 := k1.add (e := ⟨(⟨#[120]⟩ : ByteArray), 1, 0, true, false, (⟨#[120]⟩ : ByteArray)⟩) rfl rfl rfl rc hH
  refine WS_live1 1 ?_
  intro s g1
  clear hH
  repeat (refine WS_buildSlice (by decide) rfl rfl (by simp [Value.cells]) ?_)
  refine WS_gen ?_
  intro G hG
  have sl : Rep (newMem h G) (.sl 1 (intRows [2, 6])) (.slice (some (ad H2.fresh 0)) 2 2) := hG ▸ slice_new k2.fresh [2, 6] (by decide)
  have k2 := k2.grow (H' := G) (hG ▸ Ext.push _ _)
  clear hG
  refine WS_call (made_ev (flipT 1 [2, 6]) k2.fresh (RepL.cons (rep_v _) (RepL.cons sl RepL.nil))) ?_
  rintro c G ⟨eG, rc⟩
  have k2 := k2.grow eG
  obtain ⟨f, a, b, rfl⟩ := col_fn rc
  repeat (refine WS_build ?_)
  refine WS_insert (mi := k2.map) (look_none _ _ (by decide +kernel)) ?_
  refine WS_gen ?_
  intro H3 hH
  have k3 := k2.add (e := ⟨(⟨#[121]⟩ : ByteArray), 1, 0, true, false, (⟨#[121]⟩ : ByteArray)⟩) rfl rfl rfl rc hH
  refine WS_live1 1 ?_
  intro s g1
  clear hH
  skip
  refine WS_call (made_ev (lastT 1 4) k3.fresh (RepL.cons (rep_v _) (RepL.cons (rep_v _) RepL.nil))) ?_
  rintro c G ⟨eG, rc⟩
  have k3 := k3.grow eG
  obtain ⟨f, a, b, rfl⟩ := col_fn rc
  repeat (refine WS_build ?_)
  refine WS_insert (mi := k3.map) (look_none _ _ (by decide +kernel)) ?_
  refine WS_gen ?_
  intro H4 hH
  have k4 := k3.add (e := ⟨(⟨#[122]⟩ : ByteArray), 1, 0, true, true, (⟨#[122]⟩ : ByteArray)⟩) rfl rfl rfl rc hH
  refine WS_live1 1 ?_
  intro s g1
  clear hH
  skip
  refine WS_call (made_ev (mixedT 0 0 4) k4.fresh (RepL.cons (rep_v _) (RepL.cons (rep_v _) (RepL.cons (rep_v _) RepL.nil)))) ?_
  rintro c G ⟨eG, rc⟩
  have k4 := k4.grow eG
  obtain ⟨f, a, b, rfl⟩ := col_fn rc
  repeat (refine WS_build ?_)
  refine WS_insert (mi := k4.map) (look_none _ _ (by decide +kernel)) ?_
  refine WS_gen ?_
  intro H5 hH
  have k5 := k4.add (e := ⟨(⟨#[104]⟩ : ByteArray), 1, 1, true, false, (⟨#[104]⟩ : ByteArray)⟩) rfl rfl rfl rc hH
  refine WS_live1 1 ?_
  intro s g1
  clear hH
  skip
  refine WS_call (made_ev (lastT 1 2) k5.fresh (RepL.cons (rep_v _) (RepL.cons (rep_v _) RepL.nil))) ?_
  rintro c G ⟨eG, rc⟩
  have k5 := k5.grow eG
  obtain ⟨f, a, b, rfl⟩ := col_fn rc
  repeat (refine WS_build ?_)
  refine WS_insert (mi := k5.map) (look_none _ _ (by decide +kernel)) ?_
  refine WS_gen ?_
  intro H6 hH
  have k6 := k5.add (e := ⟨(⟨#[115]⟩ : ByteArray), 1, 0, true, true, (⟨#[115, 100, 103]⟩ : ByteArray)⟩) rfl rfl rfl rc hH
  refine WS_live1 1 ?_
  intro s g1
  clear hH
  skip
  refine WS_call (made_ev (lastT 1 6) k6.fresh (RepL.cons (rep_v _) (RepL.cons (rep_v _) RepL.nil))) ?_
  rintro c G ⟨eG, rc⟩
  have k6 := k6.grow eG
  obtain ⟨f, a, b, rfl⟩ := col_fn rc
  repeat (refine WS_build ?_)
  refine WS_insert (mi := k6.map) (look_none _ _ (by decide +kernel)) ?_
  refine WS_gen ?_
  intro H7 hH
  have k7 := k6.add (e := ⟨(⟨#[115, 100, 103]⟩ : ByteArray), 1, 0, true, true, (⟨#[115]⟩ : ByteArray)⟩) rfl rfl rfl rc hH
  refine WS_live1 1 ?_
  intro s g1
  clear hH
  skip
  refine WS_call (made_ev (lastT 1 1) k7.fresh (RepL.cons (rep_v _) (RepL.cons (rep_v _) RepL.nil))) ?_
  rintro c G ⟨eG, rc⟩
  have k7 := k7.grow eG
  obtain ⟨f, a, b, rfl⟩ := col_fn rc
  repeat (refine WS_build ?_)
  refine WS_insert (mi := k7.map) (look_none _ _ (by decide +kernel)) ?_
  refine WS_gen ?_
  intro H8 hH
  have k8 := k7.add (e := ⟨(⟨#[116]⟩ : ByteArray), 1, 0, false, true, (⟨#[116, 100, 103]⟩ : ByteArray)⟩) rfl rfl rfl rc hH
  refine WS_live1 1 ?_
  intro s g1
  clear hH
  skip
  refine WS_call (made_ev (lastT 1 7) k8.fresh (RepL.cons (rep_v _) (RepL.cons (rep_v _) RepL.nil))) ?_
  rintro c G ⟨eG, rc⟩
  have k8 := k8.grow eG
  obtain ⟨f, a, b, rfl⟩ := col_fn rc
  repeat (refine WS_build ?_)
  refine WS_insert (mi := k8.map) (look_none _ _ (by decide +kernel)) ?_
  refine WS_gen ?_
  intro H9 hH
  have k9 := k8.add (e := ⟨(⟨#[116, 100, 103]⟩ : ByteArray), 1, 0, false, true, (⟨#[116]⟩ : ByteArray)⟩) rfl rfl rfl rc hH
  refine WS_live1 1 ?_
  intro s g1
  clear hH
  skip
  refine WS_call (made_ev (mixedT 1 7 1) k9.fresh (RepL.cons (rep_v _) (RepL.cons (rep_v _) (RepL.cons (rep_v _) RepL.nil)))) ?_
  rintro c G ⟨eG, rc⟩
  have k9 := k9.grow eG
  obtain ⟨f, a, b, rfl⟩ := col_fn rc
  repeat (refine WS_build ?_)
  refine WS_insert (mi := k9.map) (look_none _ _ (by decide +kernel)) ?_
  refine WS_gen ?_
  intro H10 hH
  have k10 := k9.add (e := ⟨(⟨#[118]⟩ : ByteArray), 1, 1, true, false, (⟨#[118, 100, 103]⟩ : ByteArray)⟩) rfl rfl rfl rc hH
  refine WS_live1 1 ?_
  intro s g1
  clear hH
  skip
  refine WS_call (made_ev (mixedT 7 1 7) k10.fresh (RepL.cons (rep_v _) (RepL.cons (rep_v _) (RepL.cons (rep_v _) RepL.nil)))) ?_
  rintro c G ⟨eG, rc⟩
  have k10 := k10.grow eG
  obtain ⟨f, a, b, rfl⟩ := col_fn rc
  repeat (refine WS_build ?_)
  refine WS_insert (mi := k10.map) (look_none _ _ (by decide +kernel)) ?_
  refine WS_gen ?_
  intro H11 hH
  have k11 := k10.add (e := ⟨(⟨#[118, 100, 103]⟩ : ByteArray), 1, 1, true, false, (⟨#[118]⟩ : ByteArray)⟩) rfl rfl rfl rc hH
  refine WS_live1 1 ?_
  intro s g1
  clear hH
  repeat (refine WS_buildSlice (by decide) rfl rfl (by simp [Value.cells]) ?_)
  refine WS_gen ?_
  intro G hG
  have sl : Rep (newMem h G) (.sl 1 (intRows [1])) (.slice (some (ad H11.fresh 0)) 1 1) := hG ▸ slice_new k11.fresh [1] (by decide)
  have k11 := k11.grow (H' := G) (hG ▸ Ext.push _ _)
  clear hG
  refine WS_call (made_ev (flipT 0 [1]) k11.fresh (RepL.cons (rep_v _) (RepL.cons sl RepL.nil))) ?_
  rintro c G ⟨eG, rc⟩
  have k11 := k11.grow eG
  obtain ⟨f, a, b, rfl⟩ := col_fn rc
  repeat (refine WS_build ?_)
  refine WS_insert (mi := k11.map) (look_none _ _ (by decide +kernel)) ?_
  refine WS_gen ?_
  intro H12 hH
  have k12 := k11.add (e := ⟨(⟨#[119]⟩ : ByteArray), 1, 0, true, true, (⟨#[119, 100, 103]⟩ : ByteArray)⟩) rfl rfl rfl rc hH
  refine WS_live1 1 ?_
  intro s g1
  clear hH
  repeat (refine WS_buildSlice (by decide) rfl rfl (by simp [Value.cells]) ?_)
  refine WS_gen ?_
  intro G hG
  have sl : Rep (newMem h G) (.sl 1 (intRows [7])) (.slice (some (ad H12.fresh 0)) 1 1) := hG ▸ slice_new k12.fresh [7] (by decide)
  have k12 := k12.grow (H' := G) (hG ▸ Ext.push _ _)
  clear hG
  refine WS_call (made_ev (flipT 0 [7]) k12.fresh (RepL.cons (rep_v _) (RepL.cons sl RepL.nil))) ?_
  rintro c G ⟨eG, rc⟩
  have k12 := k12.grow eG
  obtain ⟨f, a, b, rfl⟩ := col_fn rc
  repeat (refine WS_build ?_)
  refine WS_insert (mi := k12.map) (look_none _ _ (by decide +kernel)) ?_
  refine WS_gen ?_
  intro H13 hH
  have k13 := k12.add (e := ⟨(⟨#[119, 100, 103]⟩ : ByteArray), 1, 0, true, true, (⟨#[119]⟩ : ByteArray)⟩) rfl rfl rfl rc hH
  refine WS_live1 1 ?_
  intro s g1
  clear hH
  skip
  refine WS_call (made_ev (swappedT 1 3 0) k13.fresh (RepL.cons (rep_v _) (RepL.cons (rep_v _) (RepL.cons (rep_v _) RepL.nil)))) ?_
  rintro c G ⟨eG, rc⟩
  have k13 := k13.grow eG
  obtain ⟨f, a, b, rfl⟩ := col_fn rc
  repeat (refine WS_build ?_)
  refine WS_insert (mi := k13.map) (look_none _ _ (by decide +kernel)) ?_
  refine WS_gen ?_
  intro H14 hH
  have k14 := k13.add (e := ⟨(⟨#[99, 120]⟩ : ByteArray), 2, 0, true, false, (⟨#[99, 120]⟩ : ByteArray)⟩) rfl rfl rfl rc hH
  refine WS_live1 1 ?_
  intro s g1
  clear hH
  repeat (refine WS_build ?_)
  have rc : Rep (newMem h H14) (colT .turnedY) (.func (.func 106) #[] #[]) := by
    simp only [colT, Rep]
    exact ⟨[], [], rfl, RepL.nil, RepL.nil⟩
  refine WS_insert (mi := k14.map) (look_none _ _ (by decide +kernel)) ?_
  refine WS_gen ?_
  intro H15 hH
  have k15 := k14.add (e := ⟨(⟨#[99, 121]⟩ : ByteArray), 2, 0, true, false, (⟨#[99, 121]⟩ : ByteArray)⟩) rfl rfl rfl rc hH
  refine WS_live1 1 ?_
  intro s g1
  clear hH
  skip
  refine WS_call (made_ev (lastT 3 4) k15.fresh (RepL.cons (rep_v _) (RepL.cons (rep_v _) RepL.nil))) ?_
  rintro c G ⟨eG, rc⟩
  have k15 := k15.grow eG
  obtain ⟨f, a, b, rfl⟩ := col_fn rc
  repeat (refine WS_build ?_)
  refine WS_insert (mi := k15.map) (look_none _ _ (by decide +kernel)) ?_
  refine WS_gen ?_
  intro H16 hH
  have k16 := k15.add (e := ⟨(⟨#[99, 122]⟩ : ByteArray), 2, 0, true, true, (⟨#[99, 122]⟩ : ByteArray)⟩) rfl rfl rfl rc hH
  refine WS_live1 1 ?_
  intro s g1
  clear hH
  repeat (refine WS_build ?_)
  have rc : Rep (newMem h H16) (colT .controlled) (.func (.func 107) #[] #[]) := by
    simp only [colT, Rep]
    exact ⟨[], [], rfl, RepL.nil, RepL.nil⟩
  refine WS_insert (mi := k16.map) (look_none _ _ (by decide +kernel)) ?_
  refine WS_gen ?_
  intro H17 hH
  have k17 := k16.add (e := ⟨(⟨#[99, 104]⟩ : ByteArray), 2, 1, false, false, (⟨#[99, 104]⟩ : ByteArray)⟩) rfl rfl rfl rc hH
  refine WS_live1 1 ?_
  intro s g1
  clear hH
  skip
  refine WS_call (made_ev (lastT 3 2) k17.fresh (RepL.cons (rep_v _) (RepL.cons (rep_v _) RepL.nil))) ?_
  rintro c G ⟨eG, rc⟩
  have k17 := k17.grow eG
  obtain ⟨f, a, b, rfl⟩ := col_fn rc
  repeat (refine WS_build ?_)
  refine WS_insert (mi := k17.map) (look_none _ _ (by decide +kernel)) ?_
  refine WS_gen ?_
  intro H18 hH
  have k18 := k17.add (e := ⟨(⟨#[99, 115]⟩ : ByteArray), 2, 0, false, true, (⟨#[99, 115, 100, 103]⟩ : ByteArray)⟩) rfl rfl rfl rc hH
  refine WS_live1 1 ?_
  intro s g1
  clear hH
  skip
  refine WS_call (made_ev (lastT 3 6) k18.fresh (RepL.cons (rep_v _) (RepL.cons (rep_v _) RepL.nil))) ?_
  rintro c G ⟨eG, rc⟩
  have k18 := k18.grow eG
  obtain ⟨f, a, b, rfl⟩ := col_fn rc
  repeat (refine WS_build ?_)
  refine WS_insert (mi := k18.map) (look_none _ _ (by decide +kernel)) ?_
  refine WS_gen ?_
  intro H19 hH
  have k19 := k18.add (e := ⟨(⟨#[99, 115, 100, 103]⟩ : ByteArray), 2, 0, false, true, (⟨#[99, 115]⟩ : ByteArray)⟩) rfl rfl rfl rc hH
  refine WS_live1 1 ?_
  intro s g1
  clear hH
  skip
  refine WS_call (made_ev (swappedT 1 2 0) k19.fresh (RepL.cons (rep_v _) (RepL.cons (rep_v _) (RepL.cons (rep_v _) RepL.nil)))) ?_
  rintro c G ⟨eG, rc⟩
  have k19 := k19.grow eG
  obtain ⟨f, a, b, rfl⟩ := col_fn rc
  repeat (refine WS_build ?_)
  refine WS_insert (mi := k19.map) (look_none _ _ (by decide +kernel)) ?_
  refine WS_gen ?_
  intro H20 hH
  have k20 := k19.add (e := ⟨(⟨#[115, 119, 97, 112]⟩ : ByteArray), 2, 0, true, false, (⟨#[115, 119, 97, 112]⟩ : ByteArray)⟩) rfl rfl rfl rc hH
  refine WS_live1 1 ?_
  intro s g1
  clear hH
  skip
  refine WS_call (made_ev (swappedT 1 2 2) k20.fresh (RepL.cons (rep_v _) (RepL.cons (rep_v _) (RepL.cons (rep_v _) RepL.nil)))) ?_
  rintro c G ⟨eG, rc⟩
  have k20 := k20.grow eG
  obtain ⟨f, a, b, rfl⟩ := col_fn rc
  repeat (refine WS_build ?_)
  refine WS_insert (mi := k20.map) (look_none _ _ (by decide +kernel)) ?_
  refine WS_gen ?_
  intro H21 hH
  have k21 := k20.add (e := ⟨(⟨#[105, 115, 119, 97, 112]⟩ : ByteArray), 2, 0, true, false, (⟨#[105, 115, 119, 97, 112, 100, 103]⟩ : ByteArray)⟩) rfl rfl rfl rc hH
  refine WS_live1 1 ?_
  intro s g1
  clear hH
  skip
  refine WS_call (made_ev (swappedT 1 2 6) k21.fresh (RepL.cons (rep_v _) (RepL.cons (rep_v _) (RepL.cons (rep_v _) RepL.nil)))) ?_
  rintro c G ⟨eG, rc⟩
  have k21 := k21.grow eG
  obtain ⟨f, a, b, rfl⟩ := col_fn rc
  repeat (refine WS_build ?_)
  refine WS_insert (mi := k21.map) (look_none _ _ (by decide +kernel)) ?_
  refine WS_gen ?_
  intro H22 hH
  have k22 := k21.add (e := ⟨(⟨#[105, 115, 119, 97, 112, 100, 103]⟩ : ByteArray), 2, 0, true, false, (⟨#[105, 115, 119, 97, 112]⟩ : ByteArray)⟩) rfl rfl rfl rc hH
  refine WS_live1 1 ?_
  intro s g1
  clear hH
  skip
  refine WS_call (made_ev (swappedT 3 7 0) k22.fresh (RepL.cons (rep_v _) (RepL.cons (rep_v _) (RepL.cons (rep_v _) RepL.nil)))) ?_
  rintro c G ⟨eG, rc⟩
  have k22 := k22.grow eG
  obtain ⟨f, a, b, rfl⟩ := col_fn rc
  repeat (refine WS_build ?_)
  refine WS_insert (mi := k22.map) (look_none _ _ (by decide +kernel)) ?_
  refine WS_gen ?_
  intro H23 hH
  have k23 := k22.add (e := ⟨(⟨#[99, 99, 120]⟩ : ByteArray), 3, 0, false, false, (⟨#[99, 99, 120]⟩ : ByteArray)⟩) rfl rfl rfl rc hH
  refine WS_live1 1 ?_
  intro s g1
  clear hH
  skip
  refine WS_call (made_ev (lastT 7 4) k23.fresh (RepL.cons (rep_v _) (RepL.cons (rep_v _) RepL.nil))) ?_
  rintro c G ⟨eG, rc⟩
  have k23 := k23.grow eG
  obtain ⟨f, a, b, rfl⟩ := col_fn rc
  repeat (refine WS_build ?_)
  refine WS_insert (mi := k23.map) (look_none _ _ (by decide +kernel)) ?_
  refine WS_gen ?_
  intro H24 hH
  have k24 := k23.add (e := ⟨(⟨#[99, 99, 122]⟩ : ByteArray), 3, 0, false, true, (⟨#[99, 99, 122]⟩ : ByteArray)⟩) rfl rfl rfl rc hH
  refine WS_live1 1 ?_
  intro s g1
  clear hH
  skip
  refine WS_call (made_ev (swappedT 3 5 0) k24.fresh (RepL.cons (rep_v _) (RepL.cons (rep_v _) (RepL.cons (rep_v _) RepL.nil)))) ?_
  rintro c G ⟨eG, rc⟩
  have k24 := k24.grow eG
  obtain ⟨f, a, b, rfl⟩ := col_fn rc
  repeat (refine WS_build ?_)
  refine WS_insert (mi := k24.map) (look_none _ _ (by decide +kernel)) ?_
  refine WS_gen ?_
  intro H25 hH
  have k25 := k24.add (e := ⟨(⟨#[99, 115, 119, 97, 112]⟩ : ByteArray), 3, 0, false, false, (⟨#[99, 115, 119, 97, 112]⟩ : ByteArray)⟩) rfl rfl rfl rc hH
  refine WS_live1 1 ?_
  intro s g1
  clear hH
  repeat (first | refine WS_nil ?_ | refine S_normal ?_ | refine V_ret ?_ | refine WS_move ?_ | refine WS_assign ?_)
  exact retK_1 ⟨k25.ext, _, _, rfl, by rw [hm]; exact Nat.le_refl _, k25.map, k25.len, k25.fns⟩ (.inr rfl)
end Go.Ideal

-- Jc
set_option linter.unusedSimpArgs false
set_option linter.unusedVariables false
namespace Go.Ideal
open Go Go.Proofs Go.RowKit
/-! ### A gate is looked up -/
def colOf (b : ByteArray) : Option ColD := ((KT.zip KC).find? fun x => beqS b x.1.name).map (·.2)
theorem look2 {b : ByteArray} {R : ColD → Value → Prop} : ∀ (es : List KE) (qs : List ColD) (cs : List Value), cs.length = es.length → qs.length = es.length → (∀ (i : Nat) c, cs[i]? = some c → ∃ q, qs[i]? = some q ∧ R q c) →
    match es.find? (fun e => beqS b e.name) with
    | none => lookB b (rowsOf es cs) = none
    | some e => ∃ c q, lookB b (rowsOf es cs) = some (krow e c).2 ∧ ((es.zip qs).find? fun x => beqS b x.1.name).map (·.2) = some q ∧ R q c := by
  intro es
  induction es with
  | nil => intro qs cs h _ _; cases cs <;> simp [rowsOf, lookB] at h ⊢
  | cons e es ih =>
    intro qs cs h h2 hR
    match cs, qs, h, h2 with
    | c :: cs, q :: qs, h, h2 =>
      simp only [List.length_cons, Nat.add_right_cancel_iff] at h h2
      rw [List.find?_cons]
      cases hb : beqS b e.name with
      | true =>
        obtain ⟨q', h3, h4⟩ := hR 0 c rfl
        cases h3
        exact ⟨c, q, by simp [rowsOf, krow, lookB, hb], by simp [hb], h4⟩
      | false =>
        have h1 := ih qs cs h h2 (fun i c hc => hR (i + 1) c hc)
        cases hf : es.find? (fun e => beqS b e.name) with
        | none => rw [hf] at h1; simp only at h1 ⊢; simpa [rowsOf, krow, lookB, hb] using h1
        | some e' =>
          rw [hf] at h1
          obtain ⟨c', q', h3, h4, h5⟩ := h1
          exact ⟨c', q', by simpa [rowsOf, krow, lookB, hb] using h3, by simpa [hb] using h4, h5⟩
@[reducible] def kT (e : KE) (q : ColD) : Tr := .agg [intT e.arity, intT e.halves, boolT e.cliff, boolT e.diag, strT e.back, colT q]
section
variable {X : Cx} {E : Env} {σ : Nat → Tr} {B : Boxes} {ops : Array Oper} {K : TK} {l : List Oper} {H : List (Nat × Nat)}
theorem TS_kinds {b : ByteArray} {d1 dk d2 : Tmp} {t kt et : TypeId} {ty1 ty2 ty3 : TypeId} {p1 p2 p3 : String} {a1 a2 a3 : Array Edge} {at_ : Array TypeId} [ex : TGet σ 0 (strT b)] (h10 : Nat.beq 0 d1 = false) (h1k : Nat.beq d1 dk = false) [u : UnderIs Try.prog t (.map kt et)] [uk : UnderIs Try.prog kt .string] [zi : ZeroIs Try.prog et (.agg [.int .i64 0, .int .i64 0, .bool false, .bool false, .string ByteArray.empty, .nilFunc].toArray)]
    (k0 : kOf b = none → ∀ m, TS X Try.prog E ops K l H (putT (putT (putT σ (some d1) (.v (.map (some m)))) (some dk) (strT b)) (some d2) (.tup [.agg [intT 0, intT 0, boolT false, boolT false, strT ByteArray.empty, .v .nilFunc], boolT false])) B)
    (k1 : ∀ e q, kOf b = some e → colOf b = some q → ∀ m, TS X Try.prog E ops K l H (putT (putT (putT σ (some d1) (.v (.map (some m)))) (some dk) (strT b)) (some d2) (.tup [kT e q, boolT true])) B) :
    TS X Try.prog E ops K (⟨some d1, .call ⟨.value (.func 77), #[], at_⟩, ty1, p1, a1, none⟩ :: ⟨some dk, .move (.tmp 0), ty2, p2, a2, none⟩ :: ⟨some d2, .lookup t (.tmp d1) (.tmp dk) true, ty3, p3, a3, none⟩ :: l) H σ B := by
  unfold TS at *
  intro F s h held r hh
  have g0 : Get s 0 (.string b) := ex.is r
  refine WS_call (ps := []) (kinds_spec2 h) ?_
  rintro _ h' ⟨ext, m, cs, rfl, hm, mi, hl, fns⟩
  have g1 : Get (putS s (some d1) (.map (some m))) 0 (.string b) := Get.ne h10 g0
  refine WS_move ?_
  have g2 : Get (putS (putS s (some d1) (.map (some m))) (some dk) (.string b)) d1 (.map (some m)) := Get.ne h1k inferInstance
  refine WS_lookup_ok ?_
  have hF : Sub F (fun b off => if h.fresh ≤ b then h'.cell? b off else F b off) := fun b off v hf => by
    by_cases hb : h.fresh ≤ b
    · simp only [hb, if_true]; exact cell_ext ext (r.sub _ _ _ hf)
    · simp only [hb, if_false]; exact hf
  have r' := r.grow ext hF (fun b off v hf => by
    by_cases hb : h.fresh ≤ b
    · simp only [hb, if_true] at hf; exact hf
    · simp only [hb, if_false] at hf; exact cell_ext ext (r.sub _ _ _ hf)) (fun b off v hf => by
    by_cases hb : h.fresh ≤ b
    · exact .inr hb
    · simp only [hb, if_false] at hf; exact .inl hf)
  have hN : Sub (newMem h h') (fun b off => if h.fresh ≤ b then h'.cell? b off else F b off) := fun b off v hf => by
    unfold newMem at hf
    split at hf
    · rename_i hb; simp only [hb, if_true]; exact hf
    · cases hf
  have hh' : HeldOk (fun b off => if h.fresh ≤ b then h'.cell? b off else F b off) B H h' held := hh.keys (fun b off v hc => cell_ext ext hc) hF (fun b hb => hb)
  have h3 := look2 (b := b) (R := fun q c => Rep (newMem h h') (colT q) c) KT KC cs hl rfl fns
  cases hk : kOf b with
  | none =>
    unfold kOf at hk
    rw [hk] at h3
    simp only at h3
    rw [h3]
    refine k0 hk m _ _ h' held (((r'.put (rep_v _)).put (rep_v _)).put ?_) hh'
    simp only [Rep]
    exact ⟨_, rfl, RepL.cons (by simp only [Rep]; exact ⟨_, rfl, RepL.cons (rep_v _) (RepL.cons (rep_v _) (RepL.cons (rep_v _) (RepL.cons (rep_v _) (RepL.cons (rep_v _) (RepL.cons (rep_v _) RepL.nil)))))⟩) (RepL.cons (rep_v _) RepL.nil)⟩
  | some e =>
    have hk' := hk
    unfold kOf at hk
    rw [hk] at h3
    obtain ⟨c, q, h4, h5, h6⟩ := h3
    rw [h4]
    refine k1 e q hk' h5 m _ _ h' held (((r'.put (rep_v _)).put (rep_v _)).put ?_) hh'
    simp only [Rep]
    exact ⟨_, rfl, RepL.cons (by simp only [Rep]; exact ⟨_, rfl, RepL.cons (rep_v _) (RepL.cons (rep_v _) (RepL.cons (rep_v _) (RepL.cons (rep_v _) (RepL.cons (rep_v _) (RepL.cons (Rep.sub hN h6) RepL.nil)))))⟩) (RepL.cons (rep_v _) RepL.nil)⟩
end
end Go.Ideal

-- Jd
set_option linter.unusedSimpArgs false
set_option linter.unusedVariables false
namespace Go.Ideal
open Go Go.Proofs Go.RowKit
/-! ### Whole numbers as floats: what math tells of them -/
@[reducible] def flT (n : Int) : Tr := .v (.float .f64 (flb n))
@[reducible] def cxT (a b : Int) : Tr := .v (.complex .f64 (flb a) (flb b))
theorem ext_trunc (v : Value) : pureOf Try.prog (callFunc 151 #[v]) = pureOf Try.prog (do pure (.value (← Extern.MathFloor.toIntegral "math.archTrunc" .zero #[v]))) := by kernel_rfl
theorem ext_bits (v : Value) : pureOf Try.prog (callFunc 154 #[v]) = pureOf Try.prog (do pure (.value (← Extern.MathFloatBits.float64bits #[v]))) := by kernel_rfl
theorem ext_from (v : Value) : pureOf Try.prog (callFunc 153 #[v]) = pureOf Try.prog (do pure (.value (← Extern.MathFloatBits.float64frombits #[v]))) := by kernel_rfl
set_option maxRecDepth 100000 in
theorem truncT {n : Int} [h : Sm53 n] : Fn Try.prog 144 [flT n] (fun r => r = flT n) := by
  refine Fn_of Try.func144 rfl (Nat.le_of_ble_eq_true rfl) (fun X => ?_)
  repeat (first | refine StepC.go ?_ | (refine TV_cond_t ?_ ?_; · first | rfl | assumption))
  refine TS_ext (v := .float .f64 (flb n)) (r := .float .f64 (flb n)) rfl rfl ?_ rfl ?_
  · rw [ext_trunc]
    obtain ⟨m, p, h1, _, _⟩ := read_flb h.lt
    have h2 : FloatKind.f64.decode (flb n) = .number (decide (n < 0)) m p := h1
    have h3 := fl_trunc h.lt
    rw [h1] at h3
    have h4 : FloatKind.f64.encode (Ieee.Datum.integral .zero (.number (decide (n < 0)) m p)) = flb n := h3
    have hR : Extern.MathFloor.toIntegral "math.archTrunc" .zero #[.float .f64 (flb n)] = pure (.float .f64 (flb n)) := by
      show (match FloatKind.f64.decode (flb n) with
        | .nan s t => _
        | d => (pure (Value.float .f64 (FloatKind.f64.encode (d.integral .zero))) : Sem Value)) = _
      rw [h2]
      simp only
      rw [h4]
    rw [hR]
    rfl
  repeat (refine StepC.go ?_)
  exact retT_1 (.inr rfl) rfl
instance : CallIs Try.prog 144 := .of Try.func144 rfl rfl
theorem fz_lt {w : Nat} {n : Int} (h : FzIs w n) : w < 2 ^ 64 ∧ w % 2 ^ 63 = flb (n.natAbs : Int) := by
  have hr := rungI_lt h.sm
  have h0 : flb (n.natAbs : Int) = rungI n.natAbs := by rw [flb_pos (by omega), Int.natAbs_natCast]
  rw [h0]
  rcases h.eq with h1 | ⟨rfl, s, h1⟩
  · rw [h1]
    by_cases h2 : n < 0
    · rw [flb_neg h2]
      exact ⟨by omega, by rw [Nat.add_mod_left, Nat.mod_eq_of_lt hr]⟩
    · rw [flb_pos (by omega)]
      exact ⟨by omega, Nat.mod_eq_of_lt hr⟩
  · rw [h1]
    cases s <;> exact ⟨by decide +kernel, by decide +kernel⟩
theorem bits_abs {w : Nat} (h : w < 2 ^ 64) : ibits .andNot .u64 (w : Int) 9223372036854775808 = ((w % 2 ^ 63 : Nat) : Int) := by
  have h1 : (BitVec.ofInt 64 (w : Int) &&& ~~~BitVec.ofInt 64 9223372036854775808).toNat = w % 2 ^ 63 := by
    have h2 : (~~~BitVec.ofInt 64 9223372036854775808 : BitVec 64) = BitVec.ofNat 64 (2 ^ 63 - 1) := by decide +kernel
    rw [h2, BitVec.toNat_and, BitVec.toNat_ofNat, ofInt_u64 h, show (2 ^ 63 - 1) % 2 ^ 64 = 2 ^ 63 - 1 by decide +kernel, Nat.and_two_pow_sub_one_eq_mod]
  show IntKind.u64.wrap ((BitVec.ofInt 64 (w : Int) &&& ~~~BitVec.ofInt 64 9223372036854775808).toNat : Int) = _
  rw [h1]
  have h3 : w % 2 ^ 63 < 2 ^ 64 := Nat.lt_of_lt_of_le (Nat.mod_lt _ (Nat.two_pow_pos _)) (by decide +kernel)
  exact wrap_u64 h3
set_option maxRecDepth 100000 in
theorem absT {w : Nat} {n : Int} (h : FzIs w n) : Fn Try.prog 145 [.v (.float .f64 w)] (fun r => r = flT (n.natAbs : Int)) := by
  refine Fn_of Try.func145 rfl (Nat.le_of_ble_eq_true rfl) (fun X => ?_)
  obtain ⟨hw, hm⟩ := fz_lt h
  repeat (refine StepC.go ?_)
  refine TS_ext (v := .float .f64 w) (r := .int .u64 w) rfl rfl (by rw [ext_bits]; rfl) rfl ?_
  repeat (refine StepC.go ?_)
  rw [bits_abs hw, hm]
  refine TS_ext (v := .int .u64 (flb (n.natAbs : Int) : Nat)) (r := .float .f64 (flb (n.natAbs : Int))) rfl rfl (by rw [ext_from]; rfl) rfl ?_
  repeat (refine StepC.go ?_)
  exact retT_1 (.inr rfl) rfl
instance : CallIs Try.prog 145 := .of Try.func145 rfl rfl
theorem sign_bit {n : Int} (h : n.natAbs < 2 ^ 53) : decide (IntKind.i64.wrap ((flb n : Nat) : Int) < 0) = decide (n < 0) := by
  have hr := rungI_lt h
  have hb : (2 : Int) ^ IntKind.i64.bits = 18446744073709551616 := by rfl
  have hb' : (2 : Int) ^ (IntKind.i64.bits - 1) = 9223372036854775808 := by rfl
  have hs : IntKind.i64.signed = true := rfl
  have h63 : (2 : Nat) ^ 63 = 9223372036854775808 := by decide +kernel
  rw [h63] at hr
  rw [Bool.eq_iff_iff]
  simp only [decide_eq_true_eq]
  unfold IntKind.wrap
  simp only [hb, hb', hs]
  by_cases h2 : n < 0
  · rw [flb_neg h2, h63]
    rw [Int.emod_eq_of_lt (by omega) (by omega)]
    rw [if_pos (by simp; omega)]
    omega
  · rw [flb_pos (by omega)]
    rw [Int.emod_eq_of_lt (by omega) (by omega)]
    rw [if_neg (by simp; omega)]
    omega
set_option maxRecDepth 100000 in
theorem signT {n : Int} [h : Sm53 n] : Fn Try.prog 146 [flT n] (fun r => r = boolT (decide (n < 0))) := by
  refine Fn_of Try.func146 rfl (Nat.le_of_ble_eq_true rfl) (fun X => ?_)
  repeat (refine StepC.go ?_)
  refine TS_ext (v := .float .f64 (flb n)) (r := .int .u64 (flb n : Nat)) rfl rfl (by rw [ext_bits]; rfl) rfl ?_
  repeat (refine StepC.go ?_)
  refine retT_1 (.inr rfl) ?_
  simp only [tret]
  have := sign_bit (n := n) h.lt
  rw [Bool.eq_iff_iff] at this
  congr 3
  exact propext (by simpa using this)
instance : CallIs Try.prog 146 := .of Try.func146 rfl rfl
end Go.Ideal

-- Je
set_option linter.unusedSimpArgs false
set_option linter.unusedVariables false
namespace Go.Ideal
open Go Go.Proofs Go.RowKit
/-! ### Gaussian integers: the program -/
theorem wholeT {n : Int} [h : Sm53 n] : Fn Try.prog 134 [flT n] (fun r => r = boolT true) := by
  refine Fn_of Try.func134 rfl (Nat.le_of_ble_eq_true rfl) (fun X => ?_)
  have hl := h.lt
  repeat (refine StepC.go ?_)
  refine TS_callE truncT ?_
  have d1 : decide (n = n) = true := by simp
  have d2 : decide ((n.natAbs : Int) ≤ 9007199254740991) = true := by simp; omega
  have d5 : (if decide (n = n) = true then decide ((n.natAbs : Int) ≤ 9007199254740991) else false) = true := by rw [d1, d2]; rfl
  have hz : Sm53 (n.natAbs : Int) := ⟨by rw [Int.natAbs_natCast]; exact hl⟩
  repeat (first | refine StepC.go ?_ | (refine TS_on rfl ?_ ?_; · first | rfl | assumption))
  refine TS_callE (absT (FzIs.of (h := ⟨rfl, hl⟩))) ?_
  repeat (first | refine StepC.go ?_ | (refine TS_on rfl ?_ ?_; · first | rfl | assumption))
  by_cases h0 : n = 0
  · have d3 : decide (n = 0) = true := by simpa using h0
    repeat (first | refine StepC.go ?_ | (refine TS_on rfl ?_ ?_; · first | rfl | assumption))
    refine TS_callE signT ?_
    have d4 : decide (n < 0) = false := by simp [h0]
    rw [d4]
    repeat (first | refine StepC.go ?_ | (refine TS_on rfl ?_ ?_; · first | rfl | assumption))
    refine retT_1 (.inr rfl) ?_
    show Tr.v (.bool _) = _
    rw [d5, d3]; rfl
  · have d3 : decide (n = 0) = false := by simpa using h0
    repeat (first | refine StepC.go ?_ | (refine TS_on rfl ?_ ?_; · first | rfl | assumption) | (refine TS_off rfl ?_ ?_; · first | rfl | assumption) | (refine TS_puw (Pu.pick_f ?_) ?_; · first | rfl | assumption))
    refine retT_1 (.inr rfl) ?_
    show Tr.v (.bool _) = _
    rw [d5]; rfl
instance : CallIs Try.prog 134 := .of Try.func134 rfl rfl
theorem gCheckT {a b : Int} [h : Sm53 a] [h2 : Sm53 b] : Fn Try.prog 114 [cxT a b] (fun r => r = intT 0) := by
  refine Fn_of Try.func114 rfl (Nat.le_of_ble_eq_true rfl) (fun X => ?_)
  repeat (refine StepC.go ?_)
  refine TS_callE wholeT ?_
  repeat (first | refine StepC.go ?_ | (refine TS_on rfl ?_ ?_; · first | rfl | assumption))
  refine TS_callE wholeT ?_
  repeat (first | refine StepC.go ?_ | (refine TS_on rfl ?_ ?_; · first | rfl | assumption) | (refine TV_cond_f ?_ ?_; · first | rfl | assumption))
  exact retT_1 (.inr rfl) rfl
instance : CallIs Try.prog 114 := .of Try.func114 rfl rfl
theorem madeT {u v : Nat} {a b : Int} (h : FzIs u a) (h2 : FzIs v b) : Fn Try.prog 139 [.v (.float .f64 u), .v (.float .f64 v)] (fun r => r = cxT a b) := by
  refine Fn_of Try.func139 rfl (Nat.le_of_ble_eq_true rfl) (fun X => ?_)
  repeat (refine StepC.go ?_)
  exact retT_1 (.inr rfl) rfl
instance : CallIs Try.prog 139 := .of Try.func139 rfl rfl
/-- times i to the power k -/
def gTurn (k : Int) (a b : Int) : Int × Int := if k = 1 then (-b, a) else if k = 2 then (-a, -b) else if k = 3 then (b, -a) else (a, b)
theorem gTurnT {a b k : Int} [h : Sm53 a] [h2 : Sm53 b] (hk : k = 0 ∨ k = 1 ∨ k = 2 ∨ k = 3) : Fn Try.prog 128 [cxT a b, intT k] (fun r => r = .tup [cxT (gTurn k a b).1 (gTurn k a b).2, intT 0]) := by
  refine Fn_of Try.func128 rfl (Nat.le_of_ble_eq_true rfl) (fun X => ?_)
  have hA : ibits .and .i64 k 3 = k := by rcases hk with rfl | rfl | rfl | rfl <;> decide +kernel
  have hz1 : FzIs (flb a) a := ⟨.inl rfl, h.lt⟩
  have hz2 : FzIs (flb b) b := ⟨.inl rfl, h2.lt⟩
  repeat (refine StepC.go ?_)
  refine TS_callE gCheckT ?_
  repeat (first | refine StepC.go ?_ | (refine TV_cond_f ?_ ?_; · first | rfl | assumption))
  rw [hA]
  rcases hk with rfl | rfl | rfl | rfl
  · repeat (first | refine StepC.go ?_ | (refine TV_cond_f ?_ ?_; · first | rfl | assumption))
    exact retT_2 (.inr rfl) rfl
  · repeat (first | refine StepC.go ?_ | intro _ | (refine TV_cond_t ?_ ?_; · first | rfl | assumption))
    rename_i w hw
    refine TS_callE (madeT hw hz1) ?_
    repeat (refine StepC.go ?_)
    exact retT_2 (.inr rfl) rfl
  · repeat (first | refine StepC.go ?_ | intro _ | (refine TV_cond_t ?_ ?_; · first | rfl | assumption) | (refine TV_cond_f ?_ ?_; · first | rfl | assumption))
    rename_i w hw w2 hw2
    refine TS_callE (madeT hw hw2) ?_
    repeat (refine StepC.go ?_)
    exact retT_2 (.inr rfl) rfl
  · repeat (first | refine StepC.go ?_ | intro _ | (refine TV_cond_t ?_ ?_; · first | rfl | assumption) | (refine TV_cond_f ?_ ?_; · first | rfl | assumption))
    rename_i w hw
    refine TS_callE (madeT hz2 hw) ?_
    repeat (refine StepC.go ?_)
    exact retT_2 (.inr rfl) rfl
instance : CallIs Try.prog 128 := .of Try.func128 rfl rfl
end Go.Ideal

-- Jf
set_option linter.unusedSimpArgs false
set_option linter.unusedVariables false
namespace Go.Ideal
open Go Go.Proofs Go.RowKit
/-! ### Elements a + b i + (c + d i) w: the program -/
structure RgD where
  a : Int
  b : Int
  c : Int
  d : Int
  deriving DecidableEq
@[reducible] def rgCs (r : RgD) : List Tr := [cxT r.a r.b, cxT r.c r.d]
@[reducible] def rgT (r : RgD) : Tr := .agg (rgCs r)
class RgS (r : RgD) : Prop where
  a : r.a.natAbs < 2 ^ 53
  b : r.b.natAbs < 2 ^ 53
  c : r.c.natAbs < 2 ^ 53
  d : r.d.natAbs < 2 ^ 53
def rTurn (k : Int) (r : RgD) : RgD :=
  let r := if k % 2 = 1 then ⟨-r.d, r.c, r.a, r.b⟩ else r
  ⟨(gTurn (k / 2) r.a r.b).1, (gTurn (k / 2) r.a r.b).2, (gTurn (k / 2) r.c r.d).1, (gTurn (k / 2) r.c r.d).2⟩
theorem rCheckT {r : RgD} [h : RgS r] : Fn Try.prog 89 [rgT r] (fun t => t = intT 0) := by
  refine Fn_of Try.func89 rfl (Nat.le_of_ble_eq_true rfl) (fun X => ?_)
  have : Sm53 r.a := ⟨h.a⟩
  have : Sm53 r.b := ⟨h.b⟩
  have : Sm53 r.c := ⟨h.c⟩
  have : Sm53 r.d := ⟨h.d⟩
  repeat (first | refine StepC.go ?_ | intro _)
  refine TS_callE gCheckT ?_
  repeat (first | refine StepC.go ?_ | (refine TV_cond_f ?_ ?_; · first | rfl | assumption))
  refine TS_callE gCheckT ?_
  repeat (refine StepC.go ?_)
  exact retT_1 (.inr rfl) rfl
instance : CallIs Try.prog 89 := .of Try.func89 rfl rfl
theorem pairT {a b c d : Int} : Fn Try.prog 121 [cxT a b, intT 0, cxT c d, intT 0] (fun t => t = .tup [rgT ⟨a, b, c, d⟩, intT 0]) := by
  refine Fn_of Try.func121 rfl (Nat.le_of_ble_eq_true rfl) (fun X => ?_)
  repeat (first | refine StepC.go ?_ | intro _ | (refine TV_cond_f ?_ ?_; · first | rfl | assumption))
  exact retT_2 (.inr rfl) rfl
instance : CallIs Try.prog 121 := .of Try.func121 rfl rfl
theorem rTurnT {r : RgD} [h : RgS r] {k : Int} (hk : 0 ≤ k ∧ k < 8) : Fn Try.prog 108 [rgT r, intT k] (fun t => t = .tup [rgT (rTurn k r), intT 0]) := by
  refine Fn_of Try.func108 rfl (Nat.le_of_ble_eq_true rfl) (fun X => ?_)
  have : Sm53 r.a := ⟨h.a⟩
  have : Sm53 r.b := ⟨h.b⟩
  have : Sm53 r.c := ⟨h.c⟩
  have : Sm53 r.d := ⟨h.d⟩
  have : Sm53 (-r.d) := ⟨by rw [Int.natAbs_neg]; exact h.d⟩
  have hA : ibits .and .i64 k 7 = k := by
    obtain ⟨n, rfl⟩ : ∃ n : Nat, k = n := ⟨k.toNat, by omega⟩
    have : n < 8 := by omega
    match n, this with
    | 0, _ | 1, _ | 2, _ | 3, _ | 4, _ | 5, _ | 6, _ | 7, _ => decide +kernel
  have hB : ibits .and .i64 k 1 = k % 2 := by
    obtain ⟨n, rfl⟩ : ∃ n : Nat, k = n := ⟨k.toNat, by omega⟩
    have : n < 8 := by omega
    match n, this with
    | 0, _ | 1, _ | 2, _ | 3, _ | 4, _ | 5, _ | 6, _ | 7, _ => decide +kernel
  repeat (first | refine StepC.go ?_ | intro _)
  refine TS_callE rCheckT ?_
  repeat (first | refine StepC.go ?_ | (refine TV_cond_f ?_ ?_; · first | rfl | assumption))
  rw [hA]
  skip
  rw [hB]
  have hk2 : k / 2 = 0 ∨ k / 2 = 1 ∨ k / 2 = 2 ∨ k / 2 = 3 := by omega
  have hdv : idivs .quo .i64 k 2 = some (k / 2) := by
    clear hA hB hk2
    obtain ⟨n, rfl⟩ : ∃ n : Nat, k = n := ⟨k.toNat, by omega⟩
    have : n < 8 := by omega
    match n, this with
    | 0, _ | 1, _ | 2, _ | 3, _ | 4, _ | 5, _ | 6, _ | 7, _ => decide
  by_cases h1 : k % 2 = 1
  · have d1 : decide (k % 2 = 1) = true := by simpa using h1
    repeat (first | refine StepC.go ?_ | (refine TV_cond_t ?_ ?_; · first | rfl | assumption))
    refine TS_callE (gTurnT (.inr (.inl rfl))) ?_
    repeat (refine StepC.go ?_)
    refine TS_puw (Pu.divw (r := k / 2) (by decide) hdv) ?_
    skip
    refine TS_callE (gTurnT (a := -r.d) (b := r.c) hk2) ?_
    repeat (refine StepC.go ?_)
    refine TS_puw (Pu.divw (r := k / 2) (by decide) hdv) ?_
    skip
    refine TS_callE (gTurnT (a := r.a) (b := r.b) hk2) ?_
    repeat (refine StepC.go ?_)
    refine TS_callE pairT ?_
    repeat (refine StepC.go ?_)
    refine retT_2 (.inr rfl) ?_
    simp only [rTurn, if_pos h1]; rfl
  · have d1 : decide (k % 2 = 1) = false := by simpa using h1
    repeat (first | refine StepC.go ?_ | (refine TV_cond_f ?_ ?_; · first | rfl | assumption))
    refine TS_puw (Pu.divw (r := k / 2) (by decide) hdv) ?_
    skip
    refine TS_callE (gTurnT (a := r.a) (b := r.b) hk2) ?_
    repeat (refine StepC.go ?_)
    refine TS_puw (Pu.divw (r := k / 2) (by decide) hdv) ?_
    skip
    refine TS_callE (gTurnT (a := r.c) (b := r.d) hk2) ?_
    repeat (refine StepC.go ?_)
    refine TS_callE pairT ?_
    repeat (refine StepC.go ?_)
    refine retT_2 (.inr rfl) ?_
    simp only [rTurn, if_neg h1]; rfl
instance : CallIs Try.prog 108 := .of Try.func108 rfl rfl
end Go.Ideal

-- Jg
set_option linter.unusedSimpArgs false
set_option linter.unusedVariables false
namespace Go.Ideal
open Go Go.Proofs Go.RowKit
/-! ### The columns -/
structure CellD where
  row : Int
  turn : Int
  under : Int
  deriving DecidableEq
@[reducible] def cellCs (c : CellD) : List Tr := [intT c.row, intT c.turn, intT c.under]
@[reducible] def cellT (c : CellD) : Tr := .agg (cellCs c)
@[reducible] def cellRows (l : List CellD) : List (List Tr) := l.map cellCs
def colV : ColD → Nat → List CellD
  | .flip b ts, y => [⟨ibits .xor .i64 (y : Int) b, ts.getD (y % ts.length) 0, 0⟩]
  | .last n t, y => if (y : Int) = n then [⟨y, t, 0⟩] else [⟨y, 0, 0⟩]
  | .mixed a b c, y => if y = 0 then [⟨0, a, 1⟩, ⟨1, b, 1⟩] else [⟨0, b, 1⟩, ⟨1, c, 1⟩]
  | .swapped a b t, y => if (y : Int) = a then [⟨b, t, 0⟩] else if (y : Int) = b then [⟨a, t, 0⟩] else [⟨y, 0, 0⟩]
  | .turnedY, y => if y = 1 then [⟨3, 2, 0⟩] else if y = 3 then [⟨1, 6, 0⟩] else [⟨y, 0, 0⟩]
  | .controlled, y => if y = 1 then [⟨1, 0, 1⟩, ⟨3, 0, 1⟩] else if y = 3 then [⟨1, 0, 1⟩, ⟨3, 4, 1⟩] else [⟨y, 0, 0⟩]
theorem lastC {n t : Int} {y : Nat} : Fn Try.prog 125 [intT (y : Int), .pf [intT n], .pf [intT t]] (fun r => r = .sl 3 (cellRows (colV (.last n t) y))) := by
  refine Fn_of Try.func125 rfl (Nat.le_of_ble_eq_true rfl) (fun X => ?_)
  repeat (refine StepC.go ?_)
  by_cases h1 : (y : Int) = n
  · have d1 : decide ((y : Int) = n) = true := by simpa using h1
    repeat (first | refine StepC.go ?_ | intro _ | (refine TV_cond_t ?_ ?_; · first | rfl | assumption))
    refine retT_1 (.inr rfl) ?_
    simp only [colV, if_pos h1]; rfl
  · have d1 : decide ((y : Int) = n) = false := by simpa using h1
    repeat (first | refine StepC.go ?_ | intro _ | (refine TV_cond_f ?_ ?_; · first | rfl | assumption))
    refine retT_1 (.inr rfl) ?_
    simp only [colV, if_neg h1]; rfl
theorem mixedC {a b c : Int} {y : Nat} : Fn Try.prog 126 [intT (y : Int), .pf [intT a], .pf [intT b], .pf [intT c]] (fun r => r = .sl 3 (cellRows (colV (.mixed a b c) y))) := by
  refine Fn_of Try.func126 rfl (Nat.le_of_ble_eq_true rfl) (fun X => ?_)
  repeat (refine StepC.go ?_)
  by_cases h1 : y = 0
  · have d1 : decide ((y : Int) = 0) = true := by simp; omega
    repeat (first | refine StepC.go ?_ | intro _ | (refine TV_cond_t ?_ ?_; · first | rfl | assumption))
    refine retT_1 (.inr rfl) ?_
    simp only [colV, if_pos h1]; rfl
  · have d1 : decide ((y : Int) = 0) = false := by simp; omega
    repeat (first | refine StepC.go ?_ | intro _ | (refine TV_cond_f ?_ ?_; · first | rfl | assumption))
    refine retT_1 (.inr rfl) ?_
    simp only [colV, if_neg h1]; rfl
theorem swappedC {a b t : Int} {y : Nat} : Fn Try.prog 127 [intT (y : Int), .pf [intT a], .pf [intT b], .pf [intT t]] (fun r => r = .sl 3 (cellRows (colV (.swapped a b t) y))) := by
  refine Fn_of Try.func127 rfl (Nat.le_of_ble_eq_true rfl) (fun X => ?_)
  repeat (refine StepC.go ?_)
  by_cases h1 : (y : Int) = a
  · have d1 : decide ((y : Int) = a) = true := by simpa using h1
    repeat (first | refine StepC.go ?_ | intro _ | (refine TV_cond_t ?_ ?_; · first | rfl | assumption))
    refine retT_1 (.inr rfl) ?_
    simp only [colV, if_pos h1]; rfl
  have d1 : decide ((y : Int) = a) = false := by simpa using h1
  repeat (first | refine StepC.go ?_ | (refine TV_cond_f ?_ ?_; · first | rfl | assumption))
  by_cases h2 : (y : Int) = b
  · have d2 : decide ((y : Int) = b) = true := by simpa using h2
    repeat (first | refine StepC.go ?_ | intro _ | (refine TV_cond_t ?_ ?_; · first | rfl | assumption))
    refine retT_1 (.inr rfl) ?_
    simp only [colV, if_neg h1, if_pos h2]; rfl
  · have d2 : decide ((y : Int) = b) = false := by simpa using h2
    repeat (first | refine StepC.go ?_ | intro _ | (refine TV_cond_f ?_ ?_; · first | rfl | assumption))
    refine retT_1 (.inr rfl) ?_
    simp only [colV, if_neg h1, if_neg h2]; rfl
theorem turnedC {y : Nat} : Fn Try.prog 106 [intT (y : Int)] (fun r => r = .sl 3 (cellRows (colV .turnedY y))) := by
  refine Fn_of Try.func106 rfl (Nat.le_of_ble_eq_true rfl) (fun X => ?_)
  repeat (refine StepC.go ?_)
  by_cases h1 : y = 1
  · have d1 : decide ((y : Int) = 1) = true := by simp; omega
    repeat (first | refine StepC.go ?_ | intro _ | (refine TV_cond_t ?_ ?_; · first | rfl | assumption))
    refine retT_1 (.inr rfl) ?_
    simp only [colV, if_pos h1]; rfl
  have d1 : decide ((y : Int) = 1) = false := by simp; omega
  repeat (first | refine StepC.go ?_ | (refine TV_cond_f ?_ ?_; · first | rfl | assumption))
  by_cases h2 : y = 3
  · have d2 : decide ((y : Int) = 3) = true := by simp; omega
    repeat (first | refine StepC.go ?_ | intro _ | (refine TV_cond_t ?_ ?_; · first | rfl | assumption))
    refine retT_1 (.inr rfl) ?_
    simp only [colV, if_neg h1, if_pos h2]; rfl
  · have d2 : decide ((y : Int) = 3) = false := by simp; omega
    repeat (first | refine StepC.go ?_ | intro _ | (refine TV_cond_f ?_ ?_; · first | rfl | assumption))
    refine retT_1 (.inr rfl) ?_
    simp only [colV, if_neg h1, if_neg h2]; rfl
theorem controlledC {y : Nat} : Fn Try.prog 107 [intT (y : Int)] (fun r => r = .sl 3 (cellRows (colV .controlled y))) := by
  refine Fn_of Try.func107 rfl (Nat.le_of_ble_eq_true rfl) (fun X => ?_)
  repeat (refine StepC.go ?_)
  by_cases h1 : y = 1
  · have d1 : decide ((y : Int) = 1) = true := by simp; omega
    repeat (first | refine StepC.go ?_ | intro _ | (refine TV_cond_t ?_ ?_; · first | rfl | assumption))
    refine retT_1 (.inr rfl) ?_
    simp only [colV, if_pos h1]; rfl
  have d1 : decide ((y : Int) = 1) = false := by simp; omega
  repeat (first | refine StepC.go ?_ | (refine TV_cond_f ?_ ?_; · first | rfl | assumption))
  by_cases h2 : y = 3
  · have d2 : decide ((y : Int) = 3) = true := by simp; omega
    repeat (first | refine StepC.go ?_ | intro _ | (refine TV_cond_t ?_ ?_; · first | rfl | assumption))
    refine retT_1 (.inr rfl) ?_
    simp only [colV, if_neg h1, if_pos h2]; rfl
  · have d2 : decide ((y : Int) = 3) = false := by simp; omega
    repeat (first | refine StepC.go ?_ | intro _ | (refine TV_cond_f ?_ ?_; · first | rfl | assumption))
    refine retT_1 (.inr rfl) ?_
    simp only [colV, if_neg h1, if_neg h2]; rfl
theorem flipC {b : Int} {y : Nat} {ts : List Int} (h1 : 0 < ts.length) (h2 : ts.length < 2 ^ 31) : Fn Try.prog 124 [intT (y : Int), .pf [intT b], .pf [.sl 1 (intRows ts)]] (fun r => r = .sl 3 (cellRows (colV (.flip b ts) y))) := by
  refine Fn_of Try.func124 rfl (Nat.le_of_ble_eq_true rfl) (fun X => ?_)
  have hl : (intRows ts).length = ts.length := by simp [intRows]
  have hdv : idivs .rem .i64 (y : Int) ((intRows ts).length : Int) = some ((y % ts.length : Nat) : Int) := by
    show some ((y : Int).tmod ((intRows ts).length : Int)) = _
    rw [hl, Int.tmod_eq_emod_of_nonneg (by omega)]; rfl
  have hlt : y % ts.length < ts.length := Nat.mod_lt _ h1
  have hg : ts[y % ts.length]? = some (ts.getD (y % ts.length) 0) := by
    rw [List.getD_eq_getElem?_getD, List.getElem?_eq_getElem hlt]; rfl
  have ng : NthG (intRows ts) (y % ts.length) [intT (ts.getD (y % ts.length) 0)] := .map (fun x => [intT x]) hg
  repeat (first | refine StepC.go ?_ | refine TD_take rfl rfl ?_ | refine TD_load rfl rfl ?_ | refine TV_draw (id := 1) (plan := [.take 0, .take 1, .take 2, .take 3, .take 4, .take 5, .take 6, .take 7, .take 8, .take 9, .take 10, .one 11, .take 12]) (by kernel_rfl) ?_)
  refine TD_takew rfl rfl (Pu.divw (r := ((y % ts.length : Nat) : Int)) (by omega) hdv) ?_
  repeat (first | refine StepC.go ?_ | intro _ | refine TD_take rfl rfl ?_ | refine TD_load rfl rfl ?_ | refine TD_one rfl ?_ | refine FiltT_nil ?_)
  refine retT_1 (.inr rfl) ?_
  rfl
end Go.Ideal

-- Jh
set_option linter.unusedSimpArgs false
set_option linter.unusedVariables false
namespace Go.Ideal
open Go Go.Proofs Go.RowKit
/-! ### The closures in one; amplitudes -/
@[reducible] def colF : ColD → Nat
  | .flip _ _ => 124
  | .last _ _ => 125
  | .mixed _ _ _ => 126
  | .swapped _ _ _ => 127
  | .turnedY => 106
  | .controlled => 107
def colB : ColD → List Tr
  | .flip b ts => [.pf [intT b], .pf [.sl 1 (intRows ts)]]
  | .last n t => [.pf [intT n], .pf [intT t]]
  | .mixed a b c => [.pf [intT a], .pf [intT b], .pf [intT c]]
  | .swapped a b t => [.pf [intT a], .pf [intT b], .pf [intT t]]
  | .turnedY => []
  | .controlled => []
theorem colT_eq (q : ColD) : colT q = .fn (colF q) [] (colB q) := by cases q <;> rfl
theorem colT_cells (q : ColD) : CellsT (colT q) [colT q] := by rw [colT_eq]; infer_instance
attribute [instance] colT_cells
def ColOk : ColD → Prop
  | .flip _ ts => 0 < ts.length ∧ ts.length < 2 ^ 31
  | _ => True
instance : CallIs Try.prog 124 := .of Try.func124 rfl rfl
instance : CallIs Try.prog 125 := .of Try.func125 rfl rfl
instance : CallIs Try.prog 126 := .of Try.func126 rfl rfl
instance : CallIs Try.prog 127 := .of Try.func127 rfl rfl
instance : CallIs Try.prog 106 := .of Try.func106 rfl rfl
instance : CallIs Try.prog 107 := .of Try.func107 rfl rfl
theorem col_call (q : ColD) : CallIs Try.prog (colF q) := by cases q <;> infer_instance
theorem colC {q : ColD} {y : Nat} (h : ColOk q) : Fn Try.prog (colF q) (([] ++ [intT (y : Int)]) ++ colB q) (fun r => r = .sl 3 (cellRows (colV q y))) := by
  cases q with
  | flip b ts => exact flipC h.1 h.2
  | last n t => exact lastC
  | mixed a b c => exact mixedC
  | swapped a b t => exact swappedC
  | turnedY => exact turnedC
  | controlled => exact controlledC
structure AmD where
  r : RgD
  k : Int
  deriving DecidableEq
@[reducible] def amCs (a : AmD) : List Tr := [cxT a.r.a a.r.b, cxT a.r.c a.r.d, intT a.k]
@[reducible] def amT (a : AmD) : Tr := .agg (amCs a)
@[reducible] def amRows (l : List AmD) : List (List Tr) := l.map amCs
@[reducible] def oneR : RgD := ⟨1, 0, 0, 0⟩
instance : RgS oneR := ⟨by decide, by decide, by decide, by decide⟩
theorem flb1 : flb 1 = 4607182418800017408 := by decide +kernel
theorem flb0 : flb 0 = 0 := by decide +kernel
theorem rTurn1T {k : Int} (hk : 0 ≤ k ∧ k < 8) : Fn Try.prog 108 [.agg [.v (.complex .f64 4607182418800017408 0), .v (.complex .f64 0 0)], intT k] (fun t => t = .tup [rgT (rTurn k oneR), intT 0]) := by
  have h := rTurnT (r := oneR) hk
  simp only [rgT, rgCs, cxT, flb1, flb0] at h ⊢
  exact h
def cellA (c : CellD) : AmD := ⟨rTurn c.turn oneR, c.under⟩
theorem valueT {c : CellD} (hk : 0 ≤ c.turn ∧ c.turn < 8) : Fn Try.prog 78 [cellT c] (fun t => t = amT (cellA c)) := by
  refine Fn_of Try.func78 rfl (Nat.le_of_ble_eq_true rfl) (fun X => ?_)
  repeat (first | refine StepC.go ?_ | intro _)
  refine TS_callE (rTurn1T hk) ?_
  repeat (first | refine StepC.go ?_ | intro _)
  exact retT_1 (.inr rfl) rfl
instance : CallIs Try.prog 78 := .of Try.func78 rfl rfl
end Go.Ideal

-- Ji
set_option linter.unusedSimpArgs false
set_option linter.unusedVariables false
namespace Go.Ideal
open Go Go.Proofs Go.RowKit
/-! ### What holds of all gates; a column -/
theorem take_snoc {α : Type} {l : List α} {i : Nat} {x : α} (h : l[i]? = some x) : l.take (i + 1) = l.take i ++ [x] := by
  rw [List.take_add_one, h]; rfl
def in8 (t : Int) : Bool := decide (0 ≤ t) && decide (t < 8)
def fineB (x : KE × ColD) : Bool := (decide (x.1.arity = 1) || decide (x.1.arity = 2) || decide (x.1.arity = 3)) && match x.2 with
  | .flip _ ts => decide (0 < ts.length) && decide (ts.length < 8) && ts.all in8
  | .last _ t => in8 t
  | .mixed a b c => in8 a && in8 b && in8 c
  | .swapped _ _ t => in8 t
  | _ => true
theorem fine_all : (KT.zip KC).all fineB = true := by decide +kernel
theorem in8_iff {t : Int} (h : in8 t = true) : 0 ≤ t ∧ t < 8 := by simpa [in8] using h
structure GFine (e : KE) (q : ColD) : Prop where
  ar : e.arity = 1 ∨ e.arity = 2 ∨ e.arity = 3
  ok : ColOk q
  tu : ∀ y, ∀ c ∈ colV q y, 0 ≤ c.turn ∧ c.turn < 8
theorem colV_len (q : ColD) (y : Nat) : (colV q y).length = 1 ∨ (colV q y).length = 2 := by
  cases q <;> simp only [colV] <;> repeat' split
  all_goals simp
theorem fine_of {b : ByteArray} {e : KE} {q : ColD} (h1 : kOf b = some e) (h2 : colOf b = some q) : GFine e q := by
  have hz : ∀ (l : List KE) (m : List ColD), l.length = m.length → l.find? (fun e => beqS b e.name) = some e → ((l.zip m).find? fun x => beqS b x.1.name).map (·.2) = some q → (e, q) ∈ l.zip m := by
    intro l
    induction l with
    | nil => intro m _ h; cases h
    | cons a l ih =>
      intro m hm h3 h4
      match m, hm with
      | c :: m, hm =>
        rw [List.find?_cons] at h3
        rw [List.zip_cons_cons, List.find?_cons] at h4
        cases hb : beqS b a.name with
        | true =>
          simp only [hb] at h3 h4
          simp only [Option.map_some, Option.some.injEq] at h3 h4
          subst h3; subst h4
          exact List.mem_cons_self
        | false =>
          simp only [hb] at h3 h4
          exact List.mem_cons_of_mem _ (ih m (by simpa using hm) h3 h4)
  have h3 := hz KT KC rfl h1 h2
  have h4 := List.all_eq_true.1 fine_all _ h3
  simp only [fineB, Bool.and_eq_true, Bool.or_eq_true, decide_eq_true_eq] at h4
  obtain ⟨h5, h6⟩ := h4
  refine ⟨by omega, ?_, fun y c hc => ?_⟩
  · cases q <;> simp only [ColOk] <;> simp at h6 <;> omega
  · cases q with
    | flip b ts =>
      simp only [Bool.and_eq_true, decide_eq_true_eq] at h6
      simp only [colV, List.mem_singleton] at hc
      subst hc
      refine in8_iff (List.all_eq_true.1 h6.2 _ ?_)
      have hl : y % ts.length < ts.length := Nat.mod_lt _ h6.1.1
      rw [List.getD_eq_getElem?_getD, List.getElem?_eq_getElem hl]
      exact List.getElem_mem _
    | last n t =>
      have := in8_iff h6
      simp only [colV] at hc
      split at hc <;> (rw [List.mem_singleton.1 hc]; simp; try omega)
    | mixed a b' c' =>
      simp only [Bool.and_eq_true] at h6
      have h7 := in8_iff h6.1.1
      have h8 := in8_iff h6.1.2
      have h9 := in8_iff h6.2
      simp only [colV] at hc
      split at hc <;> (simp only [List.mem_cons, List.not_mem_nil, or_false] at hc; rcases hc with rfl | rfl <;> assumption)
    | swapped a b' t =>
      have := in8_iff h6
      simp only [colV] at hc
      repeat' split at hc
      all_goals (rw [List.mem_singleton.1 hc]; simp; try omega)
    | turnedY =>
      simp only [colV] at hc
      repeat' split at hc
      all_goals (rw [List.mem_singleton.1 hc]; simp)
    | controlled =>
      simp only [colV] at hc
      repeat' split at hc
      all_goals (simp only [List.mem_cons, List.not_mem_nil, or_false] at hc)
      · rcases hc with rfl | rfl <;> simp
      · rcases hc with rfl | rfl <;> simp
      · rw [hc]; simp
def wS (e : KE) : Nat := 2 ^ e.arity.toNat
theorem wS_shi {e : KE} {q : ColD} (g : GFine e q) : ShiT .shl .i64 1 e.arity (wS e : Int) := by
  unfold wS
  rcases g.ar with h | h | h <;> rw [h] <;> exact ⟨by decide, by decide⟩
theorem wS_le {e : KE} {q : ColD} (g : GFine e q) : wS e = 2 ∨ wS e = 4 ∨ wS e = 8 := by
  unfold wS
  rcases g.ar with h | h | h <;> rw [h] <;> decide
def columnS (b : ByteArray) (y : Int) : List Int × List AmD × Int :=
  match kOf b, colOf b with
  | some e, some q => if y < 0 ∨ (wS e : Int) ≤ y then ([], [], 2) else ((colV q y.toNat).map (·.row), (colV q y.toNat).map cellA, 0)
  | _, _ => ([], [], 80)
set_option synthInstance.maxSize 4000 in
set_option synthInstance.maxHeartbeats 400000 in
set_option maxHeartbeats 4000000 in
theorem columnT {b : ByteArray} {y : Int} : Fn Try.prog 50 [strT b, intT y] (fun r => r = .tup [.sl 1 (intRows (columnS b y).1), .sl 3 (amRows (columnS b y).2.1), intT (columnS b y).2.2]) := by
  refine Fn_of Try.func50 rfl (Nat.le_of_ble_eq_true rfl) (fun X => ?_)
  repeat (refine StepC.go ?_)
  refine TS_kinds (by rfl) (by rfl) ?_ ?_
  · intro hk m
    repeat (first | refine StepC.go ?_ | intro _ | (refine TV_cond_t ?_ ?_; · first | rfl | assumption))
    refine retT_3c [.sl 1 [], .sl 3 [], intT 80] (.inr rfl) ?_
    simp only [columnS, hk]; rfl
  · intro e q hk hq m
    have g := fine_of hk hq
    have hsh := wS_shi g
    have hw := wS_le g
    repeat (first | refine StepC.go ?_ | intro _ | (refine TV_cond_f ?_ ?_; · first | rfl | assumption))
    by_cases hy : y < 0
    · have d1 : decide (y < 0) = true := by simpa using hy
      repeat (first | refine StepC.go ?_ | (refine TS_off rfl ?_ ?_; · first | rfl | assumption) | (refine TS_puw (Pu.pick_t ?_) ?_; · first | rfl | assumption) | (refine TV_cond_t ?_ ?_; · first | rfl | assumption))
      refine retT_3c [.sl 1 [], .sl 3 [], intT 2] (.inr rfl) ?_
      simp only [columnS, hk, hq]; rw [if_pos (.inl hy)]; rfl
    have d1 : decide (y < 0) = false := by simpa using hy
    repeat (first | refine StepC.go ?_ | (refine TS_on rfl ?_ ?_; · first | rfl | assumption))
    by_cases hy2 : (wS e : Int) ≤ y
    · have d2 : decide ((wS e : Int) ≤ y) = true := by simpa using hy2
      have d3 : (if decide (y < 0) = true then true else decide ((wS e : Int) ≤ y)) = true := by rw [d1, d2]; rfl
      repeat (first | refine StepC.go ?_ | (refine TV_cond_t ?_ ?_; · first | rfl | assumption))
      refine retT_3c [.sl 1 [], .sl 3 [], intT 2] (.inr rfl) ?_
      simp only [columnS, hk, hq]; rw [if_pos (.inr hy2)]; rfl
    have d2 : decide ((wS e : Int) ≤ y) = false := by simpa using hy2
    obtain ⟨yn, rfl⟩ : ∃ n : Nat, y = n := ⟨y.toNat, by omega⟩
    repeat (first | refine StepC.go ?_ | (refine TV_cond_f ?_ ?_; · first | rfl | assumption))
    have := col_call q
    refine TS_callV (f := colF q) (a := []) (b := colB q) (ef := colT_eq q ▸ inferInstance) (colC (y := yn) g.ok) ?_
    rintro _ rfl
    obtain ⟨L, hL⟩ : ∃ L, L = colV q yn := ⟨_, rfl⟩
    have hl2 := colV_len q yn
    have htu := g.tu yn
    rw [← hL] at hl2 htu ⊢
    have hLL : (cellRows L).length = L.length := by simp [cellRows]
    repeat (refine StepC.go ?_)
    rw [hLL]
    refine TV_ghost 1 3 ?_
    intro g1
    refine TV_ghost 3 97 ?_
    intro g2
    refine TV_loop (fun d σ B => ∃ (i : Nat) (b1 b2 : Nat), d = L.length - i ∧ i ≤ L.length ∧ TGet σ 35 (intT i) ∧ TGet σ 34 (intT L.length) ∧ TGet σ 33 (.sl 3 (cellRows L)) ∧ TGet σ 9 (.v (gsv b1 i)) ∧ TGet σ 10 (.v (gsv b2 i)) ∧
      SubP B [(b1, .arr 1 (intRows ((L.take i).map (·.row))) 3 false), (b2, .arr 3 (amRows ((L.take i).map cellA)) 97 false)]) L.length
      ⟨0, g1, g2, by omega, by omega, inferInstance, inferInstance, inferInstance, tget_as rfl, tget_as rfl, ?_⟩ ?_
    · exact ⟨_, List.Perm.swap _ _ _⟩
    rintro d σ B ⟨i, b1, b2, rfl, hi, g35, g34, g33, g9, g10, hB⟩
    refine TV_keep _ (p := hB) ?_
    have hs1 : 8 * (i + 1) ≤ 2 ^ 47 + 2 ^ 20 := by omega
    repeat (refine StepC.go ?_)
    refine TV_cond ?_ ?_ <;> intro hc
    · have hil : i < L.length := by have := of_decide_eq_true hc; omega
      obtain ⟨c, hcc⟩ : ∃ c, L[i]? = some c := ⟨_, List.getElem?_eq_getElem hil⟩
      have ngc : NthG (cellRows L) i (cellCs c) := .map cellCs hcc
      have h8 := htu c (List.mem_of_getElem? hcc)
      have ln1 : LenT (intRows ((L.take i).map (·.row))) i := ⟨by simp [intRows]; omega⟩
      have ln2 : LenT (amRows ((L.take i).map cellA)) i := ⟨by simp [amRows]; omega⟩
      have lo1 : LenO (intRows ((L.take i).map (·.row))) i := ⟨by simp [intRows]; omega⟩
      have lo2 : LenO (amRows ((L.take i).map cellA)) i := ⟨by simp [amRows]; omega⟩
      have hr1 : intRows ((L.take (i + 1)).map (·.row)) = intRows ((L.take i).map (·.row)) ++ [[intT c.row]] := by rw [take_snoc hcc]; simp [intRows]
      have hr2 : amRows ((L.take (i + 1)).map cellA) = amRows ((L.take i).map cellA) ++ [amCs (cellA c)] := by rw [take_snoc hcc]; simp [amRows]
      repeat (first | refine StepC.go ?_ | intro _ | (refine TS_append ?_ (fun _ => ?_); · omega) | refine TD_take rfl rfl ?_ | refine TD_load rfl rfl ?_ | refine TD_one rfl ?_ | refine FiltT_nil ?_ | refine FiltT_drop rfl ?_ | refine FiltT_keep rfl ?_ | refine TV_draw (id := 11) (plan := [.take 0, .take 1, .take 2, .take 5, .take 6, .one 3, .one 4, .one 7, .one 8, .one 9, .take 10, .take 11]) (by kernel_rfl) ?_)
      refine TS_callE (valueT h8) ?_
      repeat (first | refine StepC.go ?_ | intro _ | (refine TS_puw (Pu.addi ?_) ?_; · omega) | (refine TS_append ?_ (fun _ => ?_); · omega) | refine TD_take rfl rfl ?_ | refine TD_one rfl ?_ | refine FiltT_nil ?_)
      rename_i w1 w2 w3 w4 w5
      refine ⟨_, ?_, i + 1, w3, w5, rfl, by omega, tget_as rfl, inferInstance, inferInstance, inferInstance, inferInstance, ?_⟩
      · omega
      · rw [hr1, hr2]; infer_instance
    · have hil : i = L.length := by have := of_decide_eq_false hc; omega
      subst hil
      have ln1 : LenT (intRows ((L.take L.length).map (·.row))) L.length := ⟨by simp [intRows]⟩
      have ln2 : LenT (amRows ((L.take L.length).map cellA)) L.length := ⟨by simp [amRows]⟩
      have : Sm63 L.length := ⟨by omega⟩
      repeat (refine StepC.go ?_)
      refine retT_3 (.inr rfl) ?_
      have hcs : columnS b (yn : Int) = (L.map (·.row), L.map cellA, 0) := by
        simp only [columnS, hk, hq]
        rw [if_neg (by omega), Int.toNat_natCast, ← hL]
      rw [hcs, List.take_length]
      rfl
instance : CallIs Try.prog 50 := .of Try.func50 rfl rfl
end Go.Ideal

-- Jj
set_option linter.unusedSimpArgs false
set_option linter.unusedVariables false
namespace Go.Ideal
open Go Go.Proofs Go.RowKit
/-! ### A gate's matrix: the program -/
def rowsFine (x : KE × ColD) : Bool := (List.range (wS x.1)).all fun y => (colV x.2 y).all fun c => decide (0 ≤ c.row) && decide (c.row < (wS x.1 : Int))
theorem rows_all : (KT.zip KC).all rowsFine = true := by decide +kernel
theorem zip_of {b : ByteArray} {e : KE} {q : ColD} (h1 : kOf b = some e) (h2 : colOf b = some q) : (e, q) ∈ KT.zip KC := by
  have hz : ∀ (l : List KE) (m : List ColD), l.length = m.length → l.find? (fun e => beqS b e.name) = some e → ((l.zip m).find? fun x => beqS b x.1.name).map (·.2) = some q → (e, q) ∈ l.zip m := by
    intro l
    induction l with
    | nil => intro m _ h; cases h
    | cons a l ih =>
      intro m hm h3 h4
      match m, hm with
      | c :: m, hm =>
        rw [List.find?_cons] at h3
        rw [List.zip_cons_cons, List.find?_cons] at h4
        cases hb : beqS b a.name with
        | true =>
          simp only [hb] at h3 h4
          simp only [Option.map_some, Option.some.injEq] at h3 h4
          subst h3; subst h4
          exact List.mem_cons_self
        | false =>
          simp only [hb] at h3 h4
          exact List.mem_cons_of_mem _ (ih m (by simpa using hm) h3 h4)
  exact hz KT KC rfl h1 h2
theorem row_fine {b : ByteArray} {e : KE} {q : ColD} (h1 : kOf b = some e) (h2 : colOf b = some q) {y : Nat} (hy : y < wS e) : ∀ c ∈ colV q y, 0 ≤ c.row ∧ c.row < (wS e : Int) := by
  intro c hc
  have h3 := List.all_eq_true.1 rows_all _ (zip_of h1 h2)
  have h4 := List.all_eq_true.1 h3 y (List.mem_range.2 hy)
  have h5 := List.all_eq_true.1 h4 c hc
  simpa using h5
instance : CallIs Try.prog 47 := .of Try.func47 rfl rfl
end Go.Ideal

-- Jk
set_option linter.unusedSimpArgs false
set_option linter.unusedVariables false
namespace Go.Ideal
open Go Go.Proofs Go.RowKit
/-! ### Whole numbers, turns: the reference -/
instance : FlIs (no_index 14069245235905429503) (-9007199254740991) := ⟨by decide +kernel, by decide⟩
instance : CallIs Try.prog 155 := .of Try.func155 rfl rfl
instance : CallIs Try.prog 147 := .of Try.func147 rfl rfl
instance : CallIs Try.prog 150 := .of Try.func150 rfl rfl
instance : CallIs Try.prog 143 := .of Try.func143 rfl rfl
instance : CallIs Try.prog 141 := .of Try.func141 rfl rfl
instance : CallIs Try.prog 132 := .of Try.func132 rfl rfl
end Go.Ideal

-- Jl
set_option linter.unusedSimpArgs false
set_option linter.unusedVariables false
namespace Go.Ideal
open Go Go.Proofs Go.RowKit
/-! ### Powers of w: the reference -/
instance : CallIs Try.prog 148 := .of Try.func148 rfl rfl
instance : CallIs Try.prog 142 := .of Try.func142 rfl rfl
instance : CallIs Try.prog 131 := .of Try.func131 rfl rfl
instance : CallIs Try.prog 111 := .of Try.func111 rfl rfl
instance : CallIs Try.prog 80 := .of Try.func80 rfl rfl
end Go.Ideal

-- Jm
set_option linter.unusedSimpArgs false
set_option linter.unusedVariables false
namespace Go.Ideal
open Go Go.Proofs Go.RowKit
/-! ### Entries: the reference, evaluated at all places -/
instance : CallIs Try.prog 79 := .of Try.func79 rfl rfl
end Go.Ideal

-- Jn
set_option linter.unusedSimpArgs false
set_option linter.unusedVariables false
namespace Go.Ideal
open Go Go.Proofs Go.RowKit
/-! ### A column: the reference -/
theorem arity_of {b : ByteArray} {e : KE} (h : kOf b = some e) : arityS b = e.arity := by simp only [arityS, h]
instance : CallIs Try.prog 51 := .of Try.func51 rfl rfl
end Go.Ideal

-- Jo
set_option linter.unusedSimpArgs false
set_option linter.unusedVariables false
namespace Go.Ideal
open Go Go.Proofs Go.RowKit
/-! ### A gate's matrix: the reference -/
instance : CallIs Try.prog 48 := .of Try.func48 rfl rfl
end Go.Ideal

-- Jp
set_option linter.unusedSimpArgs false
set_option linter.unusedVariables false
namespace Go.Ideal
open Go Go.Proofs Go.RowKit
/-! ### The program's columns and matrices are the reference's -/
end Go.Ideal

-- Jq
set_option linter.unusedSimpArgs false
set_option linter.unusedVariables false
namespace Go.Ideal
open Go Go.Proofs Go.RowKit
/-! ### Amplitudes compared -/
def ringEq (r s : RgD) : Bool := (decide (r.a = s.a) && decide (r.b = s.b)) && ((decide (r.c = s.c) && decide (r.d = s.d)) && true)
@[reducible] def cxV (a b : Int) : Value := .complex .f64 (flb a) (flb b)
section
variable {σ : Nat → Tr} {B : Boxes}
end
end Go.Ideal

-- Jr
set_option linter.unusedSimpArgs false
set_option linter.unusedVariables false
namespace Go.Ideal
open Go Go.Proofs Go.RowKit
/-! ### The same matrix -/
instance : CallIs Try.prog 49 := .of Try.func49 rfl rfl
end Go.Ideal

-- Twa
set_option linter.unusedSimpArgs false
set_option linter.unusedVariables false
namespace Go.Ideal
open Go Go.Proofs Go.RowKit
/-! ### The gate that takes it back, as the reference tells -/
instance : CallIs Try.prog 46 := .of Try.func46 rfl rfl
end Go.Ideal

-- Js
set_option linter.unusedSimpArgs false
set_option linter.unusedVariables false
namespace Go.Ideal
open Go Go.Proofs Go.RowKit
/-! ### The other questions: both -/
instance : CallIs Try.prog 43 := .of Try.func43 rfl rfl
instance : CallIs Try.prog 44 := .of Try.func44 rfl rfl
end Go.Ideal

-- Jt
set_option linter.unusedSimpArgs false
set_option linter.unusedVariables false
namespace Go.Ideal
open Go Go.Proofs Go.RowKit
/-! ### The names; alive -/
instance : CallIs Try.prog 101 := .of Try.func101 rfl rfl
instance : CallIs Try.prog 76 := .of Try.func76 rfl rfl
instance : CallIs Try.prog 36 := .of Try.func36 rfl rfl
end Go.Ideal

-- Bra
set_option linter.unusedSimpArgs false
set_option linter.unusedVariables false
namespace Go.Ideal
open Go Go.Proofs Go.RowKit
theorem wf_u64 {i : Int} (h : (Lit.int .u64 i).wf = true) : ∃ x : Nat, i = x ∧ x < 2 ^ 64 := by
  have := bounds_u64 h
  exact ⟨i.toNat, by omega, by omega⟩
theorem row_of {h : IHp} {b : Nat} : ∀ (n off : Nat) (f : Nat → Value), (∀ i, i < n → h.cell? b (off + i) = some (f i)) → h.row b off n = some ((List.range n).map f) := by
  intro n
  induction n with
  | zero => intro off f _; rfl
  | succ n ih =>
    intro off f hf
    have h0 := hf 0 (by omega)
    have h1 := ih (off + 1) (fun i => f (i + 1)) (fun i hi => by rw [show off + 1 + i = off + (i + 1) by omega]; exact hf (i + 1) (by omega))
    rw [Nat.add_zero] at h0
    simp only [IHp.row, h0, Option.bind_some, h1, List.range_succ_eq_map, List.map_cons, List.map_map]
    rfl
theorem row_one {h : IHp} {b off : Nat} {v : Value} (hr : h.row b off 1 = some [v]) : h.cell? b off = some v := by
  simp only [IHp.row, Option.bind_eq_some_iff] at hr
  obtain ⟨u, hu, vs, hvs, h3⟩ := hr
  have := Option.some.inj h3
  simp at this
  rw [hu, this.1]
theorem law_of_EvX {P : Program} {f : Nat} {args args' : Array Value} {w : World} (hP : okProg P = true) (h : EvX P f args (heapOf w) (fun v _ => v = .bool true)) (ha : RA RM0 args args') :
    Calls P f args' w fun e w' => e = .returned (.bool true) ∧ Below w.heap.size w w' := by
  unfold EvX at h
  obtain ⟨v, h', ⟨n, h1⟩, rfl⟩ := h
  exact law_of_ideal hP h1 ha
end Go.Ideal

-- Ju
set_option linter.unusedSimpArgs false
set_option linter.unusedVariables false
namespace Go.Ideal
open Go Go.Proofs Go.RowKit
/-! ### The law GateAsks -/
def smR (r : RgD) : Bool := decide (r.a.natAbs < 2 ^ 53) && decide (r.b.natAbs < 2 ^ 53) && decide (r.c.natAbs < 2 ^ 53) && decide (r.d.natAbs < 2 ^ 53)
theorem smR_iff {r : RgD} (h : smR r = true) : RgS r := by
  simp only [smR, Bool.and_eq_true, decide_eq_true_eq] at h
  exact ⟨h.1.1.1, h.1.1.2, h.1.2, h.2⟩
theorem rTurn_sm {k : Int} (h : 0 ≤ k ∧ k < 8) : RgS (rTurn k oneR) := by
  refine smR_iff ?_
  obtain ⟨n, rfl⟩ : ∃ n : Nat, k = n := ⟨k.toNat, by omega⟩
  have : n < 8 := by omega
  match n, this with
  | 0, _ | 1, _ | 2, _ | 3, _ | 4, _ | 5, _ | 6, _ | 7, _ => decide +kernel
end Go.Ideal

-- Jv
set_option linter.unusedSimpArgs false
set_option linter.unusedVariables false
namespace Go.Ideal
open Go Go.Proofs Go.RowKit
/-! ### Gaussian integers: sums and products that fit -/
theorem gBothT {a b c d : Int} [h1 : Sm53 a] [h2 : Sm53 b] [h3 : Sm53 c] [h4 : Sm53 d] : Fn Try.prog 137 [cxT a b, cxT c d] (fun r => r = intT 0) := by
  refine Fn_of Try.func137 rfl (Nat.le_of_ble_eq_true rfl) (fun X => ?_)
  repeat (refine StepC.go ?_)
  refine TS_callE gCheckT ?_
  repeat (first | refine StepC.go ?_ | (refine TV_cond_f ?_ ?_; · first | rfl | assumption))
  refine TS_callE gCheckT ?_
  repeat (refine StepC.go ?_)
  exact retT_1 (.inr rfl) rfl
instance : CallIs Try.prog 137 := .of Try.func137 rfl rfl
@[reducible] def flRows (l : List Nat) : List (List Tr) := l.map fun w => [.v (.float .f64 w)]
theorem smallT {l : List Nat} (hl : l.length < 2 ^ 20) (hs : ∀ w ∈ l, ∃ n, FzIs w n) : Fn Try.prog 138 [.sl 1 (flRows l)] (fun r => r = boolT true) := by
  refine Fn_of Try.func138 rfl (Nat.le_of_ble_eq_true rfl) (fun X => ?_)
  have hL : (flRows l).length = l.length := by simp [flRows]
  repeat (refine StepC.go ?_)
  rw [hL]
  refine TV_loop (fun d σ B => ∃ i : Nat, d = l.length - i ∧ i ≤ l.length ∧ TGet σ 7 (intT i) ∧ TGet σ 6 (intT l.length) ∧ TGet σ 5 (.sl 1 (flRows l))) l.length
    ⟨0, by omega, by omega, inferInstance, inferInstance, inferInstance⟩ ?_
  rintro d σ B ⟨i, rfl, hi, g7, g6, g5⟩
  repeat (refine StepC.go ?_)
  refine TV_cond ?_ ?_ <;> intro hc
  · have hil : i < l.length := by have := of_decide_eq_true hc; omega
    obtain ⟨w, hw⟩ : ∃ w, l[i]? = some w := ⟨_, List.getElem?_eq_getElem hil⟩
    obtain ⟨n, hn⟩ := hs w (List.mem_of_getElem? hw)
    have ng : NthG (flRows l) i [.v (.float .f64 w)] := .map (fun w => [Tr.v (.float .f64 w)]) hw
    repeat (refine StepC.go ?_)
    refine TS_callE (absT hn) ?_
    have hz : Sm53 (n.natAbs : Int) := ⟨by rw [Int.natAbs_natCast]; exact hn.sm⟩
    have dd : decide ((n.natAbs : Int) ≤ 9007199254740991) = true := by have := hn.sm; simp; omega
    repeat (refine StepC.go ?_)
    rw [dd]
    repeat (first | refine StepC.go ?_ | (refine TS_puw (Pu.addi ?_) ?_; · omega) | (refine TV_cond_f ?_ ?_; · first | rfl | assumption))
    refine ⟨_, ?_, i + 1, rfl, by omega, inferInstance, inferInstance, inferInstance⟩
    omega
  · repeat (refine StepC.go ?_)
    exact retT_1 (.inr rfl) rfl
instance : CallIs Try.prog 138 := .of Try.func138 rfl rfl
theorem small2T {u v : Nat} {m n : Int} (h1 : FzIs u m) (h2 : FzIs v n) : Fn Try.prog 138 [.sl 1 [[.v (.float .f64 u)], [.v (.float .f64 v)]]] (fun r => r = boolT true) := smallT (l := [u, v]) (by simp) (by
  intro w hw
  simp at hw
  rcases hw with rfl | rfl
  · exact ⟨_, h1⟩
  · exact ⟨_, h2⟩)
theorem gAddT {a b c d : Int} [h1 : Sm53 a] [h2 : Sm53 b] [h3 : Sm53 c] [h4 : Sm53 d] [h5 : Sm53 (a + c)] [h6 : Sm53 (b + d)] : Fn Try.prog 120 [cxT a b, cxT c d] (fun r => r = .tup [cxT (a + c) (b + d), intT 0]) := by
  refine Fn_of Try.func120 rfl (Nat.le_of_ble_eq_true rfl) (fun X => ?_)
  have z1 : FzIs (flb (a + c)) (a + c) := ⟨.inl rfl, h5.lt⟩
  have z2 : FzIs (flb (b + d)) (b + d) := ⟨.inl rfl, h6.lt⟩
  repeat (refine StepC.go ?_)
  refine TS_callE gBothT ?_
  repeat (first | refine StepC.go ?_ | intro _ | (refine TV_cond_f ?_ ?_; · first | rfl | assumption))
  refine TS_callE (small2T z1 z2) ?_
  repeat (first | refine StepC.go ?_ | (refine TV_cond_f ?_ ?_; · first | rfl | assumption))
  refine TS_callE (madeT z1 z2) ?_
  repeat (refine StepC.go ?_)
  exact retT_2 (.inr rfl) rfl
instance : CallIs Try.prog 120 := .of Try.func120 rfl rfl
end Go.Ideal

-- Jw
set_option linter.unusedSimpArgs false
set_option linter.unusedVariables false
namespace Go.Ideal
open Go Go.Proofs Go.RowKit
/-! ### Ring elements: sums, products, doubles, halves, conjugates that fit -/
theorem wrap_id {z : Int} (h : -9223372036854775808 ≤ z ∧ z ≤ 9223372036854775807) : IntKind.i64.wrap z = z := wrap_i64_id h
theorem xor_mod2 (x y : Nat) : (x ^^^ y) % 2 = (x + y) % 2 := by
  have h1 := @Nat.testBit_xor x y 0
  simp only [Nat.testBit_zero] at h1
  have hx : x % 2 = 0 ∨ x % 2 = 1 := by omega
  have hy : y % 2 = 0 ∨ y % 2 = 1 := by omega
  have hz : (x ^^^ y) % 2 = 0 ∨ (x ^^^ y) % 2 = 1 := by omega
  rcases hx with hx | hx <;> rcases hy with hy | hy <;> rcases hz with hz | hz <;> simp [hx, hy, hz] at h1 <;> omega
theorem ofInt_mod2 (a : Int) : ((BitVec.ofInt 64 a).toNat : Int) % 2 = a % 2 := by
  rw [BitVec.toNat_ofInt]
  have : (0 : Int) ≤ a % ((2 ^ 64 : Nat) : Int) := Int.emod_nonneg _ (by decide)
  rw [Int.toNat_of_nonneg this]
  omega
theorem ofInt_wrap (n : Nat) (h : n < 2 ^ 64) : BitVec.ofInt 64 (IntKind.i64.wrap (n : Int)) = BitVec.ofNat 64 n := by
  apply BitVec.eq_of_toNat_eq
  rw [BitVec.toNat_ofInt, BitVec.toNat_ofNat]
  have hb : (2 : Int) ^ IntKind.i64.bits = 18446744073709551616 := by rfl
  have hb' : (2 : Int) ^ (IntKind.i64.bits - 1) = 9223372036854775808 := by rfl
  have hs : IntKind.i64.signed = true := rfl
  unfold IntKind.wrap
  simp only [hb, hb', hs]
  split <;> omega
theorem parity_bits (a b : Int) : ibits .and .i64 (ibits .xor .i64 a b) 1 = (a + b) % 2 := by
  have h1 : ibits .xor .i64 a b = IntKind.i64.wrap (((BitVec.ofInt 64 a ^^^ BitVec.ofInt 64 b).toNat : Nat) : Int) := rfl
  have h2 : ibits .and .i64 (ibits .xor .i64 a b) 1 = IntKind.i64.wrap (((BitVec.ofInt 64 (ibits .xor .i64 a b) &&& BitVec.ofInt 64 1).toNat : Nat) : Int) := rfl
  rw [h2, h1, ofInt_wrap _ (BitVec.isLt _), BitVec.ofNat_toNat]
  have h3 : (BitVec.ofInt 64 1).toNat = 1 := by decide
  rw [BitVec.toNat_and, h3, Nat.and_one_is_mod, BitVec.toNat_setWidth, BitVec.toNat_xor]
  have h4 := xor_mod2 (BitVec.ofInt 64 a).toNat (BitVec.ofInt 64 b).toNat
  have h5 := ofInt_mod2 a
  have h6 := ofInt_mod2 b
  have h7 : ((BitVec.ofInt 64 a).toNat ^^^ (BitVec.ofInt 64 b).toNat) % 2 ^ 64 % 2 = ((BitVec.ofInt 64 a).toNat ^^^ (BitVec.ofInt 64 b).toNat) % 2 := by omega
  rw [h7, h4, wrap_id (by omega)]
  omega
def evS (a b : Int) : Bool := decide ((a + b) % 2 = 0)
theorem evenT {a b : Int} [h1 : Sm53 a] [h2 : Sm53 b] : Fn Try.prog 135 [cxT a b] (fun r => r = boolT (evS a b)) := by
  refine Fn_of Try.func135 rfl (Nat.le_of_ble_eq_true rfl) (fun X => ?_)
  repeat (refine StepC.go ?_)
  rw [parity_bits]
  refine retT_1 (.inr rfl) ?_
  rfl
instance : CallIs Try.prog 135 := .of Try.func135 rfl rfl
def rAdd (r s : RgD) : RgD := ⟨r.a + s.a, r.b + s.b, r.c + s.c, r.d + s.d⟩
def rDouble (r : RgD) : RgD := ⟨r.c + -r.d, r.d + r.c, r.a - -r.b, r.b - r.a⟩
def rEven (r : RgD) : Bool := evS r.a r.b && evS r.c r.d
def rHalf (r : RgD) : RgD := ⟨(r.c - r.d) / 2, (r.c + r.d) / 2, (r.a + r.b) / 2, (r.b - r.a) / 2⟩
theorem RgS.sa {r : RgD} (h : RgS r) : Sm53 r.a := ⟨h.a⟩
theorem RgS.sb {r : RgD} (h : RgS r) : Sm53 r.b := ⟨h.b⟩
theorem RgS.sc {r : RgD} (h : RgS r) : Sm53 r.c := ⟨h.c⟩
theorem RgS.sd {r : RgD} (h : RgS r) : Sm53 r.d := ⟨h.d⟩
theorem sm_neg {n : Int} (h : Sm53 n) : Sm53 (-n) := ⟨by rw [Int.natAbs_neg]; exact h.lt⟩
theorem rBothT {r s : RgD} [h : RgS r] [h2 : RgS s] : Fn Try.prog 119 [rgT r, rgT s] (fun t => t = intT 0) := by
  refine Fn_of Try.func119 rfl (Nat.le_of_ble_eq_true rfl) (fun X => ?_)
  repeat (first | refine StepC.go ?_ | intro _)
  refine TS_callE rCheckT ?_
  repeat (first | refine StepC.go ?_ | (refine TV_cond_f ?_ ?_; · first | rfl | assumption))
  refine TS_callE rCheckT ?_
  repeat (refine StepC.go ?_)
  exact retT_1 (.inr rfl) rfl
instance : CallIs Try.prog 119 := .of Try.func119 rfl rfl
theorem rAddT {r s : RgD} [h : RgS r] [h2 : RgS s] [h3 : RgS (rAdd r s)] : Fn Try.prog 96 [rgT r, rgT s] (fun t => t = .tup [rgT (rAdd r s), intT 0]) := by
  refine Fn_of Try.func96 rfl (Nat.le_of_ble_eq_true rfl) (fun X => ?_)
  have := h.sa; have := h.sb; have := h.sc; have := h.sd
  have := h2.sa; have := h2.sb; have := h2.sc; have := h2.sd
  have : Sm53 (r.a + s.a) := h3.sa
  have : Sm53 (r.b + s.b) := h3.sb
  have : Sm53 (r.c + s.c) := h3.sc
  have : Sm53 (r.d + s.d) := h3.sd
  repeat (first | refine StepC.go ?_ | intro _)
  refine TS_callE rBothT ?_
  repeat (first | refine StepC.go ?_ | (refine TV_cond_f ?_ ?_; · first | rfl | assumption))
  refine TS_callE gAddT ?_
  repeat (refine StepC.go ?_)
  refine TS_callE gAddT ?_
  repeat (refine StepC.go ?_)
  refine TS_callE pairT ?_
  repeat (refine StepC.go ?_)
  exact retT_2 (.inr rfl) rfl
instance : CallIs Try.prog 96 := .of Try.func96 rfl rfl
theorem ari_sub {a b : Int} (h1 : Sm53 a) (h2 : Sm53 b) : AriT .sub .i64 a b (a - b) := ⟨by
  have := h1.lt; have := h2.lt
  simp only [iarith]; rw [wrap_id (by omega)]⟩
theorem ari_add {a b : Int} (h1 : Sm53 a) (h2 : Sm53 b) : AriT .add .i64 a b (a + b) := ⟨by
  have := h1.lt; have := h2.lt
  simp only [iarith]; rw [wrap_id (by omega)]⟩
theorem half_div {x : Int} (h1 : x % 2 = 0) (h2 : x.natAbs < 2 ^ 54) : idivs .quo .i64 x 2 = some (x / 2) := by
  have h3 : x.tdiv 2 = x / 2 := Int.tdiv_eq_ediv_of_dvd (Int.dvd_of_emod_eq_zero h1)
  simp only [idivs, h3]
  rw [wrap_id (by omega)]
theorem rHalf_sm {r : RgD} (h : RgS r) : RgS (rHalf r) := by
  have := h.a; have := h.b; have := h.c; have := h.d
  refine ⟨?_, ?_, ?_, ?_⟩ <;> simp only [rHalf] <;> omega
set_option synthInstance.maxSize 4000 in
set_option synthInstance.maxHeartbeats 400000 in
set_option maxHeartbeats 4000000 in
theorem rHalveT {r : RgD} [h : RgS r] : Fn Try.prog 115 [rgT r] (fun t => t = .tup [rgT (if rEven r then rHalf r else ⟨0, 0, 0, 0⟩), boolT (rEven r), intT 0]) := by
  refine Fn_of Try.func115 rfl (Nat.le_of_ble_eq_true rfl) (fun X => ?_)
  have sa := h.sa; have sb := h.sb; have sc := h.sc; have sd := h.sd
  repeat (first | refine StepC.go ?_ | intro _)
  refine TS_callE rCheckT ?_
  repeat (first | refine StepC.go ?_ | (refine TV_cond_f ?_ ?_; · first | rfl | assumption))
  refine TS_callE evenT ?_
  repeat (refine StepC.go ?_)
  by_cases h1 : evS r.a r.b = true
  · rw [h1]
    repeat (first | refine StepC.go ?_ | (refine TS_on rfl ?_ ?_; · first | rfl | assumption))
    refine TS_callE evenT ?_
    by_cases h2 : evS r.c r.d = true
    · rw [h2]
      have a1 := ari_sub sc sd
      have a2 := ari_add sc sd
      have a3 := ari_add sa sb
      have a4 := ari_sub sb sa
      have hs := rHalf_sm h
      have : Sm53 ((r.c - r.d) / 2) := hs.sa
      have : Sm53 ((r.c + r.d) / 2) := hs.sb
      have : Sm53 ((r.a + r.b) / 2) := hs.sc
      have : Sm53 ((r.b - r.a) / 2) := hs.sd
      have e1 := of_decide_eq_true h1
      have e2 := of_decide_eq_true h2
      have l1 := h.a; have l2 := h.b; have l3 := h.c; have l4 := h.d
      have d1 := half_div (x := r.c - r.d) (by omega) (by omega)
      have d2 := half_div (x := r.c + r.d) (by omega) (by omega)
      have d3 := half_div (x := r.a + r.b) (by omega) (by omega)
      have d4 := half_div (x := r.b - r.a) (by omega) (by omega)
      clear e1 e2 l1 l2 l3 l4
      repeat (first | refine StepC.go ?_ | (refine TS_on rfl ?_ ?_; · first | rfl | assumption) | refine TD_take rfl rfl ?_ | refine TD_load rfl rfl ?_ | refine TV_draw (id := 6) (plan := [.take 0, .take 1, .take 2, .take 3, .take 4, .take 5, .take 6, .take 7, .take 8, .take 9]) (by kernel_rfl) ?_ | refine TV_draw (id := 7) (plan := [.take 0, .take 1, .take 2, .take 3, .take 4, .take 5, .take 6, .take 7, .take 8, .take 9]) (by kernel_rfl) ?_ | (refine TV_cond_f ?_ ?_; · first | rfl | assumption))
      refine TS_puw (Pu.divw (by decide) d1) ?_
      repeat (refine StepC.go ?_)
      refine TS_puw (Pu.divw (by decide) d2) ?_
      repeat (refine StepC.go ?_)
      refine TS_puw (Pu.divw (by decide) d3) ?_
      repeat (refine StepC.go ?_)
      refine TS_puw (Pu.divw (by decide) d4) ?_
      repeat (refine StepC.go ?_)
      refine retT_3 (.inr rfl) ?_
      simp only [rEven, h1, h2, Bool.and_self, if_true, rHalf, tret]
    · have h2' : evS r.c r.d = false := by simpa using h2
      rw [h2']
      repeat (first | refine StepC.go ?_ | (refine TS_on rfl ?_ ?_; · first | rfl | assumption) | (refine TV_cond_t ?_ ?_; · first | rfl | assumption))
      refine retT_3 (.inr rfl) ?_
      simp only [rEven, h1, h2', Bool.and_false, Bool.false_eq_true, if_false, tret, rgT, rgCs, cxT, flb0]
  · have h1' : evS r.a r.b = false := by simpa using h1
    rw [h1']
    repeat (first | refine StepC.go ?_ | (refine TS_off rfl ?_ ?_; · first | rfl | assumption) | (refine TS_puw (Pu.pick_t ?_) ?_; · first | rfl | assumption) | (refine TV_cond_t ?_ ?_; · first | rfl | assumption))
    refine retT_3 (.inr rfl) ?_
    simp only [rEven, h1', Bool.false_and, Bool.false_eq_true, if_false, tret, rgT, rgCs, cxT, flb0]
instance : CallIs Try.prog 115 := .of Try.func115 rfl rfl
end Go.Ideal

-- Jx
set_option linter.unusedSimpArgs false
set_option linter.unusedVariables false
namespace Go.Ideal
open Go Go.Proofs Go.RowKit
/-! ### Ring elements: differences of parts, doubles, products -/
theorem gSubT {a b c d : Int} [h1 : Sm53 a] [h2 : Sm53 b] [h3 : Sm53 c] [h4 : Sm53 d] [h5 : Sm53 (a - c)] [h6 : Sm53 (b - d)] : Fn Try.prog 136 [cxT a b, cxT c d] (fun r => r = .tup [cxT (a - c) (b - d), intT 0]) := by
  refine Fn_of Try.func136 rfl (Nat.le_of_ble_eq_true rfl) (fun X => ?_)
  have z1 : FzIs (flb (a - c)) (a - c) := ⟨.inl rfl, h5.lt⟩
  have z2 : FzIs (flb (b - d)) (b - d) := ⟨.inl rfl, h6.lt⟩
  repeat (refine StepC.go ?_)
  refine TS_callE gBothT ?_
  repeat (first | refine StepC.go ?_ | intro _ | (refine TV_cond_f ?_ ?_; · first | rfl | assumption))
  refine TS_callE (small2T z1 z2) ?_
  repeat (first | refine StepC.go ?_ | (refine TV_cond_f ?_ ?_; · first | rfl | assumption))
  refine TS_callE (madeT z1 z2) ?_
  repeat (refine StepC.go ?_)
  exact retT_2 (.inr rfl) rfl
instance : CallIs Try.prog 136 := .of Try.func136 rfl rfl
set_option synthInstance.maxSize 4000 in
set_option synthInstance.maxHeartbeats 400000 in
set_option maxHeartbeats 4000000 in
theorem rDoubleT {r : RgD} [h : RgS r] [h3 : RgS (rDouble r)] : Fn Try.prog 118 [rgT r] (fun t => t = .tup [rgT (rDouble r), intT 0]) := by
  refine Fn_of Try.func118 rfl (Nat.le_of_ble_eq_true rfl) (fun X => ?_)
  have := h.sa; have := h.sb; have := h.sc; have := h.sd
  have : Sm53 (-r.d) := sm_neg h.sd
  have : Sm53 (-r.b) := sm_neg h.sb
  have : Sm53 (r.c + -r.d) := h3.sa
  have : Sm53 (r.d + r.c) := h3.sb
  have : Sm53 (r.a - -r.b) := h3.sc
  have : Sm53 (r.b - r.a) := h3.sd
  repeat (first | refine StepC.go ?_ | intro _)
  refine TS_callE rCheckT ?_
  repeat (first | refine StepC.go ?_ | (refine TV_cond_f ?_ ?_; · first | rfl | assumption))
  refine TS_callE (gTurnT (.inr (.inl rfl))) ?_
  repeat (refine StepC.go ?_)
  refine TS_callE (gTurnT (.inr (.inl rfl))) ?_
  repeat (refine StepC.go ?_)
  refine TS_callE (gAddT (a := r.c) (b := r.d) (c := -r.d) (d := r.c)) ?_
  repeat (refine StepC.go ?_)
  refine TS_callE (gSubT (a := r.a) (b := r.b) (c := -r.b) (d := r.a)) ?_
  repeat (refine StepC.go ?_)
  refine TS_callE pairT ?_
  repeat (refine StepC.go ?_)
  exact retT_2 (.inr rfl) rfl
instance : CallIs Try.prog 118 := .of Try.func118 rfl rfl
end Go.Ideal

-- Jy
set_option linter.unusedSimpArgs false
set_option linter.unusedVariables false
namespace Go.Ideal
open Go Go.Proofs Go.RowKit
/-! ### Amplitudes: the one form, Check, Turn, Conj, Mul, Add -/
@[reducible] def zeroR : RgD := ⟨0, 0, 0, 0⟩
instance : RgS zeroR := ⟨by decide, by decide, by decide, by decide⟩
theorem zeroR_tr : rgT zeroR = .agg [.v (.complex .f64 0 0), .v (.complex .f64 0 0)] := by simp only [rgT, rgCs, cxT, flb0]
theorem Pu.rgEq {σ : Nat → Tr} {B : Boxes} {yt : TypeId} {x y : Operand} {r s : RgD} (h : RgS r) (h2 : RgS s) [e1 : TEval σ x (rgT r)] [e2 : TEval σ y (rgT s)] : Pu Try.prog σ B (.binOp .eql 52 x y yt) (.v (.bool (decide (r = s)))) := by
  have he : ringEq r s = decide (r = s) := by
    obtain ⟨a1, a2, a3, a4⟩ := r
    obtain ⟨b1, b2, b3, b4⟩ := s
    rw [Bool.eq_iff_iff]
    simp [ringEq, and_assoc]
  rw [← he]
  refine Pu.eqG [cxV r.a r.b, cxV r.c r.d] [cxV s.a s.b, cxV s.c s.d] (e1 := e1) (e2 := e2) (.inl ⟨rfl, rfl⟩) rfl rfl Try.underlying52 (by kernel_rfl) (by kernel_rfl) rfl rfl ?_
  refine .cons (by decide) (part_leaf Try.underlying50 (fun _ h => by cases h) (fun _ _ h => by cases h) rfl) (part_leaf Try.underlying50 (fun _ h => by cases h) (fun _ _ h => by cases h) rfl) (eqIn_complex Try.underlying50 h.a h.b h2.a h2.b) ?_
  refine .cons (by decide) (part_leaf Try.underlying50 (fun _ h => by cases h) (fun _ _ h => by cases h) rfl) (part_leaf Try.underlying50 (fun _ h => by cases h) (fun _ _ h => by cases h) rfl) (eqIn_complex Try.underlying50 h.c h.d h2.c h2.d) ?_
  exact .nil
end Go.Ideal

-- Mc
set_option linter.unusedSimpArgs false
set_option linter.unusedVariables false
namespace Go.Ideal
open Go Go.Proofs Go.RowKit
/-! ### The parts of dense: powers of w, terms, halves, states -/
theorem turn_inj : (List.range 8).all (fun i => (List.range 8).all fun j => decide (rTurn i oneR = rTurn j oneR → i = j)) = true := by decide +kernel
theorem orderT {j : Nat} (hj : j < 8) : Fn Try.prog 117 [rgT (rTurn j oneR), .agg [.v (.complex .f64 4607182418800017408 0), .v (.complex .f64 0 0)]] (fun t => t = .tup [intT j, boolT true]) := by
  have hk : Fn Try.prog 117 [rgT (rTurn j oneR), rgT oneR] (fun t => t = .tup [intT j, boolT true]) := by
    refine Fn_of Try.func117 rfl (Nat.le_of_ble_eq_true rfl) (fun X => ?_)
    have hs := rTurn_sm (k := (j : Int)) ⟨by omega, by omega⟩
    repeat (first | refine StepC.go ?_ | intro _)
    refine TS_callE rBothT ?_
    repeat (first | refine StepC.go ?_ | (refine TV_cond_f ?_ ?_; · first | rfl | assumption))
    rename_i b0 b1
    refine TV_loop (fun d σ B => ∃ i : Nat, d = j - i ∧ i ≤ j ∧ TGet σ 13 (intT i) ∧ TGet σ 2 (.v (.pointer (some (ad b0 0)))) ∧ TGet σ 3 (.v (.pointer (some (ad b1 0)))) ∧
      SubP B [(b1, .cells (rgCs oneR) 52 true), (b0, .cells (rgCs (rTurn j oneR)) 52 true)]) j
      ⟨0, by omega, by omega, inferInstance, inferInstance, inferInstance, inferInstance⟩ ?_
    rintro d σ B ⟨i, rfl, hi, g13, g2, g3, hB⟩
    refine TV_keep _ (p := hB) ?_
    have d8 : decide ((i : Int) < 8) = true := by simp; omega
    have hs2 := rTurn_sm (k := (i : Int)) ⟨by omega, by omega⟩
    repeat (first | refine StepC.go ?_ | (refine TV_cond_t ?_ ?_; · first | rfl | assumption))
    rw [d8]
    skip
    refine TS_callE (rTurnT (r := oneR) (k := i) ⟨by omega, by omega⟩) ?_
    repeat (first | refine StepC.go ?_ | intro _)
    refine TS_puw (Pu.rgEq (r := rTurn i oneR) (s := rTurn j oneR) hs2 hs) ?_
    repeat (refine StepC.go ?_)
    refine TV_cond ?_ ?_ <;> intro hc
    · have hij : i = j := by
        have h1 := List.all_eq_true.1 turn_inj i (List.mem_range.2 (by omega))
        have h2 := List.all_eq_true.1 h1 j (List.mem_range.2 hj)
        exact of_decide_eq_true h2 (of_decide_eq_true hc)
      subst hij
      repeat (refine StepC.go ?_)
      exact retT_2 (.inr rfl) rfl
    · have hij : i ≠ j := by rintro rfl; exact of_decide_eq_false hc rfl
      repeat (first | refine StepC.go ?_ | (refine TS_puw (Pu.addi ?_) ?_; · omega))
      refine ⟨_, ?_, i + 1, rfl, by omega, tget_as rfl, inferInstance, inferInstance, inferInstance⟩
      omega
  simp only [rgT, rgCs, cxT, flb1, flb0] at hk ⊢
  exact hk
instance : CallIs Try.prog 117 := .of Try.func117 rfl rfl
end Go.Ideal

-- Md
set_option linter.unusedSimpArgs false
set_option linter.unusedVariables false
namespace Go.Ideal
open Go Go.Proofs Go.RowKit
/-! ### States: halves, Check, placed, terms -/
@[reducible] def rgRows (l : List RgD) : List (List Tr) := l.map rgCs
@[reducible] def stCs (N K : Int) (l : List RgD) : List Tr := [intT N, intT K, .sl 2 (rgRows l)]
@[reducible] def stT (N K : Int) (l : List RgD) : Tr := .agg (stCs N K l)
theorem rgRows_at {l : List RgD} {i : Nat} {r : RgD} (h : l[i]? = some r) : NthG (rgRows l) i (rgCs r) := .map rgCs h
theorem rgRows_len (l : List RgD) : (rgRows l).length = l.length := by simp [rgRows]
set_option synthInstance.maxSize 4000 in
set_option synthInstance.maxHeartbeats 400000 in
set_option maxHeartbeats 4000000 in
theorem halvableT {l : List RgD} (hl : l.length < 2 ^ 20) (hs : ∀ r ∈ l, RgS r) : Fn Try.prog 90 [.sl 2 (rgRows l)] (fun t => t = boolT (l.all rEven)) := by
  refine Fn_of Try.func90 rfl (Nat.le_of_ble_eq_true rfl) (fun X => ?_)
  have hL := rgRows_len l
  repeat (refine StepC.go ?_)
  rw [hL]
  refine TV_loop (fun d σ B => ∃ i : Nat, d = l.length - i ∧ i ≤ l.length ∧ TGet σ 10 (intT i) ∧ TGet σ 9 (intT l.length) ∧ TGet σ 8 (.sl 2 (rgRows l)) ∧ (l.take i).all rEven = true) l.length
    ⟨0, by omega, by omega, inferInstance, inferInstance, inferInstance, by simp⟩ ?_
  rintro d σ B ⟨i, rfl, hi, g10, g9, g8, hev⟩
  repeat (refine StepC.go ?_)
  refine TV_cond ?_ ?_ <;> intro hc
  · have hil : i < l.length := by have := of_decide_eq_true hc; omega
    obtain ⟨r, hr⟩ : ∃ r, l[i]? = some r := ⟨_, List.getElem?_eq_getElem hil⟩
    have ng := rgRows_at hr
    have hrs := hs r (List.mem_of_getElem? hr)
    repeat (first | refine StepC.go ?_ | intro _)
    refine TS_callE (rHalveT (r := r)) ?_
    by_cases he : rEven r = true
    · rw [he]
      repeat (first | refine StepC.go ?_ | intro _ | (refine TS_puw (Pu.addi ?_) ?_; · omega) | (refine TV_cond_f ?_ ?_; · first | rfl | assumption))
      refine ⟨_, ?_, i + 1, rfl, by omega, tget_as rfl, inferInstance, inferInstance, ?_⟩
      · omega
      · rw [List.take_add_one, hr]; simp [List.all_append, hev, he]
    · have he' : rEven r = false := by simpa using he
      rw [he']
      repeat (first | refine StepC.go ?_ | intro _ | (refine TV_cond_t ?_ ?_; · first | rfl | assumption))
      refine retT_1 (.inr rfl) ?_
      have : l.all rEven = false := by
        rw [List.all_eq_false]
        exact ⟨r, List.mem_of_getElem? hr, by simp [he']⟩
      rw [this]; rfl
  · have hil : i = l.length := by have := of_decide_eq_false hc; omega
    subst hil
    rw [List.take_length] at hev
    repeat (refine StepC.go ?_)
    refine retT_1 (.inr rfl) ?_
    rw [hev]; rfl
instance : CallIs Try.prog 90 := .of Try.func90 rfl rfl
structure DsOk (N : Nat) (K : Int) (l : List RgD) : Prop where
  n10 : N ≤ 10
  len : l.length = 2 ^ N
  k0 : 0 ≤ K
  k60 : K ≤ 60
  sm : ∀ r ∈ l, RgS r
  form : 0 < K → l.all rEven = false
theorem DsOk.l20 {N : Nat} {K : Int} {l : List RgD} (h : DsOk N K l) : l.length < 2 ^ 20 := by
  rw [h.len]; exact Nat.pow_lt_pow_right (by decide) (by have := h.n10; omega)
theorem shl_pow {N : Nat} (h : N ≤ 10) : ShiT .shl .i64 1 (N : Int) ((2 ^ N : Nat) : Int) := by
  have : N = 0 ∨ N = 1 ∨ N = 2 ∨ N = 3 ∨ N = 4 ∨ N = 5 ∨ N = 6 ∨ N = 7 ∨ N = 8 ∨ N = 9 ∨ N = 10 := by omega
  rcases this with rfl | rfl | rfl | rfl | rfl | rfl | rfl | rfl | rfl | rfl | rfl <;> exact ⟨by decide, by decide⟩
set_option synthInstance.maxSize 4000 in
set_option synthInstance.maxHeartbeats 400000 in
set_option maxHeartbeats 4000000 in
theorem dCheckT {N : Nat} {K : Int} {l : List RgD} (h : DsOk N K l) : Fn Try.prog 60 [stT N K l] (fun t => t = intT 0) := by
  refine Fn_of Try.func60 rfl (Nat.le_of_ble_eq_true rfl) (fun X => ?_)
  have hL := rgRows_len l
  have hlen := h.len
  have hn := h.n10
  have hk0 := h.k0
  have hk60 := h.k60
  have hl20 := h.l20
  have hsh := shl_pow hn
  have d1 : decide ((N : Int) < 0) = false := by simp
  have d2 : decide (10 < (N : Int)) = false := by simp; omega
  have d3 : decide (K < 0) = false := by simp; omega
  have d4 : decide (60 < K) = false := by simp; omega
  have d5 : (!decide (((rgRows l).length : Int) = ((2 ^ N : Nat) : Int))) = false := by rw [hL, hlen]; simp
  repeat (first | refine StepC.go ?_ | intro _)
  rename_i b0
  refine TV_draw (id := 1) (plan := [.take 0, .take 1, .take 2, .take 3, .take 4, .take 5, .take 6, .take 7, .take 8, .take 9, .take 10, .take 11, .take 12, .take 13, .take 14, .take 15, .take 16, .take 17, .take 18, .take 19, .take 20, .take 21, .take 22, .take 23, .take 24, .take 25, .take 26]) (by kernel_rfl) ?_
  repeat (first | refine TD_take rfl rfl ?_ | refine TD_load rfl rfl ?_ | refine TD_take_on rfl rfl (by first | rfl | assumption) rfl ?_ | refine TD_load_on rfl rfl (by first | rfl | assumption) rfl ?_)
  simp only [d1, d2, d5, Bool.false_eq_true, if_false]
  repeat (first | refine StepC.go ?_ | refine TD_take rfl rfl ?_ | refine TD_take_on rfl rfl (by first | rfl | assumption) rfl ?_ | refine TD_load_on rfl rfl (by first | rfl | assumption) rfl ?_)
  simp only [d3, Bool.false_eq_true, if_false]
  repeat (first | refine StepC.go ?_ | (refine TV_cond_f ?_ ?_; · first | rfl | assumption))
  simp only [d4, Bool.false_eq_true, if_false]
  skip
  rw [hL]
  refine TV_loop (fun d σ B => ∃ i : Nat, d = l.length - i ∧ i ≤ l.length ∧ TGet σ 36 (intT i) ∧ TGet σ 35 (intT l.length) ∧ TGet σ 34 (.sl 2 (rgRows l)) ∧ TGet σ 1 (.v (.pointer (some (ad b0 0)))) ∧ SubP B [(b0, .cells (stCs N K l) 44 true)]) l.length
    ⟨0, by omega, by omega, tget_as rfl, inferInstance, inferInstance, inferInstance, inferInstance⟩ ?_
  rintro d σ B ⟨i, rfl, hi, g36, g35, g34, g1, hB⟩
  refine TV_keep _ (p := hB) ?_
  repeat (refine StepC.go ?_)
  refine TV_cond ?_ ?_ <;> intro hc
  · have hil : i < l.length := by have := of_decide_eq_true hc; omega
    obtain ⟨r, hr⟩ : ∃ r, l[i]? = some r := ⟨_, List.getElem?_eq_getElem hil⟩
    have ng := rgRows_at hr
    have hrs := h.sm r (List.mem_of_getElem? hr)
    repeat (first | refine StepC.go ?_ | intro _)
    refine TS_callE (rCheckT (r := r)) ?_
    repeat (first | refine StepC.go ?_ | (refine TS_puw (Pu.addi ?_) ?_; · omega) | (refine TV_cond_f ?_ ?_; · first | rfl | assumption))
    refine ⟨_, ?_, i + 1, rfl, by omega, tget_as rfl, inferInstance, inferInstance, inferInstance, inferInstance⟩
    omega
  · repeat (refine StepC.go ?_)
    by_cases hk : 0 < K
    · have d6 : decide (0 < K) = true := by simpa using hk
      rw [d6]
      repeat (first | refine StepC.go ?_ | (refine TS_on rfl ?_ ?_; · first | rfl | assumption))
      refine TS_callE (halvableT h.l20 h.sm) ?_
      rw [h.form hk]
      repeat (first | refine StepC.go ?_ | (refine TV_cond_f ?_ ?_; · first | rfl | assumption))
      exact retT_1 (.inr rfl) rfl
    · have d6 : decide (0 < K) = false := by simpa using hk
      rw [d6]
      repeat (first | refine StepC.go ?_ | (refine TS_off rfl ?_ ?_; · first | rfl | assumption) | (refine TV_cond_f ?_ ?_; · first | rfl | assumption))
      exact retT_1 (.inr rfl) rfl
instance : CallIs Try.prog 60 := .of Try.func60 rfl rfl
structure QsOk (N : Nat) (ps : List Nat) : Prop where
  lt : ∀ p ∈ ps, p < N
  nd : ps.Nodup
  len : ps.length ≤ 3
set_option synthInstance.maxSize 4000 in
set_option synthInstance.maxHeartbeats 400000 in
set_option maxHeartbeats 4000000 in
theorem placedT {N : Nat} {K : Int} {l : List RgD} {b : ByteArray} {ps : List Nat} (h : QsOk N ps) (ha : arityS b = ps.length) (h0 : 0 < ps.length) : Fn Try.prog 92 [stT N K l, strT b, .sl 1 (plaR ps)] (fun t => t = intT 0) := by
  refine Fn_of Try.func92 rfl (Nat.le_of_ble_eq_true rfl) (fun X => ?_)
  have hL : (plaR ps).length = ps.length := by simp [plaR]
  have hl3 := h.len
  have d0 : decide ((ps.length : Int) = 0) = false := by simp; intro hh; rw [hh] at h0; exact absurd h0 (by decide)
  repeat (first | refine StepC.go ?_ | intro _)
  refine TS_callE (arityT b) ?_
  rw [ha]
  repeat (first | refine StepC.go ?_ | (refine TV_cond_f ?_ ?_; · first | rfl | assumption))
  rw [hL, show (!decide ((ps.length : Int) = (ps.length : Int))) = false by simp]
  repeat (first | refine StepC.go ?_ | (refine TV_cond_f ?_ ?_; · first | rfl | assumption))
  rw [hL]
  rename_i b0
  refine TV_loop (fun d σ B => ∃ i : Nat, d = ps.length - i ∧ i ≤ ps.length ∧ TGet σ 24 (intT i) ∧ TGet σ 23 (intT ps.length) ∧ TGet σ 22 (.sl 1 (plaR ps)) ∧ TGet σ 2 (.sl 1 (plaR ps)) ∧ TGet σ 3 (.v (.pointer (some (ad b0 0)))) ∧ SubP B [(b0, .cells (stCs N K l) 44 true)]) ps.length
    ⟨0, by omega, by omega, tget_as rfl, inferInstance, inferInstance, inferInstance, inferInstance, inferInstance⟩ ?_
  rintro d σ B ⟨i, rfl, hi, g24, g23, g22, g2, g3, hB⟩
  refine TV_keep _ (p := hB) ?_
  repeat (refine StepC.go ?_)
  refine TV_cond ?_ ?_ <;> intro hc
  · have hil : i < ps.length := by have := of_decide_eq_true hc; omega
    obtain ⟨p, hp⟩ : ∃ p, ps[i]? = some p := ⟨_, List.getElem?_eq_getElem hil⟩
    have hlt := h.lt p (List.mem_of_getElem? hp)
    have ng : NthG (plaR ps) i [intT p] := .map (fun p : Nat => [intT (p : Int)]) hp
    have d1 : decide ((p : Int) < 0) = false := by simp
    have d2 : decide ((N : Int) ≤ (p : Int)) = false := by simp; omega
    repeat (first | refine StepC.go ?_ | (refine TS_on rfl ?_ ?_; · first | rfl | assumption) | (refine TS_puw (Pu.addi ?_) ?_; · omega) | (refine TV_cond_f ?_ ?_; · first | rfl | assumption))
    rw [d1]
    skip
    rw [d2]
    skip
    refine ⟨_, ?_, i + 1, rfl, by omega, tget_as rfl, inferInstance, inferInstance, inferInstance, inferInstance, inferInstance⟩
    omega
  · repeat (refine StepC.go ?_)
    rw [hL]
    refine TV_loop (fun d σ B => ∃ i : Nat, d = ps.length - i ∧ i ≤ ps.length ∧ TGet σ 39 (intT i) ∧ TGet σ 38 (intT ps.length) ∧ TGet σ 37 (.sl 1 (plaR ps)) ∧ TGet σ 2 (.sl 1 (plaR ps))) ps.length
      ⟨0, by omega, by omega, tget_as rfl, inferInstance, inferInstance, inferInstance⟩ ?_
    clear hB g24 g23 g22 g2 g3 hc
    rintro d σ B ⟨i, rfl, hi, g39, g38, g37, g2⟩
    repeat (refine StepC.go ?_)
    refine TV_cond ?_ ?_ <;> intro hc
    · have hil : i < ps.length := by have := of_decide_eq_true hc; omega
      obtain ⟨p, hp⟩ : ∃ p, ps[i]? = some p := ⟨_, List.getElem?_eq_getElem hil⟩
      have ng : NthG (plaR ps) i [intT p] := .map (fun p : Nat => [intT (p : Int)]) hp
      have hnp := nodup_atM h.nd hp
      have hne : plaR ps ≠ [] := by intro hh; rw [hh] at hL; simp at hL; omega
      have htk : (plaR ps).take i = plaR (ps.take i) := by simp [plaR, List.map_take]
      have hLi : (plaR (ps.take i)).length = i := by simp [plaR]; omega
      repeat (refine StepC.go ?_)
      refine TS_puw (Pu.slice_hi (j := i) hne (by omega)) ?_
      rw [htk]
      repeat (refine StepC.go ?_)
      rw [hLi]
      refine TV_loop (fun d σ B => ∃ j : Nat, d = i - j ∧ j ≤ i ∧ TGet σ 48 (intT j) ∧ TGet σ 47 (intT i) ∧ TGet σ 46 (.sl 1 (plaR (ps.take i))) ∧ TGet σ 11 (intT p) ∧ TGet σ 39 (intT i) ∧ TGet σ 38 (intT ps.length) ∧ TGet σ 37 (.sl 1 (plaR ps)) ∧ TGet σ 2 (.sl 1 (plaR ps))) i
        ⟨0, by omega, by omega, tget_as rfl, inferInstance, inferInstance, inferInstance, inferInstance, inferInstance, inferInstance, inferInstance⟩ ?_
      rintro d σ B ⟨j, rfl, hj, g48, g47, g46, g11, g39, g38, g37, g2⟩
      repeat (refine StepC.go ?_)
      refine TV_cond ?_ ?_ <;> intro hc2
      · have hji : j < i := by have := of_decide_eq_true hc2; omega
        obtain ⟨q, hq⟩ : ∃ q, ps[j]? = some q := ⟨_, List.getElem?_eq_getElem (by omega)⟩
        have hq2 : (ps.take i)[j]? = some q := by rw [List.getElem?_take_of_lt hji]; exact hq
        have ng2 : NthG (plaR (ps.take i)) j [intT q] := .map (fun p : Nat => [intT (p : Int)]) hq2
        have hqp : q ≠ p := fun hh => hnp (hh ▸ List.mem_of_getElem? hq2)
        have d3 : decide ((q : Int) = (p : Int)) = false := by simp; omega
        repeat (first | refine StepC.go ?_ | (refine TS_puw (Pu.addi ?_) ?_; · omega) | (refine TV_cond_f ?_ ?_; · first | rfl | assumption))
        rw [d3]
        skip
        refine ⟨_, ?_, j + 1, rfl, by omega, tget_as rfl, inferInstance, inferInstance, inferInstance, inferInstance, inferInstance, inferInstance, inferInstance⟩
        omega
      · repeat (first | refine StepC.go ?_ | (refine TS_puw (Pu.addi ?_) ?_; · omega))
        refine ⟨_, ?_, i + 1, rfl, by omega, tget_as rfl, inferInstance, inferInstance, inferInstance⟩
        omega
    · repeat (refine StepC.go ?_)
      exact retT_1 (.inr rfl) rfl
instance : CallIs Try.prog 92 := .of Try.func92 rfl rfl
/-- an entry put onto an element -/
def termS (c : CellD) (hv : Int) (r : RgD) : RgD := if c.under < hv then rDouble (rTurn c.turn r) else rTurn c.turn r
theorem rTurn_all {k : Int} (hk : 0 ≤ k ∧ k < 8) {r : RgD} (h : RgS r) : RgS (rTurn k r) := by
  have h1 := h.a; have h2 := h.b; have h3 := h.c; have h4 := h.d
  have hk2 : k = 0 ∨ k = 1 ∨ k = 2 ∨ k = 3 ∨ k = 4 ∨ k = 5 ∨ k = 6 ∨ k = 7 := by omega
  rcases hk2 with rfl | rfl | rfl | rfl | rfl | rfl | rfl | rfl <;> exact ⟨by simp [rTurn, gTurn]; omega, by simp [rTurn, gTurn]; omega, by simp [rTurn, gTurn]; omega, by simp [rTurn, gTurn]; omega⟩
set_option synthInstance.maxSize 4000 in
set_option synthInstance.maxHeartbeats 400000 in
set_option maxHeartbeats 4000000 in
theorem termT {c : CellD} {r : RgD} {hv : Int} (hk : 0 ≤ c.turn ∧ c.turn < 8) (h : RgS r) (ht : RgS (termS c hv r)) : Fn Try.prog 95 [amT (cellA c), rgT r, intT hv] (fun t => t = .tup [rgT (termS c hv r), intT 0]) := by
  refine Fn_of Try.func95 rfl (Nat.le_of_ble_eq_true rfl) (fun X => ?_)
  have h2 := rTurn_all hk h
  obtain ⟨j, hj⟩ : ∃ j : Nat, c.turn = j := ⟨c.turn.toNat, by omega⟩
  have ho : Fn Try.prog 117 [.agg [cxT (cellA c).r.a (cellA c).r.b, cxT (cellA c).r.c (cellA c).r.d], .agg [.v (.complex .f64 4607182418800017408 0), .v (.complex .f64 0 0)]] (fun t => t = .tup [intT j, boolT true]) := by
    have := orderT (j := j) (by omega)
    simp only [cellA, hj]
    exact this
  repeat (first | refine StepC.go ?_ | intro _)
  refine TS_callE ho ?_
  repeat (refine StepC.go ?_)
  refine TS_callE (rTurnT (r := r) (k := j) ⟨by omega, by omega⟩) ?_
  rw [← hj]
  repeat (first | refine StepC.go ?_ | intro _ | (refine TS_on rfl ?_ ?_; · first | rfl | assumption))
  by_cases hu : c.under < hv
  · have d1 : decide ((cellA c).k < hv) = true := decide_eq_true hu
    have ht2 : RgS (rDouble (rTurn c.turn r)) := by simpa only [termS, if_pos hu] using ht
    rw [d1]
    repeat (first | refine StepC.go ?_ | (refine TV_cond_t ?_ ?_; · first | rfl | assumption))
    refine TS_callE (rDoubleT (r := rTurn c.turn r)) ?_
    repeat (refine StepC.go ?_)
    refine retT_2 (.inr rfl) ?_
    simp only [termS, if_pos hu]; rfl
  · have d1 : decide ((cellA c).k < hv) = false := decide_eq_false hu
    rw [d1]
    repeat (first | refine StepC.go ?_ | (refine TV_cond_f ?_ ?_; · first | rfl | assumption))
    refine retT_2 (.inr rfl) ?_
    simp only [termS, if_neg hu]; rfl
instance : CallIs Try.prog 95 := .of Try.func95 rfl rfl
end Go.Ideal

-- Me
set_option linter.unusedSimpArgs false
set_option linter.unusedVariables false
namespace Go.Ideal
open Go Go.Proofs Go.RowKit
/-! ### dense.formed: the one form; the elements are written over -/
theorem retB_2 {P : Program} {σ : Nat → Tr} {B : Boxes} {a b : ResultVar} {C : Boxes} {Φ : Tr → Boxes → Prop} {e : IExit} {ts : List Tr} (B' : Boxes) [r : RetIsO P σ B [a, b] ts] (sp : SubP B (B' ++ C)) (he : e = .normal ∨ e = .ret) (k : Φ (tret ts) B') : retTB P [a, b] C Φ e σ B := retB_go B' sp he k
def fS : Nat → List RgD → Nat × List RgD
  | 0, l => (0, l)
  | k + 1, l => if l.all rEven = true then fS k (l.map rHalf) else (k + 1, l)
theorem zero_half : rHalf zeroR = zeroR := by decide
theorem zero_even : rEven zeroR = true := by decide
theorem fS_zero (k : Nat) (l : List RgD) (h : ∀ r ∈ l, r = zeroR) : fS k l = (0, l) := by
  induction k with
  | zero => rfl
  | succ k ih =>
    have h1 : l.all rEven = true := List.all_eq_true.2 fun r hr => by rw [h r hr]; exact zero_even
    have h2 : l.map rHalf = l := by
      conv => rhs; rw [← List.map_id l]
      exact List.map_congr_left fun r hr => by rw [h r hr]; exact zero_half
    rw [fS, if_pos h1, h2, ih]
theorem fS_len : ∀ (k : Nat) (l : List RgD), (fS k l).2.length = l.length := by
  intro k
  induction k with
  | zero => intro l; rfl
  | succ k ih =>
    intro l
    rw [fS]
    by_cases he : l.all rEven = true
    · rw [if_pos he, ih, List.length_map]
    · rw [if_neg he]
theorem fS_sm : ∀ (k : Nat) (l : List RgD), (∀ r ∈ l, RgS r) → ∀ r ∈ (fS k l).2, RgS r := by
  intro k
  induction k with
  | zero => intro l h; exact h
  | succ k ih =>
    intro l h
    rw [fS]
    split
    · refine ih _ fun r hr => ?_
      obtain ⟨s, hs, rfl⟩ := List.mem_map.1 hr
      exact rHalf_sm (h s hs)
    · exact h
theorem fS_form : ∀ (k : Nat) (l : List RgD), 0 < (fS k l).1 → (fS k l).2.all rEven = false := by
  intro k
  induction k with
  | zero => intro l h; exact absurd h (Nat.lt_irrefl 0)
  | succ k ih =>
    intro l h
    rw [fS] at h ⊢
    split
    · rename_i he; rw [if_pos he] at h; exact ih _ h
    · rename_i he; simpa using he
def halfK (m : List RgD) (i : Nat) : List RgD := (m.take i).map rHalf ++ m.drop i
theorem halfK_0 (m : List RgD) : halfK m 0 = m := by simp [halfK]
theorem halfK_n (m : List RgD) : halfK m m.length = m.map rHalf := by simp [halfK]
theorem halfK_len (m : List RgD) (i : Nat) (h : i ≤ m.length) : (halfK m i).length = m.length := by simp [halfK]; omega
theorem halfK_at {m : List RgD} {i : Nat} {r : RgD} (h : m[i]? = some r) : (halfK m i)[i]? = some r := by
  have hi := (List.getElem?_eq_some_iff.1 h).1
  rw [halfK, List.getElem?_append_right (by simp; omega)]
  simp only [List.length_map, List.length_take, List.getElem?_drop]
  rw [show i + (i - min i m.length) = i by omega]; exact h
theorem halfK_set {m : List RgD} {i : Nat} {r : RgD} (h : m[i]? = some r) : (halfK m i).set i (rHalf r) = halfK m (i + 1) := by
  have hi := (List.getElem?_eq_some_iff.1 h).1
  have hd : m.drop i = r :: m.drop (i + 1) := by
    rw [List.drop_eq_getElem_cons hi]
    rw [List.getElem?_eq_getElem hi] at h
    rw [Option.some.inj h]
  rw [halfK, halfK, List.set_append_right _ _ (by simp; omega), hd, List.take_add_one, h]
  simp
  rw [show i - min i m.length = 0 by omega]; rfl
set_option synthInstance.maxSize 4000 in
set_option synthInstance.maxHeartbeats 400000 in
set_option maxHeartbeats 4000000 in
theorem dFormedT {N : Int} {K n b : Nat} {l : List RgD} (hl : l.length = n) (hn : n < 2 ^ 20) (hs : ∀ r ∈ l, RgS r) (hK : K < 2 ^ 20) (h60 : (fS K l).1 ≤ 60) :
    FnB Try.prog 97 [.agg [intT N, intT (K : Int), .v (.slice (some (ad b 0)) n n)]] [(b, .arr 2 (rgRows l) 52 true)] (fun r B' => r = .tup [.agg [intT N, intT ((fS K l).1 : Int), .v (.slice (some (ad b 0)) n n)], intT 0] ∧ B' = [(b, .arr 2 (rgRows (fS K l).2) 52 true)]) := by
  refine FnM_of Try.func97 rfl (Nat.le_of_ble_eq_true rfl) (fun X C => ?_)
  have hL := rgRows_len l
  have lt0 : LenT (rgRows l) n := ⟨by rw [hL, hl]⟩
  repeat (first | refine StepC.go ?_ | intro _)
  rename_i p1 p2
  refine TV_loop (fun d σ B => ∃ i : Nat, d = n - i ∧ i ≤ n ∧ TGet σ 12 (intT i) ∧ TGet σ 11 (intT n) ∧ TGet σ 10 (.v (.slice (some (ad b 0)) n n)) ∧ TGet σ 4 (boolT ((l.take i).all fun r => decide (r = zeroR))) ∧ TGet σ 1 (.v (.pointer (some (ad p1 0)))) ∧ TGet σ 2 (.v (.pointer (some (ad p2 0)))) ∧
    SubP B ((p2, .cells [intT 0, intT 0, .v (.slice none 0 0)] 44 true) :: (p1, .cells [intT N, intT (K : Int), .v (.slice (some (ad b 0)) n n)] 44 true) :: (b, .arr 2 (rgRows l) 52 true) :: C)) n
    ⟨0, by omega, by omega, tget_as rfl, inferInstance, inferInstance, tget_as rfl, inferInstance, inferInstance, inferInstance⟩ ?_
  rintro d σ B ⟨i, rfl, hi, g12, g11, g10, g4, g1, g2, hB⟩
  refine TV_keep _ (p := hB) ?_
  repeat (refine StepC.go ?_)
  refine TV_cond ?_ ?_ <;> intro hc
  · have hil : i < n := by have := of_decide_eq_true hc; omega
    obtain ⟨r, hr⟩ : ∃ r, l[i]? = some r := ⟨_, List.getElem?_eq_getElem (by omega)⟩
    have ng := rgRows_at hr
    have hrs := hs r (List.mem_of_getElem? hr)
    have hnx : ((l.take (i + 1)).all fun r => decide (r = zeroR)) = (((l.take i).all fun r => decide (r = zeroR)) && decide (r = zeroR)) := by
      rw [List.take_add_one, hr]; simp [List.all_append]
    generalize ((l.take i).all fun r => decide (r = zeroR)) = u at g4 hnx
    cases u with
    | true =>
      repeat (first | refine StepC.go ?_ | intro _ | (refine TS_on rfl ?_ ?_; · first | rfl | assumption))
      refine TS_puw (Pu.rgEq (r := r) (s := zeroR) (e2 := by rw [zeroR_tr]; infer_instance) hrs inferInstance) ?_
      repeat (first | refine StepC.go ?_ | (refine TS_puw (Pu.addi ?_) ?_; · omega))
      refine ⟨_, ?_, i + 1, rfl, by omega, tget_as rfl, inferInstance, inferInstance, tget_as (by rw [hnx]; simp), inferInstance, inferInstance, inferInstance⟩
      omega
    | false =>
      repeat (first | refine StepC.go ?_ | intro _ | (refine TS_off rfl ?_ ?_; · first | rfl | assumption) | (refine TS_puw (Pu.addi ?_) ?_; · omega))
      refine ⟨_, ?_, i + 1, rfl, by omega, tget_as rfl, inferInstance, inferInstance, tget_as (by rw [hnx]; simp), inferInstance, inferInstance, inferInstance⟩
      omega
  · have hil : i = n := by have := of_decide_eq_false hc; omega
    subst hil
    rw [List.take_of_length_le (by omega)] at g4
    repeat (refine StepC.go ?_)
    refine TV_cut (fun σ B => ∃ k : Nat, k ≤ K ∧ fS k l = fS K l ∧ TGet σ 1 (.v (.pointer (some (ad p1 0)))) ∧ TGet σ 2 (.v (.pointer (some (ad p2 0)))) ∧
      SubP B ((p2, .cells [intT 0, intT 0, .v (.slice none 0 0)] 44 true) :: (p1, .cells [intT N, intT (k : Int), .v (.slice (some (ad b 0)) i i)] 44 true) :: (b, .arr 2 (rgRows l) 52 true) :: C)) ?_ ?_
    · refine TV_cond ?_ ?_ <;> intro hz
      · have h0 : fS K l = (0, l) := fS_zero K l fun r hr => by
          have := List.all_eq_true.1 hz r hr
          exact of_decide_eq_true this
        repeat (refine StepC.go ?_)
        exact ⟨0, Nat.zero_le _, by rw [h0]; rfl, inferInstance, inferInstance, inferInstance⟩
      · repeat (refine StepC.go ?_)
        exact ⟨K, Nat.le_refl _, rfl, inferInstance, inferInstance, inferInstance⟩
    clear hB g12 g11 g10 g4 g1 g2 lt0 hL hc
    rintro σ B ⟨k0, hk0K, hk0, g1, g2, hB⟩
    refine TV_keep _ (p := hB) ?_
    repeat (refine StepC.go ?_)
    refine TV_loop (fun d σ B => ∃ (k : Nat) (m : List RgD), d = k ∧ k ≤ K ∧ fS k m = fS K l ∧ m.length = i ∧ (∀ r ∈ m, RgS r) ∧ TGet σ 1 (.v (.pointer (some (ad p1 0)))) ∧ TGet σ 2 (.v (.pointer (some (ad p2 0)))) ∧
      SubP B ((p2, .cells [intT 0, intT 0, .v (.slice none 0 0)] 44 true) :: (p1, .cells [intT N, intT (k : Int), .v (.slice (some (ad b 0)) i i)] 44 true) :: (b, .arr 2 (rgRows m) 52 true) :: C)) k0
      ⟨k0, l, rfl, hk0K, hk0, hl, hs, inferInstance, inferInstance, inferInstance⟩ ?_
    clear hB g1 g2
    rintro k σ B ⟨_, m, rfl, hkK, hkm, hml, hms, g1, g2, hB⟩
    refine TV_keep _ (p := hB) ?_
    have hLm := rgRows_len m
    have lt1 : LenT (rgRows m) i := ⟨by rw [hLm, hml]⟩
    have : Sm63 i := ⟨by omega⟩
    cases k with
    | zero =>
      have he : fS K l = (0, m) := by rw [← hkm]; rfl
      repeat (first | refine StepC.go ?_ | (refine TS_off rfl ?_ ?_; · first | rfl | assumption) | (refine TS_puw (Pu.pick_f ?_) ?_; · first | rfl | assumption) | (refine TV_cond_f ?_ ?_; · first | rfl | assumption))
      refine retB_2 [(b, .arr 2 (rgRows m) 52 true)] (inferInstance : SubP _ ((b, .arr 2 (rgRows m) 52 true) :: C)) (.inr rfl) ?_
      rw [he]
      exact ⟨rfl, rfl⟩
    | succ k =>
      have d1 : decide (0 < ((k + 1 : Nat) : Int)) = true := decide_eq_true (by omega)
      repeat (first | refine StepC.go ?_ | (refine TS_on rfl ?_ ?_; · first | rfl | assumption))
      rw [d1]
      skip
      refine TS_callE (halvableT (by omega) hms) ?_
      by_cases he : m.all rEven = true
      · rw [he]
        have hnx : fS k (m.map rHalf) = fS K l := by rw [← hkm, fS, if_pos he]
        repeat (first | refine StepC.go ?_ | (refine TV_cond_t ?_ ?_; · first | rfl | assumption))
        refine TV_loop (fun d σ B => ∃ j : Nat, d = i - j ∧ j ≤ i ∧ TGet σ 36 (intT j) ∧ TGet σ 35 (intT i) ∧ TGet σ 34 (.v (.slice (some (ad b 0)) i i)) ∧ TGet σ 1 (.v (.pointer (some (ad p1 0)))) ∧ TGet σ 2 (.v (.pointer (some (ad p2 0)))) ∧
          SubP B ((p2, .cells [intT 0, intT 0, .v (.slice none 0 0)] 44 true) :: (p1, .cells [intT N, intT ((k + 1 : Nat) : Int), .v (.slice (some (ad b 0)) i i)] 44 true) :: (b, .arr 2 (rgRows (halfK m j)) 52 true) :: C)) i
          ⟨0, by omega, by omega, tget_as rfl, inferInstance, inferInstance, inferInstance, inferInstance, by rw [halfK_0]; infer_instance⟩ ?_
        clear hB g1 g2
        rintro d σ B ⟨j, rfl, hj, g36, g35, g34, g1, g2, hB⟩
        refine TV_keep _ (p := hB) ?_
        have lt2 : LenT (rgRows (halfK m j)) i := ⟨by rw [rgRows_len, halfK_len _ _ (by omega), hml]⟩
        repeat (refine StepC.go ?_)
        refine TV_cond ?_ ?_ <;> intro hc2
        · have hji : j < i := by have := of_decide_eq_true hc2; omega
          obtain ⟨r, hr⟩ : ∃ r, m[j]? = some r := ⟨_, List.getElem?_eq_getElem (by omega)⟩
          have ng := rgRows_at (halfK_at hr)
          have hrs := hms r (List.mem_of_getElem? hr)
          have her : rEven r = true := List.all_eq_true.1 he r (List.mem_of_getElem? hr)
          have sr : SetR (rgRows (halfK m j)) j (rgCs (rHalf r)) (rgRows (halfK m (j + 1))) := ⟨by rw [← halfK_set hr]; simp [rgRows, List.map_set]⟩
          repeat (first | refine StepC.go ?_ | intro _ | refine TD_take rfl rfl ?_ | refine TD_load rfl rfl ?_ | refine TD_one rfl ?_ | refine FiltT_nil ?_ | refine FiltT_drop rfl ?_ | refine FiltT_keep rfl ?_ | refine TV_draw (id := 13) (plan := [.take 0, .take 1, .take 2, .take 3, .one 4, .take 5, .take 6, .take 7, .take 8, .take 9, .one 10]) (by kernel_rfl) ?_)
          refine TS_callE (rHalveT (r := r)) ?_
          rw [her]
          simp only [if_true]
          repeat (first | refine StepC.go ?_ | (refine TS_puw (Pu.addi ?_) ?_; · omega) | refine TD_take rfl rfl ?_ | refine TD_one rfl ?_ | refine FiltT_nil ?_ | refine FiltT_drop rfl ?_)
          refine ⟨_, ?_, j + 1, rfl, by omega, tget_as rfl, inferInstance, inferInstance, inferInstance, inferInstance, inferInstance⟩
          omega
        · have hji : j = i := by have := of_decide_eq_false hc2; omega
          subst hji
          have hkn : halfK m j = m.map rHalf := by rw [← hml, halfK_n]
          rw [hkn] at *
          repeat (first | refine StepC.go ?_ | (refine TS_puw (Pu.subi ?_) ?_; · omega))
          refine ⟨k, by omega, k, m.map rHalf, rfl, by omega, hnx, by simp [hml], ?_, inferInstance, inferInstance, ?_⟩
          · intro r hr
            obtain ⟨u, hu, rfl⟩ := List.mem_map.1 hr
            exact rHalf_sm (hms u hu)
          · rw [show (((k + 1 : Nat) : Int) - 1) = (k : Int) by omega]; infer_instance
      · have he' : m.all rEven = false := by simpa using he
        have hf : fS K l = (k + 1, m) := by rw [← hkm, fS, if_neg he]
        rw [he']
        have d60 : decide (60 < ((k + 1 : Nat) : Int)) = false := by rw [hf] at h60; simp only at h60; simp; omega
        repeat (first | refine StepC.go ?_ | (refine TV_cond_f ?_ ?_; · first | rfl | assumption))
        rw [d60]
        skip
        refine retB_2 [(b, .arr 2 (rgRows m) 52 true)] (inferInstance : SubP _ ((b, .arr 2 (rgRows m) 52 true) :: C)) (.inr rfl) ?_
        rw [hf]
        exact ⟨rfl, rfl⟩
instance : CallIs Try.prog 97 := .of Try.func97 rfl rfl
end Go.Ideal

-- Mf
set_option linter.unusedSimpArgs false
set_option linter.unusedVariables false
namespace Go.Ideal
open Go Go.Proofs Go.RowKit
/-! ### dense.Apply: a gate put onto a state -/
def stepE (ps : List Nat) (hv : Int) (x : Nat) (r : RgD) (c : CellD) (out : List RgD) : Option (List RgD) :=
  match out[putM x ps c.row.toNat ps.length]? with
  | some u => if (smR (termS c hv r) && smR (rAdd u (termS c hv r))) = true then some (out.set (putM x ps c.row.toNat ps.length) (rAdd u (termS c hv r))) else none
  | none => none
def runC (ps : List Nat) (hv : Int) (x : Nat) (r : RgD) : List CellD → List RgD → Option (List RgD)
  | [], out => some out
  | c :: cs, out => match stepE ps hv x r c out with
    | none => none
    | some o => runC ps hv x r cs o
def runX (ps : List Nat) (hv : Int) (q : ColD) (amps : List RgD) (y : Nat) : List Nat → List RgD → Option (List RgD)
  | [], out => some out
  | x :: xs, out => match amps[x]? with
    | none => none
    | some r => if pickM x ps ps.length ≠ y ∨ r = zeroR then runX ps hv q amps y xs out else match runC ps hv x r (colV q y) out with
      | none => none
      | some o => runX ps hv q amps y xs o
def runY (ps : List Nat) (hv : Int) (q : ColD) (amps : List RgD) : List Nat → List RgD → Option (List RgD)
  | [], out => some out
  | y :: ys, out => match runX ps hv q amps y (List.range' 0 amps.length) out with
    | none => none
    | some o => runY ps hv q amps ys o
theorem pickM_small (x : Nat) (ps : List Nat) : ∀ k, k ≤ 64 → pickM x ps k < 2 ^ k := by
  intro k
  induction k with
  | zero => intro _; exact Nat.one_pos
  | succ k ih =>
    intro hk
    simp only [pickM]
    refine Nat.or_lt_two_pow (Nat.lt_of_lt_of_le (ih (by omega)) (Nat.pow_le_pow_right (by decide) (by omega))) ?_
    refine Nat.lt_pow_two_of_testBit _ fun i hi => ?_
    rw [shlM_bit, bit_oneM]
    cases hb : x.testBit (ps.getD k 0) with
    | false => simp
    | true =>
      have h1 : (Bool.toNat true).testBit (i - k) = false := by
        cases h2 : i - k with
        | zero => omega
        | succ n => simp [Nat.testBit_succ]
      rw [h1, Bool.and_false]
theorem QsOk.pl {N : Nat} {ps : List Nat} (h : QsOk N ps) (hN : N ≤ 10) : PlOk ps := ⟨fun p hp => by have := h.lt p hp; omega, h.nd, by have := h.len; omega⟩
set_option synthInstance.maxSize 4000 in
set_option synthInstance.maxHeartbeats 400000 in
set_option maxHeartbeats 4000000 in
theorem dApplyT {N : Nat} {K : Nat} {l out : List RgD} {b : ByteArray} {e : KE} {q : ColD} {ps : List Nat} {hv : Nat} (hst : DsOk N K l) (hk : kOf b = some e) (hq : colOf b = some q) (hps : QsOk N ps) (ha : e.arity = ps.length) (hhv : e.halves = hv)
    (hrun : runY ps hv q l (List.range' 0 (2 ^ ps.length)) (List.replicate l.length zeroR) = some out) (h60 : (fS (K + hv) out).1 ≤ 60) :
    Fn Try.prog 62 [stT N K l, strT b, .sl 1 (plaR ps)] (fun t => t = .tup [stT N (fS (K + hv) out).1 (fS (K + hv) out).2, intT 0]) := by
  refine Fn_of Try.func62 rfl (Nat.le_of_ble_eq_true rfl) (fun X => ?_)
  have g := fine_of hk hq
  have har := arity_of hk
  have hha : halvesS b = hv := by simp only [halvesS, hk, hhv]
  have h0 : 0 < ps.length := by rcases g.ar with h | h | h <;> omega
  have hpl := hps.pl hst.n10
  have hl3 := hps.len
  have hn10 := hst.n10
  have hl20 := hst.l20
  have hk60 := hst.k60
  have hv1 : hv ≤ 1 := by have := halvesS_01 b; rw [hha] at this; omega
  have hLq : (plaR ps).length = ps.length := by simp [plaR]
  have hLl := rgRows_len l
  have ax : AriT .add .i64 (K : Int) (hv : Int) ((K + hv : Nat) : Int) := ⟨by simp only [iarith]; rw [wrap_id (by omega)]; simp⟩
  have hsh := shl_pow (N := ps.length) (by omega)
  repeat (first | refine StepC.go ?_ | intro _)
  refine TS_callE (dCheckT hst) ?_
  repeat (first | refine StepC.go ?_ | (refine TV_cond_f ?_ ?_; · first | rfl | assumption))
  refine TS_callE (placedT hps (by rw [har, ha]) h0) ?_
  repeat (first | refine StepC.go ?_ | (refine TV_cond_f ?_ ?_; · first | rfl | assumption))
  refine TS_callE (halvesGT b) ?_
  rw [hha]
  have hs1 : 32 * l.length ≤ 2 ^ 46 := by omega
  repeat (refine StepC.go ?_)
  rename_i p3 p6
  refine TV_draw (id := 8) (plan := [.take 0, .take 1, .take 2, .take 3, .take 4, .take 5, .take 6, .take 7, .take 8, .virt 11, .one 9, .take 10, .one 12]) (by kernel_rfl) ?_
  repeat (first | refine StepC.go ?_ | (refine TS_makeSlice ?_ (fun _ => ?_); · omega) | refine TD_take rfl rfl ?_ | refine TD_load rfl rfl ?_ | refine TD_one rfl ?_ | refine FiltT_nil ?_ | refine FiltT_drop rfl ?_ | refine FiltT_keep rfl ?_ | refine TD_virt rfl rfl rfl (fun _ => ?_))
  rename_i p11 bo
  rw [hLq, hLl]
  repeat (refine StepC.go ?_)
  obtain ⟨n, hn⟩ : ∃ n, l.length = n := ⟨_, rfl⟩
  obtain ⟨m, hm⟩ : ∃ m, 2 ^ ps.length = m := ⟨_, rfl⟩
  have hm8 : m ≤ 8 := by rw [← hm]; exact Nat.le_trans (Nat.pow_le_pow_right (by decide) hl3) (by decide)
  have hw : wS e = m := by rw [← hm, wS, ha, Int.toNat_natCast]
  have hz : rgRows (List.replicate l.length zeroR) = List.replicate l.length [Tr.v (.complex .f64 0 0), .v (.complex .f64 0 0)] := by simp [rgRows, rgCs, cxT, flb0]
  have hout0 : ∀ r ∈ List.replicate l.length zeroR, RgS r := fun r hr => by rw [List.eq_of_mem_replicate hr]; exact inferInstance
  have hlen0 : (List.replicate l.length zeroR).length = n := by rw [← hn]; simp
  rw [← hz]
  generalize List.replicate l.length zeroR = out0 at *
  clear hz
  rw [hn]
  rw [hm] at hrun hsh ⊢
  rw [hn] at hLl hl20
  refine TV_loop (fun d σ B => ∃ (y : Nat) (o : List RgD), d = m - y ∧ y ≤ m ∧ runY ps hv q l (List.range' y (m - y)) o = some out ∧ o.length = n ∧ (∀ r ∈ o, RgS r) ∧ TGet σ 56 (intT y) ∧ TGet σ 55 (intT m) ∧ TGet σ 1 (strT b) ∧ TGet σ 2 (.sl 1 (plaR ps)) ∧ TGet σ 10 (intT hv) ∧ TGet σ 3 (.v (.pointer (some (ad p3 0)))) ∧ TGet σ 6 (.v (.pointer (some (ad p6 0)))) ∧ TGet σ 11 (.v (.pointer (some (ad p11 0)))) ∧
    SubP B [(bo, .arr 2 (rgRows o) 52 true), (p11, .cells [intT N, intT ((K + hv : Nat) : Int), .v (.slice (some (ad bo 0)) n n)] 44 true), (p6, .cells [intT 0, intT 0, .v (.slice none 0 0)] 44 true), (p3, .cells (stCs N K l) 44 true)]) m
    ⟨0, out0, by omega, by omega, hrun, hlen0, hout0, tget_as rfl, inferInstance, inferInstance, inferInstance, inferInstance, inferInstance, inferInstance, inferInstance, inferInstance⟩ ?_
  clear hrun hlen0 hout0
  rintro d σ B ⟨y, o, rfl, hy, hrun, hol, hos, g56, g55, g1, g2, g10, g3, g6, g11, hB⟩
  refine TV_keep _ (p := hB) ?_
  repeat (refine StepC.go ?_)
  refine TV_cond ?_ ?_ <;> intro hc
  · have hym : y < m := by have := of_decide_eq_true hc; omega
    have hcol : columnS b (y : Int) = ((colV q y).map (·.row), (colV q y).map cellA, 0) := by
      simp only [columnS, hk, hq]
      rw [if_neg (by rw [hw]; omega), Int.toNat_natCast]
    rw [show m - y = (m - (y + 1)) + 1 by omega, List.range'_succ] at hrun
    simp only [runY] at hrun
    rw [hn] at hrun
    cases hX : runX ps hv q l y (List.range' 0 n) o with
    | none => rw [hX] at hrun; cases hrun
    | some o1 =>
    rw [hX] at hrun
    dsimp only at hrun
    have htu := g.tu y
    have hrf := row_fine hk hq (y := y) (by rw [hw]; exact hym)
    have hcl := colV_len q y
    have hcr : (intRows ((colV q y).map (·.row))).length = (colV q y).length := by simp [intRows]
    have ngr : ∀ {i : Nat} {c : CellD}, (colV q y)[i]? = some c → NthG (intRows ((colV q y).map (·.row))) i [intT c.row] := fun h => ⟨by simp [intRows, h]⟩
    have nga : ∀ {i : Nat} {c : CellD}, (colV q y)[i]? = some c → NthG (amRows ((colV q y).map cellA)) i (amCs (cellA c)) := fun h => ⟨by simp [amRows, h]⟩
    repeat (refine StepC.go ?_)
    refine TS_call (columnT (b := b) (y := y)) ?_
    rw [hcol]
    dsimp only
    generalize intRows ((colV q y).map (·.row)) = R at *
    generalize amRows ((colV q y).map cellA) = A at *
    rintro _ rfl
    repeat (refine StepC.go ?_)
    rw [hLl]
    refine TV_loop (fun d σ B => ∃ (x : Nat) (o : List RgD), d = n - x ∧ x ≤ n ∧ runX ps hv q l y (List.range' x (n - x)) o = some o1 ∧ o.length = n ∧ (∀ r ∈ o, RgS r) ∧ TGet σ 69 (intT x) ∧ TGet σ 68 (intT n) ∧ TGet σ 67 (.sl 2 (rgRows l)) ∧ TGet σ 56 (intT y) ∧ TGet σ 55 (intT m) ∧ TGet σ 1 (strT b) ∧ TGet σ 2 (.sl 1 (plaR ps)) ∧ TGet σ 10 (intT hv) ∧ TGet σ 3 (.v (.pointer (some (ad p3 0)))) ∧ TGet σ 6 (.v (.pointer (some (ad p6 0)))) ∧ TGet σ 11 (.v (.pointer (some (ad p11 0)))) ∧ TGet σ 12 (intT y) ∧ TGet σ 13 (.sl 1 R) ∧ TGet σ 14 (.sl 3 A) ∧
      SubP B [(bo, .arr 2 (rgRows o) 52 true), (p11, .cells [intT N, intT ((K + hv : Nat) : Int), .v (.slice (some (ad bo 0)) n n)] 44 true), (p6, .cells [intT 0, intT 0, .v (.slice none 0 0)] 44 true), (p3, .cells (stCs N K l) 44 true)]) n
      ⟨0, o, by omega, by omega, hX, hol, hos, tget_as rfl, inferInstance, inferInstance, inferInstance, inferInstance, inferInstance, inferInstance, inferInstance, inferInstance, inferInstance, inferInstance, inferInstance, inferInstance, inferInstance, inferInstance⟩ ?_
    clear hX hol hos g56 g55 g1 g2 g10 g3 g6 g11 hB o
    rintro d σ B ⟨x, o, rfl, hx, hX, hol, hos, g69, g68, g67, g56, g55, g1, g2, g10, g3, g6, g11, g12, g13, g14, hB⟩
    refine TV_keep _ (p := hB) ?_
    repeat (refine StepC.go ?_)
    refine TV_cond ?_ ?_ <;> intro hc2
    · have hxn : x < n := by have := of_decide_eq_true hc2; omega
      rw [show n - x = (n - (x + 1)) + 1 by omega, List.range'_succ] at hX
      simp only [runX] at hX
      obtain ⟨r, hr⟩ : ∃ r, l[x]? = some r := ⟨_, List.getElem?_eq_getElem (by omega)⟩
      rw [hr] at hX
      dsimp only at hX
      have ngx := rgRows_at hr
      have hrs := hst.sm r (List.mem_of_getElem? hr)
      have hx64 : x < 2 ^ 64 := by omega
      have : Lt64 x := ⟨hx64⟩
      have hps3 := pickM_small x ps ps.length (by omega)
      have hps4 : 2 ^ ps.length ≤ 8 := Nat.le_trans (Nat.pow_le_pow_right (by decide) hl3) (by decide)
      have hcv : ConvT .i64 ((pickM x ps ps.length : Nat) : Int) ((pickM x ps ps.length : Nat) : Int) := ⟨wrap_id (by omega)⟩
      repeat (first | refine StepC.go ?_ | intro _)
      refine TS_callE (pickT hx64 hpl) ?_
      repeat (refine StepC.go ?_)
      by_cases hpy : pickM x ps ps.length = y
      · rw [show (!decide (((pickM x ps ps.length : Nat) : Int) = (y : Int))) = false by simp [hpy]]
        repeat (first | refine StepC.go ?_ | (refine TS_on rfl ?_ ?_; · first | rfl | assumption))
        refine TS_puw (Pu.rgEq (r := r) (s := zeroR) (e2 := by rw [zeroR_tr]; infer_instance) hrs inferInstance) ?_
        repeat (refine StepC.go ?_)
        refine TV_cond ?_ ?_ <;> intro hc3
        · have hrz := of_decide_eq_true hc3
          rw [if_pos (.inr hrz)] at hX
          repeat (first | refine StepC.go ?_ | (refine TS_puw (Pu.addi ?_) ?_; · omega))
          refine ⟨_, ?_, x + 1, o, rfl, by omega, hX, hol, hos, tget_as rfl, inferInstance, inferInstance, inferInstance, inferInstance, inferInstance, inferInstance, inferInstance, inferInstance, inferInstance, inferInstance, inferInstance, inferInstance, inferInstance, inferInstance⟩
          omega
        · have hrz := of_decide_eq_false hc3
          rw [if_neg (fun h => h.elim (fun h => h hpy) (fun h => hrz h))] at hX
          cases hC : runC ps hv x r (colV q y) o with
          | none => rw [hC] at hX; cases hX
          | some o2 =>
          rw [hC] at hX
          dsimp only at hX
          repeat (refine StepC.go ?_)
          rw [hcr]
          obtain ⟨L, hL⟩ : ∃ L, colV q y = L := ⟨_, rfl⟩
          rw [hL] at hC htu hrf hcl ⊢
          rename_i p17
          refine TV_loop (fun d σ B => ∃ (i : Nat) (o : List RgD), d = L.length - i ∧ i ≤ L.length ∧ runC ps hv x r (L.drop i) o = some o2 ∧ o.length = n ∧ (∀ r ∈ o, RgS r) ∧ TGet σ 92 (intT i) ∧ TGet σ 91 (intT L.length) ∧ TGet σ 90 (.sl 1 R) ∧ TGet σ 69 (intT x) ∧ TGet σ 68 (intT n) ∧ TGet σ 67 (.sl 2 (rgRows l)) ∧ TGet σ 56 (intT y) ∧ TGet σ 55 (intT m) ∧ TGet σ 1 (strT b) ∧ TGet σ 2 (.sl 1 (plaR ps)) ∧ TGet σ 10 (intT hv) ∧ TGet σ 3 (.v (.pointer (some (ad p3 0)))) ∧ TGet σ 6 (.v (.pointer (some (ad p6 0)))) ∧ TGet σ 11 (.v (.pointer (some (ad p11 0)))) ∧ TGet σ 12 (intT y) ∧ TGet σ 13 (.sl 1 R) ∧ TGet σ 14 (.sl 3 A) ∧ TGet σ 16 (intT x) ∧ TGet σ 17 (.v (.pointer (some (ad p17 0)))) ∧
            SubP B [(p17, .cells (rgCs r) 52 true), (bo, .arr 2 (rgRows o) 52 true), (p11, .cells [intT N, intT ((K + hv : Nat) : Int), .v (.slice (some (ad bo 0)) n n)] 44 true), (p6, .cells [intT 0, intT 0, .v (.slice none 0 0)] 44 true), (p3, .cells (stCs N K l) 44 true)]) L.length
            ⟨0, o, by omega, by omega, hC, hol, hos, tget_as rfl, inferInstance, inferInstance, inferInstance, inferInstance, inferInstance, inferInstance, inferInstance, inferInstance, inferInstance, inferInstance, inferInstance, inferInstance, inferInstance, inferInstance, inferInstance, inferInstance, inferInstance, inferInstance, inferInstance⟩ ?_
          clear hC hol hos g69 g68 g67 g56 g55 g1 g2 g10 g3 g6 g11 g12 g13 g14 hB o
          rintro d σ B ⟨i, o, rfl, hi, hC, hol, hos, g92, g91, g90, g69, g68, g67, g56, g55, g1, g2, g10, g3, g6, g11, g12, g13, g14, g16, g17, hB⟩
          refine TV_keep _ (p := hB) ?_
          repeat (refine StepC.go ?_)
          refine TV_cond ?_ ?_ <;> intro hc4
          · have hil : i < L.length := by have := of_decide_eq_true hc4; omega
            obtain ⟨c, hcc⟩ : ∃ c, L[i]? = some c := ⟨_, List.getElem?_eq_getElem hil⟩
            have hd : L.drop i = c :: L.drop (i + 1) := by
              rw [List.drop_eq_getElem_cons hil]
              rw [List.getElem?_eq_getElem hil] at hcc
              rw [Option.some.inj hcc]
            rw [hd] at hC
            simp only [runC] at hC
            cases hE : stepE ps hv x r c o with
            | none => rw [hE] at hC; cases hC
            | some o3 =>
            rw [hE] at hC
            dsimp only at hC
            have hcm := List.mem_of_getElem? hcc
            have htc := htu c hcm
            obtain ⟨r1, r2⟩ := hrf c hcm
            obtain ⟨k, hkr⟩ : ∃ k : Nat, c.row = (k : Int) := ⟨c.row.toNat, by omega⟩
            have hkn : c.row.toNat = k := by omega
            simp only [stepE, hkn] at hE
            have hkm : k < 2 ^ ps.length := by rw [hm, ← hw]; omega
            have hk64 : k < 2 ^ 64 := by omega
            have : Lt64 k := ⟨hk64⟩
            have hA : AsNat c.row k := ⟨hkr⟩
            have ngR : NthG R i [intT c.row] := ngr (by rw [hL]; exact hcc)
            have ngA : NthG A i (amCs (cellA c)) := nga (by rw [hL]; exact hcc)
            obtain ⟨to, hto⟩ : ∃ to, putM x ps k ps.length = to := ⟨_, rfl⟩
            have hput := putT' hx64 hpl hkm hk64
            rw [hto] at hE hput
            split at hE
            case h_2 => cases hE
            case h_1 u hu =>
            split at hE
            case isFalse => cases hE
            case isTrue hsm =>
            simp only [Bool.and_eq_true] at hsm
            have ht := smR_iff hsm.1
            have hsu := smR_iff hsm.2
            simp only [Option.some.injEq] at hE
            have hus := hos u (List.mem_of_getElem? hu)
            have hton : to < n := by have := (List.getElem?_eq_some_iff.1 hu).1; omega
            have ngu := rgRows_at hu
            have lto : LenT (rgRows o) n := ⟨by rw [rgRows_len, hol]⟩
            have sro : SetR (rgRows o) to (rgCs (rAdd u (termS c hv r))) (rgRows o3) := ⟨by rw [← hE]; simp [rgRows, List.map_set]⟩
            repeat (refine StepC.go ?_)
            refine TS_callE hput ?_
            repeat (first | refine StepC.go ?_ | refine TD_take rfl rfl ?_ | refine TD_load rfl rfl ?_ | refine TD_one rfl ?_ | refine FiltT_nil ?_ | refine FiltT_drop rfl ?_ | refine FiltT_keep rfl ?_ | refine TD_virt rfl rfl rfl (fun _ => ?_) | refine TV_draw (id := 22) (plan := [.take 0, .take 1, .take 2, .take 3, .take 4, .take 5, .virt 10, .one 6, .take 7, .take 8, .take 9, .one 11, .take 12]) (by kernel_rfl) ?_)
            refine TS_callE (termT (c := c) (r := r) (hv := hv) htc hrs ht) ?_
            repeat (first | refine StepC.go ?_ | refine TD_take rfl rfl ?_ | refine TD_load rfl rfl ?_ | refine TD_one rfl ?_ | refine FiltT_nil ?_ | refine FiltT_drop rfl ?_ | refine FiltT_keep rfl ?_ | refine TV_draw (id := 25) (plan := [.take 0, .take 1, .take 2, .take 3, .take 4, .take 5, .take 6, .take 7, .take 8, .one 9, .take 10, .take 11, .take 12, .take 13, .one 14, .take 15]) (by kernel_rfl) ?_ | (refine TV_cond_f ?_ ?_; · first | rfl | assumption))
            refine TS_callE (rAddT (r := u) (s := termS c hv r)) ?_
            repeat (first | refine StepC.go ?_ | (refine TS_puw (Pu.addi ?_) ?_; · omega) | refine TD_take rfl rfl ?_ | refine TD_one rfl ?_ | refine FiltT_nil ?_ | refine FiltT_drop rfl ?_ | (refine TV_cond_f ?_ ?_; · first | rfl | assumption))
            refine ⟨_, ?_, i + 1, o3, rfl, by omega, hC, ?_, ?_, tget_as rfl, inferInstance, inferInstance, inferInstance, inferInstance, inferInstance, inferInstance, inferInstance, inferInstance, inferInstance, inferInstance, inferInstance, inferInstance, inferInstance, inferInstance, inferInstance, inferInstance, inferInstance, inferInstance, inferInstance⟩
            · omega
            · rw [← hE]; simpa using hol
            · intro z hz
              rw [← hE] at hz
              rcases List.mem_or_eq_of_mem_set hz with h1 | rfl
              · exact hos z h1
              · exact hsu
          · have hil : i = L.length := by have := of_decide_eq_false hc4; omega
            subst hil
            rw [List.drop_length] at hC
            simp only [runC, Option.some.injEq] at hC
            subst hC
            repeat (first | refine StepC.go ?_ | (refine TS_puw (Pu.addi ?_) ?_; · omega))
            refine ⟨_, ?_, x + 1, o, rfl, by omega, hX, hol, hos, tget_as rfl, inferInstance, inferInstance, inferInstance, inferInstance, inferInstance, inferInstance, inferInstance, inferInstance, inferInstance, inferInstance, inferInstance, inferInstance, inferInstance, inferInstance⟩
            omega
      · rw [if_pos (.inl hpy)] at hX
        rw [show (!decide (((pickM x ps ps.length : Nat) : Int) = (y : Int))) = true by simp; omega]
        repeat (first | refine StepC.go ?_ | (refine TS_off rfl ?_ ?_; · first | rfl | assumption) | (refine TS_puw (Pu.addi ?_) ?_; · omega) | (refine TV_cond_t ?_ ?_; · first | rfl | assumption))
        refine ⟨_, ?_, x + 1, o, rfl, by omega, hX, hol, hos, tget_as rfl, inferInstance, inferInstance, inferInstance, inferInstance, inferInstance, inferInstance, inferInstance, inferInstance, inferInstance, inferInstance, inferInstance, inferInstance, inferInstance, inferInstance⟩
        omega
    · have hxn : n - x = 0 := by have := of_decide_eq_false hc2; omega
      rw [hxn] at hX
      simp only [List.range'_zero, runX, Option.some.injEq] at hX
      subst hX
      repeat (first | refine StepC.go ?_ | (refine TS_puw (Pu.addi ?_) ?_; · omega))
      refine ⟨_, ?_, y + 1, o, rfl, by omega, hrun, hol, hos, tget_as rfl, inferInstance, inferInstance, inferInstance, inferInstance, inferInstance, inferInstance, inferInstance, inferInstance⟩
      omega
  · have hym : m - y = 0 := by have := of_decide_eq_false hc; omega
    rw [hym] at hrun
    simp only [List.range'_zero, runY, Option.some.injEq] at hrun
    subst hrun
    repeat (refine StepC.go ?_)
    refine TS_callM (dFormedT (N := N) (K := K + hv) (b := bo) hol (by omega) hos (by omega) h60) ?_
    have : Sm63 n := ⟨by omega⟩
    have : LenT (rgRows (fS (K + hv) o).2) n := ⟨by rw [rgRows_len, fS_len, hol]⟩
    repeat (refine StepC.go ?_)
    refine retT_2 (.inr rfl) ?_
    rfl
instance : CallIs Try.prog 62 := .of Try.func62 rfl rfl
end Go.Ideal

-- Mg
set_option linter.unusedSimpArgs false
set_option linter.unusedVariables false
namespace Go.Ideal
open Go Go.Proofs Go.RowKit
/-! ### dense.Basis and dense.Run -/
def basisL (n z : Nat) : List RgD := (List.replicate n zeroR).set z oneR
set_option synthInstance.maxSize 4000 in
set_option synthInstance.maxHeartbeats 400000 in
set_option maxHeartbeats 4000000 in
theorem basisT {N x : Nat} (hN : N ≤ 10) (hx : x < 2 ^ N) : Fn Try.prog 18 [intT N, .v (.int .u64 x)] (fun t => t = .tup [stT N 0 (basisL (2 ^ N) x), intT 0]) := by
  refine Fn_of Try.func18 rfl (Nat.le_of_ble_eq_true rfl) (fun X => ?_)
  have hN2 : 2 ^ N ≤ 1024 := Nat.le_trans (Nat.pow_le_pow_right (by decide) hN) (by decide)
  have hx64 : x < 2 ^ 64 := by omega
  have : Lt64 x := ⟨hx64⟩
  have d1 : decide ((N : Int) < 0) = false := by simp
  have d2 : decide (10 < (N : Int)) = false := by simp; omega
  have hz : x >>> N = 0 := by rw [Nat.shiftRight_eq_div_pow]; exact Nat.div_eq_of_lt hx
  have hsh := shl_pow hN
  repeat (first | refine StepC.go ?_ | intro _ | (refine TS_on rfl ?_ ?_; · first | rfl | assumption))
  rw [d1]
  skip
  rw [d2]
  skip
  rw [hz]
  have hs1 : 32 * 2 ^ N ≤ 2 ^ 46 := by omega
  obtain ⟨n, hn⟩ : ∃ n, 2 ^ N = n := ⟨_, rfl⟩
  rw [hn] at hx hN2 hs1 hsh ⊢
  repeat (first | refine StepC.go ?_ | intro _ | (refine TS_makeSlice ?_ (fun _ => ?_); · omega) | (refine TV_cond_f ?_ ?_; · first | rfl | assumption))
  rename_i p4 bo p6
  have hrz : List.replicate n [Tr.v (.complex .f64 0 0), .v (.complex .f64 0 0)] = rgRows (List.replicate n zeroR) := by simp [rgRows, rgCs, cxT, flb0]
  rw [hrz]
  have lt1 : LenT (rgRows (List.replicate n zeroR)) n := ⟨by simp [rgRows]⟩
  have ng : NthG (rgRows (List.replicate n zeroR)) x [Tr.v (.complex .f64 0 0), .v (.complex .f64 0 0)] := ⟨by rw [← hrz]; simp [hx]⟩
  have sr : SetR (rgRows (List.replicate n zeroR)) x [Tr.v (.complex .f64 4607182418800017408 0), .v (.complex .f64 0 0)] (rgRows (basisL n x)) := ⟨by
    have : [Tr.v (.complex .f64 4607182418800017408 0), .v (.complex .f64 0 0)] = rgCs oneR := by simp only [rgCs, cxT, flb1, flb0]
    rw [this, basisL]; simp [rgRows, List.map_set]⟩
  have lt2 : LenT (rgRows (basisL n x)) n := ⟨by simp [rgRows, basisL]⟩
  have : Sm63 n := ⟨by omega⟩
  repeat (refine StepC.go ?_)
  refine retT_2 (.inr rfl) ?_
  rfl
instance : CallIs Try.prog 18 := .of Try.func18 rfl rfl
def stepR (o : OpD) (s : Nat × List RgD) : Option (Nat × List RgD) :=
  match kOf o.name, colOf o.name with
  | some e, some q => match runY (o.qs.map Int.toNat) e.halves q s.2 (List.range' 0 (2 ^ (o.qs.map Int.toNat).length)) (List.replicate s.2.length zeroR) with
    | some out => if (fS (s.1 + e.halves.toNat) out).1 ≤ 60 then some (fS (s.1 + e.halves.toNat) out) else none
    | none => none
  | _, _ => none
def runR : List OpD → Nat × List RgD → Option (Nat × List RgD)
  | [], s => some s
  | o :: os, s => match stepR o s with
    | none => none
    | some s' => runR os s'
theorem stepE_inv {ps : List Nat} {hv : Int} {x : Nat} {r : RgD} {c : CellD} {o o' : List RgD} (h : stepE ps hv x r c o = some o') (hs : ∀ r ∈ o, RgS r) : o'.length = o.length ∧ ∀ r ∈ o', RgS r := by
  unfold stepE at h
  split at h
  · rename_i u hu
    split at h
    · rename_i hsm
      simp only [Bool.and_eq_true] at hsm
      simp only [Option.some.injEq] at h
      subst h
      refine ⟨by simp, fun z hz => ?_⟩
      rcases List.mem_or_eq_of_mem_set hz with h1 | rfl
      · exact hs z h1
      · exact smR_iff hsm.2
    · cases h
  · cases h
theorem runC_inv {ps : List Nat} {hv : Int} {x : Nat} {r : RgD} : ∀ (cs : List CellD) (o o' : List RgD), runC ps hv x r cs o = some o' → (∀ r ∈ o, RgS r) → o'.length = o.length ∧ ∀ r ∈ o', RgS r := by
  intro cs
  induction cs with
  | nil => intro o o' h hs; simp only [runC, Option.some.injEq] at h; subst h; exact ⟨rfl, hs⟩
  | cons c cs ih =>
    intro o o' h hs
    simp only [runC] at h
    split at h
    · cases h
    · rename_i o1 h1
      obtain ⟨a, b⟩ := stepE_inv h1 hs
      obtain ⟨a2, b2⟩ := ih _ _ h b
      exact ⟨a2.trans a, b2⟩
theorem runX_inv {ps : List Nat} {hv : Int} {q : ColD} {amps : List RgD} {y : Nat} : ∀ (xs : List Nat) (o o' : List RgD), runX ps hv q amps y xs o = some o' → (∀ r ∈ o, RgS r) → o'.length = o.length ∧ ∀ r ∈ o', RgS r := by
  intro xs
  induction xs with
  | nil => intro o o' h hs; simp only [runX, Option.some.injEq] at h; subst h; exact ⟨rfl, hs⟩
  | cons x xs ih =>
    intro o o' h hs
    simp only [runX] at h
    split at h
    · cases h
    · split at h
      · exact ih _ _ h hs
      · split at h
        · cases h
        · rename_i o1 h1
          obtain ⟨a, b⟩ := runC_inv _ _ _ h1 hs
          obtain ⟨a2, b2⟩ := ih _ _ h b
          exact ⟨a2.trans a, b2⟩
theorem runY_inv {ps : List Nat} {hv : Int} {q : ColD} {amps : List RgD} : ∀ (ys : List Nat) (o o' : List RgD), runY ps hv q amps ys o = some o' → (∀ r ∈ o, RgS r) → o'.length = o.length ∧ ∀ r ∈ o', RgS r := by
  intro ys
  induction ys with
  | nil => intro o o' h hs; simp only [runY, Option.some.injEq] at h; subst h; exact ⟨rfl, hs⟩
  | cons y ys ih =>
    intro o o' h hs
    simp only [runY] at h
    split at h
    · cases h
    · rename_i o1 h1
      obtain ⟨a, b⟩ := runX_inv _ _ _ h1 hs
      obtain ⟨a2, b2⟩ := ih _ _ h b
      exact ⟨a2.trans a, b2⟩
theorem stepR_ok {N K : Nat} {l : List RgD} {o : OpD} {s : Nat × List RgD} (hst : DsOk N K l) (h : stepR o (K, l) = some s) : DsOk N s.1 s.2 := by
  unfold stepR at h
  split at h
  · split at h
    · rename_i e q _ _ out hr
      split at h
      · rename_i h60
        dsimp only at h60 h hr
        simp only [Option.some.injEq] at h
        subst h
        obtain ⟨a, b⟩ := runY_inv _ _ _ hr (fun r hr => by rw [List.eq_of_mem_replicate hr]; exact inferInstance)
        refine ⟨hst.n10, ?_, by omega, by omega, fS_sm _ _ b, fun hp => fS_form _ _ (by omega)⟩
        rw [fS_len, a, List.length_replicate]
        exact hst.len
      · cases h
    · cases h
  · cases h
theorem dup_nodup {qs : List Int} : ∀ k, k ≤ qs.length → dupK qs k = false → (qs.take k).Nodup := by
  intro k
  induction k with
  | zero => intro _ _; simp
  | succ k ih =>
    intro hk h
    simp only [dupK, Bool.or_eq_false_iff, decide_eq_false_iff_not] at h
    obtain ⟨q, hq⟩ : ∃ q, qs[k]? = some q := ⟨_, List.getElem?_eq_getElem (by omega)⟩
    rw [List.take_add_one, hq]
    have h2 : qs.getD k 0 = q := by simp [List.getD, hq]
    rw [h2] at h
    simp only [Option.toList_some]
    rw [List.nodup_append]
    refine ⟨ih (by omega) h.1, by simp, fun a ha b hb => ?_⟩
    rw [List.mem_singleton.1 hb]
    rintro rfl
    exact h.2 ha
/-- the places of a gate that was checked -/
theorem op_places {o : OpD} {N : Nat} {b : Int} (h : faultS o N b = 0) (hk : o.kind = 1) : QsOk N (o.qs.map Int.toNat) ∧ intRows o.qs = plaR (o.qs.map Int.toNat) ∧ arityS o.name = (o.qs.map Int.toNat).length ∧ arityS o.name ≠ 0 := by
  obtain ⟨_, h2, h3, h4, _, h6⟩ := fault_ok h
  have ha : arityS o.name ≠ 0 := fun hh => h2 ⟨hk, hh⟩
  have hn : nS o = arityS o.name := by simp [nS, hk]
  have hr : ∀ x ∈ o.qs, 0 ≤ x ∧ x < N := fun x hx => by
    rw [List.any_eq_false] at h4
    have := h4 x hx
    simp [outS] at this
    exact this
  have hlen : (o.qs.length : Int) = arityS o.name := by rw [h3, hn]
  have h3' : arityS o.name ≤ 3 := by
    unfold arityS
    cases hk2 : kOf o.name with
    | none => decide
    | some e =>
      have := List.all_eq_true.1 (show KT.all (fun e => decide (e.arity ≤ 3)) = true by decide +kernel) e (kOf_mem hk2).1
      exact of_decide_eq_true this
  refine ⟨⟨fun p hp => ?_, ?_, by simp; omega⟩, ?_, by simp; omega, ha⟩
  · obtain ⟨x, hx, rfl⟩ := List.mem_map.1 hp
    have := hr x hx
    omega
  · have hd := dup_nodup o.qs.length (Nat.le_refl _) h6
    rw [List.take_length] at hd
    rw [List.nodup_iff_pairwise_ne] at hd ⊢
    rw [List.pairwise_map]
    refine hd.imp_of_mem fun {a b} ha hb hne hh => ?_
    have := hr a ha; have := hr b hb
    exact hne (by omega)
  · simp only [intRows, plaR, List.map_map]
    refine List.map_congr_left fun x hx => ?_
    have := hr x hx
    simp only [Function.comp]
    rw [show ((x.toNat : Nat) : Int) = x by omega]
set_option synthInstance.maxSize 4000 in
set_option synthInstance.maxHeartbeats 400000 in
set_option maxHeartbeats 4000000 in
theorem dRunT {N K : Nat} {l : List RgD} {c : CircD} {s : Nat × List RgD} (hst : DsOk N K l) (hw : CircW c) (hck : (checkC c).2 = 0) (hcl : (allC c cleanO).1 = true) (hq : c.qubits = N) (hk : ∀ o ∈ c.ops, o.kind = 1) (hrun : runR c.ops (K, l) = some s) :
    Fn Try.prog 19 [stT N K l, circT c] (fun t => t = .tup [stT N s.1 s.2, intT 0]) := by
  refine Fn_of Try.func19 rfl (Nat.le_of_ble_eq_true rfl) (fun X => ?_)
  obtain ⟨_, hc4, hflt⟩ := checkC_ok hck
  have hl20 := hst.l20
  have hLo : (opRows c.ops).length = c.ops.length := by simp [opRows]
  have hLl := rgRows_len l
  repeat (first | refine StepC.go ?_ | intro _)
  refine TS_callE (dCheckT hst) ?_
  repeat (first | refine StepC.go ?_ | (refine TV_cond_f ?_ ?_; · first | rfl | assumption))
  refine TS_callE (checkT hw) ?_
  rw [hck]
  repeat (first | refine StepC.go ?_ | (refine TV_cond_f ?_ ?_; · first | rfl | assumption))
  refine TS_callE (circCleanT hw) ?_
  rw [hcl]
  repeat (first | refine StepC.go ?_ | (refine TV_cond_f ?_ ?_; · first | rfl | assumption))
  rw [hq, show (!decide ((N : Int) = (N : Int))) = false by simp]
  have hs1 : 32 * l.length ≤ 2 ^ 46 := by omega
  have i1 : Sm63 l.length := ⟨by omega⟩
  have i2 : LenT (rgRows l) l.length := ⟨hLl⟩
  repeat (first | refine StepC.go ?_ | (refine TV_cond_f ?_ ?_; · first | rfl | assumption))
  rename_i p2 p3 p4
  refine TV_draw (id := 12) (plan := [.take 0, .take 1, .take 2, .take 3, .take 4, .take 5, .take 6, .virt 9, .one 7, .take 8, .one 10]) (by kernel_rfl) ?_
  repeat (first | refine StepC.go ?_ | (refine TS_makeSlice ?_ (fun _ => ?_); · omega) | refine TD_take rfl rfl ?_ | refine TD_load rfl rfl ?_ | refine TD_one rfl ?_ | refine FiltT_nil ?_ | refine FiltT_drop rfl ?_ | refine FiltT_keep rfl ?_ | refine TD_virt rfl rfl rfl (fun _ => ?_))
  rename_i p11 bo
  rw [hLl]
  have i3 : LenT (List.replicate l.length [Tr.v (.complex .f64 0 0), .v (.complex .f64 0 0)]) l.length := ⟨by simp⟩
  skip
  refine TS_copy (rows2 := rgRows l) hLl ?_
  repeat (refine StepC.go ?_)
  refine TV_freezeC p11 bo ?_
  rw [hLo]
  refine TV_loop (fun d σ B => ∃ (i K : Nat) (l : List RgD), d = c.ops.length - i ∧ i ≤ c.ops.length ∧ DsOk N K l ∧ runR (c.ops.drop i) (K, l) = some s ∧ TGet σ 61 (intT i) ∧ TGet σ 60 (intT c.ops.length) ∧ TGet σ 59 (.sl 7 (opRows c.ops)) ∧ TGet σ 11 (.v (.pointer (some (ad p11 0)))) ∧ TGet σ 4 (.v (.pointer (some (ad p4 0)))) ∧
    SubP B [(p11, .cells (stCs N K l) 44 true), (p4, .cells [intT 0, intT 0, .v (.slice none 0 0)] 44 true)]) c.ops.length
    ⟨0, K, l, by omega, by omega, hst, hrun, tget_as rfl, inferInstance, inferInstance, inferInstance, inferInstance, inferInstance⟩ ?_
  clear hrun hst hl20 hLl hs1 i1 i2 i3
  rintro d σ B ⟨i, K, l, rfl, hi, hst, hrun, g61, g60, g59, g11, g4, hB⟩
  refine TV_keep _ (p := hB) ?_
  repeat (refine StepC.go ?_)
  refine TV_cond ?_ ?_ <;> intro hc
  · have hil : i < c.ops.length := by have := of_decide_eq_true hc; omega
    obtain ⟨o, ho⟩ : ∃ o, c.ops[i]? = some o := ⟨_, List.getElem?_eq_getElem hil⟩
    have hd : c.ops.drop i = o :: c.ops.drop (i + 1) := by
      rw [List.drop_eq_getElem_cons hil]
      rw [List.getElem?_eq_getElem hil] at ho
      rw [Option.some.inj ho]
    rw [hd] at hrun
    simp only [runR] at hrun
    cases hS : stepR o (K, l) with
    | none => rw [hS] at hrun; cases hrun
    | some s1 =>
    rw [hS] at hrun
    dsimp only at hrun
    have hst1 := stepR_ok hst hS
    have hom := List.mem_of_getElem? ho
    have ng : NthG (opRows c.ops) i (opCs o) := .map opCs ho
    have hf := hflt o hom
    rw [hq] at hf
    obtain ⟨hps, hq1, ha1, _⟩ := op_places hf (hk o hom)
    unfold stepR at hS
    split at hS
    case h_2 => cases hS
    case h_1 e q he hq2 =>
    split at hS
    case h_2 => cases hS
    case h_1 out hr =>
    split at hS
    case isFalse => cases hS
    case isTrue h60 =>
    dsimp only at hr h60 hS
    have hS := Option.some.inj hS
    obtain ⟨hv, hhv⟩ : ∃ hv : Nat, e.halves = hv := by
      have := halvesS_01 o.name
      simp only [halvesS, he] at this
      exact ⟨e.halves.toNat, by omega⟩
    rw [hhv] at hr
    rw [hhv, Int.toNat_natCast] at h60 hS
    have har : e.arity = (o.qs.map Int.toNat).length := by rw [← ha1, arity_of he]
    have hA := dApplyT (b := o.name) hst he hq2 hps har hhv hr h60
    rw [← hq1, hS] at hA
    repeat (first | refine StepC.go ?_ | intro _)
    refine TS_call hA ?_
    rintro _ rfl
    repeat (first | refine StepC.go ?_ | (refine TS_puw (Pu.addi ?_) ?_; · omega) | (refine TV_cond_f ?_ ?_; · first | rfl | assumption))
    exact ⟨_, by omega, i + 1, s1.1, s1.2, rfl, by omega, hst1, hrun, tget_as rfl, inferInstance, inferInstance, inferInstance, inferInstance, inferInstance⟩
  · have hil : i = c.ops.length := by have := of_decide_eq_false hc; omega
    subst hil
    rw [List.drop_length] at hrun
    simp only [runR, Option.some.injEq] at hrun
    subst hrun
    repeat (refine StepC.go ?_)
    refine retT_2 (.inr rfl) ?_
    rfl
instance : CallIs Try.prog 19 := .of Try.func19 rfl rfl
end Go.Ideal

-- Lb
set_option linter.unusedSimpArgs false
set_option linter.unusedVariables false
namespace Go.Ideal
open Go Go.Proofs
instance : CallIs Try.prog 22 := .of Try.func22 rfl rfl

instance : CallIs Try.prog 24 := .of Try.func24 rfl rfl

theorem Same_spec (M N : Int) (a b : Option Addr) (la ca lb cb : Nat) (xs ys : List Nat) (h : IHp) (hx : SlIs h a la ca (u64s xs)) (hy : SlIs h b lb cb (u64s ys)) (hla : la < 2 ^ 62) :
    EvX Try.prog 14 [.agg [.int .i64 M, .slice a la ca].toArray, .agg [.int .i64 N, .slice b lb cb].toArray].toArray h (fun v h' => v = .bool (decide (M = N ∧ xs = ys)) ∧ Ext h h') := by
  have hlx : xs.length = la := by have := hx.1; simpa [u64s] using this
  have hly : ys.length = lb := by have := hy.1; simpa [u64s] using this
  refine EvX_of Try.func14 rfl (by show 2 ≤ 38; decide) ?_
  repeat' (first | refine V_seq ?_ | refine V_region ?_ | refine WS_nil ?_ | refine S_normal ?_ | refine V_block ?_ | refine V_skip ?_ | refine V_ret ?_ | refine S_ret ?_ | refine WS_off rfl (by first | rfl | assumption) ?_ | refine WS_on rfl (by first | rfl | assumption) ?_ | refine WS_move ?_ | refine WS_assign ?_ | refine WS_pick_t (by first | rfl | assumption) ?_ | refine WS_pick_f (by first | rfl | assumption) ?_ | refine WS_cmp rfl ?_ | refine WS_len_slice ?_ | refine WS_fieldAddr ?_ | refine WS_load ?_ | refine WS_box_agg rfl ?_ | (refine WS_guard rfl ?_ ?_ <;> intro hg) | (refine V_cond ?_ ?_ <;> intro hc <;> try (cases hc; done)))
  · refine retK_1 ⟨?_, (Ext.push _ _).push' _⟩ (.inr rfl)
    congr 1
    symm; rw [decide_eq_false_iff_not]
    rintro ⟨rfl, rfl⟩
    simp at hc; omega
  · have hN : M = N ∧ la = lb := by simp at hc hg; omega
    obtain ⟨rfl, rfl⟩ := hN
    obtain ⟨H1, hH1⟩ : ∃ H, H = h.push (IObj.cells [Value.int IntKind.i64 M, Value.slice a la ca] 27 true) := ⟨_, rfl⟩
    rw [← hH1]
    have d0 : CellIs H1 h.fresh (0 + 1) (.slice a la ca) := hH1 ▸ inferInstance
    obtain ⟨H, hH⟩ : ∃ H, H = H1.push (IObj.cells [Value.int IntKind.i64 M, Value.slice b la cb] 27 true) := ⟨_, rfl⟩
    rw [← hH]
    have eH : Ext h H := by rw [hH, hH1]; exact (Ext.push _ _).push' _
    have c0 : CellIs H h.fresh (0 + 1) (.slice a la ca) := hH ▸ inferInstance
    have c1 : CellIs H H1.fresh (0 + 1) (.slice b la cb) := hH ▸ inferInstance
    refine V_loop (fun d s h' => ∃ i : Int, d = (la - i).toNat ∧ 0 ≤ i ∧ i ≤ la ∧ Get s 5 (.int .i64 i) ∧ Get s 2 (.pointer (some (ad h.fresh 0))) ∧ Get s 3 (.pointer (some (ad H1.fresh 0))) ∧ h' = H ∧ xs.take i.toNat = ys.take i.toNat) la ⟨0, by omega, by omega, by omega, inferInstance, inferInstance, inferInstance, rfl, by simp⟩ ?_
    rintro d s h' ⟨i, rfl, hi0, hi1, g5, g2, g3, rfl, hP⟩
    repeat' (first | refine V_seq ?_ | refine V_region ?_ | refine WS_nil ?_ | refine S_normal ?_ | refine V_block ?_ | refine V_skip ?_ | refine V_exit ?_ | refine V_ret ?_ | refine S_exit ?_ | refine B_exit ?_ | refine WS_move ?_ | refine WS_assign ?_ | refine WS_cmp rfl ?_ | refine WS_len_slice ?_ | refine WS_fieldAddr ?_ | refine WS_load ?_ | (refine V_cond ?_ ?_ <;> intro hc <;> try (cases hc; done)))
    · have hi : i < la := by simp at hc; omega
      obtain ⟨b1, v, rfl, hv, c2⟩ := (hx.ext eH).at hi0 hi
      obtain ⟨x, rfl, hx1⟩ := u64s_at hv
      obtain ⟨b2, w, rfl, hw, c3⟩ := (hy.ext eH).at hi0 hi
      obtain ⟨y, rfl, hy1⟩ := u64s_at hw
      refine V_draw (plan := [.take 0, .take 1, .take 2, .take 3, .take 4, .take 5, .take 6, .take 7, .take 8, .take 9, .take 10]) (by kernel_rfl) ?_
      repeat' (first | refine V_seq ?_ | refine V_region ?_ | refine WS_nil ?_ | refine S_normal ?_ | refine B_normal ?_ | refine V_skip ?_ | refine V_ret ?_ | refine S_ret ?_ | refine B_ret ?_ | refine WS_move ?_ | refine WS_assign ?_ | refine WS_cmp rfl ?_ | refine WS_addi (by omega) ?_ | refine WS_fieldAddr ?_ | refine WS_indexAddr (by first | decide | omega) ?_ | refine WDT_go ?_ | refine WD_nil ?_ | refine WD_load rfl ?_ | refine WD_take rfl rfl ?_ | (refine V_cond ?_ ?_ <;> intro hc <;> try (cases hc; done)))
      · refine retK_1 ⟨?_, eH⟩ (.inr rfl)
        congr 1
        symm; rw [decide_eq_false_iff_not]
        rintro ⟨_, rfl⟩
        rw [hx1] at hy1
        simp at hy1; subst hy1
        simp at hc
      · refine ⟨_, ?_, i + 1, rfl, by omega, by omega, inferInstance, inferInstance, inferInstance, rfl, ?_⟩
        · omega
        · have : (i + 1).toNat = i.toNat + 1 := by omega
          have hxy : x = y := by simp at hc; omega
          rw [this, List.take_add_one, List.take_add_one, hx1, hy1, hP, hxy]
    · have hi : i = la := by simp at hc; omega
      refine retK_1 ⟨?_, eH⟩ (.inr rfl)
      congr 1
      symm; rw [decide_eq_true_iff]
      rw [hi, Int.toNat_natCast, List.take_of_length_le (by omega), List.take_of_length_le (by omega)] at hP
      exact ⟨rfl, hP⟩
  · refine retK_1 ⟨?_, (Ext.push _ _).push' _⟩ (.inr rfl)
    congr 1
    symm; rw [decide_eq_false_iff_not]
    rintro ⟨rfl, rfl⟩
    simp at hg
instance : CallIs Try.prog 14 := .of Try.func14 rfl rfl
end Go.Ideal

-- Lc
set_option linter.unusedSimpArgs false
set_option linter.unusedVariables false
namespace Go.Ideal
open Go Go.Proofs
/-! ### Parity; bits put side by side -/
def oddK (x : Nat) : Nat → Nat
  | 0 => 0
  | k + 1 => oddK x k ^^^ ((x >>> k) &&& 1)
def oddS (x : Nat) : Nat := oddK x 64
theorem bit_le (x : Nat) : x &&& 1 ≤ 1 := Nat.and_le_right
def orK (f : Nat → Nat) : Nat → Nat
  | 0 => 0
  | k + 1 => orK f k ||| (f k <<< k)
theorem orK_lt {f : Nat → Nat} : ∀ k, (∀ j, j < k → f j ≤ 1) → orK f k < 2 ^ k := by
  intro k
  induction k with
  | zero => intro _; simp [orK]
  | succ k ih =>
    intro hf
    have h1 := ih fun j hj => hf j (by omega)
    have h2 := hf k (by omega)
    refine Nat.or_lt_two_pow (Nat.lt_of_lt_of_le h1 (Nat.pow_le_pow_right (by decide) (by omega))) ?_
    rw [Nat.shiftLeft_eq, Nat.pow_succ]
    have : 0 < 2 ^ k := Nat.pow_pos (by decide)
    have : f k * 2 ^ k ≤ 1 * 2 ^ k := Nat.mul_le_mul_right _ h2
    omega
theorem orK_congr {f g : Nat → Nat} : ∀ k, (∀ j, j < k → f j = g j) → orK f k = orK g k := by
  intro k
  induction k with
  | zero => intro _; rfl
  | succ k ih => intro h; simp only [orK, ih fun j hj => h j (by omega), h k (by omega)]
theorem and1_u64 {a : Nat} (ha : a < 2 ^ 64) : ibits .and .u64 a 1 = (a &&& 1 : Nat) := and_u64 (b := 1) ha (by decide)
theorem shl_bit {b : Nat} (hb : b ≤ 1) {k : Int} (h0 : 0 ≤ k) (h1 : k < 64) : IntKind.u64.wrap ((b : Int) * 2 ^ min k.toNat IntKind.u64.bits) = (b <<< k.toNat : Nat) := by
  have h2 : min k.toNat IntKind.u64.bits = k.toNat := by simp only [IntKind.bits]; omega
  rw [h2, Nat.shiftLeft_eq]
  have h3 : (2 : Nat) ^ k.toNat < 2 ^ 64 := Nat.pow_lt_pow_right (by decide) (by omega)
  have h4 : b * 2 ^ k.toNat ≤ 1 * 2 ^ k.toNat := Nat.mul_le_mul_right _ hb
  have h5 : ((b : Int) * 2 ^ k.toNat) = ((b * 2 ^ k.toNat : Nat) : Int) := by simp
  rw [h5]
  exact wrap_u64_id (by omega) (by omega)
theorem bit_shl_lt {b : Nat} (hb : b ≤ 1) {k : Nat} (h1 : k < 64) : b <<< k < 2 ^ 64 := by
  rw [Nat.shiftLeft_eq]
  have h3 : (2 : Nat) ^ k < 2 ^ 64 := Nat.pow_lt_pow_right (by decide) (by omega)
  have h4 : b * 2 ^ k ≤ 1 * 2 ^ k := Nat.mul_le_mul_right _ hb
  omega
theorem shr_lt {a : Nat} (n : Nat) (ha : a < 2 ^ 64) : a >>> n < 2 ^ 64 := Nat.lt_of_le_of_lt (Nat.shiftRight_le _ _) ha
theorem toNat_succ {i : Int} (h : 0 ≤ i) : (i + 1).toNat = i.toNat + 1 := by omega

instance : CallIs Try.prog 67 := .of Try.func67 rfl rfl
/-- the number that a matrix makes of x -/
def applyS (n : Nat) (xs : List Nat) (x : Nat) : Nat := orK (fun i => oddS (xs.getD i 0 &&& x)) n
instance : CallIs Try.prog 26 := .of Try.func26 rfl rfl
end Go.Ideal

-- Ld
set_option linter.unusedSimpArgs false
set_option linter.unusedVariables false
namespace Go.Ideal
open Go Go.Proofs
theorem NeB.fresh {h h' : IHp} (hlt : h.fresh < h'.fresh) : NeB h.fresh h'.fresh := ⟨by unfold IHp.fresh at *; omega⟩
theorem NeB.fresh' {h h' : IHp} (hlt : h.fresh < h'.fresh) : NeB h'.fresh h.fresh := (NeB.fresh hlt).symm
theorem checkS_zero {N : Int} {xs : List Nat} (h : checkS N xs = 0) : 0 ≤ N ∧ N ≤ 64 ∧ (xs.length : Int) = N ∧ ∀ x ∈ xs, belowS N x = true := by
  unfold checkS at h
  split at h
  · simp at h
  · rename_i hn
    split at h
    · rename_i ha; exact ⟨by omega, by omega, by omega, List.all_eq_true.1 ha⟩
    · simp at h
/-- a slice of one's own is a slice -/
theorem Lst.getSl {lo : Nat} {h : IHp} {a : Option Addr} {n m : Nat} {vs : List Value} {t : TypeId} (x : Lst lo h (.slice a n m) vs t) : SlIs h a n m vs := by
  obtain ⟨a', h1, h2⟩ := x.sl
  simp only [Value.slice.injEq] at h1
  obtain ⟨rfl, rfl, rfl⟩ := h1
  exact h2

instance : CallIs Try.prog 66 := .of Try.func66 rfl rfl
end Go.Ideal

-- Le
set_option linter.unusedSimpArgs false
set_option linter.unusedVariables false
namespace Go.Ideal
open Go Go.Proofs
theorem Lst.lower {lo lo' : Nat} {h : IHp} {v : Value} {vs : List Value} {t : TypeId} (x : Lst lo h v vs t) (hl : lo' ≤ lo) : Lst lo' h v vs t := by
  rcases x with ⟨h1, h2⟩ | ⟨b, h1, h2⟩
  · exact .inl ⟨h1, h2⟩
  · exact .inr ⟨b, by omega, h2⟩
theorem Lst.notBlk {lo : Nat} {h : IHp} {v : Value} {vs : List Value} {t : TypeId} (x : Lst lo h v vs t) {b : Nat} (hb : b < lo) : blockOf v ≠ some b := fun hh => by have := x.block hh; omega
theorem Lst.ltFresh {lo : Nat} {h : IHp} {v : Value} {vs : List Value} {t : TypeId} (x : Lst lo h v vs t) {b : Nat} (hb : blockOf v = some b) : b < h.fresh := by
  rcases x with ⟨rfl, rfl⟩ | ⟨c, h1, rfl, h2, h3⟩
  · simp [blockOf] at hb
  · simp only [blockOf, Option.some.injEq] at hb; subst hb; exact h2.lt
instance : CallIs Try.prog 25 := .of Try.func25 rfl rfl
end Go.Ideal

-- Lf
set_option linter.unusedSimpArgs false
set_option linter.unusedVariables false
namespace Go.Ideal
open Go Go.Proofs
def xorK (f : Nat → Nat) : Nat → Nat
  | 0 => 0
  | k + 1 => xorK f k ^^^ f k
theorem xorK_lt {f : Nat → Nat} (hf : ∀ j, f j < 2 ^ 64) : ∀ k, xorK f k < 2 ^ 64 := by
  intro k
  induction k with
  | zero => simp [xorK]
  | succ k ih => exact Nat.xor_lt_two_pow ih (hf k)
def mulRow (r : Nat) (ys : List Nat) (k : Nat) : Nat := xorK (fun j => if (r >>> j) &&& 1 = 1 then ys.getD j 0 else 0) k
theorem getD_lt {ys : List Nat} (h : ∀ x ∈ ys, x < 2 ^ 64) (j : Nat) : ys.getD j 0 < 2 ^ 64 := by
  rw [List.getD_eq_getElem?_getD]
  cases hj : ys[j]? with
  | none => decide
  | some x => exact h x (List.mem_of_getElem? hj)
theorem mulRow_lt {r : Nat} {ys : List Nat} (h : ∀ x ∈ ys, x < 2 ^ 64) (k : Nat) : mulRow r ys k < 2 ^ 64 := by
  refine xorK_lt (fun j => ?_) k
  split
  · exact getD_lt h j
  · decide
def mulS (xs ys : List Nat) (k : Nat) : List Nat := (xs.take k).map fun r => mulRow r ys ys.length
theorem mulS_succ {xs ys : List Nat} {k r : Nat} (hr : xs[k]? = some r) : u64s (mulS xs ys (k + 1)) = u64s (mulS xs ys k) ++ [.int .u64 (mulRow r ys ys.length : Nat)] := by
  simp [u64s, mulS, List.take_add_one, hr]
theorem mulS_len {xs ys : List Nat} {k : Nat} (h : k ≤ xs.length) : (u64s (mulS xs ys k)).length = k := by simp [u64s, mulS]; omega
theorem Mul_spec (M N : Int) (a b : Option Addr) (la ca lb cb : Nat) (xs ys : List Nat) (h : IHp) (hx : SlIs h a la ca (u64s xs)) (hy : SlIs h b lb cb (u64s ys)) (hx64 : ∀ x ∈ xs, x < 2 ^ 64) (hy64 : ∀ x ∈ ys, x < 2 ^ 64) :
    EvX Try.prog 13 [.agg [.int .i64 M, .slice a la ca].toArray, .agg [.int .i64 N, .slice b lb cb].toArray].toArray h (fun v h' => Ext h h' ∧ if checkS M xs = 0 ∧ checkS N ys = 0 ∧ M = N then ∃ sl, v = .tuple [.agg [.int .i64 M, sl].toArray, .int .i64 0].toArray ∧ Lst h.fresh h' sl (u64s (mulS xs ys xs.length)) 28 else v = .tuple [.agg [.int .i64 0, .slice none 0 0].toArray, .int .i64 2].toArray) := by
  have hlx : xs.length = la := by have := hx.1; simpa [u64s] using this
  have hly : ys.length = lb := by have := hy.1; simpa [u64s] using this
  refine EvX_of Try.func13 rfl (by show 2 ≤ 64; decide) ?_
  repeat' (first | refine V_seq ?_ | refine V_region ?_ | refine WS_nil ?_ | refine S_normal ?_ | refine WS_assign ?_ | refine WS_load_agg ?_ | refine WS_box_agg rfl ?_ | refine WS_alloc ?_)
  obtain ⟨H1, hH1⟩ : ∃ H, H = h.push (IObj.cells [Value.int IntKind.i64 M, Value.slice a la ca] 27 true) := ⟨_, rfl⟩
  have f1 : H1.fresh = h.fresh + 2 := by rw [hH1, push_fresh]
  have e1 : Ext h H1 := hH1 ▸ Ext.push _ _
  have p1 : ObjIs H1 h.fresh [.int .i64 M, .slice a la ca] 27 true := hH1 ▸ inferInstance
  rw [← hH1]
  obtain ⟨H2, hH2⟩ : ∃ H, H = H1.push (IObj.cells [Value.int IntKind.i64 N, Value.slice b lb cb] 27 true) := ⟨_, rfl⟩
  have f2 : H2.fresh = h.fresh + 4 := by rw [hH2, push_fresh, f1]
  have e2 : Ext H1 H2 := hH2 ▸ Ext.push _ _
  have p2 : ObjIs H2 H1.fresh [.int .i64 N, .slice b lb cb] 27 true := hH2 ▸ inferInstance
  rw [← hH2]
  obtain ⟨H3, hH3⟩ : ∃ H, H = H2.push (IObj.cells [Value.int IntKind.i64 0, Value.slice none 0 0] 27 true) := ⟨_, rfl⟩
  have f3 : H3.fresh = h.fresh + 6 := by rw [hH3, push_fresh, f2]
  have e3 : Ext H2 H3 := hH3 ▸ Ext.push _ _
  have p3 : ObjIs H3 H2.fresh [.int .i64 0, .slice none 0 0] 27 true := hH3 ▸ inferInstance
  rw [← hH3]
  have e13 : Ext h H3 := (e1.trans e2).trans e3
  have q1 : ObjIs H3 h.fresh [.int .i64 M, .slice a la ca] 27 true := inferInstance
  have q2 : ObjIs H3 H1.fresh [.int .i64 N, .slice b lb cb] 27 true := inferInstance
  refine WS_call (Check_spec M a la ca xs _ (hx.ext e13) hx64) ?_
  rintro _ H4 ⟨rfl, e4⟩
  have r1 : ObjIs H4 h.fresh [.int .i64 M, .slice a la ca] 27 true := inferInstance
  have r2 : ObjIs H4 H1.fresh [.int .i64 N, .slice b lb cb] 27 true := inferInstance
  have r3 : ObjIs H4 H2.fresh [.int .i64 0, .slice none 0 0] 27 true := inferInstance
  have e14 : Ext h H4 := e13.trans e4
  have g4 := e4.fresh
  have n02 : NeB h.fresh H2.fresh := .fresh (by omega)
  have n12 : NeB H1.fresh H2.fresh := .fresh (by omega)
  repeat' (first | refine V_seq ?_ | refine V_region ?_ | refine WS_nil ?_ | refine S_normal ?_ | refine V_ret ?_ | refine S_ret ?_ | refine WS_off rfl (by first | rfl | assumption) ?_ | refine WS_on rfl (by first | rfl | assumption) ?_ | refine WS_move ?_ | refine WS_assign ?_ | refine WS_pick_t (by first | rfl | assumption) ?_ | refine WS_cmp rfl ?_ | refine WS_load_agg ?_ | refine WS_build ?_ | refine WS_store rfl ?_ | (refine WS_guard rfl ?_ ?_ <;> intro hg) | (refine V_cond ?_ ?_ <;> intro hc <;> try (cases hc; done)))
  · have hck : checkS M xs = 0 := by simpa using hg
    refine WS_call (Check_spec N b lb cb ys _ (hy.ext e14) hy64) ?_
    rintro _ H5 ⟨rfl, e5⟩
    have s1 : ObjIs H5 h.fresh [.int .i64 M, .slice a la ca] 27 true := inferInstance
    have s2 : ObjIs H5 H1.fresh [.int .i64 N, .slice b lb cb] 27 true := inferInstance
    have s3 : ObjIs H5 H2.fresh [.int .i64 0, .slice none 0 0] 27 true := inferInstance
    have e15 : Ext h H5 := e14.trans e5
    have g5 := e5.fresh
    repeat' (first | refine V_seq ?_ | refine V_region ?_ | refine WS_nil ?_ | refine S_normal ?_ | refine V_skip ?_ | refine V_ret ?_ | refine S_ret ?_ | refine WS_off rfl (by first | rfl | assumption) ?_ | refine WS_on rfl (by first | rfl | assumption) ?_ | refine WS_move ?_ | refine WS_assign ?_ | refine WS_pick_t (by first | rfl | assumption) ?_ | refine WS_pick_f (by first | rfl | assumption) ?_ | refine WS_cmp rfl ?_ | refine WS_fieldAddr ?_ | refine WS_load ?_ | refine WS_build ?_ | refine WS_alloc ?_ | refine WS_store rfl ?_ | (refine WS_guard rfl ?_ ?_ <;> intro hg) | (refine V_cond ?_ ?_ <;> intro hc <;> try (cases hc; done)))
    · refine retK_ct ⟨e15.putObj (by omega), ?_⟩ (.inr rfl)
      rw [if_neg]
      rintro ⟨_, _, rfl⟩
      simp at hc
    · have hck2 : checkS N ys = 0 := by simp_all
      have hMN : M = N := by simpa using hc
      subst hMN
      obtain ⟨hN0, hN1, hN2, hbx⟩ := checkS_zero hck
      obtain ⟨_, _, hN3, hby⟩ := checkS_zero hck2
      obtain ⟨H6, hH6⟩ : ∃ H, H = ((H5.push (IObj.cells [Value.int IntKind.i64 0, Value.slice none 0 0] 27 true)).put H5.fresh [Value.int IntKind.i64 M, Value.slice none 0 0] 27 true) := ⟨_, rfl⟩
      have e6 : Ext H5 H6 := hH6 ▸ (Ext.push _ _).putObj (Nat.le_refl _)
      have u5 : ObjIs H6 H5.fresh [Value.int IntKind.i64 M, Value.slice none 0 0] 27 true := hH6 ▸ inferInstance
      have f6 : H6.fresh = H5.fresh + 2 := by rw [hH6, putObj_fresh, push_fresh]
      rw [← hH6]
      repeat' (first | refine WS_nil ?_ | refine S_normal ?_ | refine V_block ?_ | refine WS_move ?_ | refine WS_len_slice ?_ | refine WS_load ?_)
      have n25 : NeB H2.fresh H5.fresh := .fresh (by omega)
      have n52 : NeB H5.fresh H2.fresh := n25.symm
      have n05 : NeB h.fresh H5.fresh := .fresh (by omega)
      have n15 : NeB H1.fresh H5.fresh := .fresh (by omega)
      refine V_loop (fun d s h' => ∃ (i : Int) (sl : Value), d = (la - i).toNat ∧ 0 ≤ i ∧ i ≤ la ∧ Get s 33 (.int .i64 i) ∧ Get s 32 (.int .i64 la) ∧ Get s 31 (.slice a la ca) ∧ Get s 3 (.pointer (some (ad H1.fresh 0))) ∧ Get s 4 (.pointer (some (ad H2.fresh 0))) ∧ Get s 6 (.pointer (some (ad H5.fresh 0))) ∧ Ext H5 h' ∧ ObjIs h' H5.fresh [.int .i64 M, sl] 27 true ∧ Lst H6.fresh h' sl (u64s (mulS xs ys i.toNat)) 28) la
        ⟨0, .slice none 0 0, by omega, by omega, by omega, inferInstance, inferInstance, inferInstance, inferInstance, inferInstance, inferInstance, e6, inferInstance, .inl ⟨rfl, rfl⟩⟩ ?_
      rintro d s h' ⟨i, sl, rfl, hi0, hi1, y33, y32, y31, y3, y4, y6, eX, p5, hL⟩
      have w2 : ObjIs h' H1.fresh [.int .i64 M, .slice b lb cb] 27 true := ⟨s2.even, eX.new _ _ s2.eq⟩
      have w3 : ObjIs h' H2.fresh [.int .i64 0, .slice none 0 0] 27 true := ⟨s3.even, eX.new _ _ s3.eq⟩
      have slX : SlIs h' a la ca (u64s xs) := hx.ext (e15.trans eX)
      have slY : SlIs h' b lb cb (u64s ys) := hy.ext (e15.trans eX)
      repeat' (first | refine V_seq ?_ | refine V_region ?_ | refine WS_nil ?_ | refine S_normal ?_ | refine V_block ?_ | refine V_skip ?_ | refine V_exit ?_ | refine S_exit ?_ | refine B_exit ?_ | refine WS_cmp rfl ?_ | refine WS_load_agg ?_ | (refine V_cond ?_ ?_ <;> intro hc <;> try (cases hc; done)))
      · have hi : i < la := by simpa using hc
        obtain ⟨b1, v, rfl, hv, c2⟩ := slX.at hi0 hi
        obtain ⟨r, rfl, hr⟩ := u64s_at hv
        have hr64 := hx64 r (List.mem_of_getElem? hr)
        repeat' (first | refine V_seq ?_ | refine V_region ?_ | refine WS_nil ?_ | refine S_normal ?_ | refine V_block ?_ | refine WS_move ?_ | refine WS_assign ?_ | refine WS_len_slice ?_ | refine WS_fieldAddr ?_ | refine WS_load ?_ | refine WS_indexAddr (by first | decide | omega) ?_)
        refine V_loop (fun d s h'' => ∃ (j : Int), d = (lb - j).toNat ∧ 0 ≤ j ∧ j ≤ lb ∧ Get s 40 (.int .i64 j) ∧ Get s 39 (.int .i64 lb) ∧ Get s 8 (.int .u64 r) ∧ Get s 33 (.int .i64 i) ∧ Get s 32 (.int .i64 la) ∧ Get s 31 (.slice (some b1) la ca) ∧ Get s 3 (.pointer (some (ad H1.fresh 0))) ∧ Get s 4 (.pointer (some (ad H2.fresh 0))) ∧ Get s 6 (.pointer (some (ad H5.fresh 0))) ∧ h'' = h' ∧ Get s 9 (.int .u64 (mulRow r ys j.toNat : Nat))) lb
          ⟨0, by omega, by omega, by omega, inferInstance, inferInstance, inferInstance, inferInstance, inferInstance, inferInstance, inferInstance, inferInstance, inferInstance, rfl, inferInstanceAs (Get _ 9 (.int .u64 (0 : Int)))⟩ ?_
        rintro d s h'' ⟨j, rfl, hj0, hj1, z40, z39, z8, z33, z32, z31, z3, z4, z6, rfl, z9⟩
        repeat' (first | refine V_seq ?_ | refine V_region ?_ | refine WS_nil ?_ | refine S_normal ?_ | refine V_block ?_ | refine B_normal ?_ | refine V_skip ?_ | refine V_exit ?_ | refine S_exit ?_ | refine B_exit ?_ | refine WS_move ?_ | refine WS_assign ?_ | refine WS_cmp rfl ?_ | refine WS_addi (by omega) ?_ | refine WS_arith rfl ?_ | refine WS_fieldAddr ?_ | refine WS_load ?_ | refine WS_shift (by first | decide | omega) rfl ?_ | refine WS_buildSlice (by decide) rfl rfl (by simp [Value.cells]) ?_ | (refine V_cond ?_ ?_ <;> intro hc <;> try (cases hc; done)))
        · rename_i hcj
          have hj : j < lb := by simp at hcj; omega
          rw [shr_u64 hj0 hr64, and1_u64 (shr_lt _ hr64)] at hc
          obtain ⟨b2, w, rfl, hw, c3⟩ := slY.at hj0 hj
          obtain ⟨q, rfl, hq⟩ := u64s_at hw
          have hq64 := hy64 q (List.mem_of_getElem? hq)
          repeat' (first | refine V_region ?_ | refine WS_nil ?_ | refine S_normal ?_ | refine B_normal ?_ | refine WS_move ?_ | refine WS_assign ?_ | refine WS_addi (by omega) ?_ | refine WS_arith rfl ?_ | refine WS_load ?_ | refine WS_indexAddr (by first | decide | omega) ?_)
          rw [xor_u64 (mulRow_lt hy64 _) hq64]
          refine ⟨_, ?_, j + 1, rfl, by omega, by omega, inferInstance, inferInstance, inferInstance, inferInstance, inferInstance, inferInstance, inferInstance, inferInstance, inferInstance, rfl, ?_⟩
          · omega
          · rw [toNat_succ hj0]
            have : mulRow r ys (j.toNat + 1) = mulRow r ys j.toNat ^^^ q := by
              have h1 : r >>> j.toNat &&& 1 = 1 := Int.ofNat_inj.mp (show ((r >>> j.toNat &&& 1 : Nat) : Int) = ((1 : Nat) : Int) from of_decide_eq_true hc)
              simp only [mulRow, xorK, List.getD_eq_getElem?_getD, hq, Option.getD_some, h1, if_true]
            rw [this]; infer_instance
        · rename_i hcj
          have hj : j < lb := by simp at hcj; omega
          rw [shr_u64 hj0 hr64, and1_u64 (shr_lt _ hr64)] at hc
          refine ⟨_, ?_, j + 1, rfl, by omega, by omega, inferInstance, inferInstance, inferInstance, inferInstance, inferInstance, inferInstance, inferInstance, inferInstance, inferInstance, rfl, ?_⟩
          · omega
          · rw [toNat_succ hj0]
            have : mulRow r ys (j.toNat + 1) = mulRow r ys j.toNat := by
              have h1 : ¬ r >>> j.toNat &&& 1 = 1 := fun hh => of_decide_eq_false hc (congrArg (Nat.cast (R := Int)) hh)
              simp only [mulRow, xorK, h1, if_false, Nat.xor_zero]
            rw [this]; infer_instance
        · have hj : j = lb := by simp at hc; omega
          subst hj
          obtain ⟨a', rfl⟩ := hL.isSlice
          skip
          refine WS_append1 (lo := H6.fresh) (hL.ext (Ext.push _ _)) (by rw [push_fresh]; have := eX.fresh; have := p5.lt; omega) (by rw [mulS_len (by omega)]; omega) ?_
          intro v' h2 hL2 m2 hb
          have l5 := p5.lt
          have k5 : ObjIs h2 H5.fresh _ 27 true := m2.obj inferInstance (hL.notBlk (by omega))
          have e9 : Ext H5 h2 := m2.ext (eX.push' _) ((hL.ext (Ext.push _ _)).lower (by omega))
          rw [push_fresh] at hb
          obtain ⟨a'', rfl⟩ := hL2.isSlice
          repeat' (first | refine V_region ?_ | refine WS_nil ?_ | refine S_normal ?_ | refine B_normal ?_ | refine WS_move ?_ | refine WS_addi (by omega) ?_ | refine WS_fieldAddr ?_ | refine WS_store rfl ?_)
          refine ⟨_, ?_, i + 1, _, rfl, by omega, by omega, inferInstance, inferInstance, inferInstance, inferInstance, inferInstance, inferInstance, e9.putObj (Nat.le_refl _), inferInstance, ?_⟩
          · omega
          · rw [toNat_succ hi0, mulS_succ hr, hly]
            simp only [Int.toNat_natCast] at hL2 ⊢
            exact hL2.put (b := H5.fresh) (hL2.notBlk (by omega)) p5.even
      · have hi : i = la := by simp at hc; omega
        subst hi
        obtain ⟨a', rfl⟩ := hL.isSlice
        repeat' (first | refine WS_nil ?_ | refine S_normal ?_ | refine V_ret ?_ | refine WS_assign ?_ | refine WS_store rfl ?_)
        refine retK_ct ⟨(e15.trans eX).putObj (by omega), ?_⟩ (.inr rfl)
        rw [if_pos ⟨hck, hck2, rfl⟩]
        simp only [Int.toNat_natCast] at hL ⊢
        rw [hlx]
        exact ⟨_, rfl, (hL.put (b := H2.fresh) (hL.notBlk (by omega)) w3.even).lower (by omega)⟩
    · refine retK_ct ⟨e15.putObj (by omega), ?_⟩ (.inr rfl)
      rw [if_neg]
      rintro ⟨_, h2, _⟩
      simp_all
  · refine retK_ct ⟨e14.putObj (by omega), ?_⟩ (.inr rfl)
    rw [if_neg]
    rintro ⟨h2, _, _⟩
    simp_all
instance : CallIs Try.prog 13 := .of Try.func13 rfl rfl
end Go.Ideal

-- Pb
set_option linter.unusedSimpArgs false
set_option linter.unusedVariables false
namespace Go.Ideal
open Go Go.Proofs
/-! ### Parities of bits -/
def xorB (f : Nat → Bool) : Nat → Bool
  | 0 => false
  | k + 1 => (xorB f k) ^^ (f k)
theorem xorB_congr {f g : Nat → Bool} : ∀ k, (∀ j, j < k → f j = g j) → xorB f k = xorB g k := by
  intro k
  induction k with
  | zero => intro _; rfl
  | succ k ih => intro h; simp only [xorB, ih fun j hj => h j (by omega), h k (by omega)]
theorem xorB_more {f : Nat → Bool} {n : Nat} : ∀ m, n ≤ m → (∀ j, n ≤ j → f j = false) → xorB f m = xorB f n := by
  intro m hm hf
  induction hm with
  | refl => rfl
  | step hm ih => rw [xorB, ih, hf _ hm]; simp
theorem testBit_xorK (f : Nat → Nat) (b : Nat) : ∀ k, (xorK f k).testBit b = xorB (fun j => (f j).testBit b) k := by
  intro k
  induction k with
  | zero => simp [xorK, xorB]
  | succ k ih => simp only [xorK, xorB, Nat.testBit_xor, ih]
theorem bit_testBit (x k : Nat) : (x >>> k) &&& 1 = (x.testBit k).toNat := by
  rw [Nat.testBit_eq_decide_div_mod_eq, Nat.shiftRight_eq_div_pow, Nat.and_one_is_mod]
  rcases Nat.mod_two_eq_zero_or_one (x / 2 ^ k) with h | h <;> simp [h]
theorem oddK_bits (x : Nat) : ∀ k, oddK x k = (xorB (fun i => x.testBit i) k).toNat := by
  intro k
  induction k with
  | zero => rfl
  | succ k ih =>
    rw [oddK, ih, bit_testBit, xorB]
    cases xorB (fun i => x.testBit i) k <;> cases x.testBit k <;> rfl
theorem testBit_orK {f : Nat → Nat} (b : Nat) : ∀ k, (∀ j, f j ≤ 1) → (orK f k).testBit b = (decide (b < k) && decide (f b = 1)) := by
  intro k
  induction k with
  | zero => intro _; simp [orK]
  | succ k ih =>
    intro hf
    rw [orK, Nat.testBit_or, ih hf, Nat.testBit_shiftLeft]
    by_cases hb : b < k
    · have : ¬ b ≥ k := by omega
      simp [hb, this, show b < k + 1 by omega]
    · by_cases hk : b = k
      · subst hk
        have h1 := hf b
        have : f b = 0 ∨ f b = 1 := by omega
        rcases this with h | h <;> simp [h]
      · have h1 := hf k
        have h2 : (f k).testBit (b - k) = false := Nat.testBit_lt_two_pow (Nat.lt_of_le_of_lt h1 (by
          have : 2 ^ 1 ≤ 2 ^ (b - k) := Nat.pow_le_pow_right (by decide) (by omega)
          omega))
        simp [hb, h2, show ¬ b < k + 1 by omega]
end Go.Ideal

-- Pc
set_option linter.unusedSimpArgs false
set_option linter.unusedVariables false
namespace Go.Ideal
open Go Go.Proofs
theorem toNat_eq_one (b : Bool) : (decide (b.toNat = 1)) = b := by cases b <;> rfl
theorem mulRow_bits {r : Nat} {ys : List Nat} {n b : Nat} : (mulRow r ys n).testBit b = xorB (fun j => r.testBit j && (ys.getD j 0).testBit b) n := by
  rw [mulRow, testBit_xorK]
  refine xorB_congr n fun j _ => ?_
  rw [bit_testBit]
  cases r.testBit j
  · simp
  · simp
theorem below_lt {N : Int} {x : Nat} (h0 : 0 ≤ N) (hx : x < 2 ^ 64) (h : belowS N x = true) : x < 2 ^ N.toNat := by
  simp only [belowS, Bool.or_eq_true, decide_eq_true_eq] at h
  rcases h with h | h
  · exact Nat.lt_of_lt_of_le hx (Nat.pow_le_pow_right (by decide) (by omega))
  · rw [Nat.shiftRight_eq_div_pow] at h
    exact (Nat.div_eq_zero_iff_lt (Nat.pow_pos (by decide))).1 h
end Go.Ideal

-- Lg
set_option linter.unusedSimpArgs false
set_option linter.unusedVariables false
namespace Go.Ideal
open Go Go.Proofs
/-! ### OnesCount64, as it reckons -/
def pop1 (x : Nat) : Nat := (((x >>> 1) &&& 6148914691236517205) + (x &&& 6148914691236517205)) % 2 ^ 64
def pop2 (x : Nat) : Nat := (((x >>> 2) &&& 3689348814741910323) + (x &&& 3689348814741910323)) % 2 ^ 64
def pop3 (x : Nat) : Nat := (((x >>> 4) + x) % 2 ^ 64) &&& 1085102592571150095
def pop4 (n x : Nat) : Nat := (x + (x >>> n)) % 2 ^ 64
def popS (x : Nat) : Nat := pop4 32 (pop4 16 (pop4 8 (pop3 (pop2 (pop1 x))))) &&& 127
theorem wrap_u64_nat (a : Nat) : IntKind.u64.wrap (a : Int) = (a % 2 ^ 64 : Nat) := by
  simp only [IntKind.wrap, IntKind.bits, IntKind.signed]; simp
theorem shr_c {a n : Nat} (ha : a < 2 ^ 64) (hn : n ≤ 64) : ((a : Int)).fdiv (2 ^ min (Int.toNat (n : Int)) IntKind.u64.bits) = (a >>> n : Nat) := by
  have := shr_u64 (a := a) (n := (n : Int)) (by omega) ha
  simpa using this
theorem and_i64 {a b : Nat} (ha : a < 2 ^ 64) (hb : b < 2 ^ 63) : ibits .and .i64 (IntKind.i64.wrap a) b = (a &&& b : Nat) := by
  show IntKind.i64.wrap (((BitVec.ofInt IntKind.i64.bits (IntKind.i64.wrap a)) &&& (BitVec.ofInt IntKind.i64.bits (b : Int))).toNat : Int) = _
  have h1 : (BitVec.ofInt IntKind.i64.bits (IntKind.i64.wrap a)).toNat = a := by
    have hb : IntKind.i64.bits = 64 := rfl
    simp only [BitVec.toNat_ofInt, hb]
    simp only [IntKind.wrap, IntKind.bits, IntKind.signed]
    simp; omega
  have h2 : (BitVec.ofInt IntKind.i64.bits (b : Int)).toNat = b := by
    have hb : IntKind.i64.bits = 64 := rfl
    simp only [BitVec.toNat_ofInt, hb]
    omega
  rw [BitVec.toNat_and, h1, h2]
  have := Nat.and_lt_two_pow a hb
  exact wrap_i64_id (by omega)
theorem pop1_lt (x : Nat) : pop1 x < 2 ^ 64 := Nat.mod_lt _ (by decide)
theorem pop2_lt (x : Nat) : pop2 x < 2 ^ 64 := Nat.mod_lt _ (by decide)
theorem pop3_lt (x : Nat) : pop3 x < 2 ^ 64 := Nat.and_lt_two_pow _ (by decide)
theorem pop4_lt (n x : Nat) : pop4 n x < 2 ^ 64 := Nat.mod_lt _ (by decide)
theorem OnesCount_spec (x : Nat) (hx : x < 2 ^ 64) (h : IHp) : EvX Try.prog 64 [.int .u64 x].toArray h (fun v h' => v = .int .i64 (popS x : Nat) ∧ h' = h) := by
  refine EvX_of Try.func64 rfl (by show 1 ≤ 35; decide) ?_
  repeat' (first | refine V_seq ?_ | refine V_region ?_ | refine WS_nil ?_ | refine S_normal ?_ | refine V_ret ?_ | refine WS_move ?_ | refine WS_assign ?_ | refine WS_arith rfl ?_ | refine WS_convert ?_ | refine WS_shift (by first | decide | omega) rfl ?_)
  refine retK_1 ⟨?_, rfl⟩ (.inr rfl)
  have st1 : ∀ x : Nat, x < 2 ^ 64 → IntKind.u64.wrap (ibits .and .u64 ((x : Int).fdiv (2 ^ min (1 : Int).toNat IntKind.u64.bits)) 6148914691236517205 + ibits .and .u64 (x : Int) 6148914691236517205) = (pop1 x : Nat) := by
    intro x hx
    have a1 : ibits .and .u64 ((x : Int).fdiv (2 ^ min (1 : Int).toNat IntKind.u64.bits)) 6148914691236517205 = ((x >>> 1 &&& 6148914691236517205 : Nat) : Int) := by
      rw [show (1 : Int) = ((1 : Nat) : Int) from rfl, shr_c hx (by decide)]; exact and_u64 (b := 6148914691236517205) (shr_lt _ hx) (by decide)
    have a2 : ibits .and .u64 (x : Int) 6148914691236517205 = ((x &&& 6148914691236517205 : Nat) : Int) := and_u64 (b := 6148914691236517205) hx (by decide)
    rw [a1, a2, ← Int.natCast_add, wrap_u64_nat]; rfl
  have st2 : ∀ x : Nat, x < 2 ^ 64 → IntKind.u64.wrap (ibits .and .u64 ((x : Int).fdiv (2 ^ min (2 : Int).toNat IntKind.u64.bits)) 3689348814741910323 + ibits .and .u64 (x : Int) 3689348814741910323) = (pop2 x : Nat) := by
    intro x hx
    have a1 : ibits .and .u64 ((x : Int).fdiv (2 ^ min (2 : Int).toNat IntKind.u64.bits)) 3689348814741910323 = ((x >>> 2 &&& 3689348814741910323 : Nat) : Int) := by
      rw [show (2 : Int).toNat = ((2 : Nat) : Int).toNat from rfl, shr_c hx (by decide)]; exact and_u64 (b := 3689348814741910323) (shr_lt _ hx) (by decide)
    have a2 : ibits .and .u64 (x : Int) 3689348814741910323 = ((x &&& 3689348814741910323 : Nat) : Int) := and_u64 (b := 3689348814741910323) hx (by decide)
    rw [a1, a2, ← Int.natCast_add, wrap_u64_nat]; rfl
  have st3 : ∀ x : Nat, x < 2 ^ 64 → ibits .and .u64 (IntKind.u64.wrap ((x : Int).fdiv (2 ^ min (4 : Int).toNat IntKind.u64.bits) + (x : Int))) 1085102592571150095 = (pop3 x : Nat) := by
    intro x hx
    rw [show (4 : Int).toNat = ((4 : Nat) : Int).toNat from rfl, shr_c hx (by decide), ← Int.natCast_add, wrap_u64_nat]
    exact and_u64 (b := 1085102592571150095) (Nat.mod_lt _ (by decide)) (by decide)
  have st8 : ∀ x : Nat, x < 2 ^ 64 → IntKind.u64.wrap ((x : Int) + (x : Int).fdiv (2 ^ min (8 : Int).toNat IntKind.u64.bits)) = (pop4 8 x : Nat) := by
    intro x hx
    rw [show (8 : Int).toNat = ((8 : Nat) : Int).toNat from rfl, shr_c hx (by decide), ← Int.natCast_add, wrap_u64_nat]; rfl
  have st16 : ∀ x : Nat, x < 2 ^ 64 → IntKind.u64.wrap ((x : Int) + (x : Int).fdiv (2 ^ min (16 : Int).toNat IntKind.u64.bits)) = (pop4 16 x : Nat) := by
    intro x hx
    rw [show (16 : Int).toNat = ((16 : Nat) : Int).toNat from rfl, shr_c hx (by decide), ← Int.natCast_add, wrap_u64_nat]; rfl
  have st32 : ∀ x : Nat, x < 2 ^ 64 → IntKind.u64.wrap ((x : Int) + (x : Int).fdiv (2 ^ min (32 : Int).toNat IntKind.u64.bits)) = (pop4 32 x : Nat) := by
    intro x hx
    rw [show (32 : Int).toNat = ((32 : Nat) : Int).toNat from rfl, shr_c hx (by decide), ← Int.natCast_add, wrap_u64_nat]; rfl
  rw [st1 x hx, st2 _ (pop1_lt _), st3 _ (pop2_lt _), st8 _ (pop3_lt _), st16 _ (pop4_lt _ _), st32 _ (pop4_lt _ _)]
  exact congrArg (Value.int .i64) (and_i64 (b := 127) (pop4_lt _ _) (by decide))
instance : CallIs Try.prog 64 := .of Try.func64 rfl rfl

def applyP (n : Nat) (xs : List Nat) (x : Nat) : Nat := orK (fun i => popS (xs.getD i 0 &&& x) &&& 1) n
theorem popS_lt (x : Nat) : popS x < 2 ^ 7 := Nat.and_lt_two_pow _ (by decide)
theorem Apply_spec (N : Int) (a : Option Addr) (len cap : Nat) (xs : List Nat) (x : Nat) (hx64 : x < 2 ^ 64) (h : IHp) (hx : SlIs h a len cap (u64s xs)) (h64 : ∀ x ∈ xs, x < 2 ^ 64) :
    EvX Try.prog 20 [.agg [.int .i64 N, .slice a len cap].toArray, .int .u64 x].toArray h (fun v h' => Ext h h' ∧ v = if checkS N xs = 0 ∧ belowS N x = true then .tuple [.int .u64 (applyP N.toNat xs x : Nat), .int .i64 0].toArray else .tuple [.int .u64 0, .int .i64 2].toArray) := by
  have hlen : xs.length = len := by have := hx.1; simpa [u64s] using this
  refine EvX_of Try.func20 rfl (by show 2 ≤ 39; decide) ?_
  repeat' (first | refine V_seq ?_ | refine V_region ?_ | refine WS_nil ?_ | refine S_normal ?_ | refine WS_assign ?_ | refine WS_load_agg ?_ | refine WS_box_agg rfl ?_)
  have eX0 : Ext h (h.push (IObj.cells [Value.int IntKind.i64 N, Value.slice a len cap] 27 true)) := Ext.push _ _
  refine WS_call (Check_spec N a len cap xs _ (hx.ext eX0) h64) ?_
  rintro _ H ⟨rfl, eX1⟩
  have eX : Ext h H := eX0.trans eX1
  have c0 : CellIs H h.fresh (0 + 0) (.int .i64 N) := ⟨cell_ext eX1 (inferInstance : CellIs (h.push (IObj.cells [Value.int IntKind.i64 N, Value.slice a len cap] 27 true)) h.fresh (0 + 0) _).eq⟩
  have c1 : CellIs H h.fresh (0 + 1) (.slice a len cap) := ⟨cell_ext eX1 (inferInstance : CellIs (h.push (IObj.cells [Value.int IntKind.i64 N, Value.slice a len cap] 27 true)) h.fresh (0 + 1) _).eq⟩
  repeat' (first | refine V_seq ?_ | refine V_region ?_ | refine WS_nil ?_ | refine S_normal ?_ | refine V_ret ?_ | refine S_ret ?_ | refine WS_off rfl (by first | rfl | assumption) ?_ | refine WS_on rfl (by first | rfl | assumption) ?_ | refine WS_move ?_ | refine WS_assign ?_ | refine WS_pick_t (by first | rfl | assumption) ?_ | refine WS_cmp rfl ?_ | refine WS_fieldAddr ?_ | refine WS_load ?_ | (refine WS_guard rfl ?_ ?_ <;> intro hg) | (refine V_cond ?_ ?_ <;> intro hc <;> try (cases hc; done)))
  · have hck : checkS N xs = 0 := by simpa using hg
    have hN : 0 ≤ N ∧ N ≤ 64 ∧ (len : Int) = N := by
      obtain ⟨h1, h2, h3, _⟩ := checkS_zero hck
      omega
    refine WS_call (below_spec x hx64 N (by omega) _) ?_
    rintro _ H ⟨rfl, rfl⟩
    repeat' (first | refine V_seq ?_ | refine V_region ?_ | refine WS_nil ?_ | refine S_normal ?_ | refine V_block ?_ | refine V_skip ?_ | refine V_ret ?_ | refine S_ret ?_ | refine WS_on rfl (by first | rfl | assumption) ?_ | refine WS_move ?_ | refine WS_assign ?_ | refine WS_pick_f (by first | rfl | assumption) ?_ | refine WS_not ?_ | refine WS_len_slice ?_ | refine WS_fieldAddr ?_ | refine WS_load ?_ | (refine V_cond ?_ ?_ <;> intro hc <;> try (cases hc; done)))
    · refine retK_2 ⟨eX, ?_⟩ (.inr rfl)
      rw [if_neg]
      simp at hc; simp [hc]
    · have hbl : belowS N x = true := by simpa using hc
      refine V_loop (fun d s h' => ∃ i : Int, d = (N - i).toNat ∧ 0 ≤ i ∧ i ≤ N ∧ Get s 22 (.int .i64 i) ∧ Get s 21 (.int .i64 len) ∧ Get s 20 (.slice a len cap) ∧ Get s 1 (.int .u64 x) ∧ h' = H ∧ Get s 6 (.int .u64 (applyP i.toNat xs x : Nat))) N.toNat ⟨0, by omega, by omega, by omega, inferInstance, inferInstance, inferInstance, inferInstance, rfl, inferInstanceAs (Get _ 6 (.int .u64 (0 : Int)))⟩ ?_
      rintro d s h' ⟨i, rfl, hi0, hi1, g22, g21, g20, g1, rfl, g6⟩
      repeat' (first | refine V_seq ?_ | refine V_region ?_ | refine WS_nil ?_ | refine S_normal ?_ | refine V_block ?_ | refine V_skip ?_ | refine V_exit ?_ | refine V_ret ?_ | refine S_exit ?_ | refine B_exit ?_ | refine WS_move ?_ | refine WS_assign ?_ | refine WS_cmp rfl ?_ | (refine V_cond ?_ ?_ <;> intro hc <;> try (cases hc; done)))
      · have hi : i < len := by simpa using hc
        obtain ⟨b, v, rfl, hv, c2⟩ := (hx.ext eX).at hi0 hi
        obtain ⟨r, rfl, hr⟩ := u64s_at hv
        have hr64 := h64 r (List.mem_of_getElem? hr)
        repeat' (first | refine V_region ?_ | refine WS_nil ?_ | refine S_normal ?_ | refine WS_move ?_ | refine WS_assign ?_ | refine WS_arith rfl ?_ | refine WS_load ?_ | refine WS_indexAddr (by first | decide | omega) ?_)
        rw [and_u64 hr64 hx64]
        have hand := Nat.and_lt_two_pow r hx64
        refine WS_call (OnesCount_spec (r &&& x) hand _) ?_
        rintro _ h' ⟨rfl, rfl⟩
        have hpop := popS_lt (r &&& x)
        have hb : ibits .and .i64 (popS (r &&& x) : Nat) 1 = (popS (r &&& x) &&& 1 : Nat) := by
          have := and_i64 (a := popS (r &&& x)) (b := 1) (by omega) (by decide)
          rw [wrap_i64_id (by omega)] at this; exact this
        repeat' (first | refine V_region ?_ | refine WS_nil ?_ | refine S_normal ?_ | refine B_normal ?_ | refine WS_move ?_ | refine WS_assign ?_ | refine WS_addi (by omega) ?_ | refine WS_arith rfl ?_ | refine WS_convert ?_ | refine WS_shift (by first | decide | omega) rfl ?_)
        have hodd : popS (r &&& x) &&& 1 ≤ 1 := bit_le _
        have hlt : applyP i.toNat xs x < 2 ^ 64 := Nat.lt_of_lt_of_le (orK_lt _ fun _ _ => bit_le _) (Nat.pow_le_pow_right (by decide) (by omega))
        rw [hb, wrap_u64_id (z := ((popS (r &&& x) &&& 1 : Nat) : Int)) (by omega) (by omega), shl_bit hodd hi0 (by omega), or_u64 hlt (bit_shl_lt hodd (by omega))]
        refine ⟨_, ?_, i + 1, rfl, by omega, by omega, inferInstance, inferInstance, inferInstance, inferInstance, rfl, ?_⟩
        · omega
        · rw [toNat_succ hi0]
          have : applyP (i.toNat + 1) xs x = applyP i.toNat xs x ||| (popS (r &&& x) &&& 1) <<< i.toNat := by
            simp only [applyP, orK]
            rw [List.getD_eq_getElem?_getD, hr]; rfl
          rw [this]; infer_instance
      · have hi : i = N := by simp at hc; omega
        subst hi
        refine retK_2 ⟨eX, ?_⟩ (.inr rfl)
        rw [if_pos ⟨hck, hbl⟩]
  · refine retK_2 ⟨eX, ?_⟩ (.inr rfl)
    rw [if_neg]
    simp at hg; simp [hg]
instance : CallIs Try.prog 20 := .of Try.func20 rfl rfl
end Go.Ideal

-- Lh
set_option linter.unusedSimpArgs false
set_option linter.unusedVariables false
namespace Go.Ideal
open Go Go.Proofs
theorem Clone_spec (a : Option Addr) (len cap : Nat) (vs : List Value) (h : IHp) (hx : SlIs h a len cap vs) (hl : len ≤ 2 ^ 30) :
    EvX Try.prog 68 [.slice a len cap].toArray h (fun v h' => Ext h h' ∧ Own h.fresh h' v vs 28) := by
  refine EvX_of Try.func68 rfl (by show 1 ≤ 8; decide) ?_
  repeat' (first | refine V_seq ?_ | refine V_region ?_ | refine WS_nil ?_ | refine S_normal ?_ | refine V_skip ?_ | refine V_ret ?_ | refine S_ret ?_ | refine WS_move ?_ | refine WS_assign ?_ | refine WS_isnil ?_ | refine WS_buildSlice (by decide) rfl rfl (by simp [Value.cells]) ?_ | (refine V_cond ?_ ?_ <;> intro hc <;> try (cases hc; done)))
  · refine retK_1 ⟨Ext.refl h, ?_⟩ (.inr rfl)
    cases a with
    | none =>
      obtain ⟨h1, h2, h3⟩ := hx
      simp only at h3
      exact .inl ⟨rfl, List.eq_nil_of_length_eq_zero (by omega)⟩
    | some a => simp at hc
  · have e0 : Ext h (h.push (IObj.cells [] 28 true)) := Ext.push _ _
    refine WS_append_copy (lo := h.fresh) (hx.ext e0) (Nat.le_refl _) (by omega) ?_
    intro v' h' ho he
    repeat' (first | refine WS_nil ?_ | refine S_normal ?_ | refine V_ret ?_ | refine WS_assign ?_)
    exact retK_1 ⟨e0.trans he, ho⟩ (.inr rfl)
instance : CallIs Try.prog 68 := .of Try.func68 rfl rfl

/-! ### Elimination, as it goes -/
def bitAt (r j : Nat) : Bool := (r >>> j) &&& 1 = 1
/-- the first row from i on, below i + n, that has bit j -/
def findRow (rows : List Nat) (j : Nat) : Nat → Nat → Option Nat
  | _, 0 => none
  | i, n + 1 => if bitAt (rows.getD i 0) j then some i else findRow rows j (i + 1) n
def swapRows (rows : List Nat) (i k : Nat) : List Nat := (rows.set i (rows.getD k 0)).set k (rows.getD i 0)
/-- rows from k on, n of them: row r is added where bit j is -/
def addRows (j r : Nat) : Nat → Nat → List Nat → List Nat
  | _, 0, rows => rows
  | k, n + 1, rows => addRows j r (k + 1) n (if bitAt (rows.getD k 0) j then rows.set k (rows.getD k 0 ^^^ rows.getD r 0) else rows)
def rankStep (j : Nat) (st : List Nat × Nat) : List Nat × Nat :=
  match findRow st.1 j st.2 (st.1.length - st.2) with
  | none => st
  | some i => (addRows j st.2 (st.2 + 1) (st.1.length - (st.2 + 1)) (swapRows st.1 i st.2), st.2 + 1)
theorem swapRows_len (rows : List Nat) (i k : Nat) : (swapRows rows i k).length = rows.length := by simp [swapRows]
theorem addRows_len (j r : Nat) : ∀ (n k : Nat) (rows : List Nat), (addRows j r k n rows).length = rows.length := by
  intro n
  induction n with
  | zero => intro k rows; rfl
  | succ n ih => intro k rows; simp only [addRows]; rw [ih]; split <;> simp
def All64 (rows : List Nat) : Prop := ∀ x ∈ rows, x < 2 ^ 64
theorem All64.set {rows : List Nat} (h : All64 rows) {i w : Nat} (hw : w < 2 ^ 64) : All64 (rows.set i w) := fun x hx => by
  rcases List.mem_or_eq_of_mem_set hx with h1 | h1
  · exact h x h1
  · omega
theorem All64.get {rows : List Nat} (h : All64 rows) (i : Nat) : rows.getD i 0 < 2 ^ 64 := getD_lt h i
theorem All64.swap {rows : List Nat} (h : All64 rows) (i k : Nat) : All64 (swapRows rows i k) := (h.set (h.get k)).set (h.get i)
theorem All64.addRows (j r : Nat) : ∀ (n k : Nat) (rows : List Nat), All64 rows → All64 (addRows j r k n rows) := by
  intro n
  induction n with
  | zero => intro k rows h; exact h
  | succ n ih =>
    intro k rows h
    simp only [Go.Ideal.addRows]
    refine ih _ _ ?_
    split
    · exact h.set (Nat.xor_lt_two_pow (h.get k) (h.get r))
    · exact h
theorem u64s_set (rows : List Nat) (i w : Nat) : u64s (rows.set i w) = (u64s rows).set i (.int .u64 w) := by simp [u64s, List.map_set]
theorem u64s_get {rows : List Nat} {i : Nat} (hi : i < rows.length) : (u64s rows)[i]? = some (.int .u64 (rows.getD i 0 : Nat)) := by
  simp [u64s, hi, List.getD_eq_getElem?_getD]
theorem cell_u64 {h : IHp} {b i : Nat} {rows : List Nat} {t : TypeId} {x : Bool} (o : ObjIs h b (u64s rows) t x) (hi : i < rows.length) : CellIs h b (0 + i * 1) (.int .u64 (rows.getD i 0 : Nat)) := cell_at o (u64s_get hi)
theorem set_u64 {rows : List Nat} {i : Nat} (w : Nat) (hi : i < rows.length) : SetIs (u64s rows) (0 + i * 1) [.int .u64 w] (u64s (rows.set i w)) := by
  rw [u64s_set]; exact set_at _ (by simpa [u64s] using hi)
end Go.Ideal

-- Li
set_option linter.unusedSimpArgs false
set_option linter.unusedVariables false
namespace Go.Ideal
open Go Go.Proofs
theorem bit_cases (r j : Nat) : r >>> j &&& 1 = 0 ∨ r >>> j &&& 1 = 1 := by have := bit_le (r >>> j); omega
theorem swap_two {rows : List Nat} {i k : Nat} : (rows.set i (rows.getD k 0)).set k (rows.getD i 0) = swapRows rows i k := rfl
instance : CallIs Try.prog 27 := .of Try.func27 rfl rfl
end Go.Ideal

-- Lj
set_option linter.unusedSimpArgs false
set_option linter.unusedVariables false
namespace Go.Ideal
open Go Go.Proofs
theorem findRow_some {rows : List Nat} {j : Nat} : ∀ (n i k : Nat), findRow rows j i n = some k → i ≤ k ∧ k < i + n ∧ bitAt (rows.getD k 0) j = true := by
  intro n
  induction n with
  | zero => intro i k h; cases h
  | succ n ih =>
    intro i k h
    rw [findRow] at h
    split at h
    · rename_i hb; obtain rfl := Option.some.inj h; exact ⟨by omega, by omega, hb⟩
    · obtain ⟨h1, h2, h3⟩ := ih _ _ h; exact ⟨by omega, by omega, h3⟩
/-- all but two blocks are as they were -/
structure Fr2 (b c : Nat) (h h' : IHp) : Prop where
  old : h'.old = h.old
  new : ∀ (i : Nat) (o : IObj), h.new[i]? = some o → 2 * i ≠ b → 2 * i ≠ c → h'.new[i]? = some o
theorem Fr2.refl (b c : Nat) (h : IHp) : Fr2 b c h h := ⟨rfl, fun _ _ h _ _ => h⟩
theorem Fr2.obj {b c : Nat} {h h' : IHp} (f : Fr2 b c h h') {x : Nat} {l : List Value} {t : TypeId} {e : Bool} (o : ObjIs h x l t e) (h1 : x ≠ b) (h2 : x ≠ c) : ObjIs h' x l t e :=
  ⟨o.even, f.new _ _ o.eq (by have := o.even; omega) (by have := o.even; omega)⟩
theorem Fr2.ext {b c : Nat} {h h' h0 : IHp} (f : Fr2 b c h h') (e : Ext h0 h) (l1 : h0.fresh ≤ b) (l2 : h0.fresh ≤ c) : Ext h0 h' := ⟨f.old.trans e.old, fun i o hi => by
  have := (List.getElem?_eq_some_iff.1 hi).1
  unfold IHp.fresh at l1 l2
  exact f.new i o (e.new i o hi) (by omega) (by omega)⟩
instance : CallIs Try.prog 69 := .of Try.func69 rfl rfl
end Go.Ideal

-- Pa
set_option linter.unusedSimpArgs false
set_option linter.unusedVariables false
namespace Go.Ideal
open Go Go.Proofs
theorem getD_set (rows : List Nat) (i k w : Nat) (hi : i < rows.length) : (rows.set i w).getD k 0 = if k = i then w else rows.getD k 0 := by
  simp only [List.getD_eq_getElem?_getD, List.getElem?_set]
  by_cases h : i = k
  · subst h; simp [hi]
  · rw [if_neg h, if_neg (fun hh => h hh.symm)]
theorem addRows_get (j r : Nat) : ∀ (n k : Nat) (rows : List Nat), r < k → k + n ≤ rows.length → ∀ i, (addRows j r k n rows).getD i 0 = if k ≤ i ∧ i < k + n ∧ bitAt (rows.getD i 0) j = true then rows.getD i 0 ^^^ rows.getD r 0 else rows.getD i 0 := by
  intro n
  induction n with
  | zero => intro k rows _ _ i; rw [addRows, if_neg (by omega)]
  | succ n ih =>
    intro k rows hr hk i
    rw [addRows]
    by_cases hb : bitAt (rows.getD k 0) j = true
    · rw [if_pos hb, ih (k + 1) _ (by omega) (by simp; omega) i]
      rw [getD_set _ _ _ _ (by omega), getD_set _ _ _ _ (by omega), if_neg (show ¬ r = k by omega)]
      by_cases hik : i = k
      · subst hik
        rw [if_neg (by omega), if_pos rfl, if_pos ⟨Nat.le_refl _, by omega, hb⟩]
      · rw [if_neg hik]
        by_cases h2 : k + 1 ≤ i ∧ i < k + 1 + n ∧ bitAt (rows.getD i 0) j = true
        · rw [if_pos h2, if_pos ⟨by omega, by omega, h2.2.2⟩]
        · rw [if_neg h2, if_neg (by rintro ⟨a, b, c⟩; exact h2 ⟨by omega, by omega, c⟩)]
    · rw [if_neg hb, ih (k + 1) _ (by omega) (by omega) i]
      by_cases hik : i = k
      · subst hik
        rw [if_neg (by omega), if_neg (by rintro ⟨_, _, c⟩; exact hb c)]
      · by_cases h2 : k + 1 ≤ i ∧ i < k + 1 + n ∧ bitAt (rows.getD i 0) j = true
        · rw [if_pos h2, if_pos ⟨by omega, by omega, h2.2.2⟩]
        · rw [if_neg h2, if_neg (by rintro ⟨a, b, c⟩; exact h2 ⟨by omega, by omega, c⟩)]
theorem swap_get {rows : List Nat} {i k : Nat} (hi : i < rows.length) (hk : k < rows.length) (x : Nat) : (swapRows rows i k).getD x 0 = if x = k then rows.getD i 0 else if x = i then rows.getD k 0 else rows.getD x 0 := by
  rw [swapRows, getD_set _ _ _ _ (by simpa using hk), getD_set _ _ _ _ hi]
end Go.Ideal

-- Lk
set_option linter.unusedSimpArgs false
set_option linter.unusedVariables false
namespace Go.Ideal
open Go Go.Proofs
theorem All64.replicate (n : Nat) : All64 (List.replicate n 0) := fun x hx => by rw [List.eq_of_mem_replicate hx]; decide
instance : CallIs Try.prog 28 := .of Try.func28 rfl rfl
end Go.Ideal

-- Ll
set_option linter.unusedSimpArgs false
set_option linter.unusedVariables false
namespace Go.Ideal
open Go Go.Proofs
theorem eyeS_lt {n : Int} (h : n ≤ 64) : All64 (eyeS n) := fun x hx => by
  simp only [eyeS, List.mem_map, List.mem_range] at hx
  obtain ⟨i, hi, rfl⟩ := hx
  exact Nat.pow_lt_pow_right (by decide) (by omega)
theorem eyeS_length (n : Int) : (eyeS n).length = n.toNat := by simp [eyeS]
instance : CallIs Try.prog 29 := .of Try.func29 rfl rfl
end Go.Ideal
