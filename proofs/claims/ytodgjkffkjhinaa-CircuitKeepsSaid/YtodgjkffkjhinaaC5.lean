/- Part 5 of what the proof stands on: an interpreter over an ideal memory that is proved sound, steps over it, and contracts of the functions that are called. No condition: no law is claimed here. -/
import Derived.Test.YtodgjkffkjhinaaC4
import Derived.Carry
import Derived.OpenShut
-- Ca
set_option linter.unusedSimpArgs false
set_option linter.unusedVariables false
namespace Go.Ideal
open Go Go.Proofs
/-! ### What is known of the gates -/
structure KE where
  name : ByteArray
  arity : Int
  halves : Int
  cliff : Bool
  diag : Bool
  back : ByteArray
def KT : List KE := [
  ⟨(⟨#[105]⟩ : ByteArray), 1, 0, true, true, (⟨#[105]⟩ : ByteArray)⟩,
  ⟨(⟨#[120]⟩ : ByteArray), 1, 0, true, false, (⟨#[120]⟩ : ByteArray)⟩,
  ⟨(⟨#[121]⟩ : ByteArray), 1, 0, true, false, (⟨#[121]⟩ : ByteArray)⟩,
  ⟨(⟨#[122]⟩ : ByteArray), 1, 0, true, true, (⟨#[122]⟩ : ByteArray)⟩,
  ⟨(⟨#[104]⟩ : ByteArray), 1, 1, true, false, (⟨#[104]⟩ : ByteArray)⟩,
  ⟨(⟨#[115]⟩ : ByteArray), 1, 0, true, true, (⟨#[115, 100, 103]⟩ : ByteArray)⟩,
  ⟨(⟨#[115, 100, 103]⟩ : ByteArray), 1, 0, true, true, (⟨#[115]⟩ : ByteArray)⟩,
  ⟨(⟨#[116]⟩ : ByteArray), 1, 0, false, true, (⟨#[116, 100, 103]⟩ : ByteArray)⟩,
  ⟨(⟨#[116, 100, 103]⟩ : ByteArray), 1, 0, false, true, (⟨#[116]⟩ : ByteArray)⟩,
  ⟨(⟨#[118]⟩ : ByteArray), 1, 1, true, false, (⟨#[118, 100, 103]⟩ : ByteArray)⟩,
  ⟨(⟨#[118, 100, 103]⟩ : ByteArray), 1, 1, true, false, (⟨#[118]⟩ : ByteArray)⟩,
  ⟨(⟨#[119]⟩ : ByteArray), 1, 0, true, true, (⟨#[119, 100, 103]⟩ : ByteArray)⟩,
  ⟨(⟨#[119, 100, 103]⟩ : ByteArray), 1, 0, true, true, (⟨#[119]⟩ : ByteArray)⟩,
  ⟨(⟨#[99, 120]⟩ : ByteArray), 2, 0, true, false, (⟨#[99, 120]⟩ : ByteArray)⟩,
  ⟨(⟨#[99, 121]⟩ : ByteArray), 2, 0, true, false, (⟨#[99, 121]⟩ : ByteArray)⟩,
  ⟨(⟨#[99, 122]⟩ : ByteArray), 2, 0, true, true, (⟨#[99, 122]⟩ : ByteArray)⟩,
  ⟨(⟨#[99, 104]⟩ : ByteArray), 2, 1, false, false, (⟨#[99, 104]⟩ : ByteArray)⟩,
  ⟨(⟨#[99, 115]⟩ : ByteArray), 2, 0, false, true, (⟨#[99, 115, 100, 103]⟩ : ByteArray)⟩,
  ⟨(⟨#[99, 115, 100, 103]⟩ : ByteArray), 2, 0, false, true, (⟨#[99, 115]⟩ : ByteArray)⟩,
  ⟨(⟨#[115, 119, 97, 112]⟩ : ByteArray), 2, 0, true, false, (⟨#[115, 119, 97, 112]⟩ : ByteArray)⟩,
  ⟨(⟨#[105, 115, 119, 97, 112]⟩ : ByteArray), 2, 0, true, false, (⟨#[105, 115, 119, 97, 112, 100, 103]⟩ : ByteArray)⟩,
  ⟨(⟨#[105, 115, 119, 97, 112, 100, 103]⟩ : ByteArray), 2, 0, true, false, (⟨#[105, 115, 119, 97, 112]⟩ : ByteArray)⟩,
  ⟨(⟨#[99, 99, 120]⟩ : ByteArray), 3, 0, false, false, (⟨#[99, 99, 120]⟩ : ByteArray)⟩,
  ⟨(⟨#[99, 99, 122]⟩ : ByteArray), 3, 0, false, true, (⟨#[99, 99, 122]⟩ : ByteArray)⟩,
  ⟨(⟨#[99, 115, 119, 97, 112]⟩ : ByteArray), 3, 0, false, false, (⟨#[99, 115, 119, 97, 112]⟩ : ByteArray)⟩]
def krow (e : KE) (c : Value) : ByteArray × Value := (e.name, .agg [.int .i64 e.arity, .int .i64 e.halves, .bool e.cliff, .bool e.diag, .string e.back, c].toArray)
def kOf (b : ByteArray) : Option KE := KT.find? fun e => beqS b e.name
def arityS (b : ByteArray) : Int := match kOf b with | some e => e.arity | none => 0
def halvesS (b : ByteArray) : Int := match kOf b with | some e => e.halves | none => 0
def cliffS (b : ByteArray) : Bool := match kOf b with | some e => e.cliff | none => false
def diagS (b : ByteArray) : Bool := match kOf b with | some e => e.diag | none => false
def backS (b : ByteArray) : ByteArray × Int := match kOf b with | some e => (e.back, 0) | none => (⟨#[]⟩, 80)
def IsFn (v : Value) : Prop := ∃ f a b, v = .func (.func f) a b
theorem flip_spec (b : Int) (a : Option Addr) (l c : Nat) (h : IHp) : EvX Try.prog 76 [.int .i64 b, .slice a l c].toArray h (fun v h' => Ext h h' ∧ IsFn v) := by
  refine EvX_of Try.func76 rfl (by show 2 ≤ 6; decide) ?_
  repeat' (first | refine V_seq ?_ | refine V_region ?_ | refine WS_nil ?_ | refine S_normal ?_ | refine V_ret ?_ | refine WS_assign ?_ | refine WS_box rfl ?_ | refine WS_makeFunc ?_)
  exact retK_1 ⟨(Ext.push _ _).push' _, _, _, _, rfl⟩ (.inr rfl)
instance : CallIs Try.prog 76 := .of Try.func76 rfl rfl
theorem last_spec (b c : Int) (h : IHp) : EvX Try.prog 77 [.int .i64 b, .int .i64 c].toArray h (fun v h' => Ext h h' ∧ IsFn v) := by
  refine EvX_of Try.func77 rfl (by show 2 ≤ 6; decide) ?_
  repeat' (first | refine V_seq ?_ | refine V_region ?_ | refine WS_nil ?_ | refine S_normal ?_ | refine V_ret ?_ | refine WS_assign ?_ | refine WS_box rfl ?_ | refine WS_makeFunc ?_)
  exact retK_1 ⟨(Ext.push _ _).push' _, _, _, _, rfl⟩ (.inr rfl)
instance : CallIs Try.prog 77 := .of Try.func77 rfl rfl
theorem mixed_spec (b c d : Int) (h : IHp) : EvX Try.prog 78 [.int .i64 b, .int .i64 c, .int .i64 d].toArray h (fun v h' => Ext h h' ∧ IsFn v) := by
  refine EvX_of Try.func78 rfl (by show 3 ≤ 8; decide) ?_
  repeat' (first | refine V_seq ?_ | refine V_region ?_ | refine WS_nil ?_ | refine S_normal ?_ | refine V_ret ?_ | refine WS_assign ?_ | refine WS_box rfl ?_ | refine WS_makeFunc ?_)
  exact retK_1 ⟨((Ext.push _ _).push' _).push' _, _, _, _, rfl⟩ (.inr rfl)
instance : CallIs Try.prog 78 := .of Try.func78 rfl rfl
theorem swapped_spec (b c d : Int) (h : IHp) : EvX Try.prog 79 [.int .i64 b, .int .i64 c, .int .i64 d].toArray h (fun v h' => Ext h h' ∧ IsFn v) := by
  refine EvX_of Try.func79 rfl (by show 3 ≤ 8; decide) ?_
  repeat' (first | refine V_seq ?_ | refine V_region ?_ | refine WS_nil ?_ | refine S_normal ?_ | refine V_ret ?_ | refine WS_assign ?_ | refine WS_box rfl ?_ | refine WS_makeFunc ?_)
  exact retK_1 ⟨((Ext.push _ _).push' _).push' _, _, _, _, rfl⟩ (.inr rfl)
instance : CallIs Try.prog 79 := .of Try.func79 rfl rfl
def rowsOf (es : List KE) (cs : List Value) : List (ByteArray × Value) := List.zipWith krow es cs
theorem look_none {b : ByteArray} : ∀ (es : List KE) (cs : List Value), (es.all fun e => !beqS b e.name) = true → lookB b (rowsOf es cs) = none := by
  intro es
  induction es with
  | nil => intro cs _; rfl
  | cons e es ih =>
    intro cs h
    simp only [List.all_cons, Bool.and_eq_true, Bool.not_eq_true'] at h
    cases cs with
    | nil => rfl
    | cons c cs => simp only [rowsOf, List.zipWith_cons_cons, krow, lookB, h.1, Bool.false_eq_true, if_false]; exact ih cs h.2
theorem look_some {b : ByteArray} : ∀ (es : List KE) (cs : List Value), cs.length = es.length → match es.find? (fun e => beqS b e.name) with
    | none => lookB b (rowsOf es cs) = none
    | some e => ∃ c ∈ cs, lookB b (rowsOf es cs) = some (krow e c).2 := by
  intro es
  induction es with
  | nil => intro cs h; cases cs <;> simp [rowsOf, lookB] at h ⊢
  | cons e es ih =>
    intro cs h
    cases cs with
    | nil => simp at h
    | cons c cs =>
      simp only [List.length_cons, Nat.add_right_cancel_iff] at h
      rw [List.find?_cons]
      cases hb : beqS b e.name with
      | true => exact ⟨c, List.mem_cons_self, by simp [rowsOf, krow, lookB, hb]⟩
      | false =>
        have h1 := ih cs h
        cases hf : es.find? (fun e => beqS b e.name) with
        | none => rw [hf] at h1; simp only at h1 ⊢; simpa [rowsOf, krow, lookB, hb] using h1
        | some e' =>
          rw [hf] at h1
          obtain ⟨c', h2, h3⟩ := h1
          exact ⟨c', List.mem_cons_of_mem _ h2, by simpa [rowsOf, krow, lookB, hb] using h3⟩
/-- the map, as far as it is built -/
structure KInv (h0 H : IHp) (m n : Nat) (cs : List Value) : Prop where
  ext : Ext h0 H
  lo : h0.fresh ≤ m
  map : MapIs H m (rowsOf (KT.take n) cs)
  len : cs.length = n
  fns : ∀ c ∈ cs, IsFn c
theorem KInv.grow {h0 H H' : IHp} {m n : Nat} {cs : List Value} (k : KInv h0 H m n cs) (e : Ext H H') : KInv h0 H' m n cs := ⟨k.ext.trans e, k.lo, k.map.ext e, k.len, k.fns⟩
theorem KInv.add {h0 H H' : IHp} {m n : Nat} {cs : List Value} {c : Value} {e : KE} {b : ByteArray} {v : Value} (k : KInv h0 H m n cs) (he : KT[n]? = some e) (hb : (b, v) = krow e c) (hc : IsFn c)
    (hH : H' = H.putObj m (.map (ents (rowsOf (KT.take n) cs ++ [(b, v)]) 0) (rowsOf (KT.take n) cs ++ [(b, v)]).length)) : KInv h0 H' m (n + 1) (cs ++ [c]) := by
  have hn : n < KT.length := (List.getElem?_eq_some_iff.1 he).1
  have hr : rowsOf (KT.take (n + 1)) (cs ++ [c]) = rowsOf (KT.take n) cs ++ [(b, v)] := by
    rw [List.take_add_one, he, rowsOf, rowsOf, hb]
    simp only [Option.toList_some]
    rw [List.zipWith_append (by rw [List.length_take, k.len]; omega)]
    rfl
  refine ⟨by rw [hH]; exact k.ext.putObj k.lo, k.lo, ?_, by simp [k.len], fun c' hc' => ?_⟩
  · rw [hr, hH]
    refine ⟨k.map.even, ?_⟩
    have := (List.getElem?_eq_some_iff.1 k.map.eq).1
    simp [IHp.putObj, this]
  · rcases List.mem_append.1 hc' with h1 | h1
    · exact k.fns c' h1
    · simp at h1; subst h1; exact hc
set_option maxHeartbeats 4000000 in
theorem kinds_spec (h : IHp) : EvX Try.prog 59 [].toArray h (fun v h' => Ext h h' ∧ ∃ m cs, v = .map (some m) ∧ h.fresh ≤ m ∧ MapIs h' m (rowsOf KT cs) ∧ cs.length = 25 ∧ ∀ c ∈ cs, IsFn c) := by
  refine EvX_of Try.func59 rfl (by show 0 ≤ 56; decide) ?_
  repeat (first | refine V_seq ?_ | refine V_region ?_ | refine WS_nil ?_ | refine S_normal ?_ | refine WS_assign ?_)
  refine WS_makeMap ?_
  refine WS_gen ?_
  intro H0 hH0
  have k0 : KInv h H0 h.fresh 0 [] := ⟨hH0 ▸ Ext.push _ _, Nat.le_refl _, ⟨by unfold IHp.fresh; omega, by rw [hH0]; exact obj_push h _⟩, rfl, fun c hc => by simp at hc⟩
  generalize h.fresh = m at *
  clear hH0
  repeat (refine WS_buildSlice (by decide) rfl rfl (by simp [Value.cells]) ?_)
  refine WS_gen ?_
  intro G hG
  have k0 := k0.grow (H' := G) (hG ▸ Ext.push _ _)
  clear hG
  refine WS_call (flip_spec _ _ _ _ _) ?_
  rintro _ G ⟨eG, f, a, b, rfl⟩
  have k0 := k0.grow eG
  repeat (refine WS_build ?_)
  refine WS_insert (mi := k0.map) (look_none _ _ (by decide +kernel)) ?_
  refine WS_gen ?_
  intro H1 hH
  have k1 := k0.add (e := ⟨(⟨#[105]⟩ : ByteArray), 1, 0, true, true, (⟨#[105]⟩ : ByteArray)⟩) rfl rfl ⟨_, _, _, rfl⟩ hH
  refine WS_live1 1 ?_
  intro s g1
  clear hH
  repeat (refine WS_buildSlice (by decide) rfl rfl (by simp [Value.cells]) ?_)
  refine WS_gen ?_
  intro G hG
  have k1 := k1.grow (H' := G) (hG ▸ Ext.push _ _)
  clear hG
  refine WS_call (flip_spec _ _ _ _ _) ?_
  rintro _ G ⟨eG, f, a, b, rfl⟩
  have k1 := k1.grow eG
  repeat (refine WS_build ?_)
  refine WS_insert (mi := k1.map) (look_none _ _ (by decide +kernel)) ?_
  refine WS_gen ?_
  intro H2 hH
  have k2 := k1.add (e := ⟨(⟨#[120]⟩ : ByteArray), 1, 0, true, false, (⟨#[120]⟩ : ByteArray)⟩) rfl rfl ⟨_, _, _, rfl⟩ hH
  refine WS_live1 1 ?_
  intro s g1
  clear hH
  repeat (refine WS_buildSlice (by decide) rfl rfl (by simp [Value.cells]) ?_)
  refine WS_gen ?_
  intro G hG
  have k2 := k2.grow (H' := G) (hG ▸ Ext.push _ _)
  clear hG
  refine WS_call (flip_spec _ _ _ _ _) ?_
  rintro _ G ⟨eG, f, a, b, rfl⟩
  have k2 := k2.grow eG
  repeat (refine WS_build ?_)
  refine WS_insert (mi := k2.map) (look_none _ _ (by decide +kernel)) ?_
  refine WS_gen ?_
  intro H3 hH
  have k3 := k2.add (e := ⟨(⟨#[121]⟩ : ByteArray), 1, 0, true, false, (⟨#[121]⟩ : ByteArray)⟩) rfl rfl ⟨_, _, _, rfl⟩ hH
  refine WS_live1 1 ?_
  intro s g1
  clear hH
  skip
  refine WS_call (last_spec _ _ _) ?_
  rintro _ G ⟨eG, f, a, b, rfl⟩
  have k3 := k3.grow eG
  repeat (refine WS_build ?_)
  refine WS_insert (mi := k3.map) (look_none _ _ (by decide +kernel)) ?_
  refine WS_gen ?_
  intro H4 hH
  have k4 := k3.add (e := ⟨(⟨#[122]⟩ : ByteArray), 1, 0, true, true, (⟨#[122]⟩ : ByteArray)⟩) rfl rfl ⟨_, _, _, rfl⟩ hH
  refine WS_live1 1 ?_
  intro s g1
  clear hH
  skip
  refine WS_call (mixed_spec _ _ _ _) ?_
  rintro _ G ⟨eG, f, a, b, rfl⟩
  have k4 := k4.grow eG
  repeat (refine WS_build ?_)
  refine WS_insert (mi := k4.map) (look_none _ _ (by decide +kernel)) ?_
  refine WS_gen ?_
  intro H5 hH
  have k5 := k4.add (e := ⟨(⟨#[104]⟩ : ByteArray), 1, 1, true, false, (⟨#[104]⟩ : ByteArray)⟩) rfl rfl ⟨_, _, _, rfl⟩ hH
  refine WS_live1 1 ?_
  intro s g1
  clear hH
  skip
  refine WS_call (last_spec _ _ _) ?_
  rintro _ G ⟨eG, f, a, b, rfl⟩
  have k5 := k5.grow eG
  repeat (refine WS_build ?_)
  refine WS_insert (mi := k5.map) (look_none _ _ (by decide +kernel)) ?_
  refine WS_gen ?_
  intro H6 hH
  have k6 := k5.add (e := ⟨(⟨#[115]⟩ : ByteArray), 1, 0, true, true, (⟨#[115, 100, 103]⟩ : ByteArray)⟩) rfl rfl ⟨_, _, _, rfl⟩ hH
  refine WS_live1 1 ?_
  intro s g1
  clear hH
  skip
  refine WS_call (last_spec _ _ _) ?_
  rintro _ G ⟨eG, f, a, b, rfl⟩
  have k6 := k6.grow eG
  repeat (refine WS_build ?_)
  refine WS_insert (mi := k6.map) (look_none _ _ (by decide +kernel)) ?_
  refine WS_gen ?_
  intro H7 hH
  have k7 := k6.add (e := ⟨(⟨#[115, 100, 103]⟩ : ByteArray), 1, 0, true, true, (⟨#[115]⟩ : ByteArray)⟩) rfl rfl ⟨_, _, _, rfl⟩ hH
  refine WS_live1 1 ?_
  intro s g1
  clear hH
  skip
  refine WS_call (last_spec _ _ _) ?_
  rintro _ G ⟨eG, f, a, b, rfl⟩
  have k7 := k7.grow eG
  repeat (refine WS_build ?_)
  refine WS_insert (mi := k7.map) (look_none _ _ (by decide +kernel)) ?_
  refine WS_gen ?_
  intro H8 hH
  have k8 := k7.add (e := ⟨(⟨#[116]⟩ : ByteArray), 1, 0, false, true, (⟨#[116, 100, 103]⟩ : ByteArray)⟩) rfl rfl ⟨_, _, _, rfl⟩ hH
  refine WS_live1 1 ?_
  intro s g1
  clear hH
  skip
  refine WS_call (last_spec _ _ _) ?_
  rintro _ G ⟨eG, f, a, b, rfl⟩
  have k8 := k8.grow eG
  repeat (refine WS_build ?_)
  refine WS_insert (mi := k8.map) (look_none _ _ (by decide +kernel)) ?_
  refine WS_gen ?_
  intro H9 hH
  have k9 := k8.add (e := ⟨(⟨#[116, 100, 103]⟩ : ByteArray), 1, 0, false, true, (⟨#[116]⟩ : ByteArray)⟩) rfl rfl ⟨_, _, _, rfl⟩ hH
  refine WS_live1 1 ?_
  intro s g1
  clear hH
  skip
  refine WS_call (mixed_spec _ _ _ _) ?_
  rintro _ G ⟨eG, f, a, b, rfl⟩
  have k9 := k9.grow eG
  repeat (refine WS_build ?_)
  refine WS_insert (mi := k9.map) (look_none _ _ (by decide +kernel)) ?_
  refine WS_gen ?_
  intro H10 hH
  have k10 := k9.add (e := ⟨(⟨#[118]⟩ : ByteArray), 1, 1, true, false, (⟨#[118, 100, 103]⟩ : ByteArray)⟩) rfl rfl ⟨_, _, _, rfl⟩ hH
  refine WS_live1 1 ?_
  intro s g1
  clear hH
  skip
  refine WS_call (mixed_spec _ _ _ _) ?_
  rintro _ G ⟨eG, f, a, b, rfl⟩
  have k10 := k10.grow eG
  repeat (refine WS_build ?_)
  refine WS_insert (mi := k10.map) (look_none _ _ (by decide +kernel)) ?_
  refine WS_gen ?_
  intro H11 hH
  have k11 := k10.add (e := ⟨(⟨#[118, 100, 103]⟩ : ByteArray), 1, 1, true, false, (⟨#[118]⟩ : ByteArray)⟩) rfl rfl ⟨_, _, _, rfl⟩ hH
  refine WS_live1 1 ?_
  intro s g1
  clear hH
  repeat (refine WS_buildSlice (by decide) rfl rfl (by simp [Value.cells]) ?_)
  refine WS_gen ?_
  intro G hG
  have k11 := k11.grow (H' := G) (hG ▸ Ext.push _ _)
  clear hG
  refine WS_call (flip_spec _ _ _ _ _) ?_
  rintro _ G ⟨eG, f, a, b, rfl⟩
  have k11 := k11.grow eG
  repeat (refine WS_build ?_)
  refine WS_insert (mi := k11.map) (look_none _ _ (by decide +kernel)) ?_
  refine WS_gen ?_
  intro H12 hH
  have k12 := k11.add (e := ⟨(⟨#[119]⟩ : ByteArray), 1, 0, true, true, (⟨#[119, 100, 103]⟩ : ByteArray)⟩) rfl rfl ⟨_, _, _, rfl⟩ hH
  refine WS_live1 1 ?_
  intro s g1
  clear hH
  repeat (refine WS_buildSlice (by decide) rfl rfl (by simp [Value.cells]) ?_)
  refine WS_gen ?_
  intro G hG
  have k12 := k12.grow (H' := G) (hG ▸ Ext.push _ _)
  clear hG
  refine WS_call (flip_spec _ _ _ _ _) ?_
  rintro _ G ⟨eG, f, a, b, rfl⟩
  have k12 := k12.grow eG
  repeat (refine WS_build ?_)
  refine WS_insert (mi := k12.map) (look_none _ _ (by decide +kernel)) ?_
  refine WS_gen ?_
  intro H13 hH
  have k13 := k12.add (e := ⟨(⟨#[119, 100, 103]⟩ : ByteArray), 1, 0, true, true, (⟨#[119]⟩ : ByteArray)⟩) rfl rfl ⟨_, _, _, rfl⟩ hH
  refine WS_live1 1 ?_
  intro s g1
  clear hH
  skip
  refine WS_call (swapped_spec _ _ _ _) ?_
  rintro _ G ⟨eG, f, a, b, rfl⟩
  have k13 := k13.grow eG
  repeat (refine WS_build ?_)
  refine WS_insert (mi := k13.map) (look_none _ _ (by decide +kernel)) ?_
  refine WS_gen ?_
  intro H14 hH
  have k14 := k13.add (e := ⟨(⟨#[99, 120]⟩ : ByteArray), 2, 0, true, false, (⟨#[99, 120]⟩ : ByteArray)⟩) rfl rfl ⟨_, _, _, rfl⟩ hH
  refine WS_live1 1 ?_
  intro s g1
  clear hH
  repeat (refine WS_build ?_)
  refine WS_insert (mi := k14.map) (look_none _ _ (by decide +kernel)) ?_
  refine WS_gen ?_
  intro H15 hH
  have k15 := k14.add (e := ⟨(⟨#[99, 121]⟩ : ByteArray), 2, 0, true, false, (⟨#[99, 121]⟩ : ByteArray)⟩) rfl rfl ⟨_, _, _, rfl⟩ hH
  refine WS_live1 1 ?_
  intro s g1
  clear hH
  skip
  refine WS_call (last_spec _ _ _) ?_
  rintro _ G ⟨eG, f, a, b, rfl⟩
  have k15 := k15.grow eG
  repeat (refine WS_build ?_)
  refine WS_insert (mi := k15.map) (look_none _ _ (by decide +kernel)) ?_
  refine WS_gen ?_
  intro H16 hH
  have k16 := k15.add (e := ⟨(⟨#[99, 122]⟩ : ByteArray), 2, 0, true, true, (⟨#[99, 122]⟩ : ByteArray)⟩) rfl rfl ⟨_, _, _, rfl⟩ hH
  refine WS_live1 1 ?_
  intro s g1
  clear hH
  repeat (refine WS_build ?_)
  refine WS_insert (mi := k16.map) (look_none _ _ (by decide +kernel)) ?_
  refine WS_gen ?_
  intro H17 hH
  have k17 := k16.add (e := ⟨(⟨#[99, 104]⟩ : ByteArray), 2, 1, false, false, (⟨#[99, 104]⟩ : ByteArray)⟩) rfl rfl ⟨_, _, _, rfl⟩ hH
  refine WS_live1 1 ?_
  intro s g1
  clear hH
  skip
  refine WS_call (last_spec _ _ _) ?_
  rintro _ G ⟨eG, f, a, b, rfl⟩
  have k17 := k17.grow eG
  repeat (refine WS_build ?_)
  refine WS_insert (mi := k17.map) (look_none _ _ (by decide +kernel)) ?_
  refine WS_gen ?_
  intro H18 hH
  have k18 := k17.add (e := ⟨(⟨#[99, 115]⟩ : ByteArray), 2, 0, false, true, (⟨#[99, 115, 100, 103]⟩ : ByteArray)⟩) rfl rfl ⟨_, _, _, rfl⟩ hH
  refine WS_live1 1 ?_
  intro s g1
  clear hH
  skip
  refine WS_call (last_spec _ _ _) ?_
  rintro _ G ⟨eG, f, a, b, rfl⟩
  have k18 := k18.grow eG
  repeat (refine WS_build ?_)
  refine WS_insert (mi := k18.map) (look_none _ _ (by decide +kernel)) ?_
  refine WS_gen ?_
  intro H19 hH
  have k19 := k18.add (e := ⟨(⟨#[99, 115, 100, 103]⟩ : ByteArray), 2, 0, false, true, (⟨#[99, 115]⟩ : ByteArray)⟩) rfl rfl ⟨_, _, _, rfl⟩ hH
  refine WS_live1 1 ?_
  intro s g1
  clear hH
  skip
  refine WS_call (swapped_spec _ _ _ _) ?_
  rintro _ G ⟨eG, f, a, b, rfl⟩
  have k19 := k19.grow eG
  repeat (refine WS_build ?_)
  refine WS_insert (mi := k19.map) (look_none _ _ (by decide +kernel)) ?_
  refine WS_gen ?_
  intro H20 hH
  have k20 := k19.add (e := ⟨(⟨#[115, 119, 97, 112]⟩ : ByteArray), 2, 0, true, false, (⟨#[115, 119, 97, 112]⟩ : ByteArray)⟩) rfl rfl ⟨_, _, _, rfl⟩ hH
  refine WS_live1 1 ?_
  intro s g1
  clear hH
  skip
  refine WS_call (swapped_spec _ _ _ _) ?_
  rintro _ G ⟨eG, f, a, b, rfl⟩
  have k20 := k20.grow eG
  repeat (refine WS_build ?_)
  refine WS_insert (mi := k20.map) (look_none _ _ (by decide +kernel)) ?_
  refine WS_gen ?_
  intro H21 hH
  have k21 := k20.add (e := ⟨(⟨#[105, 115, 119, 97, 112]⟩ : ByteArray), 2, 0, true, false, (⟨#[105, 115, 119, 97, 112, 100, 103]⟩ : ByteArray)⟩) rfl rfl ⟨_, _, _, rfl⟩ hH
  refine WS_live1 1 ?_
  intro s g1
  clear hH
  skip
  refine WS_call (swapped_spec _ _ _ _) ?_
  rintro _ G ⟨eG, f, a, b, rfl⟩
  have k21 := k21.grow eG
  repeat (refine WS_build ?_)
  refine WS_insert (mi := k21.map) (look_none _ _ (by decide +kernel)) ?_
  refine WS_gen ?_
  intro H22 hH
  have k22 := k21.add (e := ⟨(⟨#[105, 115, 119, 97, 112, 100, 103]⟩ : ByteArray), 2, 0, true, false, (⟨#[105, 115, 119, 97, 112]⟩ : ByteArray)⟩) rfl rfl ⟨_, _, _, rfl⟩ hH
  refine WS_live1 1 ?_
  intro s g1
  clear hH
  skip
  refine WS_call (swapped_spec _ _ _ _) ?_
  rintro _ G ⟨eG, f, a, b, rfl⟩
  have k22 := k22.grow eG
  repeat (refine WS_build ?_)
  refine WS_insert (mi := k22.map) (look_none _ _ (by decide +kernel)) ?_
  refine WS_gen ?_
  intro H23 hH
  have k23 := k22.add (e := ⟨(⟨#[99, 99, 120]⟩ : ByteArray), 3, 0, false, false, (⟨#[99, 99, 120]⟩ : ByteArray)⟩) rfl rfl ⟨_, _, _, rfl⟩ hH
  refine WS_live1 1 ?_
  intro s g1
  clear hH
  skip
  refine WS_call (last_spec _ _ _) ?_
  rintro _ G ⟨eG, f, a, b, rfl⟩
  have k23 := k23.grow eG
  repeat (refine WS_build ?_)
  refine WS_insert (mi := k23.map) (look_none _ _ (by decide +kernel)) ?_
  refine WS_gen ?_
  intro H24 hH
  have k24 := k23.add (e := ⟨(⟨#[99, 99, 122]⟩ : ByteArray), 3, 0, false, true, (⟨#[99, 99, 122]⟩ : ByteArray)⟩) rfl rfl ⟨_, _, _, rfl⟩ hH
  refine WS_live1 1 ?_
  intro s g1
  clear hH
  skip
  refine WS_call (swapped_spec _ _ _ _) ?_
  rintro _ G ⟨eG, f, a, b, rfl⟩
  have k24 := k24.grow eG
  repeat (refine WS_build ?_)
  refine WS_insert (mi := k24.map) (look_none _ _ (by decide +kernel)) ?_
  refine WS_gen ?_
  intro H25 hH
  have k25 := k24.add (e := ⟨(⟨#[99, 115, 119, 97, 112]⟩ : ByteArray), 3, 0, false, false, (⟨#[99, 115, 119, 97, 112]⟩ : ByteArray)⟩) rfl rfl ⟨_, _, _, rfl⟩ hH
  refine WS_live1 1 ?_
  intro s g1
  clear hH
  repeat (first | refine WS_nil ?_ | refine S_normal ?_ | refine V_ret ?_ | refine WS_move ?_ | refine WS_assign ?_)
  exact retK_1 ⟨k25.ext, _, _, rfl, Nat.le_refl _, k25.map, k25.len, k25.fns⟩ (.inr rfl)
instance : CallIs Try.prog 59 := .of Try.func59 rfl rfl
theorem look_row (b : ByteArray) {cs : List Value} (hl : cs.length = 25) : ∃ c, (lookB b (rowsOf KT cs)).getD (.agg [.int .i64 0, .int .i64 0, .bool false, .bool false, .string ByteArray.empty, .nilFunc].toArray) = .agg [.int .i64 (arityS b), .int .i64 (halvesS b), .bool (cliffS b), .bool (diagS b), .string (backS b).1, c].toArray ∧ (lookB b (rowsOf KT cs)).isSome = (kOf b).isSome := by
  have h := look_some (b := b) KT cs hl
  unfold arityS halvesS cliffS diagS backS
  cases hk : kOf b with
  | none => unfold kOf at hk; rw [hk] at h; simp only at h; rw [h]; exact ⟨_, rfl, rfl⟩
  | some e => unfold kOf at hk; rw [hk] at h; obtain ⟨c, _, h⟩ := h; rw [h]; exact ⟨c, rfl, rfl⟩
theorem gateArity_spec (b : ByteArray) (h : IHp) : EvX Try.prog 73 [.string b].toArray h (fun v h' => v = .int .i64 (arityS b) ∧ Ext h h') := by
  refine EvX_of Try.func73 rfl (by show 1 ≤ 7; decide) ?_
  repeat' (first | refine V_seq ?_ | refine V_region ?_ | refine WS_nil ?_ | refine S_normal ?_ | refine WS_assign ?_)
  refine WS_call (kinds_spec h) ?_
  rintro _ H ⟨eH, m, cs, rfl, hm, hmap, hl, _⟩
  obtain ⟨c, hc, _⟩ := look_row b hl
  repeat' (refine WS_move ?_)
  refine WS_lookup (mi := hmap) ?_
  rw [hc]
  repeat' (first | refine WS_nil ?_ | refine S_normal ?_ | refine V_ret ?_ | refine WS_assign ?_ | refine WS_field ?_)
  exact retK_1 ⟨rfl, eH⟩ (.inr rfl)
instance : CallIs Try.prog 73 := .of Try.func73 rfl rfl
theorem gateHalves_spec (b : ByteArray) (h : IHp) : EvX Try.prog 72 [.string b].toArray h (fun v h' => v = .int .i64 (halvesS b) ∧ Ext h h') := by
  refine EvX_of Try.func72 rfl (by show 1 ≤ 7; decide) ?_
  repeat' (first | refine V_seq ?_ | refine V_region ?_ | refine WS_nil ?_ | refine S_normal ?_ | refine WS_assign ?_)
  refine WS_call (kinds_spec h) ?_
  rintro _ H ⟨eH, m, cs, rfl, hm, hmap, hl, _⟩
  obtain ⟨c, hc, _⟩ := look_row b hl
  repeat' (refine WS_move ?_)
  refine WS_lookup (mi := hmap) ?_
  rw [hc]
  repeat' (first | refine WS_nil ?_ | refine S_normal ?_ | refine V_ret ?_ | refine WS_assign ?_ | refine WS_field ?_)
  exact retK_1 ⟨rfl, eH⟩ (.inr rfl)
instance : CallIs Try.prog 72 := .of Try.func72 rfl rfl
theorem gateInverse_spec (b : ByteArray) (h : IHp) : EvX Try.prog 35 [.string b].toArray h (fun v h' => v = .tuple [.string (backS b).1, .int .i64 (backS b).2].toArray ∧ Ext h h') := by
  refine EvX_of Try.func35 rfl (by show 1 ≤ 16; decide) ?_
  repeat' (first | refine V_seq ?_ | refine V_region ?_ | refine WS_nil ?_ | refine S_normal ?_ | refine WS_assign ?_)
  refine WS_call (kinds_spec h) ?_
  rintro _ H ⟨eH, m, cs, rfl, hm, hmap, hl, hfn⟩
  obtain ⟨c, hc, hs⟩ := look_row b hl
  have hcell : CellsOf c [c] := by
    have h := look_some (b := b) KT cs hl
    cases hk : KT.find? (fun e => beqS b e.name) with
    | none => rw [hk] at h; simp only at h; rw [h] at hc; simp at hc; rw [← hc.2.2.2.2.2]; infer_instance
    | some e =>
      rw [hk] at h
      obtain ⟨c', hc', h⟩ := h
      rw [h] at hc
      simp [krow] at hc
      obtain ⟨f, x, y, rfl⟩ := hfn c' hc'
      rw [← hc.2.2.2.2.2]; infer_instance
  repeat' (refine WS_move ?_)
  refine WS_lookup_ok (mi := hmap) ?_
  rw [hc, hs]
  repeat' (first | refine V_seq ?_ | refine V_region ?_ | refine WS_nil ?_ | refine S_normal ?_ | refine V_skip ?_ | refine V_ret ?_ | refine S_ret ?_ | refine WS_move ?_ | refine WS_assign ?_ | refine WS_not ?_ | refine WS_fieldAddr ?_ | refine WS_load ?_ | refine WS_extract ?_ | refine WS_alloc ?_ | refine WS_store rfl ?_ | (refine V_cond ?_ ?_ <;> intro hc <;> try (cases hc; done)))
  · have hn : kOf b = none := by
      cases hk : kOf b with
      | none => rfl
      | some e => rw [hk] at hc; simp at hc
    refine retK_2 ⟨?_, (eH.push' _).putObj eH.fresh⟩ (.inr rfl)
    simp [backS, hn]
  · have hn : ∃ e, kOf b = some e := by
      cases hk : kOf b with
      | none => rw [hk] at hc; simp at hc
      | some e => exact ⟨e, rfl⟩
    obtain ⟨e, hn⟩ := hn
    refine retK_2 ⟨?_, (eH.push' _).putObj eH.fresh⟩ (.inr rfl)
    simp [backS, hn]
instance : CallIs Try.prog 35 := .of Try.func35 rfl rfl
end Go.Ideal

-- Cb
set_option linter.unusedSimpArgs false
set_option linter.unusedVariables false
namespace Go.Ideal
open Go Go.Proofs
/-! ### The reference's switches over the names -/
theorem kOf_mem {b : ByteArray} {e : KE} (h : kOf b = some e) : e ∈ KT ∧ b = e.name := by
  unfold kOf at h
  have h2 := List.find?_some h
  exact ⟨List.mem_of_find?_eq_some h, beqS_iff.1 h2⟩
theorem halvesS_01 (b : ByteArray) : halvesS b = 0 ∨ halvesS b = 1 := by
  unfold halvesS
  cases h : kOf b with
  | none => exact .inl rfl
  | some e =>
    have hall : (KT.all fun e => e.halves == 0 || e.halves == 1) = true := by decide +kernel
    rw [List.all_eq_true] at hall
    have := hall e (kOf_mem h).1
    simpa using this
theorem arityS_03 (b : ByteArray) : 0 ≤ arityS b ∧ arityS b ≤ 3 := by
  unfold arityS
  cases h : kOf b with
  | none => exact ⟨Int.le_refl _, by decide⟩
  | some e =>
    have hall : (KT.all fun e => decide (0 ≤ e.arity) && decide (e.arity ≤ 3)) = true := by decide +kernel
    rw [List.all_eq_true] at hall
    have := hall e (kOf_mem h).1
    simpa using this
theorem arityS_pos {b : ByteArray} : arityS b = 0 ↔ kOf b = none := by
  unfold arityS
  cases h : kOf b with
  | none => simp
  | some e =>
    have hall : (KT.all fun e => decide (0 < e.arity)) = true := by decide +kernel
    rw [List.all_eq_true] at hall
    have := hall e (kOf_mem h).1
    simp at this ⊢
    omega
set_option maxHeartbeats 2000000 in
theorem refArity_spec (b : ByteArray) (h : IHp) : EvX Try.prog 64 [.string b].toArray h (fun v h' => v = .int .i64 (arityS b) ∧ h' = h) := by
  refine EvX_of Try.func64 rfl (by show 1 ≤ 32; decide) ?_
  repeat' (first | refine V_seq ?_ | refine V_region ?_ | refine WS_nil ?_ | refine S_normal ?_ | refine V_block ?_ | refine B_normal ?_ | refine V_skip ?_ | refine V_ret ?_ | refine S_ret ?_ | refine B_ret ?_ | refine WS_move ?_ | refine WS_assign ?_ | refine WS_streq ?_ | refine V_cond_t (by first | rfl | assumption) ?_ | (refine V_cond ?_ ?_ <;> intro hc <;> try (cases hc; done)))
  all_goals refine retK_1 ⟨?_, rfl⟩ (.inr rfl)
  all_goals first
    | (have hx := beqS_iff.1 (by assumption); subst hx; rfl)
    | (have : kOf b = none := by simp [kOf, KT, *]
       rw [arityS_pos.2 this])
instance : CallIs Try.prog 64 := .of Try.func64 rfl rfl
theorem refHalves_spec (b : ByteArray) (h : IHp) : EvX Try.prog 83 [.string b].toArray h (fun v h' => v = .int .i64 (halvesS b) ∧ h' = h) := by
  refine EvX_of Try.func83 rfl (by show 1 ≤ 9; decide) ?_
  repeat' (first | refine V_seq ?_ | refine V_region ?_ | refine WS_nil ?_ | refine S_normal ?_ | refine V_block ?_ | refine B_normal ?_ | refine V_skip ?_ | refine V_ret ?_ | refine S_ret ?_ | refine B_ret ?_ | refine WS_move ?_ | refine WS_assign ?_ | refine WS_streq ?_ | refine V_cond_t (by first | rfl | assumption) ?_ | (refine V_cond ?_ ?_ <;> intro hc <;> try (cases hc; done)))
  all_goals refine retK_1 ⟨?_, rfl⟩ (.inr rfl)
  all_goals first
    | (have hx := beqS_iff.1 (by assumption); subst hx; rfl)
    | (unfold halvesS
       cases hk : kOf b with
       | none => rfl
       | some e =>
         obtain ⟨hm, rfl⟩ := kOf_mem hk
         have hall : (KT.all fun e => e.halves == 0 || beqS e.name ⟨#[104]⟩ || beqS e.name ⟨#[118]⟩ || beqS e.name ⟨#[118, 100, 103]⟩ || beqS e.name ⟨#[99, 104]⟩) = true := by decide +kernel
         rw [List.all_eq_true] at hall
         have := hall e hm
         simp_all)
instance : CallIs Try.prog 83 := .of Try.func83 rfl rfl
end Go.Ideal

-- Cc
set_option linter.unusedSimpArgs false
set_option linter.unusedVariables false
namespace Go.Ideal
open Go Go.Proofs
/-! ### Operations and circuits -/
def ints (xs : List Int) : List Value := xs.map (Value.int .i64)
theorem ints_len (xs : List Int) : (ints xs).length = xs.length := by simp [ints]
theorem ints_get {xs : List Int} {i : Nat} {v : Value} (h : (ints xs)[i]? = some v) : ∃ x, v = .int .i64 x ∧ xs[i]? = some x := by
  simp only [ints, List.getElem?_map, Option.map_eq_some_iff] at h
  obtain ⟨x, h1, rfl⟩ := h
  exact ⟨x, rfl, h1⟩
structure OpD where
  kind : Int
  name : ByteArray
  qs : List Int
  bit : Int
  iff : Bool
  mask : Nat
  value : Nat
def OpD.cells (o : OpD) (a : Option Addr) (l c : Nat) : List Value := [.int .i64 o.kind, .string o.name, .slice a l c, .int .i64 o.bit, .bool o.iff, .int .u64 o.mask, .int .u64 o.value]
def SpotOk (a : Option Addr) (c : Nat) : Prop := ∀ d, a = some d → d.spot = none ∨ c = 0
/-- the cells of an operation -/
def OpC (h : IHp) (cells : List Value) (o : OpD) : Prop := ∃ a l c, cells = o.cells a l c ∧ SlIs h a l c (ints o.qs) ∧ o.mask < 2 ^ 64 ∧ o.value < 2 ^ 64 ∧ c < 2 ^ 63 ∧ SpotOk a c
theorem OpC.ext {h h' : IHp} (e : Ext h h') {cells : List Value} {o : OpD} (x : OpC h cells o) : OpC h' cells o := by
  obtain ⟨a, l, c, h1, h2, h3⟩ := x
  exact ⟨a, l, c, h1, h2.ext e, h3⟩
/-- a slice of operations -/
def OpsV (h : IHp) (a : Option Addr) (l c : Nat) (ops : List OpD) : Prop := ops.length = l ∧ l ≤ c ∧ c < 2 ^ 63 ∧ match a with
  | none => c = 0
  | some a => ∀ (i : Nat) (o : OpD), ops[i]? = some o → ∃ cells, h.row a.block (a.off + i * 7) 7 = some cells ∧ OpC h cells o
theorem OpsV.ext {h h' : IHp} (e : Ext h h') {a : Option Addr} {l c : Nat} {ops : List OpD} (x : OpsV h a l c ops) : OpsV h' a l c ops := by
  obtain ⟨h1, h2, h4, h3⟩ := x
  refine ⟨h1, h2, h4, ?_⟩
  cases a with
  | none => exact h3
  | some a =>
    intro i o hi
    obtain ⟨cells, h4, h5⟩ := h3 i o hi
    exact ⟨cells, row_ext e h4, h5.ext e⟩
theorem OpsV.at {h : IHp} {a : Option Addr} {l c : Nat} {ops : List OpD} (x : OpsV h a l c ops) {i : Int} (h0 : 0 ≤ i) (h1 : i < l) : ∃ b o cells, a = some b ∧ ops[i.toNat]? = some o ∧ RowIs h b.block (b.off + i.toNat * 7) 7 cells ∧ OpC h cells o := by
  obtain ⟨h2, h3, _, h4⟩ := x
  have hi : i.toNat < ops.length := by omega
  cases a with
  | none => simp at h4; omega
  | some b =>
    obtain ⟨cells, h5, h6⟩ := h4 i.toNat ops[i.toNat] (List.getElem?_eq_getElem hi)
    exact ⟨b, ops[i.toNat], cells, rfl, List.getElem?_eq_getElem hi, ⟨h5⟩, h6⟩
structure CircD where
  qubits : Int
  bits : Int
  ops : List OpD
def CircV (h : IHp) (v : Value) (c : CircD) : Prop := ∃ a l k, v = .agg [.int .i64 c.qubits, .int .i64 c.bits, .slice a l k].toArray ∧ OpsV h a l k c.ops
theorem CircV.ext {h h' : IHp} (e : Ext h h') {v : Value} {c : CircD} (x : CircV h v c) : CircV h' v c := by
  obtain ⟨a, l, k, h1, h2⟩ := x
  exact ⟨a, l, k, h1, h2.ext e⟩

/-! ### Is a number in a list? -/
def idxK (x : Int) : List Int → Nat → Int
  | [], _ => -1
  | y :: ys, i => if x = y then i else idxK x ys (i + 1)
theorem idxK_mem (x : Int) : ∀ (ys : List Int) (i : Nat), decide (0 ≤ idxK x ys i) = decide (x ∈ ys) := by
  intro ys
  induction ys with
  | nil => intro i; simp [idxK]
  | cons y ys ih =>
    intro i
    rw [idxK]
    by_cases h : x = y
    · simp [h]
    · rw [if_neg h, ih]; simp [h]
theorem Index_spec (a : Option Addr) (l c : Nat) (ys : List Int) (x : Int) (h : IHp) (hy : SlIs h a l c (ints ys)) (hl : l < 2 ^ 63) : EvX Try.prog 84 [.slice a l c, .int .i64 x].toArray h (fun v h' => v = .int .i64 (idxK x ys 0) ∧ h' = h) := by
  have hlen : ys.length = l := by have := hy.1; rwa [ints_len] at this
  refine EvX_of Try.func84 rfl (by show 2 ≤ 19; decide) ?_
  repeat (first | refine V_seq ?_ | refine V_region ?_ | refine WS_nil ?_ | refine S_normal ?_ | refine V_block ?_ | refine WS_move ?_ | refine WS_assign ?_ | refine WS_len_slice ?_)
  refine V_loop (fun d s h' => ∃ i : Nat, d = l - i ∧ i ≤ l ∧ Get s 8 (.int .i64 i) ∧ Get s 7 (.int .i64 l) ∧ Get s 0 (.slice a l c) ∧ Get s 1 (.int .i64 x) ∧ h' = h ∧ idxK x ys 0 = idxK x (ys.drop i) i) l ⟨0, by omega, by omega, inferInstanceAs (Get _ 8 (.int .i64 0)), inferInstance, inferInstance, inferInstance, rfl, rfl⟩ ?_
  rintro d s h' ⟨i, rfl, hi, g8, g7, g0, g1, rfl, hK⟩
  repeat' (first | refine V_seq ?_ | refine V_region ?_ | refine WS_nil ?_ | refine S_normal ?_ | refine V_block ?_ | refine V_skip ?_ | refine V_exit ?_ | refine V_ret ?_ | refine S_exit ?_ | refine B_exit ?_ | refine WS_move ?_ | refine WS_assign ?_ | refine WS_cmp rfl ?_ | (refine V_cond ?_ ?_ <;> intro hc <;> try (cases hc; done)))
  · have hil : i < l := by simp at hc; omega
    obtain ⟨b, v, rfl, hv, c1⟩ := hy.at (i := (i : Int)) (by omega) (by omega)
    rw [Int.toNat_natCast] at hv
    obtain ⟨y, rfl, hy1⟩ := ints_get hv
    have hb : 0 ≤ (i : Int) ∧ (i : Int) < (l : Int) := by omega
    have hd : ys.drop i = y :: ys.drop (i + 1) := by
      rw [List.drop_eq_getElem_cons (by omega)]
      rw [List.getElem?_eq_getElem (by omega)] at hy1
      rw [Option.some.inj hy1]
    rw [hd, idxK] at hK
    repeat' (first | refine V_seq ?_ | refine V_region ?_ | refine WS_nil ?_ | refine S_normal ?_ | refine B_normal ?_ | refine V_skip ?_ | refine V_ret ?_ | refine S_ret ?_ | refine B_ret ?_ | refine WS_move ?_ | refine WS_assign ?_ | refine WS_cmp rfl ?_ | refine WS_addi (by omega) ?_ | refine WS_load ?_ | refine WS_indexAddr (by first | decide | omega) ?_ | (refine V_cond ?_ ?_ <;> intro hc <;> try (cases hc; done)))
    · refine retK_1 ⟨?_, rfl⟩ (.inr rfl)
      rw [hK, if_pos (by simpa using hc)]
    · refine ⟨_, ?_, i + 1, rfl, by omega, ?_, inferInstance, inferInstance, inferInstance, rfl, ?_⟩
      · omega
      · exact get_as (v := .int .i64 ((i : Int) + 1)) (by simp)
      · rw [hK, if_neg (by simpa using hc)]
  · have hil : i = l := by simp at hc; omega
    refine retK_1 ⟨?_, rfl⟩ (.inr rfl)
    rw [hK, List.drop_of_length_le (by omega)]; rfl
instance : CallIs Try.prog 84 := .of Try.func84 rfl rfl
theorem Contains_spec (a : Option Addr) (l c : Nat) (ys : List Int) (x : Int) (h : IHp) (hy : SlIs h a l c (ints ys)) (hl : l < 2 ^ 63) : EvX Try.prog 74 [.slice a l c, .int .i64 x].toArray h (fun v h' => v = .bool (decide (x ∈ ys)) ∧ h' = h) := by
  refine EvX_of Try.func74 rfl (by show 2 ≤ 9; decide) ?_
  repeat' (first | refine V_seq ?_ | refine V_region ?_ | refine WS_nil ?_ | refine S_normal ?_ | refine WS_move ?_ | refine WS_assign ?_)
  refine WS_call (Index_spec a l c ys x h hy hl) ?_
  rintro _ _ ⟨rfl, rfl⟩
  repeat' (first | refine WS_nil ?_ | refine S_normal ?_ | refine V_ret ?_ | refine WS_assign ?_ | refine WS_cmp rfl ?_)
  refine retK_1 ⟨?_, rfl⟩ (.inr rfl)
  rw [idxK_mem]
instance : CallIs Try.prog 74 := .of Try.func74 rfl rfl

/-! ### halves -/
def halvesO (o : OpD) : Int := if o.kind = 1 then halvesS o.name else 0
theorem halvesO_01 (o : OpD) : 0 ≤ halvesO o ∧ halvesO o ≤ 1 := by
  unfold halvesO
  split
  · rcases halvesS_01 o.name with h | h <;> omega
  · omega
theorem halves_spec (o : OpD) (a : Option Addr) (l c : Nat) (h : IHp) : EvX Try.prog 53 [.agg (o.cells a l c).toArray].toArray h (fun v h' => v = .int .i64 (halvesO o) ∧ Ext h h') := by
  refine EvX_of Try.func53 rfl (by show 1 ≤ 9; decide) ?_
  unfold OpD.cells
  repeat' (first | refine V_seq ?_ | refine V_region ?_ | refine WS_nil ?_ | refine S_normal ?_ | refine V_skip ?_ | refine V_ret ?_ | refine S_ret ?_ | refine WS_assign ?_ | refine WS_cmp rfl ?_ | refine WS_fieldAddr ?_ | refine WS_load ?_ | refine WS_box_agg rfl ?_ | (refine V_cond ?_ ?_ <;> intro hc <;> try (cases hc; done)))
  · refine retK_1 ⟨?_, Ext.push _ _⟩ (.inr rfl)
    rw [halvesO, if_neg (by simpa using hc)]
  · refine WS_call (gateHalves_spec o.name _) ?_
    rintro _ H ⟨rfl, eH⟩
    repeat' (first | refine WS_nil ?_ | refine S_normal ?_ | refine V_ret ?_ | refine WS_assign ?_)
    refine retK_1 ⟨?_, (Ext.push _ _).trans eH⟩ (.inr rfl)
    rw [halvesO, if_pos (by simpa using hc)]
instance : CallIs Try.prog 53 := .of Try.func53 rfl rfl
theorem halves_ref (o : OpD) (a : Option Addr) (l c : Nat) (h : IHp) : EvX Try.prog 63 [.agg (o.cells a l c).toArray].toArray h (fun v h' => v = .int .i64 (halvesO o) ∧ Ext h h') := by
  refine EvX_of Try.func63 rfl (by show 1 ≤ 9; decide) ?_
  unfold OpD.cells
  repeat' (first | refine V_seq ?_ | refine V_region ?_ | refine WS_nil ?_ | refine S_normal ?_ | refine V_skip ?_ | refine V_ret ?_ | refine WS_assign ?_ | refine WS_cmp rfl ?_ | refine WS_fieldAddr ?_ | refine WS_load ?_ | refine WS_box_agg rfl ?_ | (refine V_cond ?_ ?_ <;> intro hc <;> try (cases hc; done)))
  · refine WS_call (refHalves_spec o.name _) ?_
    rintro _ H ⟨rfl, rfl⟩
    repeat' (first | refine WS_nil ?_ | refine S_normal ?_ | refine V_ret ?_ | refine S_ret ?_ | refine WS_assign ?_)
    refine retK_1 ⟨?_, Ext.push _ _⟩ (.inr rfl)
    rw [halvesO, if_pos (by simpa using hc)]
  · refine retK_1 ⟨?_, Ext.push _ _⟩ (.inr rfl)
    rw [halvesO, if_neg (by simpa using hc)]
instance : CallIs Try.prog 63 := .of Try.func63 rfl rfl
end Go.Ideal

-- Cd
set_option linter.unusedSimpArgs false
set_option linter.unusedVariables false
namespace Go.Ideal
open Go Go.Proofs
/-! ### The shape of an operation -/
def beyondS (x : Nat) (n : Int) : Bool := decide (n < 64) && !decide ((x >>> n.toNat : Nat) = (0 : Int))
theorem wrap_u64_small {n : Int} (h0 : 0 ≤ n) (h1 : n ≤ 64) : IntKind.u64.wrap n = n := wrap_u64_id h0 (by omega)
theorem beyond_spec (x : Nat) (hx : x < 2 ^ 64) (n : Int) (hn : 0 ≤ n ∧ n ≤ 64) (h : IHp) : EvX Try.prog 89 [.int .u64 x, .int .i64 n].toArray h (fun v h' => v = .bool (beyondS x n) ∧ h' = h) := by
  refine EvX_of Try.func89 rfl (by show 2 ≤ 14; decide) ?_
  repeat' (first | refine V_seq ?_ | refine V_region ?_ | refine WS_nil ?_ | refine S_normal ?_ | refine V_ret ?_ | refine WS_off rfl (by first | rfl | assumption) ?_ | refine WS_on rfl (by first | rfl | assumption) ?_ | refine WS_move ?_ | refine WS_assign ?_ | refine WS_pick_f (by first | rfl | assumption) ?_ | refine WS_cmp rfl ?_ | refine WS_convert ?_ | (refine WS_guard rfl ?_ ?_ <;> intro hg))
  · rw [wrap_u64_small hn.1 hn.2]
    repeat' (first | refine WS_nil ?_ | refine S_normal ?_ | refine V_ret ?_ | refine WS_on rfl (by first | rfl | assumption) ?_ | refine WS_assign ?_ | refine WS_pick_t (by first | rfl | assumption) ?_ | refine WS_cmp rfl ?_ | refine WS_shift (by first | decide | omega) rfl ?_)
    refine retK_1 ⟨?_, rfl⟩ (.inr rfl)
    rw [shr_u64 hn.1 hx, beyondS, hg]; rfl
  · refine retK_1 ⟨?_, rfl⟩ (.inr rfl)
    rw [beyondS, hg]; rfl
instance : CallIs Try.prog 89 := .of Try.func89 rfl rfl
def anS (v m : Nat) : Int := ibits .andNot .u64 v m
def bad1 (o : OpD) : Bool := decide (o.kind < 1) || decide (3 < o.kind)
def bad2 (o : OpD) : Bool := !o.iff && (!decide ((o.mask : Int) = 0) || !decide ((o.value : Int) = 0))
def bad3 (o : OpD) (bits : Int) : Bool := o.iff && (decide ((o.mask : Int) = 0) || beyondS o.mask bits || !decide (anS o.value o.mask = 0))
def bad4 (o : OpD) : Bool := (!decide (o.kind = 1) && !beqS o.name ⟨#[]⟩) || (!decide (o.kind = 2) && !decide (o.bit = 0))
def shapeBad (o : OpD) (bits : Int) : Bool := bad1 o || bad2 o || bad3 o bits || bad4 o
set_option maxHeartbeats 2000000 in
theorem shape_ref (o : OpD) (a : Option Addr) (l c : Nat) (bits : Int) (hb : 0 ≤ bits ∧ bits ≤ 64) (hm : o.mask < 2 ^ 64) (hv : o.value < 2 ^ 64) (h : IHp) : EvX Try.prog 82 [.agg (o.cells a l c).toArray, .int .i64 bits].toArray h (fun v h' => v = .int .i64 (if shapeBad o bits = true then 120 else 0) ∧ Ext h h') := by
  refine EvX_of Try.func82 rfl (by show 2 ≤ 65; decide) ?_
  unfold OpD.cells
  repeat (first | refine V_seq ?_ | refine V_region ?_ | refine WS_nil ?_ | refine S_normal ?_ | refine WS_move ?_ | refine WS_assign ?_ | refine WS_cmp rfl ?_ | refine WS_fieldAddr ?_ | refine WS_load ?_ | refine WS_box_agg rfl ?_)
  refine WS_gen ?_
  intro H hH
  have o2 : ObjIs H h.fresh [.int .i64 o.kind, .string o.name, .slice a l c, .int .i64 o.bit, .bool o.iff, .int .u64 o.mask, .int .u64 o.value] 29 true := hH ▸ inferInstance
  have eH : Ext h H := hH ▸ Ext.push _ _
  clear hH
  generalize h.fresh = p at *
  refine WS_cut (fun s' h' => Get s' 12 (.bool (bad1 o)) ∧ Get s' 1 (.int .i64 bits) ∧ Get s' 2 (.pointer (some (ad p 0))) ∧ h' = H) ?_ ?_
  · repeat' (first | refine WS_nil ?_ | refine WS_off rfl (by first | rfl | assumption) ?_ | refine WS_on rfl (by first | rfl | assumption) ?_ | refine WS_pick_t (by first | rfl | assumption) ?_ | refine WS_pick_f (by first | rfl | assumption) ?_ | refine WS_cmp rfl ?_ | refine WS_fieldAddr ?_ | refine WS_load ?_ | (refine WS_guard rfl ?_ ?_ <;> intro hg))
    all_goals exact ⟨get_as (by simp [bad1, *]), inferInstance, inferInstance, rfl⟩
  rintro s H ⟨g12, g1, g2, rfl⟩
  skip
  refine V_cond ?_ ?_ <;> intro h1
  · repeat' (first | refine V_seq ?_ | refine V_region ?_ | refine WS_nil ?_ | refine S_normal ?_ | refine V_ret ?_ | refine S_ret ?_ | refine WS_assign ?_)
    refine retK_1 ⟨?_, eH⟩ (.inr rfl)
    simp [shapeBad, h1]
  repeat (first | refine V_seq ?_ | refine V_region ?_ | refine S_normal ?_ | refine V_skip ?_ | refine WS_move ?_ | refine WS_not ?_ | refine WS_fieldAddr ?_ | refine WS_load ?_)
  refine WS_cut (fun s' h' => Get s' 25 (.bool (bad2 o)) ∧ Get s' 1 (.int .i64 bits) ∧ Get s' 2 (.pointer (some (ad p 0))) ∧ h' = H) ?_ ?_
  · repeat' (first | refine WS_nil ?_ | refine WS_off rfl (by first | rfl | assumption) ?_ | refine WS_on rfl (by first | rfl | assumption) ?_ | refine WS_move ?_ | refine WS_pick_t (by first | rfl | assumption) ?_ | refine WS_pick_f (by first | rfl | assumption) ?_ | refine WS_off_undef rfl ?_ | refine WS_cmp rfl ?_ | refine WS_fieldAddr ?_ | refine WS_load ?_ | (refine WS_guard rfl ?_ ?_ <;> intro hg))
    all_goals exact ⟨get_as (by simp_all [bad2] <;> rfl), inferInstance, inferInstance, rfl⟩
  rintro s H ⟨g25, g1, g2, rfl⟩
  skip
  refine V_cond ?_ ?_ <;> intro h2
  · repeat' (first | refine V_seq ?_ | refine V_region ?_ | refine WS_nil ?_ | refine S_normal ?_ | refine V_ret ?_ | refine S_ret ?_ | refine WS_assign ?_)
    refine retK_1 ⟨?_, eH⟩ (.inr rfl)
    simp [shapeBad, h2]
  repeat (first | refine V_seq ?_ | refine V_region ?_ | refine S_normal ?_ | refine V_skip ?_ | refine WS_move ?_ | refine WS_fieldAddr ?_ | refine WS_load ?_)
  refine WS_cut (fun s' h' => Get s' 46 (.bool (bad3 o bits)) ∧ Get s' 1 (.int .i64 bits) ∧ Get s' 2 (.pointer (some (ad p 0))) ∧ h' = H) ?_ ?_
  · repeat' (first | refine WS_nil ?_ | refine WS_off rfl (by first | rfl | assumption) ?_ | refine WS_on rfl (by first | rfl | assumption) ?_ | refine WS_move ?_ | refine WS_pick_t (by first | rfl | assumption) ?_ | refine WS_pick_f (by first | rfl | assumption) ?_ | refine WS_off_undef rfl ?_ | refine WS_cmp rfl ?_ | refine WS_fieldAddr ?_ | refine WS_load ?_ | (refine WS_guard rfl ?_ ?_ <;> intro hg))
    all_goals first
      | exact ⟨get_as (by simp_all [bad3, anS] <;> rfl), inferInstance, inferInstance, rfl⟩
      | (refine WS_call (beyond_spec o.mask hm bits hb _) ?_
         rintro _ _ ⟨rfl, rfl⟩
         repeat' (first | refine WS_nil ?_ | refine WS_off rfl (by first | rfl | assumption) ?_ | refine WS_on rfl (by first | rfl | assumption) ?_ | refine WS_move ?_ | refine WS_pick_t (by first | rfl | assumption) ?_ | refine WS_pick_f (by first | rfl | assumption) ?_ | refine WS_cmp rfl ?_ | refine WS_arith rfl ?_ | refine WS_fieldAddr ?_ | refine WS_load ?_ | (refine WS_guard rfl ?_ ?_ <;> intro hg))
         all_goals exact ⟨get_as (by simp_all [bad3, anS] <;> rfl), inferInstance, inferInstance, rfl⟩)
  rintro s H ⟨g46, g1, g2, rfl⟩
  skip
  refine V_cond ?_ ?_ <;> intro h3
  · repeat' (first | refine V_seq ?_ | refine V_region ?_ | refine WS_nil ?_ | refine S_normal ?_ | refine V_ret ?_ | refine S_ret ?_ | refine WS_assign ?_)
    refine retK_1 ⟨?_, eH⟩ (.inr rfl)
    simp [shapeBad, h3]
  repeat (first | refine V_seq ?_ | refine V_region ?_ | refine S_normal ?_ | refine V_skip ?_ | refine WS_move ?_ | refine WS_cmp rfl ?_ | refine WS_fieldAddr ?_ | refine WS_load ?_)
  refine WS_cut (fun s' h' => Get s' 64 (.bool (bad4 o)) ∧ h' = H) ?_ ?_
  · repeat' (first | refine WS_nil ?_ | refine WS_off rfl (by first | rfl | assumption) ?_ | refine WS_on rfl (by first | rfl | assumption) ?_ | refine WS_move ?_ | refine WS_pick_t (by first | rfl | assumption) ?_ | refine WS_pick_f (by first | rfl | assumption) ?_ | refine WS_strne ?_ | refine WS_off_undef rfl ?_ | refine WS_cmp rfl ?_ | refine WS_fieldAddr ?_ | refine WS_load ?_ | (refine WS_guard rfl ?_ ?_ <;> intro hg))
    all_goals exact ⟨get_as (by simp_all [bad4] <;> rfl), rfl⟩
  rintro s H ⟨g64, rfl⟩
  repeat' (first | refine V_seq ?_ | refine V_region ?_ | refine WS_nil ?_ | refine S_normal ?_ | refine V_skip ?_ | refine V_ret ?_ | refine S_ret ?_ | refine WS_assign ?_ | (refine V_cond ?_ ?_ <;> intro hc <;> try (cases hc; done)))
  · refine retK_1 ⟨?_, eH⟩ (.inr rfl)
    simp [shapeBad, hc]
  · refine retK_1 ⟨?_, eH⟩ (.inr rfl)
    simp [shapeBad, h1, h2, h3, hc]
instance : CallIs Try.prog 82 := .of Try.func82 rfl rfl
end Go.Ideal

-- Ce
set_option linter.unusedSimpArgs false
set_option linter.unusedVariables false
namespace Go.Ideal
open Go Go.Proofs
/-! ### What an operation by itself is refused for -/
def outS (q x : Int) : Bool := decide (x < 0) || decide (q ≤ x)
def nS (o : OpD) : Int := if o.kind = 1 then arityS o.name else 1
def bitBad (o : OpD) (bits : Int) : Bool := decide (o.kind = 2) && (decide (o.bit < 0) || decide (bits ≤ o.bit))
def dupK (qs : List Int) : Nat → Bool
  | 0 => false
  | i + 1 => dupK qs i || decide (qs.getD i 0 ∈ qs.take i)
theorem dupK_more {qs : List Int} {i : Nat} (h : dupK qs i = true) : ∀ n, i ≤ n → dupK qs n = true := by
  intro n hn
  induction hn with
  | refl => exact h
  | step _ ih => rw [dupK, ih]; rfl
def faultS (o : OpD) (q bits : Int) : Int :=
  if shapeBad o bits = true then 120
  else if o.kind = 1 ∧ arityS o.name = 0 then 80
  else if (o.qs.length : Int) ≠ nS o then 111
  else if o.qs.any (outS q) = true then 112
  else if bitBad o bits = true then 112
  else if dupK o.qs o.qs.length = true then 113
  else 0
theorem any_take {qs : List Int} {p : Int → Bool} {i : Nat} {x : Int} (h : (qs.take i).any p = false) (hx : qs[i]? = some x) (hp : p x = false) : (qs.take (i + 1)).any p = false := by
  rw [List.take_add_one, List.any_append, h, hx]; simp [hp]
theorem any_at {qs : List Int} {p : Int → Bool} {i : Nat} {x : Int} (hx : qs[i]? = some x) (hp : p x = true) : qs.any p = true :=
  List.any_eq_true.2 ⟨x, List.mem_of_getElem? hx, hp⟩
theorem getD_at {qs : List Int} {i : Nat} {x : Int} (hx : qs[i]? = some x) : qs.getD i 0 = x := by simp [List.getD_eq_getElem?_getD, hx]
set_option maxHeartbeats 4000000 in
theorem fault_ref (o : OpD) (a : Option Addr) (l c : Nat) (q bits : Int) (hb : 0 ≤ bits ∧ bits ≤ 64) (hm : o.mask < 2 ^ 64) (hv : o.value < 2 ^ 64) (h : IHp) (hs : SlIs h a l c (ints o.qs)) (hc63 : c < 2 ^ 63) :
    EvX Try.prog 62 [.agg (o.cells a l c).toArray, .int .i64 q, .int .i64 bits].toArray h (fun v h' => v = .int .i64 (faultS o q bits) ∧ Ext h h') := by
  have hlen : o.qs.length = l := by have := hs.1; rwa [ints_len] at this
  have hlc : l ≤ c := hs.2.1
  refine EvX_of Try.func62 rfl (by show 3 ≤ 86; decide) ?_
  unfold OpD.cells
  repeat' (first | refine V_seq ?_ | refine V_region ?_ | refine WS_nil ?_ | refine S_normal ?_ | refine WS_move ?_ | refine WS_assign ?_ | refine WS_load_agg ?_ | refine WS_box_agg rfl ?_)
  refine WS_gen ?_
  intro H hH
  have o3 : ObjIs H h.fresh [.int .i64 o.kind, .string o.name, .slice a l c, .int .i64 o.bit, .bool o.iff, .int .u64 o.mask, .int .u64 o.value] 29 true := hH ▸ inferInstance
  have eH : Ext h H := hH ▸ Ext.push _ _
  clear hH
  generalize h.fresh = p at *
  refine WS_call (shape_ref o a l c bits hb hm hv _) ?_
  rintro _ H2 ⟨rfl, e2⟩
  have p3 := ObjIs.ext (e := e2) (i := o3)
  have eH2 := eH.trans e2
  clear e2 eH o3
  by_cases hsb : shapeBad o bits = true
  · rw [if_pos hsb]
    repeat' (first | refine V_seq ?_ | refine V_region ?_ | refine WS_nil ?_ | refine S_normal ?_ | refine V_ret ?_ | refine S_ret ?_ | refine WS_move ?_ | refine WS_assign ?_ | refine WS_cmp rfl ?_ | refine V_cond_t (by first | rfl | assumption) ?_)
    refine retK_1 ⟨?_, eH2⟩ (.inr rfl)
    rw [faultS, if_pos hsb]
  rw [if_neg hsb]
  repeat (first | refine V_seq ?_ | refine V_region ?_ | refine WS_nil ?_ | refine S_normal ?_ | refine V_skip ?_ | refine WS_move ?_ | refine WS_assign ?_ | refine WS_neq_same ?_ | refine WS_cmp rfl ?_ | refine WS_fieldAddr ?_ | refine WS_load ?_ | refine V_cond_f (by first | rfl | assumption) ?_)
  refine V_cut (fun s' h' => Get s' 8 (.int .i64 (nS o)) ∧ (o.kind = 1 → arityS o.name ≠ 0) ∧ Get s' 1 (.int .i64 q) ∧ Get s' 2 (.int .i64 bits) ∧ Get s' 3 (.pointer (some (ad p 0))) ∧ h' = H2) ?_ ?_
  · refine V_cond ?_ ?_ <;> intro hk
    · repeat' (first | refine V_seq ?_ | refine V_region ?_ | refine WS_fieldAddr ?_ | refine WS_load ?_)
      refine WS_call (refArity_spec o.name _) ?_
      rintro _ _ ⟨rfl, rfl⟩
      have hk1 : o.kind = 1 := by simpa using hk
      repeat' (first | refine V_seq ?_ | refine V_region ?_ | refine WS_nil ?_ | refine S_normal ?_ | refine V_skip ?_ | refine V_ret ?_ | refine S_ret ?_ | refine C_normal ?_ | refine C_ret ?_ | refine WS_move ?_ | refine WS_assign ?_ | refine WS_cmp rfl ?_ | (refine V_cond ?_ ?_ <;> intro hc <;> try (cases hc; done)))
      · refine retK_1 ⟨?_, eH2⟩ (.inr rfl)
        rw [faultS, if_neg hsb, if_pos ⟨hk1, by simpa using hc⟩]
      · exact ⟨get_as (by simp [nS, hk1]), fun _ => by simpa using hc, inferInstance, inferInstance, inferInstance, rfl⟩
    · repeat' (first | refine V_skip ?_ | refine C_normal ?_)
      have hk1 : ¬ o.kind = 1 := by simpa using hk
      exact ⟨get_as (by simp [nS, hk1]), fun h => absurd h hk1, inferInstance, inferInstance, inferInstance, rfl⟩
  rintro s H2 ⟨g8, hk1, g1, g2, g3, rfl⟩
  have hk2 : ¬ (o.kind = 1 ∧ arityS o.name = 0) := fun hh => hk1 hh.1 hh.2
  repeat (first | refine V_seq ?_ | refine V_region ?_ | refine WS_nil ?_ | refine S_normal ?_ | refine WS_move ?_ | refine WS_cmp rfl ?_ | refine WS_len_slice ?_ | refine WS_fieldAddr ?_ | refine WS_load ?_)
  refine V_cond ?_ ?_ <;> intro hn
  · have hn1 : (o.qs.length : Int) ≠ nS o := by rw [hlen]; simpa using hn
    repeat' (first | refine V_seq ?_ | refine V_region ?_ | refine WS_nil ?_ | refine S_normal ?_ | refine V_ret ?_ | refine S_ret ?_ | refine WS_assign ?_)
    refine retK_1 ⟨?_, eH2⟩ (.inr rfl)
    rw [faultS, if_neg hsb, if_neg hk2, if_pos hn1]
  have hn1 : (l : Int) = nS o := by simpa using hn
  have hn2 : ¬ (o.qs.length : Int) ≠ nS o := by rw [hlen]; simpa using hn
  rw [← hn1] at g8
  repeat (first | refine V_seq ?_ | refine V_region ?_ | refine WS_nil ?_ | refine S_normal ?_ | refine V_block ?_ | refine V_skip ?_ | refine WS_assign ?_)
  refine V_loop (fun d s h' => ∃ i : Int, d = (l - i).toNat ∧ 0 ≤ i ∧ i ≤ l ∧ Get s 9 (.int .i64 i) ∧ Get s 8 (.int .i64 l) ∧ Get s 1 (.int .i64 q) ∧ Get s 2 (.int .i64 bits) ∧ Get s 3 (.pointer (some (ad p 0))) ∧ h' = H2 ∧ (o.qs.take i.toNat).any (outS q) = false) l
    ⟨0, by omega, by omega, by omega, inferInstance, inferInstance, inferInstance, inferInstance, inferInstance, rfl, by simp⟩ ?_
  rintro d s H2 ⟨i, rfl, hi0, hi1, g9, g8, g1, g2, g3, rfl, hany⟩
  repeat (first | refine V_seq ?_ | refine V_region ?_ | refine WS_nil ?_ | refine S_normal ?_ | refine WS_move ?_ | refine WS_cmp rfl ?_)
  refine V_cond ?_ ?_ <;> intro hi
  · have hil : i < l := by simpa using hi
    obtain ⟨b, v, rfl, hv1, c1⟩ := (hs.ext eH2).at hi0 hil
    obtain ⟨x, rfl, hx⟩ := ints_get hv1
    have hbnd : 0 ≤ i ∧ i < (l : Int) := ⟨hi0, hil⟩
    repeat (first | refine V_seq ?_ | refine V_region ?_ | refine S_normal ?_ | refine V_block ?_ | refine V_skip ?_ | refine WS_move ?_ | refine WS_cmp rfl ?_ | refine WS_fieldAddr ?_ | refine WS_load ?_ | refine WS_indexAddr (by first | decide | omega) ?_)
    refine WS_cut (fun s' h' => Get s' 50 (.bool (outS q x)) ∧ Get s' 9 (.int .i64 i) ∧ Get s' 8 (.int .i64 l) ∧ Get s' 1 (.int .i64 q) ∧ Get s' 2 (.int .i64 bits) ∧ Get s' 3 (.pointer (some (ad p 0))) ∧ h' = H2) ?_ ?_
    · repeat' (first | refine WS_nil ?_ | refine WS_off rfl (by first | rfl | assumption) ?_ | refine WS_on rfl (by first | rfl | assumption) ?_ | refine WS_move ?_ | refine WS_pick_t (by first | rfl | assumption) ?_ | refine WS_pick_f (by first | rfl | assumption) ?_ | refine WS_cmp rfl ?_ | refine WS_fieldAddr ?_ | refine WS_load ?_ | refine WS_indexAddr (by first | decide | omega) ?_ | (refine WS_guard rfl ?_ ?_ <;> intro hg))
      all_goals exact ⟨get_as (by rw [outS, hg]; rfl), inferInstance, inferInstance, inferInstance, inferInstance, inferInstance, rfl⟩
    rintro s H2 ⟨g50, g9, g8, g1, g2, g3, rfl⟩
    repeat' (first | refine V_seq ?_ | refine V_region ?_ | refine WS_nil ?_ | refine S_normal ?_ | refine B_normal ?_ | refine V_skip ?_ | refine V_ret ?_ | refine S_ret ?_ | refine B_ret ?_ | refine WS_move ?_ | refine WS_assign ?_ | refine WS_addi (by omega) ?_ | (refine V_cond ?_ ?_ <;> intro hc <;> try (cases hc; done)))
    · refine retK_1 ⟨?_, eH2⟩ (.inr rfl)
      rw [faultS, if_neg hsb, if_neg hk2, if_neg hn2, if_pos (any_at hx hc)]
    · refine ⟨_, ?_, i + 1, rfl, by omega, by omega, inferInstance, inferInstance, inferInstance, inferInstance, inferInstance, rfl, ?_⟩
      · omega
      · rw [show (i + 1).toNat = i.toNat + 1 by omega]; exact any_take hany hx hc
  have hil : i = l := by simp at hi; omega
  rw [hil, Int.toNat_natCast, List.take_of_length_le (by omega)] at hany
  repeat (first | refine V_seq ?_ | refine V_region ?_ | refine S_normal ?_ | refine V_exit ?_ | refine S_exit ?_ | refine B_exit ?_ | refine WS_move ?_ | refine WS_cmp rfl ?_ | refine WS_fieldAddr ?_ | refine WS_load ?_)
  refine WS_cut (fun s' h' => Get s' 64 (.bool (bitBad o bits)) ∧ Get s' 8 (.int .i64 l) ∧ Get s' 3 (.pointer (some (ad p 0))) ∧ h' = H2) ?_ ?_
  · repeat' (first | refine WS_nil ?_ | refine WS_off rfl (by first | rfl | assumption) ?_ | refine WS_on rfl (by first | rfl | assumption) ?_ | refine WS_move ?_ | refine WS_pick_t (by first | rfl | assumption) ?_ | refine WS_pick_f (by first | rfl | assumption) ?_ | refine WS_off_undef rfl ?_ | refine WS_cmp rfl ?_ | refine WS_fieldAddr ?_ | refine WS_load ?_ | (refine WS_guard rfl ?_ ?_ <;> intro hg))
    all_goals exact ⟨get_as (by simp only [bitBad, *] <;> rfl), inferInstance, inferInstance, rfl⟩
  rintro s H2 ⟨g64, g8, g3, rfl⟩
  skip
  refine V_cond ?_ ?_ <;> intro hbb
  · repeat' (first | refine V_seq ?_ | refine V_region ?_ | refine WS_nil ?_ | refine S_normal ?_ | refine V_ret ?_ | refine S_ret ?_ | refine WS_assign ?_)
    refine retK_1 ⟨?_, eH2⟩ (.inr rfl)
    rw [faultS, if_neg hsb, if_neg hk2, if_neg hn2, if_neg (by rw [hany]; decide), if_pos hbb]
  repeat (first | refine V_seq ?_ | refine V_region ?_ | refine WS_nil ?_ | refine S_normal ?_ | refine V_block ?_ | refine V_skip ?_ | refine WS_assign ?_)
  refine V_loop (fun d s h' => ∃ i : Int, d = (l - i).toNat ∧ 0 ≤ i ∧ i ≤ l ∧ Get s 10 (.int .i64 i) ∧ Get s 8 (.int .i64 l) ∧ Get s 3 (.pointer (some (ad p 0))) ∧ h' = H2 ∧ dupK o.qs i.toNat = false) l
    ⟨0, by omega, by omega, by omega, inferInstance, inferInstance, inferInstance, rfl, rfl⟩ ?_
  rintro d s H2 ⟨i, rfl, hi0, hi1, g10, g8, g3, rfl, hdup⟩
  repeat (first | refine V_seq ?_ | refine V_region ?_ | refine WS_nil ?_ | refine S_normal ?_ | refine WS_move ?_ | refine WS_cmp rfl ?_)
  refine V_cond ?_ ?_ <;> intro hi
  · have hil : i < l := by simpa using hi
    obtain ⟨b, v, rfl, hv1, c1⟩ := (hs.ext eH2).at hi0 hil
    obtain ⟨x, rfl, hx⟩ := ints_get hv1
    have hbnd : 0 ≤ i ∧ i < (l : Int) := ⟨hi0, hil⟩
    repeat (first | refine V_seq ?_ | refine V_region ?_ | refine WS_nil ?_ | refine S_normal ?_ | refine V_block ?_ | refine V_skip ?_ | refine WS_assign ?_)
    refine V_loop (fun d s h' => ∃ k : Int, d = (i - k).toNat ∧ 0 ≤ k ∧ k ≤ i ∧ Get s 11 (.int .i64 k) ∧ Get s 10 (.int .i64 i) ∧ Get s 8 (.int .i64 l) ∧ Get s 3 (.pointer (some (ad p 0))) ∧ h' = H2 ∧ x ∉ o.qs.take k.toNat) i.toNat
      ⟨0, by omega, by omega, by omega, inferInstance, inferInstance, inferInstance, inferInstance, rfl, by simp⟩ ?_
    rintro d s H2 ⟨k, rfl, hk0, hk1', g11, g10, g8, g3, rfl, hnm⟩
    repeat (first | refine V_seq ?_ | refine V_region ?_ | refine WS_nil ?_ | refine S_normal ?_ | refine WS_move ?_ | refine WS_cmp rfl ?_)
    refine V_cond ?_ ?_ <;> intro hki
    · have hkil : k < i := by simpa using hki
      obtain ⟨b', v', hbe, hv2, c2⟩ := (hs.ext eH2).at hk0 (show k < l by omega)
      obtain rfl := Option.some.inj hbe
      obtain ⟨y, rfl, hy⟩ := ints_get hv2
      have hbnd2 : 0 ≤ k ∧ k < (l : Int) := by omega
      repeat' (first | refine V_seq ?_ | refine V_region ?_ | refine WS_nil ?_ | refine S_normal ?_ | refine V_block ?_ | refine B_normal ?_ | refine V_skip ?_ | refine V_ret ?_ | refine S_ret ?_ | refine B_ret ?_ | refine WS_move ?_ | refine WS_assign ?_ | refine WS_cmp rfl ?_ | refine WS_addi (by omega) ?_ | refine WS_fieldAddr ?_ | refine WS_indexAddr (by first | decide | omega) ?_ | refine WDT_go ?_ | refine WD_nil ?_ | refine WD_load rfl ?_ | refine WD_take rfl rfl ?_ | refine V_draw (id := 24) (plan := [.take 0, .take 1, .take 2, .take 3, .take 4, .take 5, .take 6, .take 7, .take 8, .take 9, .take 10]) (by kernel_rfl) ?_ | (refine V_cond ?_ ?_ <;> intro hc <;> try (cases hc; done)))
      · have hxy : x = y := by simpa using hc
        refine retK_1 ⟨?_, eH2⟩ (.inr rfl)
        have hd : dupK o.qs (i.toNat + 1) = true := by
          rw [dupK, getD_at hx, Bool.or_eq_true]
          refine .inr (decide_eq_true ?_)
          rw [hxy]
          exact List.mem_of_getElem? (i := k.toNat) (by rw [List.getElem?_take_of_lt (by omega)]; exact hy)
        rw [faultS, if_neg hsb, if_neg hk2, if_neg hn2, if_neg (by rw [hany]; decide), if_neg (by rw [hbb]; decide), if_pos (dupK_more hd _ (by omega))]
      · have hxy : ¬ x = y := by simpa using hc
        refine ⟨_, ?_, k + 1, rfl, by omega, by omega, inferInstance, inferInstance, inferInstance, inferInstance, rfl, ?_⟩
        · omega
        · rw [show (k + 1).toNat = k.toNat + 1 by omega, List.take_add_one, hy]
          simp only [Option.toList_some, List.mem_append, List.mem_singleton, not_or]
          exact ⟨hnm, hxy⟩
    · have hki : k = i := by simp at hki; omega
      subst hki
      repeat' (first | refine V_region ?_ | refine WS_nil ?_ | refine S_normal ?_ | refine B_normal ?_ | refine V_exit ?_ | refine S_exit ?_ | refine B_exit ?_ | refine WS_move ?_ | refine WS_assign ?_ | refine WS_addi (by omega) ?_)
      refine ⟨_, ?_, k + 1, rfl, by omega, by omega, inferInstance, inferInstance, inferInstance, rfl, ?_⟩
      · omega
      · rw [show (k + 1).toNat = k.toNat + 1 by omega, dupK, hdup, getD_at hx]
        simpa using hnm
  have hil : i = l := by simp at hi; omega
  repeat' (first | refine V_seq ?_ | refine V_region ?_ | refine WS_nil ?_ | refine S_normal ?_ | refine V_exit ?_ | refine V_ret ?_ | refine S_exit ?_ | refine B_exit ?_ | refine WS_assign ?_)
  refine retK_1 ⟨?_, eH2⟩ (.inr rfl)
  rw [hil, Int.toNat_natCast, ← hlen] at hdup
  rw [faultS, if_neg hsb, if_neg hk2, if_neg hn2, if_neg (by rw [hany]; decide), if_neg (by rw [hbb]; decide), if_neg (by rw [hdup]; decide)]
instance : CallIs Try.prog 62 := .of Try.func62 rfl rfl
end Go.Ideal

-- Cf
set_option linter.unusedSimpArgs false
set_option linter.unusedVariables false
namespace Go.Ideal
open Go Go.Proofs
/-! ### circuit.fault -/
def bmS (bits : Int) : Nat := if bits = 64 then 2 ^ 64 - 1 else 2 ^ bits.toNat - 1
def knownS (o : OpD) : Bool := decide (o.kind = 1) || decide (o.kind = 2) || decide (o.kind = 3)
def bad5 (o : OpD) (bits : Int) : Bool := !knownS o || (o.iff && decide ((o.mask : Int) = 0)) || (!o.iff && (!decide ((o.mask : Int) = 0) || !decide ((o.value : Int) = 0))) || !decide (anS o.mask (bmS bits) = 0) || !decide (anS o.value o.mask = 0)
theorem bmS_lt {bits : Int} (hb : 0 ≤ bits ∧ bits ≤ 64) : bmS bits < 2 ^ 64 := by
  unfold bmS
  split
  · decide
  · have : 2 ^ bits.toNat ≤ 2 ^ 64 := Nat.pow_le_pow_right (by decide) (by omega)
    have : 0 < 2 ^ bits.toNat := Nat.pow_pos (by decide)
    omega
theorem anS_zero {v m : Nat} (hv : v < 2 ^ 64) (hm : m < 2 ^ 64) : anS v m = 0 ↔ ∀ i, v.testBit i = true → m.testBit i = true := by
  have h1 : anS v m = (((BitVec.ofNat 64 v) &&& ~~~(BitVec.ofNat 64 m)).toNat : Int) := by
    show IntKind.u64.wrap (((BitVec.ofInt 64 v) &&& ~~~(BitVec.ofInt 64 m)).toNat : Int) = _
    rw [BitVec.ofInt_natCast, BitVec.ofInt_natCast]
    have hlt : ((BitVec.ofNat 64 v) &&& ~~~(BitVec.ofNat 64 m)).toNat < 2 ^ 64 := BitVec.isLt _
    exact wrap_u64_id (Int.natCast_nonneg _) (by omega)
  rw [h1]
  have h2 : ((((BitVec.ofNat 64 v) &&& ~~~(BitVec.ofNat 64 m)).toNat : Nat) : Int) = 0 ↔ ((BitVec.ofNat 64 v) &&& ~~~(BitVec.ofNat 64 m)) = 0#64 := by
    constructor
    · intro h; apply BitVec.eq_of_toNat_eq; simpa using (Int.natCast_eq_zero.1 h)
    · intro h; rw [h]; rfl
  rw [h2]
  constructor
  · intro h i hi
    have hi64 : i < 64 := by
      apply Decidable.byContradiction
      intro hc
      rw [Nat.testBit_lt_two_pow (Nat.lt_of_lt_of_le hv (Nat.pow_le_pow_right (by decide) (by omega)))] at hi
      cases hi
    have h3 := congrArg (fun b => b.getLsbD i) h
    simp only [BitVec.getLsbD_and, BitVec.getLsbD_not, BitVec.getLsbD_ofNat, hi64, decide_true, Bool.true_and, hi, BitVec.getLsbD_zero] at h3
    simpa using h3
  · intro h
    apply BitVec.eq_of_getLsbD_eq
    intro i hi
    simp only [BitVec.getLsbD_and, BitVec.getLsbD_not, BitVec.getLsbD_ofNat, hi, decide_true, Bool.true_and, BitVec.getLsbD_zero]
    cases hvi : v.testBit i with
    | false => simp
    | true => rw [h i hvi]; simp
theorem beyond_an {x : Nat} {bits : Int} (hx : x < 2 ^ 64) (hb : 0 ≤ bits ∧ bits ≤ 64) : (!decide (anS x (bmS bits) = 0)) = beyondS x bits := by
  have hbit : ∀ i, (bmS bits).testBit i = decide (i < bits.toNat) := by
    intro i
    unfold bmS
    split
    · rename_i h
      rw [Nat.testBit_two_pow_sub_one, h]; rfl
    · rw [Nat.testBit_two_pow_sub_one]
  have key : anS x (bmS bits) = 0 ↔ beyondS x bits = false := by
    rw [anS_zero hx (bmS_lt hb)]
    unfold beyondS
    rw [Nat.shiftRight_eq_div_pow]
    constructor
    · intro h
      by_cases h64 : bits < 64
      · have hlt : x < 2 ^ bits.toNat := by
          apply Nat.lt_pow_two_of_testBit
          intro i hi
          cases hxi : x.testBit i with
          | false => rfl
          | true => have := h i hxi; rw [hbit] at this; simp at this; omega
        simp [h64, Nat.div_eq_of_lt hlt]
      · simp [h64]
    · intro h i hi
      rw [hbit]
      by_cases h64 : bits < 64
      · simp only [h64, decide_true, Bool.true_and, Bool.not_eq_false', decide_eq_true_eq] at h
        have hlt : x < 2 ^ bits.toNat := by
          have h0 : x / 2 ^ bits.toNat = 0 := Int.natCast_eq_zero.1 h
          exact (Nat.div_eq_zero_iff_lt (Nat.pow_pos (by decide))).1 h0
        apply Decidable.byContradiction
        intro hc
        rw [Nat.testBit_lt_two_pow (Nat.lt_of_lt_of_le hlt (Nat.pow_le_pow_right (by decide) (by simp at hc; omega)))] at hi
        cases hi
      · apply Decidable.byContradiction
        intro hc
        rw [Nat.testBit_lt_two_pow (Nat.lt_of_lt_of_le hx (Nat.pow_le_pow_right (by decide) (by simp at hc; omega)))] at hi
        cases hi
  cases hc : beyondS x bits with
  | false => rw [decide_eq_true (key.2 hc)]; rfl
  | true => rw [decide_eq_false (fun h => by rw [key.1 h] at hc; cases hc)]; rfl
theorem bad_same {o : OpD} {bits : Int} (hm : o.mask < 2 ^ 64) (hv : o.value < 2 ^ 64) (hb : 0 ≤ bits ∧ bits ≤ 64) : (bad5 o bits || bad4 o) = shapeBad o bits := by
  unfold bad5 shapeBad
  rw [beyond_an hm hb]
  have hk : (!knownS o) = bad1 o := by
    unfold knownS bad1
    by_cases h1 : o.kind = 1
    · simp [h1]
    by_cases h2 : o.kind = 2
    · simp [h2]
    by_cases h3 : o.kind = 3
    · simp [h3]
    simp only [h1, h2, h3, decide_false, Bool.or_false, Bool.not_false]
    symm
    rw [Bool.or_eq_true, decide_eq_true_eq, decide_eq_true_eq]
    omega
  rw [hk]
  have hz : beyondS 0 bits = false := by simp [beyondS]
  have ha : anS 0 0 = 0 := (anS_zero (by decide) (by decide)).2 fun i hi => by simp at hi
  cases hi : o.iff with
  | true =>
    simp only [bad2, bad3, hi, Bool.true_and, Bool.not_true, Bool.false_and, Bool.or_false]
    cases bad1 o <;> cases decide ((o.mask : Int) = 0) <;> cases beyondS o.mask bits <;> cases decide (anS o.value o.mask = 0) <;> cases bad4 o <;> rfl
  | false =>
    simp only [bad2, bad3, hi, Bool.true_and, Bool.not_false, Bool.false_and, Bool.or_false]
    by_cases h1 : (o.mask : Int) = 0
    · by_cases h2 : (o.value : Int) = 0
      · have e1 : o.mask = 0 := by omega
        have e2 : o.value = 0 := by omega
        rw [e1, e2, hz, ha]
        cases bad1 o <;> cases bad4 o <;> rfl
      · simp only [h1, h2, decide_true, decide_false, Bool.not_true, Bool.not_false, Bool.false_or, Bool.or_true, Bool.true_or]
    · simp only [h1, decide_false, Bool.not_false, Bool.true_or, Bool.or_true]
theorem bm_64 {bits : Int} (h : bits = 64) : (18446744073709551615 : Int) = (bmS bits : Nat) := by rw [bmS, if_pos h]; decide
theorem bm_lt {bits : Int} (h0 : 0 ≤ bits) (h1 : bits ≤ 64) (h : ¬ bits = 64) : IntKind.u64.wrap (IntKind.u64.wrap (1 * 2 ^ min bits.toNat IntKind.u64.bits) - 1) = (bmS bits : Nat) := by
  rw [shl_one h0 (by omega), bmS, if_neg h]
  have hp : 0 < 2 ^ bits.toNat := Nat.pow_pos (by decide)
  have hq : 2 ^ bits.toNat ≤ 2 ^ 64 := Nat.pow_le_pow_right (by decide) (by omega)
  rw [wrap_u64_id (by omega) (by omega)]
  omega
end Go.Ideal

-- Cg
set_option linter.unusedSimpArgs false
set_option linter.unusedVariables false
namespace Go.Ideal
open Go Go.Proofs
set_option maxHeartbeats 8000000 in
theorem fault_spec (o : OpD) (a : Option Addr) (l c : Nat) (q bits : Int) (cv : Option Addr) (cl cc : Nat) (hb : 0 ≤ bits ∧ bits ≤ 64) (hm : o.mask < 2 ^ 64) (hv : o.value < 2 ^ 64) (h : IHp) (hs : SlIs h a l c (ints o.qs)) (hc63 : c < 2 ^ 63) (hsp : SpotOk a c) :
    EvX Try.prog 54 [.agg [.int .i64 q, .int .i64 bits, .slice cv cl cc].toArray, .agg (o.cells a l c).toArray].toArray h (fun v h' => v = .int .i64 (faultS o q bits) ∧ Ext h h') := by
  have hlen : o.qs.length = l := by have := hs.1; rwa [ints_len] at this
  have hlc : l ≤ c := hs.2.1
  refine EvX_of Try.func54 rfl (by show 2 ≤ 142; decide) ?_
  unfold OpD.cells
  repeat (first | refine V_seq ?_ | refine V_region ?_ | refine WS_nil ?_ | refine S_normal ?_ | refine WS_move ?_ | refine WS_assign ?_ | refine WS_cmp rfl ?_ | refine WS_fieldAddr ?_ | refine WS_load ?_ | refine WS_box_agg rfl ?_)
  refine WS_gen ?_
  intro H hH
  obtain ⟨r, hr⟩ : ∃ r, r = (h.push (.cells [.int .i64 q, .int .i64 bits, .slice cv cl cc] 24 true)).fresh := ⟨_, rfl⟩
  have o2 : ObjIs H h.fresh [.int .i64 q, .int .i64 bits, .slice cv cl cc] 24 true := hH ▸ inferInstance
  have o3 : ObjIs H r [.int .i64 o.kind, .string o.name, .slice a l c, .int .i64 o.bit, .bool o.iff, .int .u64 o.mask, .int .u64 o.value] 29 true := hr ▸ hH ▸ inferInstance
  have eH : Ext h H := hH ▸ (Ext.push _ _).push' _
  rw [← hr]
  clear hH hr
  generalize h.fresh = p at *
  refine WS_cut (fun s' h' => Get s' 5 (.bool (knownS o)) ∧ Get s' 2 (.pointer (some (ad p 0))) ∧ Get s' 3 (.pointer (some (ad r 0))) ∧ h' = H) ?_ ?_
  · repeat' (first | refine WS_nil ?_ | refine WS_off rfl (by first | rfl | assumption) ?_ | refine WS_on rfl (by first | rfl | assumption) ?_ | refine WS_move ?_ | refine WS_assign ?_ | refine WS_pick_t (by first | rfl | assumption) ?_ | refine WS_pick_f (by first | rfl | assumption) ?_ | refine WS_cmp rfl ?_ | refine WS_fieldAddr ?_ | refine WS_load ?_ | (refine WS_guard rfl ?_ ?_ <;> intro hg))
    all_goals exact ⟨get_as (by simp only [knownS, *] <;> rfl), inferInstance, inferInstance, rfl⟩
  rintro s H ⟨g5, g2, g3, rfl⟩
  repeat (first | refine V_seq ?_ | refine V_region ?_ | refine WS_nil ?_ | refine S_normal ?_ | refine WS_assign ?_ | refine WS_cmp rfl ?_ | refine WS_arith rfl ?_ | refine WS_fieldAddr ?_ | refine WS_load ?_ | refine WS_shift (by first | decide | omega) rfl ?_)
  refine V_cut (fun s' h' => Get s' 6 (.int .u64 (bmS bits : Nat)) ∧ Get s' 5 (.bool (knownS o)) ∧ Get s' 2 (.pointer (some (ad p 0))) ∧ Get s' 3 (.pointer (some (ad r 0))) ∧ h' = H) ?_ ?_
  · refine V_cond ?_ ?_ <;> intro hk
    · repeat' (first | refine V_region ?_ | refine WS_nil ?_ | refine C_normal ?_ | refine WS_assign ?_)
      exact ⟨get_as (congrArg (Value.int .u64) (bm_64 (by simpa using hk))), inferInstance, inferInstance, inferInstance, rfl⟩
    · repeat' (first | refine V_skip ?_ | refine C_normal ?_)
      exact ⟨get_as (congrArg (Value.int .u64) (bm_lt hb.1 hb.2 (by simpa using hk))), inferInstance, inferInstance, inferInstance, rfl⟩
  rintro s H ⟨g6, g5, g2, g3, rfl⟩
  repeat (first | refine V_seq ?_ | refine V_region ?_ | refine WS_nil ?_ | refine S_normal ?_ | refine V_block ?_ | refine WS_move ?_ | refine WS_assign ?_ | refine WS_not ?_)
  refine V_cut (fun s' h' => Get s' 32 (.bool (bad5 o bits)) ∧ Get s' 2 (.pointer (some (ad p 0))) ∧ Get s' 3 (.pointer (some (ad r 0))) ∧ h' = H) ?_ ?_
  · repeat' (first | refine V_seq ?_ | refine V_region ?_ | refine WS_nil ?_ | refine S_normal ?_ | refine V_skip ?_ | refine C_normal ?_ | refine WS_off rfl (by first | rfl | assumption) ?_ | refine WS_on rfl (by first | rfl | assumption) ?_ | refine WS_move ?_ | refine WS_assign ?_ | refine WS_pick_t (by first | rfl | assumption) ?_ | refine WS_pick_f (by first | rfl | assumption) ?_ | refine WS_off_undef rfl ?_ | refine WS_cmp rfl ?_ | refine WS_arith rfl ?_ | refine WS_not ?_ | refine WS_fieldAddr ?_ | refine WS_load ?_ | (refine WS_guard rfl ?_ ?_ <;> intro hg) | refine V_cond_t (by first | rfl | assumption) ?_ | refine V_cond_f (by first | rfl | assumption) ?_ | (refine V_cond ?_ ?_ <;> intro hc <;> try (cases hc; done)))
    all_goals exact ⟨get_as (by simp_all [bad5, anS] <;> rfl), inferInstance, inferInstance, rfl⟩
  rintro s H ⟨g32, g2, g3, rfl⟩
  skip
  refine V_cond ?_ ?_ <;> intro h5
  · repeat' (first | refine V_seq ?_ | refine V_region ?_ | refine WS_nil ?_ | refine S_normal ?_ | refine V_ret ?_ | refine S_ret ?_ | refine B_ret ?_ | refine WS_assign ?_)
    refine retK_1 ⟨?_, eH⟩ (.inr rfl)
    rw [faultS, ← bad_same hm hv hb, h5]; rfl
  repeat (first | refine V_seq ?_ | refine V_region ?_ | refine WS_move ?_ | refine WS_cmp rfl ?_ | refine WS_fieldAddr ?_ | refine WS_load ?_)
  refine WS_cut (fun s' h' => Get s' 66 (.bool (!decide (o.kind = 1) && !beqS o.name ⟨#[]⟩)) ∧ Get s' 2 (.pointer (some (ad p 0))) ∧ Get s' 3 (.pointer (some (ad r 0))) ∧ h' = H) ?_ ?_
  · repeat' (first | refine WS_nil ?_ | refine WS_off rfl (by first | rfl | assumption) ?_ | refine WS_on rfl (by first | rfl | assumption) ?_ | refine WS_assign ?_ | refine WS_pick_t (by first | rfl | assumption) ?_ | refine WS_pick_f (by first | rfl | assumption) ?_ | refine WS_strne ?_ | refine WS_fieldAddr ?_ | refine WS_load ?_ | (refine WS_guard rfl ?_ ?_ <;> intro hg))
    all_goals exact ⟨get_as (by simp only [*] <;> rfl), inferInstance, inferInstance, rfl⟩
  rintro s H ⟨g66, g2, g3, rfl⟩
  skip
  refine V_cond ?_ ?_ <;> intro h41
  · repeat' (first | refine V_seq ?_ | refine V_region ?_ | refine WS_nil ?_ | refine S_normal ?_ | refine V_skip ?_ | refine V_ret ?_ | refine S_ret ?_ | refine B_ret ?_ | refine WS_assign ?_ | refine V_cond_t (by first | rfl | assumption) ?_)
    refine retK_1 ⟨?_, eH⟩ (.inr rfl)
    rw [faultS, ← bad_same hm hv hb, h5, bad4, h41]; rfl
  repeat (first | refine V_region ?_ | refine WS_move ?_ | refine WS_cmp rfl ?_ | refine WS_fieldAddr ?_ | refine WS_load ?_)
  refine WS_cut (fun s' h' => Get s' 66 (.bool (!decide (o.kind = 2) && !decide (o.bit = 0))) ∧ Get s' 2 (.pointer (some (ad p 0))) ∧ Get s' 3 (.pointer (some (ad r 0))) ∧ h' = H) ?_ ?_
  · repeat' (first | refine WS_nil ?_ | refine WS_off rfl (by first | rfl | assumption) ?_ | refine WS_on rfl (by first | rfl | assumption) ?_ | refine WS_assign ?_ | refine WS_pick_t (by first | rfl | assumption) ?_ | refine WS_pick_f (by first | rfl | assumption) ?_ | refine WS_cmp rfl ?_ | refine WS_fieldAddr ?_ | refine WS_load ?_ | (refine WS_guard rfl ?_ ?_ <;> intro hg))
    all_goals exact ⟨get_as (by simp only [*] <;> rfl), inferInstance, inferInstance, rfl⟩
  rintro s H ⟨g66, g2, g3, rfl⟩
  skip
  refine V_cond ?_ ?_ <;> intro h42
  · repeat' (first | refine V_seq ?_ | refine V_region ?_ | refine WS_nil ?_ | refine S_normal ?_ | refine V_ret ?_ | refine S_ret ?_ | refine B_ret ?_ | refine WS_assign ?_)
    refine retK_1 ⟨?_, eH⟩ (.inr rfl)
    rw [faultS, ← bad_same hm hv hb, h5, bad4, h41, h42]; rfl
  have hsb : ¬ shapeBad o bits = true := by rw [← bad_same hm hv hb, h5, bad4, h41, h42]; decide
  repeat (first | refine V_seq ?_ | refine V_region ?_ | refine WS_nil ?_ | refine S_normal ?_ | refine B_normal ?_ | refine V_skip ?_ | refine WS_assign ?_ | refine WS_cmp rfl ?_ | refine WS_fieldAddr ?_ | refine WS_load ?_)
  refine V_cut (fun s' h' => ∃ H2, Get s' 7 (.int .i64 (nS o)) ∧ (o.kind = 1 → arityS o.name ≠ 0) ∧ Get s' 2 (.pointer (some (ad p 0))) ∧ Get s' 3 (.pointer (some (ad r 0))) ∧ h' = H2 ∧ Ext H H2) ?_ ?_
  · refine V_cond ?_ ?_ <;> intro hk
    · repeat' (first | refine V_seq ?_ | refine V_region ?_ | refine WS_fieldAddr ?_ | refine WS_load ?_)
      refine WS_call (gateArity_spec o.name _) ?_
      rintro _ H2 ⟨rfl, e2⟩
      have hk1 : o.kind = 1 := by simpa using hk
      repeat' (first | refine V_seq ?_ | refine V_region ?_ | refine WS_nil ?_ | refine S_normal ?_ | refine V_skip ?_ | refine V_ret ?_ | refine S_ret ?_ | refine C_normal ?_ | refine C_ret ?_ | refine WS_move ?_ | refine WS_assign ?_ | refine WS_cmp rfl ?_ | (refine V_cond ?_ ?_ <;> intro hc <;> try (cases hc; done)))
      · refine retK_1 ⟨?_, eH.trans e2⟩ (.inr rfl)
        rw [faultS, if_neg hsb, if_pos ⟨hk1, by simpa using hc⟩]
      · exact ⟨H2, get_as (by simp [nS, hk1]), fun _ => by simpa using hc, inferInstance, inferInstance, rfl, e2⟩
    · repeat' (first | refine V_skip ?_ | refine C_normal ?_)
      have hk1 : ¬ o.kind = 1 := by simpa using hk
      exact ⟨H, get_as (by simp [nS, hk1]), fun h => absurd h hk1, inferInstance, inferInstance, rfl, Ext.refl _⟩
  rintro s H2 ⟨_, g7, hk1, g2, g3, rfl, e2⟩
  have p2 := ObjIs.ext (e := e2) (i := o2)
  have p3 := ObjIs.ext (e := e2) (i := o3)
  have eH2 := eH.trans e2
  clear e2 eH o2 o3
  have hk2 : ¬ (o.kind = 1 ∧ arityS o.name = 0) := fun hh => hk1 hh.1 hh.2
  repeat (first | refine V_seq ?_ | refine V_region ?_ | refine WS_nil ?_ | refine S_normal ?_ | refine WS_move ?_ | refine WS_cmp rfl ?_ | refine WS_len_slice ?_ | refine WS_fieldAddr ?_ | refine WS_load ?_)
  refine V_cond ?_ ?_ <;> intro hn
  · have hn1 : (o.qs.length : Int) ≠ nS o := by rw [hlen]; simpa using hn
    repeat' (first | refine V_seq ?_ | refine V_region ?_ | refine WS_nil ?_ | refine S_normal ?_ | refine V_ret ?_ | refine S_ret ?_ | refine WS_assign ?_)
    refine retK_1 ⟨?_, eH2⟩ (.inr rfl)
    rw [faultS, if_neg hsb, if_neg hk2, if_pos hn1]
  have hn2 : ¬ (o.qs.length : Int) ≠ nS o := by rw [hlen]; simpa using hn
  repeat (first | refine V_seq ?_ | refine V_region ?_ | refine WS_nil ?_ | refine S_normal ?_ | refine V_block ?_ | refine V_skip ?_ | refine WS_move ?_ | refine WS_len_slice ?_ | refine WS_fieldAddr ?_ | refine WS_load ?_)
  refine V_loop (fun d s h' => ∃ i : Int, d = (l - i).toNat ∧ 0 ≤ i ∧ i ≤ l ∧ Get s 99 (.int .i64 i) ∧ Get s 98 (.int .i64 l) ∧ Get s 97 (.slice a l c) ∧ Get s 2 (.pointer (some (ad p 0))) ∧ Get s 3 (.pointer (some (ad r 0))) ∧ h' = H2 ∧ (o.qs.take i.toNat).any (outS q) = false) l
    ⟨0, by omega, by omega, by omega, inferInstance, inferInstance, inferInstance, inferInstance, inferInstance, rfl, by simp⟩ ?_
  rintro d s H2 ⟨i, rfl, hi0, hi1, g99, g98, g97, g2, g3, rfl, hany⟩
  repeat (first | refine V_seq ?_ | refine V_region ?_ | refine WS_nil ?_ | refine S_normal ?_ | refine WS_cmp rfl ?_)
  refine V_cond ?_ ?_ <;> intro hi
  · have hil : i < l := by simpa using hi
    obtain ⟨b, v, rfl, hv1, c1⟩ := (hs.ext eH2).at hi0 hil
    obtain ⟨x, rfl, hx⟩ := ints_get hv1
    have hbnd : 0 ≤ i ∧ i < (l : Int) := ⟨hi0, hil⟩
    repeat (first | refine V_seq ?_ | refine V_region ?_ | refine WS_nil ?_ | refine S_normal ?_ | refine V_block ?_ | refine V_skip ?_ | refine WS_move ?_ | refine WS_assign ?_ | refine WS_cmp rfl ?_ | refine WS_load ?_ | refine WS_indexAddr (by first | decide | omega) ?_)
    refine WS_cut (fun s' h' => Get s' 110 (.bool (outS q x)) ∧ Get s' 99 (.int .i64 i) ∧ Get s' 98 (.int .i64 l) ∧ Get s' 97 (.slice (some b) l c) ∧ Get s' 2 (.pointer (some (ad p 0))) ∧ Get s' 3 (.pointer (some (ad r 0))) ∧ h' = H2) ?_ ?_
    · repeat' (first | refine WS_nil ?_ | refine WS_off rfl (by first | rfl | assumption) ?_ | refine WS_on rfl (by first | rfl | assumption) ?_ | refine WS_move ?_ | refine WS_pick_t (by first | rfl | assumption) ?_ | refine WS_pick_f (by first | rfl | assumption) ?_ | refine WS_cmp rfl ?_ | refine WS_fieldAddr ?_ | refine WS_load ?_ | (refine WS_guard rfl ?_ ?_ <;> intro hg))
      all_goals exact ⟨get_as (by rw [outS, hg]; rfl), inferInstance, inferInstance, inferInstance, inferInstance, inferInstance, rfl⟩
    rintro s H2 ⟨g110, g99, g98, g97, g2, g3, rfl⟩
    repeat' (first | refine V_seq ?_ | refine V_region ?_ | refine WS_nil ?_ | refine S_normal ?_ | refine B_normal ?_ | refine V_skip ?_ | refine V_ret ?_ | refine S_ret ?_ | refine B_ret ?_ | refine WS_move ?_ | refine WS_assign ?_ | refine WS_addi (by omega) ?_ | (refine V_cond ?_ ?_ <;> intro hc <;> try (cases hc; done)))
    · refine retK_1 ⟨?_, eH2⟩ (.inr rfl)
      rw [faultS, if_neg hsb, if_neg hk2, if_neg hn2, if_pos (any_at hx hc)]
    · refine ⟨_, ?_, i + 1, rfl, by omega, by omega, inferInstance, inferInstance, inferInstance, inferInstance, inferInstance, rfl, ?_⟩
      · omega
      · rw [show (i + 1).toNat = i.toNat + 1 by omega]; exact any_take hany hx hc
  have hil : i = l := by simp at hi; omega
  rw [hil, Int.toNat_natCast, List.take_of_length_le (by omega)] at hany
  repeat (first | refine V_seq ?_ | refine V_region ?_ | refine S_normal ?_ | refine V_exit ?_ | refine S_exit ?_ | refine B_exit ?_ | refine WS_move ?_ | refine WS_cmp rfl ?_ | refine WS_fieldAddr ?_ | refine WS_load ?_)
  refine WS_cut (fun s' h' => Get s' 126 (.bool (bitBad o bits)) ∧ Get s' 3 (.pointer (some (ad r 0))) ∧ h' = H2) ?_ ?_
  · repeat' (first | refine WS_nil ?_ | refine WS_off rfl (by first | rfl | assumption) ?_ | refine WS_on rfl (by first | rfl | assumption) ?_ | refine WS_move ?_ | refine WS_pick_t (by first | rfl | assumption) ?_ | refine WS_pick_f (by first | rfl | assumption) ?_ | refine WS_off_undef rfl ?_ | refine WS_cmp rfl ?_ | refine WS_fieldAddr ?_ | refine WS_load ?_ | (refine WS_guard rfl ?_ ?_ <;> intro hg))
    all_goals exact ⟨get_as (by simp only [bitBad, *] <;> rfl), inferInstance, rfl⟩
  rintro s H2 ⟨g126, g3, rfl⟩
  skip
  refine V_cond ?_ ?_ <;> intro hbb
  · repeat' (first | refine V_seq ?_ | refine V_region ?_ | refine WS_nil ?_ | refine S_normal ?_ | refine V_ret ?_ | refine S_ret ?_ | refine WS_assign ?_)
    refine retK_1 ⟨?_, eH2⟩ (.inr rfl)
    rw [faultS, if_neg hsb, if_neg hk2, if_neg hn2, if_neg (by rw [hany]; decide), if_pos hbb]
  repeat (first | refine V_seq ?_ | refine V_region ?_ | refine WS_nil ?_ | refine S_normal ?_ | refine V_block ?_ | refine V_skip ?_ | refine WS_move ?_ | refine WS_len_slice ?_ | refine WS_fieldAddr ?_ | refine WS_load ?_)
  refine V_loop (fun d s h' => ∃ i : Int, d = (l - i).toNat ∧ 0 ≤ i ∧ i ≤ l ∧ Get s 130 (.int .i64 i) ∧ Get s 129 (.int .i64 l) ∧ Get s 128 (.slice a l c) ∧ Get s 3 (.pointer (some (ad r 0))) ∧ h' = H2 ∧ dupK o.qs i.toNat = false) l
    ⟨0, by omega, by omega, by omega, inferInstance, inferInstance, inferInstance, inferInstance, rfl, rfl⟩ ?_
  rintro d s H2 ⟨i, rfl, hi0, hi1, g130, g129, g128, g3, rfl, hdup⟩
  repeat (first | refine V_seq ?_ | refine V_region ?_ | refine WS_nil ?_ | refine S_normal ?_ | refine WS_cmp rfl ?_)
  refine V_cond ?_ ?_ <;> intro hi
  · have hil : i < l := by simpa using hi
    obtain ⟨b, v, rfl, hv1, c1⟩ := (hs.ext eH2).at hi0 hil
    obtain ⟨x, rfl, hx⟩ := ints_get hv1
    have hbnd : 0 ≤ i ∧ i < (l : Int) := ⟨hi0, hil⟩
    have hspot : b.spot = none := by
      rcases hsp b rfl with h1 | h1
      · exact h1
      · omega
    repeat (first | refine V_seq ?_ | refine V_region ?_ | refine WS_nil ?_ | refine S_normal ?_ | refine V_block ?_ | refine V_skip ?_ | refine WS_move ?_ | refine WS_assign ?_ | refine WS_fieldAddr ?_ | refine WS_load ?_ | refine WS_indexAddr (by first | decide | omega) ?_)
    refine WS_slice_hi hspot (by omega) ?_
    repeat (refine WS_move ?_)
    have hsl : SlIs H2 (some (ad b.block b.off)) i.toNat c (ints (o.qs.take i.toNat)) := by
      obtain ⟨s1, s2, s3⟩ := hs.ext eH2
      refine ⟨by simp [ints]; omega, by omega, ?_⟩
      simp only at s3 ⊢
      have := row_take s3 (show i.toNat ≤ l by omega)
      rw [this, ints, ints, List.map_take]
    refine WS_call (Contains_spec _ _ _ _ x _ hsl (by omega)) ?_
    rintro _ _ ⟨rfl, rfl⟩
    repeat' (first | refine V_seq ?_ | refine V_region ?_ | refine WS_nil ?_ | refine S_normal ?_ | refine B_normal ?_ | refine V_skip ?_ | refine V_ret ?_ | refine S_ret ?_ | refine B_ret ?_ | refine WS_move ?_ | refine WS_assign ?_ | refine WS_addi (by omega) ?_ | (refine V_cond ?_ ?_ <;> intro hc <;> try (cases hc; done)))
    · have hd : dupK o.qs (i.toNat + 1) = true := by
        rw [dupK, getD_at hx, Bool.or_eq_true]; exact .inr hc
      refine retK_1 ⟨?_, eH2⟩ (.inr rfl)
      rw [faultS, if_neg hsb, if_neg hk2, if_neg hn2, if_neg (by rw [hany]; decide), if_neg (by rw [hbb]; decide), if_pos (dupK_more hd _ (by omega))]
    · refine ⟨_, ?_, i + 1, rfl, by omega, by omega, inferInstance, inferInstance, inferInstance, inferInstance, rfl, ?_⟩
      · omega
      · rw [show (i + 1).toNat = i.toNat + 1 by omega, dupK, hdup, getD_at hx, hc]; rfl
  have hil : i = l := by simp at hi; omega
  repeat' (first | refine V_seq ?_ | refine V_region ?_ | refine WS_nil ?_ | refine S_normal ?_ | refine V_exit ?_ | refine V_ret ?_ | refine S_exit ?_ | refine B_exit ?_ | refine WS_assign ?_)
  refine retK_1 ⟨?_, eH2⟩ (.inr rfl)
  rw [hil, Int.toNat_natCast, ← hlen] at hdup
  rw [faultS, if_neg hsb, if_neg hk2, if_neg hn2, if_neg (by rw [hany]; decide), if_neg (by rw [hbb]; decide), if_neg (by rw [hdup]; decide)]
instance : CallIs Try.prog 54 := .of Try.func54 rfl rfl
end Go.Ideal

-- Ch
set_option linter.unusedSimpArgs false
set_option linter.unusedVariables false
namespace Go.Ideal
open Go Go.Proofs
/-! ### Check -/
def rangeBad (c : CircD) : Bool := decide (c.qubits < 0) || decide (64 < c.qubits) || decide (c.bits < 0) || decide (64 < c.bits)
theorem rangeBad_no {c : CircD} (h : rangeBad c = false) : 0 ≤ c.qubits ∧ c.qubits ≤ 64 ∧ 0 ≤ c.bits ∧ c.bits ≤ 64 := by
  simp [rangeBad] at h; omega
def chkK (q b : Int) : List OpD → Int → Int → Int × Int
  | [], _, _ => (0, 0)
  | o :: os, i, n => if faultS o q b ≠ 0 then (i, faultS o q b) else if 36 < n + halvesO o then (i, 116) else chkK q b os (i + 1) (n + halvesO o)
def checkC (c : CircD) : Int × Int :=
  if rangeBad c = true then (0, 2) else if 4096 < c.ops.length then (0, 115) else chkK c.qubits c.bits c.ops 0 0
theorem row_inv {h : IHp} {b off n : Nat} {v : Value} {vs : List Value} (r : RowIs h b off (n + 1) (v :: vs)) : CellIs h b off v ∧ RowIs h b (off + 1) n vs := by
  have h1 := r.eq
  simp only [IHp.row, Option.bind_eq_some_iff] at h1
  obtain ⟨u, hu, us, hus, h2⟩ := h1
  have h3 := Option.some.inj h2
  simp only [List.cons.injEq] at h3
  obtain ⟨rfl, rfl⟩ := h3
  exact ⟨⟨hu⟩, ⟨hus⟩⟩
theorem drop_at {α : Type} {l : List α} {i : Nat} {x : α} (h : l[i]? = some x) : l.drop i = x :: l.drop (i + 1) := by
  have hi := (List.getElem?_eq_some_iff.1 h).1
  rw [List.drop_eq_getElem_cons hi]
  rw [List.getElem?_eq_getElem hi] at h
  rw [Option.some.inj h]
set_option maxHeartbeats 4000000 in
theorem circCheck_spec {c : CircD} {v : Value} {h : IHp} (hv : CircV h v c) : EvX Try.prog 29 [v].toArray h (fun v h' => v = .tuple [.int .i64 (checkC c).1, .int .i64 (checkC c).2].toArray ∧ Ext h h') := by
  obtain ⟨a, l, k, rfl, hops⟩ := hv
  have hlen : c.ops.length = l := hops.1
  have hlk : l ≤ k := hops.2.1
  refine EvX_of Try.func29 rfl (by show 1 ≤ 53; decide) ?_
  repeat (first | refine V_seq ?_ | refine V_region ?_ | refine WS_nil ?_ | refine S_normal ?_ | refine WS_move ?_ | refine WS_assign ?_ | refine WS_cmp rfl ?_ | refine WS_fieldAddr ?_ | refine WS_load ?_ | refine WS_box_agg rfl ?_)
  refine WS_gen ?_
  intro H hH
  have o1 : ObjIs H h.fresh [.int .i64 c.qubits, .int .i64 c.bits, .slice a l k] 24 true := hH ▸ inferInstance
  have eH : Ext h H := hH ▸ Ext.push _ _
  clear hH
  generalize h.fresh = p at *
  refine WS_cut (fun s' h' => Get s' 25 (.bool (rangeBad c)) ∧ Get s' 1 (.pointer (some (ad p 0))) ∧ h' = H) ?_ ?_
  · repeat' (first | refine WS_nil ?_ | refine WS_off rfl (by first | rfl | assumption) ?_ | refine WS_on rfl (by first | rfl | assumption) ?_ | refine WS_move ?_ | refine WS_pick_t (by first | rfl | assumption) ?_ | refine WS_pick_f (by first | rfl | assumption) ?_ | refine WS_cmp rfl ?_ | refine WS_fieldAddr ?_ | refine WS_load ?_ | (refine WS_guard rfl ?_ ?_ <;> intro hg))
    all_goals exact ⟨get_as (by simp only [rangeBad, *] <;> rfl), inferInstance, rfl⟩
  rintro s H ⟨g25, g1, rfl⟩
  skip
  refine V_cond ?_ ?_ <;> intro hr
  · repeat' (first | refine V_seq ?_ | refine V_region ?_ | refine WS_nil ?_ | refine S_normal ?_ | refine V_ret ?_ | refine S_ret ?_ | refine WS_assign ?_)
    refine retK_2 ⟨?_, eH⟩ (.inr rfl)
    rw [checkC, if_pos hr]
  have hrn : ¬ rangeBad c = true := by rw [hr]; decide
  obtain ⟨hq0, hq1, hb0, hb1⟩ := rangeBad_no hr
  repeat (first | refine V_seq ?_ | refine V_region ?_ | refine WS_nil ?_ | refine S_normal ?_ | refine V_skip ?_ | refine WS_cmp rfl ?_ | refine WS_len_slice ?_ | refine WS_fieldAddr ?_ | refine WS_load ?_)
  refine V_cond ?_ ?_ <;> intro hm
  · repeat' (first | refine V_seq ?_ | refine V_region ?_ | refine WS_nil ?_ | refine S_normal ?_ | refine V_ret ?_ | refine S_ret ?_ | refine WS_assign ?_)
    refine retK_2 ⟨?_, eH⟩ (.inr rfl)
    rw [checkC, if_neg hrn, if_pos (by simp at hm; omega)]
  have hmn : ¬ 4096 < c.ops.length := by simp at hm; omega
  repeat (first | refine V_seq ?_ | refine V_region ?_ | refine WS_nil ?_ | refine S_normal ?_ | refine V_block ?_ | refine V_skip ?_ | refine WS_move ?_ | refine WS_assign ?_ | refine WS_len_slice ?_ | refine WS_fieldAddr ?_ | refine WS_load ?_)
  refine V_loop (fun d s h' => ∃ i n : Int, d = (l - i).toNat ∧ 0 ≤ i ∧ i ≤ l ∧ 0 ≤ n ∧ n ≤ 36 ∧ Get s 33 (.int .i64 i) ∧ Get s 32 (.int .i64 l) ∧ Get s 31 (.slice a l k) ∧ Get s 4 (.int .i64 n) ∧ Get s 1 (.pointer (some (ad p 0))) ∧ Ext H h' ∧ chkK c.qubits c.bits c.ops 0 0 = chkK c.qubits c.bits (c.ops.drop i.toNat) i n) l
    ⟨0, 0, by omega, by omega, by omega, by omega, by omega, inferInstance, inferInstance, inferInstance, inferInstance, inferInstance, Ext.refl _, rfl⟩ ?_
  rintro d s h' ⟨i, n, rfl, hi0, hi1, hn0, hn1, g33, g32, g31, g4, g1, e', hK⟩
  repeat (first | refine V_seq ?_ | refine V_region ?_ | refine WS_nil ?_ | refine S_normal ?_ | refine WS_cmp rfl ?_)
  refine V_cond ?_ ?_ <;> intro hi
  · have hil : i < l := by simpa using hi
    obtain ⟨b, o, cells, rfl, ho, hrow, hC⟩ := ((hops.ext eH).ext e').at hi0 hil
    obtain ⟨qa, ql, qc, rfl, hs, hmk, hvl, hc63, hsp⟩ := hC
    unfold OpD.cells at hrow
    have hbnd : 0 ≤ i ∧ i < (l : Int) := ⟨hi0, hil⟩
    rw [drop_at ho, chkK] at hK
    repeat (first | refine V_seq ?_ | refine V_region ?_ | refine WS_nil ?_ | refine S_normal ?_ | refine V_block ?_ | refine V_skip ?_ | refine WS_move ?_ | refine WS_assign ?_ | refine WS_load_agg ?_ | refine WS_indexAddr (by first | decide | omega) ?_ | refine WS_alloc ?_ | refine WS_store rfl ?_)
    refine WS_gen ?_
    intro H1 hH1
    have o6 : ObjIs H1 h'.fresh [.int .i64 o.kind, .string o.name, .slice qa ql qc, .int .i64 o.bit, .bool o.iff, .int .u64 o.mask, .int .u64 o.value] 29 true := hH1 ▸ inferInstance
    have e1 : Ext h' H1 := hH1 ▸ (Ext.push _ _).putObj (Nat.le_refl _)
    have x1 : Ext H H1 := e'.trans e1
    clear hH1
    generalize h'.fresh = r at *
    repeat (refine WS_load_agg ?_)
    refine WS_call (fault_spec o qa ql qc c.qubits c.bits (some b) l k ⟨hb0, hb1⟩ hmk hvl _ (hs.ext e1) hc63 hsp) ?_
    rintro _ H2 ⟨rfl, e2⟩
    have x2 := x1.trans e2
    have o6' := ObjIs.ext (e := e2) (i := o6)
    clear e1 e2 x1 o6 e'
    repeat (first | refine V_seq ?_ | refine V_region ?_ | refine WS_nil ?_ | refine S_normal ?_ | refine WS_move ?_ | refine WS_assign ?_ | refine WS_cmp rfl ?_)
    refine V_cond ?_ ?_ <;> intro hf
    · have hf1 : faultS o c.qubits c.bits ≠ 0 := by simpa using hf
      repeat' (first | refine V_seq ?_ | refine V_region ?_ | refine WS_nil ?_ | refine S_normal ?_ | refine V_ret ?_ | refine S_ret ?_ | refine B_ret ?_ | refine WS_move ?_ | refine WS_assign ?_)
      refine retK_2 ⟨?_, eH.trans x2⟩ (.inr rfl)
      rw [checkC, if_neg hrn, if_neg hmn, hK, if_pos hf1]
    · have hf1 : ¬ faultS o c.qubits c.bits ≠ 0 := by simpa using hf
      repeat (first | refine V_seq ?_ | refine V_region ?_ | refine S_normal ?_ | refine V_skip ?_ | refine WS_move ?_ | refine WS_load_agg ?_)
      refine WS_call (halves_spec o qa ql qc _) ?_
      rintro _ H3 ⟨rfl, e3⟩
      have x3 := x2.trans e3
      have h01 := halvesO_01 o
      clear e3 x2 o6'
      repeat' (first | refine V_seq ?_ | refine V_region ?_ | refine WS_nil ?_ | refine S_normal ?_ | refine B_normal ?_ | refine V_skip ?_ | refine V_ret ?_ | refine S_ret ?_ | refine B_ret ?_ | refine WS_move ?_ | refine WS_assign ?_ | refine WS_cmp rfl ?_ | refine WS_addi (by omega) ?_ | (refine V_cond ?_ ?_ <;> intro hc <;> try (cases hc; done)))
      · refine retK_2 ⟨?_, eH.trans x3⟩ (.inr rfl)
        rw [checkC, if_neg hrn, if_neg hmn, hK, if_neg hf1, if_pos (by simpa using hc)]
      · have hc1 : ¬ 36 < n + halvesO o := by simpa using hc
        refine ⟨_, ?_, i + 1, n + halvesO o, rfl, by omega, by omega, by omega, by omega, inferInstance, inferInstance, inferInstance, inferInstance, inferInstance, x3, ?_⟩
        · omega
        · rw [hK, if_neg hf1, if_neg hc1, show (i + 1).toNat = i.toNat + 1 by omega]
  · have hil : i = l := by simp at hi; omega
    repeat' (first | refine V_seq ?_ | refine V_region ?_ | refine WS_nil ?_ | refine S_normal ?_ | refine V_exit ?_ | refine V_ret ?_ | refine S_exit ?_ | refine B_exit ?_ | refine WS_assign ?_)
    refine retK_2 ⟨?_, eH.trans e'⟩ (.inr rfl)
    rw [checkC, if_neg hrn, if_neg hmn, hK, List.drop_of_length_le (by omega)]; rfl
instance : CallIs Try.prog 29 := .of Try.func29 rfl rfl
set_option maxHeartbeats 4000000 in
theorem circCheck_ref {c : CircD} {v : Value} {h : IHp} (hv : CircV h v c) : EvX Try.prog 38 [v].toArray h (fun v h' => v = .tuple [.int .i64 (checkC c).1, .int .i64 (checkC c).2].toArray ∧ Ext h h') := by
  obtain ⟨a, l, k, rfl, hops⟩ := hv
  have hlen : c.ops.length = l := hops.1
  have hlk : l ≤ k := hops.2.1
  refine EvX_of Try.func38 rfl (by show 1 ≤ 61; decide) ?_
  repeat (first | refine V_seq ?_ | refine V_region ?_ | refine WS_nil ?_ | refine S_normal ?_ | refine WS_move ?_ | refine WS_assign ?_ | refine WS_cmp rfl ?_ | refine WS_fieldAddr ?_ | refine WS_load ?_ | refine WS_box_agg rfl ?_)
  refine WS_gen ?_
  intro H hH
  have o1 : ObjIs H h.fresh [.int .i64 c.qubits, .int .i64 c.bits, .slice a l k] 24 true := hH ▸ inferInstance
  have eH : Ext h H := hH ▸ Ext.push _ _
  clear hH
  generalize h.fresh = p at *
  refine WS_cut (fun s' h' => Get s' 24 (.bool (rangeBad c)) ∧ Get s' 1 (.pointer (some (ad p 0))) ∧ h' = H) ?_ ?_
  · repeat' (first | refine WS_nil ?_ | refine WS_off rfl (by first | rfl | assumption) ?_ | refine WS_on rfl (by first | rfl | assumption) ?_ | refine WS_move ?_ | refine WS_pick_t (by first | rfl | assumption) ?_ | refine WS_pick_f (by first | rfl | assumption) ?_ | refine WS_cmp rfl ?_ | refine WS_fieldAddr ?_ | refine WS_load ?_ | (refine WS_guard rfl ?_ ?_ <;> intro hg))
    all_goals exact ⟨get_as (by simp only [rangeBad, *] <;> rfl), inferInstance, rfl⟩
  rintro s H ⟨g24, g1, rfl⟩
  skip
  refine V_cond ?_ ?_ <;> intro hr
  · repeat' (first | refine V_seq ?_ | refine V_region ?_ | refine WS_nil ?_ | refine S_normal ?_ | refine V_ret ?_ | refine S_ret ?_ | refine WS_assign ?_)
    refine retK_2 ⟨?_, eH⟩ (.inr rfl)
    rw [checkC, if_pos hr]
  have hrn : ¬ rangeBad c = true := by rw [hr]; decide
  obtain ⟨hq0, hq1, hb0, hb1⟩ := rangeBad_no hr
  repeat (first | refine V_seq ?_ | refine V_region ?_ | refine WS_nil ?_ | refine S_normal ?_ | refine V_skip ?_ | refine WS_cmp rfl ?_ | refine WS_len_slice ?_ | refine WS_fieldAddr ?_ | refine WS_load ?_)
  refine V_cond ?_ ?_ <;> intro hm
  · repeat' (first | refine V_seq ?_ | refine V_region ?_ | refine WS_nil ?_ | refine S_normal ?_ | refine V_ret ?_ | refine S_ret ?_ | refine WS_assign ?_)
    refine retK_2 ⟨?_, eH⟩ (.inr rfl)
    rw [checkC, if_neg hrn, if_pos (by simp at hm; omega)]
  have hmn : ¬ 4096 < c.ops.length := by simp at hm; omega
  repeat (first | refine V_seq ?_ | refine V_region ?_ | refine WS_nil ?_ | refine S_normal ?_ | refine V_block ?_ | refine V_skip ?_ | refine WS_assign ?_)
  refine V_loop (fun d s h' => ∃ i n : Int, d = (l - i).toNat ∧ 0 ≤ i ∧ i ≤ l ∧ 0 ≤ n ∧ n ≤ 36 ∧ Get s 5 (.int .i64 i) ∧ Get s 4 (.int .i64 n) ∧ Get s 1 (.pointer (some (ad p 0))) ∧ Ext H h' ∧ chkK c.qubits c.bits c.ops 0 0 = chkK c.qubits c.bits (c.ops.drop i.toNat) i n) l
    ⟨0, 0, by omega, by omega, by omega, by omega, by omega, inferInstance, inferInstance, inferInstance, Ext.refl _, rfl⟩ ?_
  rintro d s h' ⟨i, n, rfl, hi0, hi1, hn0, hn1, g5, g4, g1, e', hK⟩
  repeat (first | refine V_seq ?_ | refine V_region ?_ | refine WS_nil ?_ | refine S_normal ?_ | refine WS_move ?_ | refine WS_cmp rfl ?_ | refine WS_len_slice ?_ | refine WS_fieldAddr ?_ | refine WS_load ?_)
  refine V_cond ?_ ?_ <;> intro hi
  · have hil : i < l := by simpa using hi
    obtain ⟨b, o, cells, rfl, ho, hrow, hC⟩ := ((hops.ext eH).ext e').at hi0 hil
    obtain ⟨qa, ql, qc, rfl, hs, hmk, hvl, hc63, hsp⟩ := hC
    unfold OpD.cells at hrow
    have hbnd : 0 ≤ i ∧ i < (l : Int) := ⟨hi0, hil⟩
    rw [drop_at ho, chkK] at hK
    obtain ⟨k0, r1⟩ := row_inv hrow
    obtain ⟨k1, r2⟩ := row_inv r1
    obtain ⟨k2, r3⟩ := row_inv r2
    obtain ⟨k3, r4⟩ := row_inv r3
    obtain ⟨k4, r5⟩ := row_inv r4
    obtain ⟨k5, r6⟩ := row_inv r5
    obtain ⟨k6, _⟩ := row_inv r6
    repeat (first | refine V_seq ?_ | refine WS_nil ?_ | refine S_normal ?_ | refine V_block ?_ | refine V_skip ?_ | refine WS_move ?_ | refine WS_fieldAddr ?_ | refine WS_indexAddr (by first | decide | omega) ?_ | refine WDT_go ?_ | refine WD_load rfl ?_ | refine WD_load_agg rfl ?_ | refine WD_take rfl rfl ?_ | refine WD_filt rfl ?_ | refine Filt_drop rfl ?_ | refine Filt_keep rfl ?_ | refine Filt_nil ?_ | refine V_draw (id := 9) (plan := [.take 0, .take 1, .take 2, .take 3, .take 4, .take 5, .take 6, .take 7, .take 8, .one 9, .take 10]) (by kernel_rfl) ?_)
    refine WS_call (fault_ref o qa ql qc c.qubits c.bits ⟨hb0, hb1⟩ hmk hvl _ hs hc63) ?_
    rintro _ H2 ⟨rfl, e2⟩
    have x2 := e'.trans e2
    have hrow2 : RowIs H2 b.block (b.off + i.toNat * 7) 7 _ := ⟨row_ext e2 hrow.eq⟩
    repeat (first | refine V_seq ?_ | refine V_region ?_ | refine WS_nil ?_ | refine S_normal ?_ | refine WS_move ?_ | refine WS_assign ?_ | refine WS_cmp rfl ?_ | refine WDK_go ?_ | refine WDT_go ?_ | refine WD_nil ?_ | refine WD_take rfl rfl ?_)
    refine V_cond ?_ ?_ <;> intro hf
    · have hf1 : faultS o c.qubits c.bits ≠ 0 := by simpa using hf
      repeat' (first | refine V_seq ?_ | refine V_region ?_ | refine WS_nil ?_ | refine S_normal ?_ | refine V_ret ?_ | refine S_ret ?_ | refine B_ret ?_ | refine WS_move ?_ | refine WS_assign ?_)
      refine retK_2 ⟨?_, eH.trans x2⟩ (.inr rfl)
      rw [checkC, if_neg hrn, if_neg hmn, hK, if_pos hf1]
    · have hf1 : ¬ faultS o c.qubits c.bits ≠ 0 := by simpa using hf
      repeat (first | refine V_seq ?_ | refine V_region ?_ | refine S_normal ?_ | refine V_skip ?_ | refine WS_move ?_ | refine WS_fieldAddr ?_ | refine WS_load ?_ | refine WS_load_agg ?_ | refine WS_indexAddr (by first | decide | omega) ?_)
      refine WS_call (halves_ref o qa ql qc _) ?_
      rintro _ H3 ⟨rfl, e3⟩
      have x3 := x2.trans e3
      have h01 := halvesO_01 o
      repeat' (first | refine V_seq ?_ | refine V_region ?_ | refine WS_nil ?_ | refine S_normal ?_ | refine B_normal ?_ | refine V_skip ?_ | refine V_ret ?_ | refine S_ret ?_ | refine B_ret ?_ | refine WS_move ?_ | refine WS_assign ?_ | refine WS_cmp rfl ?_ | refine WS_addi (by omega) ?_ | (refine V_cond ?_ ?_ <;> intro hc <;> try (cases hc; done)))
      · refine retK_2 ⟨?_, eH.trans x3⟩ (.inr rfl)
        rw [checkC, if_neg hrn, if_neg hmn, hK, if_neg hf1, if_pos (by simpa using hc)]
      · have hc1 : ¬ 36 < n + halvesO o := by simpa using hc
        refine ⟨_, ?_, i + 1, n + halvesO o, rfl, by omega, by omega, by omega, by omega, inferInstance, inferInstance, inferInstance, x3, ?_⟩
        · omega
        · rw [hK, if_neg hf1, if_neg hc1, show (i + 1).toNat = i.toNat + 1 by omega]
  · have hil : i = l := by simp at hi; omega
    repeat' (first | refine V_seq ?_ | refine V_region ?_ | refine WS_nil ?_ | refine S_normal ?_ | refine V_exit ?_ | refine V_ret ?_ | refine S_exit ?_ | refine B_exit ?_ | refine WS_assign ?_)
    refine retK_2 ⟨?_, eH.trans e'⟩ (.inr rfl)
    rw [checkC, if_neg hrn, if_neg hmn, hK, List.drop_of_length_le (by omega)]; rfl
instance : CallIs Try.prog 38 := .of Try.func38 rfl rfl
end Go.Ideal

-- Cia
set_option linter.unusedSimpArgs false
set_option linter.unusedVariables false
namespace Go.Ideal
open Go Go.Proofs Go.RowKit
theorem chk_ok {q b : Int} : ∀ (ops : List OpD) (i n : Int), (chkK q b ops i n).2 = 0 → ∀ o ∈ ops, faultS o q b = 0 := by
  intro ops
  induction ops with
  | nil => intro i n _ o ho; cases ho
  | cons o ops ih =>
    intro i n h o' ho'
    rw [chkK] at h
    split at h
    · rename_i hf; exact absurd h hf
    · rename_i hf
      split at h
      · cases h
      · rcases List.mem_cons.1 ho' with rfl | h2
        · exact Decidable.not_not.1 hf
        · exact ih _ _ h o' h2
theorem checkC_ok {c : CircD} (h : (checkC c).2 = 0) : rangeBad c = false ∧ c.ops.length ≤ 4096 ∧ ∀ o ∈ c.ops, faultS o c.qubits c.bits = 0 := by
  unfold checkC at h
  split at h
  · cases h
  · rename_i hr
    split at h
    · cases h
    · rename_i hm
      exact ⟨by simpa using hr, by omega, chk_ok _ _ _ h⟩
theorem fault_ok {o : OpD} {q b : Int} (h : faultS o q b = 0) : shapeBad o b = false ∧ ¬ (o.kind = 1 ∧ arityS o.name = 0) ∧ (o.qs.length : Int) = nS o ∧ o.qs.any (outS q) = false ∧ bitBad o b = false ∧ dupK o.qs o.qs.length = false := by
  unfold faultS at h
  split at h
  · cases h
  · rename_i h1
    split at h
    · cases h
    · rename_i h2
      split at h
      · cases h
      · rename_i h3
        split at h
        · cases h
        · rename_i h4
          split at h
          · cases h
          · rename_i h5
            split at h
            · cases h
            · rename_i h6
              exact ⟨by simpa using h1, h2, Decidable.not_not.1 h3, by simpa using h4, by simpa using h5, by simpa using h6⟩
end Go.Ideal

-- Bra
set_option linter.unusedSimpArgs false
set_option linter.unusedVariables false
namespace Go.Ideal
open Go Go.Proofs Go.RowKit
theorem wf_u64 {i : Int} (h : (Lit.int .u64 i).wf = true) : ∃ x : Nat, i = x ∧ x < 2 ^ 64 := by
  have := bounds_u64 h
  exact ⟨i.toNat, by omega, by omega⟩
theorem row_of {h : IHp} {b : Nat} : ∀ (n off : Nat) (f : Nat → Value), (∀ i, i < n → h.cell? b (off + i) = some (f i)) → h.row b off n = some ((List.range n).map f) := by
  intro n
  induction n with
  | zero => intro off f _; rfl
  | succ n ih =>
    intro off f hf
    have h0 := hf 0 (by omega)
    have h1 := ih (off + 1) (fun i => f (i + 1)) (fun i hi => by rw [show off + 1 + i = off + (i + 1) by omega]; exact hf (i + 1) (by omega))
    rw [Nat.add_zero] at h0
    simp only [IHp.row, h0, Option.bind_some, h1, List.range_succ_eq_map, List.map_cons, List.map_map]
    rfl
theorem row_one {h : IHp} {b off : Nat} {v : Value} (hr : h.row b off 1 = some [v]) : h.cell? b off = some v := by
  simp only [IHp.row, Option.bind_eq_some_iff] at hr
  obtain ⟨u, hu, vs, hvs, h3⟩ := hr
  have := Option.some.inj h3
  simp at this
  rw [hu, this.1]
theorem law_of_EvX {P : Program} {f : Nat} {args args' : Array Value} {w : World} (hP : okProg P = true) (h : EvX P f args (heapOf w) (fun v _ => v = .bool true)) (ha : RA RM0 args args') :
    Calls P f args' w fun e w' => e = .returned (.bool true) ∧ Below w.heap.size w w' := by
  unfold EvX at h
  obtain ⟨v, h', ⟨n, h1⟩, rfl⟩ := h
  exact law_of_ideal hP h1 ha
end Go.Ideal

-- Cka
set_option linter.unusedSimpArgs false
set_option linter.unusedVariables false
namespace Go.Ideal
open Go Go.Proofs Go.RowKit
set_option maxRecDepth 10000 in
theorem SlIs_ints {h : IHp} {n : Nat} {v : Value} (hd : IRd Try.prog h (n + 2) 25 [v]) : ∃ a l c xs, v = .slice a l c ∧ SlIs h a l c (ints xs) ∧ c < 2 ^ 63 ∧ SpotOk a c := by
  rw [IRd, (UnderIs.eq : Try.prog.underlying 25 = _)] at hd
  rcases hd with h1 | ⟨a, l, c, h1, h2, h3, h5, h4⟩
  · cases h1
    exact ⟨none, 0, 0, [], rfl, ⟨rfl, Nat.le_refl _, rfl⟩, by decide, fun d hd => by cases hd⟩
  · cases h1
    have hc : Try.prog.cellsOf 3 = 1 := by kernel_rfl
    have key : ∀ i, i < c → ∃ x : Int, h.cell? a.block (a.off + i) = some (.int .i64 x) := by
      intro i hi
      obtain ⟨row, g1, g2⟩ := h4 i hi
      rw [IRd, (UnderIs.eq : Try.prog.underlying 3 = _)] at g2
      obtain ⟨z, rfl, g3⟩ := g2
      rw [hc, Nat.mul_one] at g1
      exact ⟨z, row_one g1⟩
    have hex : ∃ f : Nat → Int, ∀ i, i < l → h.cell? a.block (a.off + i) = some (.int .i64 (f i)) :=
      ⟨fun i => if hi : i < c then Classical.choose (key i hi) else 0, fun i hi => by
        have hic : i < c := by omega
        simp only [hic, dif_pos]
        exact Classical.choose_spec (key i hic)⟩
    obtain ⟨f, hf⟩ := hex
    refine ⟨some a, l, c, (List.range l).map f, rfl, ⟨by simp [ints], h2, ?_⟩, by unfold maxLen at h3; omega, fun d hd => by cases hd; exact h5⟩
    have := row_of (h := h) (b := a.block) l a.off (fun i => .int .i64 (f i)) hf
    simp only
    rw [this]; simp [ints]
set_option maxRecDepth 10000 in
theorem op_of {h : IHp} {n : Nat} {cs : List Value} (hd : IRd Try.prog h (n + 3) 29 cs) : ∃ o, OpC h cs o := by
  have hu : ∃ f0 f1 f2 f3 f4 f5 f6, Try.prog.underlying 29 = some (.struct #[f0, f1, f2, f3, f4, f5, f6]) ∧ (f0.type = 3 ∧ f0.offset = 0) ∧ (f1.type = 9 ∧ f1.offset = 1) ∧ (f2.type = 25 ∧ f2.offset = 2) ∧ (f3.type = 3 ∧ f3.offset = 3) ∧ (f4.type = 4 ∧ f4.offset = 4) ∧ (f5.type = 27 ∧ f5.offset = 5) ∧ (f6.type = 27 ∧ f6.offset = 6) :=
    ⟨_, _, _, _, _, _, _, Try.underlying29, ⟨rfl, rfl⟩, ⟨rfl, rfl⟩, ⟨rfl, rfl⟩, ⟨rfl, rfl⟩, ⟨rfl, rfl⟩, ⟨rfl, rfl⟩, ⟨rfl, rfl⟩⟩
  obtain ⟨f0, f1, f2, f3, f4, f5, f6, hu, ⟨t0, o0⟩, ⟨t1, o1⟩, ⟨t2, o2⟩, ⟨t3, o3⟩, ⟨t4, o4⟩, ⟨t5, o5⟩, ⟨t6, o6⟩⟩ := hu
  have ci : Try.prog.cellsOf 3 = 1 := by kernel_rfl
  have cst : Try.prog.cellsOf 9 = 1 := by kernel_rfl
  have csl : Try.prog.cellsOf 25 = 1 := by kernel_rfl
  have cb : Try.prog.cellsOf 4 = 1 := by kernel_rfl
  have cu : Try.prog.cellsOf 27 = 1 := by kernel_rfl
  have co : Try.prog.cellsOf 29 = 7 := by kernel_rfl
  rw [IRd, hu] at hd
  obtain ⟨hl, hf⟩ := hd
  rw [co] at hl
  match cs, hl with
  | [v0, v1, v2, v3, v4, v5, v6], _ =>
    have h0 := hf 0 f0 rfl
    have h1 := hf 1 f1 rfl
    have h2 := hf 2 f2 rfl
    have h3 := hf 3 f3 rfl
    have h4 := hf 4 f4 rfl
    have h5 := hf 5 f5 rfl
    have h6 := hf 6 f6 rfl
    rw [t0, o0, ci] at h0
    rw [t1, o1, cst] at h1
    rw [t2, o2, csl] at h2
    rw [t3, o3, ci] at h3
    rw [t4, o4, cb] at h4
    rw [t5, o5, cu] at h5
    rw [t6, o6, cu] at h6
    simp only [List.drop_zero, List.take_succ_cons, List.take_zero, List.drop_succ_cons] at h0 h1 h2 h3 h4 h5 h6
    rw [IRd, (UnderIs.eq : Try.prog.underlying 3 = _)] at h0 h3
    rw [IRd, (UnderIs.eq : Try.prog.underlying 9 = _)] at h1
    rw [IRd, (UnderIs.eq : Try.prog.underlying 4 = _)] at h4
    rw [IRd, (UnderIs.eq : Try.prog.underlying 27 = _)] at h5 h6
    obtain ⟨kd, e0, _⟩ := h0
    obtain ⟨nm, e1, _⟩ := h1
    obtain ⟨bt, e3, _⟩ := h3
    obtain ⟨b, e4⟩ := h4
    obtain ⟨m, e5, wm⟩ := h5
    obtain ⟨w, e6, ww⟩ := h6
    cases e0; cases e1; cases e3; cases e4; cases e5; cases e6
    obtain ⟨m', rfl, hm⟩ := wf_u64 wm
    obtain ⟨w', rfl, hw⟩ := wf_u64 ww
    obtain ⟨a, l, c, xs, rfl, hs, hc, hsp⟩ := SlIs_ints h2
    exact ⟨⟨kd, nm, xs, bt, b, m', w'⟩, a, l, c, rfl, hs, hm, hw, hc, hsp⟩
set_option maxRecDepth 10000 in
theorem circ_of {h : IHp} {n : Nat} {cs : List Value} (hd : IRd Try.prog h (n + 5) 24 cs) : ∃ c, CircV h (.agg cs.toArray) c := by
  have hu : ∃ f0 f1 f2, Try.prog.underlying 24 = some (.struct #[f0, f1, f2]) ∧ (f0.type = 3 ∧ f0.offset = 0) ∧ (f1.type = 3 ∧ f1.offset = 1) ∧ (f2.type = 22 ∧ f2.offset = 2) :=
    ⟨_, _, _, Try.underlying24, ⟨rfl, rfl⟩, ⟨rfl, rfl⟩, ⟨rfl, rfl⟩⟩
  obtain ⟨f0, f1, f2, hu, ⟨t0, o0⟩, ⟨t1, o1⟩, ⟨t2, o2⟩⟩ := hu
  have ci : Try.prog.cellsOf 3 = 1 := by kernel_rfl
  have csl : Try.prog.cellsOf 22 = 1 := by kernel_rfl
  have co : Try.prog.cellsOf 29 = 7 := by kernel_rfl
  have cc : Try.prog.cellsOf 24 = 3 := by kernel_rfl
  rw [IRd, hu] at hd
  obtain ⟨hl, hf⟩ := hd
  rw [cc] at hl
  match cs, hl with
  | [v0, v1, v2], _ =>
    have h0 := hf 0 f0 rfl
    have h1 := hf 1 f1 rfl
    have h2 := hf 2 f2 rfl
    rw [t0, o0, ci] at h0
    rw [t1, o1, ci] at h1
    rw [t2, o2, csl] at h2
    simp only [List.drop_zero, List.take_succ_cons, List.take_zero, List.drop_succ_cons] at h0 h1 h2
    rw [IRd, (UnderIs.eq : Try.prog.underlying 3 = _)] at h0 h1
    rw [IRd, (UnderIs.eq : Try.prog.underlying 22 = _)] at h2
    obtain ⟨q, e0, _⟩ := h0
    obtain ⟨b, e1, _⟩ := h1
    cases e0; cases e1
    rcases h2 with e2 | ⟨a, l, c, e2, h3, h4, h6, h5⟩
    · cases e2
      exact ⟨⟨q, b, []⟩, none, 0, 0, rfl, rfl, Nat.le_refl _, by decide, rfl⟩
    · cases e2
      have key : ∀ i, i < c → ∃ o : OpD, ∃ row, h.row a.block (a.off + i * 7) 7 = some row ∧ OpC h row o := by
        intro i hi
        obtain ⟨row, g1, g2⟩ := h5 i hi
        rw [co] at g1
        obtain ⟨o, ho⟩ := op_of g2
        exact ⟨o, row, g1, ho⟩
      refine ⟨⟨q, b, (List.range l).map fun i => if hi : i < c then Classical.choose (key i hi) else ⟨0, ⟨#[]⟩, [], 0, false, 0, 0⟩⟩, some a, l, c, rfl, by simp, h3, by unfold maxLen at h4; omega, ?_⟩
      intro i o hio
      simp only [List.getElem?_map, Option.map_eq_some_iff] at hio
      obtain ⟨j, hj, rfl⟩ := hio
      obtain ⟨hji, hje⟩ := List.getElem?_eq_some_iff.1 hj
      simp only [List.getElem_range] at hje
      subst hje
      simp only [List.length_range] at hji
      have hic : i < c := by omega
      simp only [hic, dif_pos]
      exact Classical.choose_spec (key i hic)
end Go.Ideal

-- Ta
set_option linter.unusedSimpArgs false
set_option linter.unusedVariables false
namespace Go.Ideal
open Go Go.Proofs Go.RowKit
/-! ### Circuits as trees; functions of flat values -/
@[reducible] def intT (z : Int) : Tr := .v (.int .i64 z)
@[reducible] def boolT (b : Bool) : Tr := .v (.bool b)
@[reducible] def strT (b : ByteArray) : Tr := .v (.string b)
@[reducible] def u64T (n : Nat) : Tr := .v (.int .u64 n)
def intRows (xs : List Int) : List (List Tr) := xs.map fun x => [intT x]
@[reducible] def opCs (o : OpD) : List Tr := [intT o.kind, strT o.name, .sl 1 (intRows o.qs), intT o.bit, boolT o.iff, u64T o.mask, u64T o.value]
def opRows (os : List OpD) : List (List Tr) := os.map opCs
@[reducible] def circCs (c : CircD) : List Tr := [intT c.qubits, intT c.bits, .sl 7 (opRows c.ops)]
@[reducible] def circT (c : CircD) : Tr := .agg (circCs c)
def OpW (o : OpD) : Prop := o.mask < 2 ^ 64 ∧ o.value < 2 ^ 64
def CircW (c : CircD) : Prop := ∀ o ∈ c.ops, OpW o
theorem NthG.map {α β : Type} {l : List α} {i : Nat} {a : α} (f : α → β) (h : l[i]? = some a) : NthG (l.map f) i (f a) := ⟨by rw [List.getElem?_map, h]; rfl⟩
instance {xs : List Int} : LenO (intRows xs) xs.length := ⟨by simp [intRows]⟩
instance {os : List OpD} : LenO (opRows os) os.length := ⟨by simp [opRows]⟩
instance {xs : List Int} : LenT (intRows xs) xs.length := ⟨by simp [intRows]⟩
instance {os : List OpD} : LenT (opRows os) os.length := ⟨by simp [opRows]⟩
theorem intRows_at {F : Mem} {b : Nat} : ∀ {xs : List Int} {off : Nat}, RepR F b 1 (intRows xs) off → rowM F b off xs.length = some (ints xs) := by
  intro xs
  induction xs with
  | nil => intro off _; rfl
  | cons x xs ih =>
    intro off h
    simp only [intRows, List.map_cons, RepR] at h
    obtain ⟨⟨vs, h1, h2⟩, h3⟩ := h
    simp only [RepL, Rep] at h2
    obtain ⟨v, ws, rfl, rfl, rfl⟩ := h2
    simp only [rowM, Option.bind_eq_some_iff] at h1
    obtain ⟨u, hu, us, hus, h4⟩ := h1
    obtain rfl := Option.some.inj hus
    simp only [Option.some.injEq, List.cons.injEq, and_true] at h4
    subst h4
    simp only [List.length_cons, rowM, hu, Option.bind_some, ih h3, ints, List.map_cons]
theorem sl_ints {F : Mem} {h : IHp} (hs : Sub F h.cell?) {xs : List Int} {v : Value} (hv : Rep F (.sl 1 (intRows xs)) v) : ∃ a l c, v = .slice a l c ∧ SlIs h a l c (ints xs) ∧ c < 2 ^ 63 ∧ SpotOk a c := by
  simp only [Rep] at hv
  obtain ⟨a, n, c, rfl, h2, h3, h4, h5, h6⟩ := hv
  have hl : xs.length = n := by rw [← h2]; simp [intRows]
  refine ⟨a, n, c, rfl, ⟨by rw [ints_len]; exact hl, h3, ?_⟩, h4, h5⟩
  cases a with
  | none => exact h6
  | some a =>
    simp only
    rw [row_rowM, ← hl]
    exact rowM_sub hs (intRows_at h6)
theorem op_inv {F : Mem} {h : IHp} (hs : Sub F h.cell?) {o : OpD} {vs : List Value} (hv : RepL F (opCs o) vs) : ∃ a l c, vs = o.cells a l c ∧ SlIs h a l c (ints o.qs) ∧ c < 2 ^ 63 ∧ SpotOk a c := by
  unfold opCs at hv
  simp only [RepL, Rep.val] at hv
  obtain ⟨_, _, rfl, rfl, _, _, rfl, rfl, v, _, rfl, h1, _, _, rfl, rfl, _, _, rfl, rfl, _, _, rfl, rfl, _, _, rfl, rfl, rfl⟩ := hv
  obtain ⟨a, l, c, rfl, h2, h3, h4⟩ := sl_ints hs h1
  exact ⟨a, l, c, rfl, h2, h3, h4⟩
theorem circ_inv {F : Mem} {h : IHp} (hs : Sub F h.cell?) {c : CircD} (hw : CircW c) {v : Value} (hv : Rep F (circT c) v) : CircV h v c := by
  unfold circT circCs at hv
  simp only [Rep, RepL] at hv
  obtain ⟨_, rfl, _, _, rfl, rfl, _, _, rfl, rfl, _, _, rfl, ⟨a, n, k, rfl, h2, h3, h4, h5, h6⟩, rfl⟩ := hv
  have hl : c.ops.length = n := by rw [← h2]; simp [opRows]
  refine ⟨a, n, k, rfl, hl, h3, h4, ?_⟩
  cases a with
  | none => exact h6
  | some a =>
    intro i o ho
    obtain ⟨vs, h7, h8⟩ := RepR.get h6 (i := i) (row := opCs o) (by simp only [opRows, List.getElem?_map, ho]; rfl)
    obtain ⟨qa, ql, qc, rfl, h9, h10, h11⟩ := op_inv hs h8
    refine ⟨_, by rw [row_rowM]; exact rowM_sub hs h7, qa, ql, qc, rfl, h9, (hw o (List.mem_of_getElem? ho)).1, (hw o (List.mem_of_getElem? ho)).2, h10, h11⟩
theorem vals_inv {F : Mem} : ∀ {ws vs : List Value}, RepL F (ws.map Tr.v) vs → vs = ws := by
  intro ws
  induction ws with
  | nil => intro vs h; simpa only [List.map_nil, RepL] using h
  | cons w ws ih =>
    intro vs h
    simp only [List.map_cons, RepL, Rep.val] at h
    obtain ⟨_, us, rfl, rfl, h3⟩ := h
    rw [ih h3]
/-- a function of plain values -/
theorem Fn_vals {P : Program} {f : FuncId} {ws : List Value} {w : Value} (x : ∀ h : IHp, EvX P f ws.toArray h (fun v h' => v = w ∧ Ext h h')) {t : Tr} (ht : ∀ F, Rep F t w) : Fn P f (ws.map Tr.v) (fun r => r = t) :=
  Fn_flat (fun F0 h vs h1 h2 => by rw [vals_inv h2]; exact x h) ht
theorem rep_pair {F : Mem} (a b : Value) : Rep F (.tup [.v a, .v b]) (.tuple [a, b].toArray) := by
  simp only [Rep]; exact ⟨_, rfl, RepL.cons (rep_v _) (RepL.cons (rep_v _) RepL.nil)⟩
theorem backT (b : ByteArray) : Fn Try.prog 35 [strT b] (fun r => r = .tup [strT (backS b).1, intT (backS b).2]) := Fn_vals (ws := [_]) (fun h => gateInverse_spec b h) (fun F => rep_pair _ _)
theorem checkT {c : CircD} (hw : CircW c) : Fn Try.prog 29 [circT c] (fun r => r = .tup [intT (checkC c).1, intT (checkC c).2]) :=
  Fn_flat (fun F0 h vs h1 h2 => by
    simp only [RepL] at h2
    obtain ⟨v, _, rfl, h3, rfl⟩ := h2
    exact circCheck_spec (circ_inv h1 hw h3)) (fun F => rep_pair _ _)
theorem checkRT {c : CircD} (hw : CircW c) : Fn Try.prog 38 [circT c] (fun r => r = .tup [intT (checkC c).1, intT (checkC c).2]) :=
  Fn_flat (fun F0 h vs h1 h2 => by
    simp only [RepL] at h2
    obtain ⟨v, _, rfl, h3, rfl⟩ := h2
    exact circCheck_ref (circ_inv h1 hw h3)) (fun F => rep_pair _ _)
theorem halvesT (o : OpD) : Fn Try.prog 53 [.agg (opCs o)] (fun r => r = intT (halvesO o)) :=
  Fn_flat (fun F0 h vs h1 h2 => by
    simp only [RepL] at h2
    obtain ⟨v, _, rfl, h3, rfl⟩ := h2
    simp only [Rep] at h3
    obtain ⟨ws, rfl, h4⟩ := h3
    obtain ⟨a, l, k, rfl, _⟩ := op_inv h1 h4
    exact halves_spec o a l k h) (fun F => rep_v _)
/-! ### Halves -/
def sumH : List OpD → Int
  | [] => 0
  | o :: os => halvesO o + sumH os
def halvesC (c : CircD) : Int × Int := if (checkC c).2 = 0 then (sumH c.ops, 0) else (0, (checkC c).2)
theorem sumH_nn : ∀ os : List OpD, 0 ≤ sumH os ∧ sumH os ≤ os.length := by
  intro os
  induction os with
  | nil => simp [sumH]
  | cons o os ih => have := halvesO_01 o; simp only [sumH, List.length_cons]; omega
theorem sumH_take {os : List OpD} {i : Nat} {o : OpD} (h : os[i]? = some o) : sumH (os.take (i + 1)) = sumH (os.take i) + halvesO o := by
  induction os generalizing i with
  | nil => simp at h
  | cons p os ih =>
    cases i with
    | zero => simp at h; subst h; simp [sumH]
    | succ i => simp only [List.take_succ_cons, sumH]; rw [ih (by simpa using h)]; omega
theorem circHalvesT {c : CircD} (hw : CircW c) : Fn Try.prog 27 [circT c] (fun r => r = .tup [intT (halvesC c).1, intT (halvesC c).2]) := by
  refine Fn_of Try.func27 rfl (Nat.le_of_ble_eq_true rfl) (fun X => ?_)
  repeat (first | refine StepC.go ?_ | intro _)
  refine TS_callE (checkT hw) ?_
  repeat' (first | refine StepC.go ?_ | (refine TV_cond ?_ ?_ <;> intro hc <;> try (cases hc; done)))
  · refine retT_2 (.inr rfl) ?_
    simp only [tret, halvesC]
    rw [if_neg (by simpa using hc)]
  · rename_i p
    have hck : (checkC c).2 = 0 := by simpa using hc
    obtain ⟨_, hlen, _⟩ := checkC_ok hck
    refine TV_loop (fun d σ B => ∃ i : Nat, d = c.ops.length - i ∧ i ≤ c.ops.length ∧ TGet σ 20 (intT i) ∧ TGet σ 19 (intT c.ops.length) ∧ TGet σ 18 (.sl 7 (opRows c.ops)) ∧ TGet σ 6 (intT (sumH (c.ops.take i))) ∧ SubB [] B) c.ops.length
      ⟨0, by omega, by omega, inferInstance, tget_as (by simp [opRows]), inferInstance, tget_as rfl, inferInstance⟩ ?_
    rintro d σ B ⟨i, rfl, hi, g20, g19, g18, g6, hB⟩
    refine TV_drop _ hB.eq ?_
    repeat' (first | refine StepC.go ?_ | (refine TV_cond ?_ ?_ <;> intro hc <;> try (cases hc; done)))
    · have hil : i < c.ops.length := by simp at hc; omega
      obtain ⟨o, ho⟩ : ∃ o, c.ops[i]? = some o := ⟨_, List.getElem?_eq_getElem hil⟩
      have ng : NthG (opRows c.ops) i (opCs o) := .map opCs ho
      have h1 := sumH_nn (c.ops.take i)
      have h2 := halvesO_01 o
      simp only [List.length_take] at h1
      repeat (first | refine StepC.go ?_ | intro _)
      refine TS_callE (halvesT o) ?_
      repeat (first | refine StepC.go ?_ | (refine TS_puw (Pu.addi ?_) ?_; · omega))
      refine ⟨_, ?_, i + 1, rfl, by omega, inferInstance, inferInstance, inferInstance, tget_as (by rw [sumH_take ho]), inferInstance⟩
      omega
    · have hil : i = c.ops.length := by simp at hc; omega
      refine retT_2 (.inr rfl) ?_
      simp only [tret, halvesC]
      rw [if_pos hck, hil, List.take_length]
instance : CallIs Try.prog 27 := .of Try.func27 rfl rfl
end Go.Ideal

-- Tb
set_option linter.unusedSimpArgs false
set_option linter.unusedVariables false
namespace Go.Ideal
open Go Go.Proofs Go.RowKit
/-! ### Is it so of all operations? -/
def idxF {α : Type} (p : α → Bool) : List α → Nat → Int
  | [], _ => -1
  | r :: rs, i => if p r = true then i else idxF p rs (i + 1)
theorem idxF_any {α : Type} (p : α → Bool) : ∀ (l : List α) (i : Nat), decide (0 ≤ idxF p l i) = l.any p := by
  intro l
  induction l with
  | nil => intro i; simp [idxF]
  | cons a l ih =>
    intro i
    rw [idxF]
    by_cases h : p a = true
    · simp [h]
    · rw [if_neg h, ih]; simp [h]
theorem drop_cons {α : Type} {l : List α} {i : Nat} {a : α} (h : l[i]? = some a) : l.drop i = a :: l.drop (i + 1) := by
  have hi := (List.getElem?_eq_some_iff.1 h).1
  rw [List.drop_eq_getElem_cons hi]
  rw [List.getElem?_eq_getElem hi] at h
  rw [Option.some.inj h]
theorem indexOpsT {os : List OpD} {f : Nat} {a b : List Tr} [c : CallIs Try.prog f] {p : OpD → Bool} (hp : ∀ o ∈ os, Fn Try.prog f ((a ++ [.agg (opCs o)]) ++ b) (fun r => r = boolT (p o))) : Fn Try.prog 75 [.sl 7 (opRows os), .fn f a b] (fun r => r = intT (idxF p os 0)) := by
  refine Fn_of Try.func75 rfl (Nat.le_of_ble_eq_true rfl) (fun X => ?_)
  refine TV_fact 0 (fun F v h => rep_small h) fun hsm => ?_
  rw [show (opRows os).length = os.length by simp [opRows]] at hsm
  repeat (refine StepC.go ?_)
  refine TV_loop (fun d σ B => ∃ i : Nat, d = os.length - i ∧ i ≤ os.length ∧ TGet σ 8 (intT i) ∧ TGet σ 7 (intT os.length) ∧ TGet σ 0 (.sl 7 (opRows os)) ∧ TGet σ 1 (.fn f a b) ∧ SubB [] B ∧ idxF p os 0 = idxF p (os.drop i) i) os.length
    ⟨0, by omega, by omega, inferInstance, tget_as (by simp [opRows]), inferInstance, inferInstance, inferInstance, rfl⟩ ?_
  rintro d σ B ⟨i, rfl, hi, g8, g7, g0, g1, hB, hK⟩
  refine TV_drop _ hB.eq ?_
  repeat' (first | refine StepC.go ?_ | (refine TV_cond ?_ ?_ <;> intro hc <;> try (cases hc; done)))
  · have hil : i < os.length := by simp at hc; omega
    obtain ⟨o, ho⟩ : ∃ o, os[i]? = some o := ⟨_, List.getElem?_eq_getElem hil⟩
    have ng : NthG (opRows os) i (opCs o) := .map opCs ho
    rw [drop_cons ho, idxF] at hK
    repeat (refine StepC.go ?_)
    refine TS_callV (hp o (List.mem_of_getElem? ho)) ?_
    rintro _ rfl
    repeat' (first | refine StepC.go ?_ | (refine TS_puw (Pu.addi ?_) ?_; · omega) | (refine TV_cond ?_ ?_ <;> intro hc <;> try (cases hc; done)))
    · refine retT_1 (.inr rfl) ?_
      simp only [tret]
      rw [hK, if_pos hc]
    · refine ⟨_, ?_, i + 1, rfl, by omega, inferInstance, inferInstance, inferInstance, inferInstance, inferInstance, by rw [hK, if_neg (by rw [hc]; decide)]⟩
      omega
  · have hil : i = os.length := by simp at hc; omega
    refine retT_1 (.inr rfl) ?_
    simp only [tret]
    rw [hK, List.drop_of_length_le (by omega)]; rfl
instance : CallIs Try.prog 75 := .of Try.func75 rfl rfl
theorem anyOpsT {os : List OpD} {f : Nat} {a b : List Tr} [c : CallIs Try.prog f] {p : OpD → Bool} (hp : ∀ o ∈ os, Fn Try.prog f ((a ++ [.agg (opCs o)]) ++ b) (fun r => r = boolT (p o))) : Fn Try.prog 55 [.sl 7 (opRows os), .fn f a b] (fun r => r = boolT (os.any p)) := by
  refine Fn_of Try.func55 rfl (Nat.le_of_ble_eq_true rfl) (fun X => ?_)
  repeat (refine StepC.go ?_)
  refine TS_call (indexOpsT hp) ?_
  rintro _ rfl
  repeat (refine StepC.go ?_)
  refine retT_1 (.inr rfl) ?_
  simp only [tret]
  rw [idxF_any]
instance : CallIs Try.prog 55 := .of Try.func55 rfl rfl
theorem all1T {o : OpD} {f : Nat} {a b : List Tr} [c : CallIs Try.prog f] {p : Bool} (hp : Fn Try.prog f ((a ++ [.agg (opCs o)]) ++ b) (fun r => r = boolT p)) : Fn Try.prog 56 [.agg (opCs o), .pf [.fn f a b]] (fun r => r = boolT (!p)) := by
  refine Fn_of Try.func56 rfl (Nat.le_of_ble_eq_true rfl) (fun X => ?_)
  repeat (first | refine StepC.go ?_ | intro _)
  refine TS_callV hp ?_
  rintro _ rfl
  repeat (refine StepC.go ?_)
  exact retT_1 (.inr rfl) rfl
instance : CallIs Try.prog 56 := .of Try.func56 rfl rfl
theorem allT {c : CircD} (hw : CircW c) {f : Nat} {a b : List Tr} [ci : CallIs Try.prog f] {p : OpD → Bool} (hp : ∀ o ∈ c.ops, Fn Try.prog f ((a ++ [.agg (opCs o)]) ++ b) (fun r => r = boolT (p o))) : Fn Try.prog 31 [circT c, .fn f a b] (fun r => r = .tup [boolT (if (checkC c).2 = 0 then c.ops.all p else false), intT (checkC c).2]) := by
  refine Fn_of Try.func31 rfl (Nat.le_of_ble_eq_true rfl) (fun X => ?_)
  repeat (first | refine StepC.go ?_ | intro _)
  refine TS_callE (checkT hw) ?_
  repeat' (first | refine StepC.go ?_ | (refine TV_cond ?_ ?_ <;> intro hc <;> try (cases hc; done)))
  · refine retT_2 (.inr rfl) ?_
    simp only [tret]
    rw [if_neg (by simpa using hc)]
  · have hck : (checkC c).2 = 0 := by simpa using hc
    refine TS_callE (anyOpsT (p := fun o => !p o) fun o ho => all1T (hp o ho)) ?_
    repeat (refine StepC.go ?_)
    refine retT_2 (.inr rfl) ?_
    simp only [tret]
    rw [if_pos hck, hck]
    simp only [List.any_eq_not_all_not, Bool.not_not]
instance : CallIs Try.prog 31 := .of Try.func31 rfl rfl
end Go.Ideal

-- Tc
set_option linter.unusedSimpArgs false
set_option linter.unusedVariables false
namespace Go.Ideal
open Go Go.Proofs Go.RowKit
/-! ### Which operations are bound -/
def OpP (o : OpD) : Prop := (∀ q ∈ o.qs, 0 ≤ q) ∧ (o.kind = 2 → 0 ≤ o.bit) ∧ OpW o
def bitN (q : Int) : Nat := (1 <<< q.toNat) % 18446744073709551616
def qbS (qs : List Int) : Nat := qs.foldl (fun a q => a ||| bitN q) 0
def wrS (o : OpD) : Nat := if o.kind = 2 then bitN o.bit else 0
def rdS (o : OpD) : Nat := if o.iff then o.mask else 0
instance bitN_lt {q : Int} : Lt64 (bitN q) := ⟨Nat.mod_lt _ (by decide)⟩
theorem qb_lt (qs : List Int) : ∀ a, a < 2 ^ 64 → qs.foldl (fun a q => a ||| bitN q) a < 2 ^ 64 := by
  induction qs with
  | nil => intro a h; exact h
  | cons q qs ih => intro a h; exact ih _ (Nat.or_lt_two_pow h bitN_lt.lt)
instance qbS_lt {qs : List Int} : Lt64 (qbS qs) := ⟨qb_lt qs 0 (by decide)⟩
instance wrS_lt {o : OpD} : Lt64 (wrS o) := ⟨by unfold wrS; split; exact bitN_lt.lt; decide⟩
theorem rdS_lt {o : OpD} (h : OpW o) : Lt64 (rdS o) := ⟨by unfold rdS; split; exact h.1; decide⟩
theorem qbS_take {qs : List Int} {i : Nat} {q : Int} (h : qs[i]? = some q) : qbS (qs.take (i + 1)) = qbS (qs.take i) ||| bitN q := by
  unfold qbS
  rw [List.take_add_one, h]
  simp only [Option.toList_some, List.foldl_append, List.foldl_cons, List.foldl_nil]
theorem asNat_of {z : Int} (h : 0 ≤ z) : AsNat z z.toNat := ⟨(Int.toNat_of_nonneg h).symm⟩
theorem touchedT {o : OpD} (hp : OpP o) : Fn Try.prog 61 [.agg (opCs o)] (fun r => r = .tup [u64T (qbS o.qs), u64T (wrS o), u64T (rdS o), boolT (!decide (o.kind = 1))]) := by
  obtain ⟨hq, hb, hw⟩ := hp
  refine Fn_of Try.func61 rfl (Nat.le_of_ble_eq_true rfl) (fun X => ?_)
  refine TV_fact 0 (fun F v h => by obtain ⟨w, h1⟩ := rep_agg_at h (i := 2) rfl; exact rep_small h1) fun hsm => ?_
  rw [show (intRows o.qs).length = o.qs.length by simp [intRows]] at hsm
  repeat (first | refine StepC.go ?_ | intro _)
  rename_i p
  refine TV_loop (fun d σ B => ∃ i : Nat, d = o.qs.length - i ∧ i ≤ o.qs.length ∧ TGet σ 11 (intT i) ∧ TGet σ 10 (intT o.qs.length) ∧ TGet σ 9 (.sl 1 (intRows o.qs)) ∧ TGet σ 2 (u64T (qbS (o.qs.take i))) ∧ TGet σ 1 (.v (.pointer (some (ad p 0)))) ∧ TGet σ 3 (u64T 0) ∧ TGet σ 4 (u64T 0) ∧ SubB [(p, .cells (opCs o) 29 true)] B) o.qs.length
    ⟨0, by omega, by omega, inferInstance, tget_as (by simp [intRows]), inferInstance, tget_as rfl, inferInstance, tget_as rfl, tget_as rfl, inferInstance⟩ ?_
  rintro d σ B ⟨i, rfl, hi, g11, g10, g9, g2, g1, g3, g4, hB⟩
  refine TV_drop _ hB.eq ?_
  repeat (refine StepC.go ?_)
  refine TV_cond ?_ ?_ <;> intro hc
  · have hil : i < o.qs.length := by simp at hc; omega
    obtain ⟨q, hq1⟩ : ∃ q, o.qs[i]? = some q := ⟨_, List.getElem?_eq_getElem hil⟩
    have ng : NthG (intRows o.qs) i [intT q] := .map (fun x => [intT x]) hq1
    have hq0 := asNat_of (hq q (List.mem_of_getElem? hq1))
    repeat (first | refine StepC.go ?_ | (refine TS_puw (Pu.addi ?_) ?_; · omega))
    refine ⟨_, ?_, i + 1, rfl, by omega, inferInstance, inferInstance, inferInstance, tget_as (by rw [qbS_take hq1]; rfl), inferInstance, inferInstance, inferInstance, inferInstance⟩
    omega
  have hil : i = o.qs.length := by simp at hc; omega
  subst hil
  rw [List.take_length] at g2
  repeat (refine StepC.go ?_)
  refine TV_cut (fun σ B => TGet σ 2 (u64T (qbS o.qs)) ∧ TGet σ 1 (.v (.pointer (some (ad p 0)))) ∧ TGet σ 3 (u64T (wrS o)) ∧ TGet σ 4 (u64T 0) ∧ SubB [(p, .cells (opCs o) 29 true)] B) ?_ ?_
  · refine TV_cond ?_ ?_ <;> intro hc
    · have hk : o.kind = 2 := by simpa using hc
      have := asNat_of (hb hk)
      repeat (refine StepC.go ?_)
      exact ⟨inferInstance, inferInstance, tget_as (by simp [wrS, hk, bitN]), inferInstance, inferInstance⟩
    · have hk : ¬ o.kind = 2 := by simpa using hc
      repeat (refine StepC.go ?_)
      exact ⟨inferInstance, inferInstance, tget_as (by simp [wrS, hk]), inferInstance, inferInstance⟩
  rintro σ B ⟨g2, g1, g3, g4, hB⟩
  refine TV_drop _ hB.eq ?_
  repeat' (first | refine StepC.go ?_ | refine TD_take rfl rfl ?_ | refine TD_load rfl rfl ?_ | refine TV_draw (id := 10) (plan := [.take 0, .take 1, .take 2, .take 3, .take 4, .take 5, .take 6, .take 7, .take 8, .take 9]) (by kernel_rfl) ?_ | (refine TV_cond ?_ ?_ <;> intro hc <;> try (cases hc; done)))
  · refine retT_4 (.inr rfl) ?_
    simp only [tret, rdS, hc, if_true]
  · refine retT_4 (.inr rfl) ?_
    simp only [tret, rdS, hc, Bool.false_eq_true, if_false]
instance : CallIs Try.prog 61 := .of Try.func61 rfl rfl
def boundS (a b : OpD) : Bool := decide (qbS a.qs &&& qbS b.qs ≠ 0) || decide (wrS a &&& (wrS b ||| rdS b) ≠ 0) || decide (wrS b &&& rdS a ≠ 0) || (!decide (a.kind = 1) && !decide (b.kind = 1))
theorem nat0 {n : Nat} : decide ((n : Int) = 0) = decide (n = 0) := by
  by_cases h : n = 0
  · subst h; rfl
  · rw [decide_eq_false h, decide_eq_false (by omega)]
theorem boundT {a b : OpD} (ha : OpP a) (hb : OpP b) : Fn Try.prog 37 [.agg (opCs a), .agg (opCs b)] (fun r => r = boolT (boundS a b)) := by
  have := rdS_lt ha.2.2
  have := rdS_lt hb.2.2
  refine Fn_of Try.func37 rfl (Nat.le_of_ble_eq_true rfl) (fun X => ?_)
  repeat (first | refine StepC.go ?_ | intro _)
  refine TS_callE (touchedT ha) ?_
  repeat (refine StepC.go ?_)
  refine TS_callE (touchedT hb) ?_
  repeat' (first | refine StepC.go ?_ | (refine TS_on rfl ?_ ?_; · first | rfl | assumption) | (refine TS_off rfl ?_ ?_; · first | rfl | assumption) | refine TS_off_undef rfl ?_ | (refine TS_puw (Pu.pick_t ?_) ?_; · first | rfl | assumption) | (refine TS_puw (Pu.pick_f ?_) ?_; · first | rfl | assumption) | (refine TS_guard rfl ?_ ?_ <;> intro hg))
  all_goals
    refine retT_1 (.inr rfl) ?_
    simp only [nat0] at *
    simp_all [tret, boundS]
instance : CallIs Try.prog 37 := .of Try.func37 rfl rfl
end Go.Ideal

-- Td
set_option linter.unusedSimpArgs false
set_option linter.unusedVariables false
namespace Go.Ideal
open Go Go.Proofs Go.RowKit
/-! ### Layers -/
instance {xs : List Int} {i : Nat} {z : Int} : SetR (intRows xs) i [intT z] (intRows (xs.set i z)) := ⟨by simp [intRows, List.map_set]⟩
theorem intRows_app (xs ys : List Int) : intRows (xs ++ ys) = intRows xs ++ intRows ys := by simp [intRows]
theorem replicate_int (n : Nat) (z : Int) : List.replicate n [intT z] = intRows (List.replicate n z) := by simp [intRows]
/-- the step of an operation behind others that have theirs -/
def stepK (bd : OpD → OpD → Bool) (o : OpD) : List OpD → List Int → Int → Int
  | a :: os, x :: xs, s => stepK bd o os xs (if s ≤ x ∧ bd a o = true then x + 1 else s)
  | _, _, s => s
def stepsS (bd : OpD → OpD → Bool) (os : List OpD) : Nat → List Int
  | 0 => []
  | n + 1 => stepsS bd os n ++ [stepK bd (os.getD n ⟨0, .empty, [], 0, false, 0, 0⟩) os (stepsS bd os n) 0]
theorem stepsS_len (bd : OpD → OpD → Bool) (os : List OpD) : ∀ n, (stepsS bd os n).length = n := by
  intro n
  induction n with
  | zero => rfl
  | succ n ih => simp [stepsS, ih]
theorem stepK_app (bd : OpD → OpD → Bool) (o a : OpD) (x : Int) : ∀ (os1 : List OpD) (xs1 : List Int) (os2 : List OpD) (xs2 : List Int) (s : Int), os1.length = xs1.length → stepK bd o (os1 ++ a :: os2) (xs1 ++ x :: xs2) s = stepK bd o os2 xs2 (if stepK bd o os1 xs1 s ≤ x ∧ bd a o = true then x + 1 else stepK bd o os1 xs1 s) := by
  intro os1
  induction os1 with
  | nil => intro xs1 os2 xs2 s h; have : xs1 = [] := List.eq_nil_of_length_eq_zero h.symm; subst this; rfl
  | cons b os1 ih =>
    intro xs1 os2 xs2 s h
    cases xs1 with
    | nil => simp at h
    | cons y xs1 => simp only [List.cons_append, stepK]; exact ih xs1 os2 xs2 _ (by simpa using h)
theorem stepK_take (bd : OpD → OpD → Bool) (o : OpD) {os : List OpD} {xs : List Int} {j : Nat} {a : OpD} {x : Int} (ha : os[j]? = some a) (hx : xs[j]? = some x) : stepK bd o (os.take (j + 1)) (xs.take (j + 1)) 0 = if stepK bd o (os.take j) (xs.take j) 0 ≤ x ∧ bd a o = true then x + 1 else stepK bd o (os.take j) (xs.take j) 0 := by
  have hj := (List.getElem?_eq_some_iff.1 ha).1
  have hj2 := (List.getElem?_eq_some_iff.1 hx).1
  rw [List.take_add_one, List.take_add_one, ha, hx]
  simp only [Option.toList_some]
  rw [stepK_app bd o a x _ _ [] [] 0 (by simp; omega)]
  rfl
theorem stepK_bounds (bd : OpD → OpD → Bool) (o : OpD) (L : Int) : ∀ (os : List OpD) (xs : List Int) (s : Int), 0 ≤ s → s ≤ L → (∀ x ∈ xs, 0 ≤ x ∧ x < L) → 0 ≤ stepK bd o os xs s ∧ stepK bd o os xs s ≤ L := by
  intro os
  induction os with
  | nil => intro xs s h0 h1 _; cases xs <;> exact ⟨h0, h1⟩
  | cons a os ih =>
    intro xs s h0 h1 hx
    cases xs with
    | nil => exact ⟨h0, h1⟩
    | cons x xs =>
      simp only [stepK]
      have h2 := hx x List.mem_cons_self
      refine ih xs _ ?_ ?_ (fun y hy => hx y (List.mem_cons_of_mem _ hy))
      · split <;> omega
      · split <;> omega
theorem stepK_short (bd : OpD → OpD → Bool) (o : OpD) : ∀ (os : List OpD) (xs : List Int) (s : Int), stepK bd o os xs s = stepK bd o (os.take xs.length) xs s := by
  intro os
  induction os with
  | nil => intro xs s; simp
  | cons a os ih =>
    intro xs s
    cases xs with
    | nil => rfl
    | cons x xs => simp only [List.length_cons, List.take_succ_cons, stepK]; exact ih xs _
/-- an operation goes into its layer -/
def layS (ls : List (List Int)) (s i : Int) : List (List Int) :=
  let ls' := if s.toNat = ls.length then ls ++ [[]] else ls
  ls'.set s.toNat (ls'.getD s.toNat [] ++ [i])
def laysK : List Int → Int → List (List Int) → List (List Int)
  | [], _, ls => ls
  | s :: ss, i, ls => laysK ss (i + 1) (layS ls s i)
def laysS (ss : List Int) : List (List Int) := laysK ss 0 []
theorem laysK_app (ss ts : List Int) : ∀ (i : Int) (ls : List (List Int)), laysK (ss ++ ts) i ls = laysK ts (i + ss.length) (laysK ss i ls) := by
  induction ss with
  | nil => intro i ls; simp [laysK]
  | cons s ss ih => intro i ls; simp only [List.cons_append, laysK, ih, List.length_cons]; congr 1; omega
theorem layS_len (ls : List (List Int)) (s i : Int) : (layS ls s i).length = if s.toNat = ls.length then ls.length + 1 else ls.length := by
  unfold layS; simp only; split <;> simp
def layersC (c : CircD) : List (List Int) × Int := if (checkC c).2 = 0 then (laysS (stepsS boundS c.ops c.ops.length), 0) else ([], (checkC c).2)
def layRowsT (ls : List (List Int)) : List (List Tr) := ls.map fun l => [.sl 1 (intRows l)]
@[reducible] def layT (ls : List (List Int)) : Tr := .sl 1 (layRowsT ls)
/-- lists that are being made, each in a block of its own -/
def famB (e : Nat) (fam : List (Nat × List Int)) : Boxes := fam.map fun x => (x.1, .arr 1 (intRows x.2) e false)
def famR (fam : List (Nat × List Int)) : List (List Tr) := fam.map fun x => [.v (gsv x.1 x.2.length)]
theorem famB_is {e : Nat} {fam : List (Nat × List Int)} {k b : Nat} {l : List Int} (h : fam[k]? = some (b, l)) : BoxIs (famB e fam) b (.arr 1 (intRows l) e false) := ⟨List.mem_map.2 ⟨(b, l), List.mem_of_getElem? h, rfl⟩⟩
theorem famB_in {e : Nat} {fam : List (Nat × List Int)} {k b : Nat} {l : List Int} (h : fam[k]? = some (b, l)) : InKeys (famB e fam) b := ⟨List.mem_map.2 ⟨(b, .arr 1 (intRows l) e false), (famB_is h).mem, rfl⟩⟩
theorem famB_put {e : Nat} {fam : List (Nat × List Int)} {k b : Nat} {l l2 : List Int} (h : fam[k]? = some (b, l)) (b' : Nat) : BoxPut (famB e fam) b b' (.arr 1 (intRows l ++ intRows l2) e false) (famB e (fam.set k (b', l ++ l2))) := ⟨by
  have hk := (List.getElem?_eq_some_iff.1 h).1
  have hd := drop_cons h
  refine ⟨famB e (fam.take k), .arr 1 (intRows l) e false, famB e (fam.drop (k + 1)), ?_, ?_⟩
  · conv => lhs; rw [← List.take_append_drop k fam, hd]
    simp [famB]
  · rw [List.set_eq_take_append_cons_drop, if_pos hk]
    simp [famB, intRows_app]⟩
theorem famR_at {fam : List (Nat × List Int)} {k b : Nat} {l : List Int} (h : fam[k]? = some (b, l)) : NthG (famR fam) k [.v (gsv b l.length)] := ⟨by simp [famR, h]⟩
instance {fam : List (Nat × List Int)} : LenO (famR fam) fam.length := ⟨by simp [famR]⟩
instance {fam : List (Nat × List Int)} : LenT (famR fam) fam.length := ⟨by simp [famR]⟩
theorem famR_frz {B : Boxes} {e : Nat} {fam : List (Nat × List Int)} (hb : ∀ x ∈ fam, BoxIs B x.1 (.arr 1 (intRows x.2) e false)) (hs : ∀ x ∈ fam, x.2.length < 2 ^ 63) : FrzR B (famR fam) (layRowsT (fam.map Prod.snd)) := ⟨by simp [famR, layRowsT], fun i row hr => by
  simp only [famR, List.getElem?_map, Option.map_eq_some_iff] at hr
  obtain ⟨x, hx, rfl⟩ := hr
  have hm := List.mem_of_getElem? hx
  have := hb x hm
  have : Sm63 x.2.length := ⟨hs x hm⟩
  refine ⟨[.sl 1 (intRows x.2)], by simp [layRowsT, hx], ?_⟩
  have : FrzL B [.v (gsv x.1 x.2.length)] [.sl 1 (intRows x.2)] := inferInstance
  exact this.eq⟩
theorem qs_range {o : OpD} {q b : Int} (h : faultS o q b = 0) (hq : q ≤ 64) (hb : b ≤ 64) (hw : OpW o) : OpP o := by
  obtain ⟨_, _, _, h4, h5, _⟩ := fault_ok h
  refine ⟨fun x hx => ?_, fun hk => ?_, hw⟩
  · have := List.any_eq_false.1 h4 x hx
    simp [outS] at this
    exact this.1
  · simp only [bitBad, hk] at h5
    simp at h5
    exact h5.1
theorem set_mid {α : Type} (a : List α) (x y : α) (b : List α) {i : Nat} (h : a.length = i) : (a ++ x :: b).set i y = a ++ y :: b := by
  subst h; simp
set_option maxHeartbeats 2000000 in
theorem layersT {c : CircD} (hw : CircW c) : Fn Try.prog 10 [circT c] (fun r => r = .tup [layT (layersC c).1, intT (layersC c).2]) := by
  refine Fn_of Try.func10 rfl (Nat.le_of_ble_eq_true rfl) (fun X => ?_)
  repeat (first | refine StepC.go ?_ | intro _)
  rename_i p
  refine TS_callE (checkT hw) ?_
  repeat (refine StepC.go ?_)
  refine TV_cond ?_ ?_ <;> intro hc
  · repeat (refine StepC.go ?_)
    refine retT_2c [.sl 1 [], intT (checkC c).2] (.inr rfl) ?_
    simp only [tret, layersC]
    rw [if_neg (by simpa using hc)]; rfl
  have hck : (checkC c).2 = 0 := by simpa using hc
  obtain ⟨hr, hlen, hfl⟩ := checkC_ok hck
  obtain ⟨_, hq64, _, hb64⟩ := rangeBad_no hr
  have hop : ∀ o ∈ c.ops, OpP o := fun o ho => qs_range (hfl o ho) hq64 hb64 (hw o ho)
  have hl1 : LenT (opRows c.ops) c.ops.length := inferInstance
  have hl2 := hl1.eq
  repeat (first | refine StepC.go ?_ | (refine TS_makeSlice ?_ (fun _ => ?_); · omega))
  rename_i bs
  rw [hl2, replicate_int]
  obtain ⟨n, hn⟩ : ∃ n, n = c.ops.length := ⟨_, rfl⟩
  rw [← hn]
  refine TV_ghost 1 25 ?_
  intro bl
  have hstep0 : stepsS boundS c.ops 0 = [] := rfl
  refine TV_loop (fun d σ B => ∃ (i : Nat) (bl : Nat) (fam : List (Nat × List Int)), d = n - i ∧ i ≤ n ∧ TGet σ 26 (intT i) ∧ TGet σ 25 (intT n) ∧ TGet σ 24 (.sl 7 (opRows c.ops)) ∧ TGet σ 1 (.v (.pointer (some (ad p 0)))) ∧ TGet σ 7 (.v (.slice (some (ad bs 0)) n n)) ∧ TGet σ 6 (.v (gsv bl fam.length)) ∧
      SubP B ((p, .cells (circCs c) 24 true) :: (bs, .arr 1 (intRows (stepsS boundS c.ops i ++ List.replicate (n - i) 0)) 3 true) :: (bl, .arr 1 (famR fam) 25 false) :: famB 3 fam) ∧
      fam.map Prod.snd = laysS (stepsS boundS c.ops i) ∧ (∀ x ∈ stepsS boundS c.ops i, 0 ≤ x ∧ x < fam.length) ∧ fam.length ≤ i ∧ ∀ x ∈ fam, x.2.length ≤ i) n
    ⟨0, bl, [], by omega, by omega, inferInstance, inferInstance, inferInstance, inferInstance, tget_as (by rw [hn]), tget_as rfl, by
      rw [hstep0, List.nil_append, Nat.sub_zero]
      show SubP _ [_, _, (bl, .arr 1 [] 25 false)]
      infer_instance, rfl, by simp [hstep0], by simp, by simp⟩ ?_
  rintro d σ B ⟨i, bl, fam, rfl, hi, g26, g25, g24, g1, g7, g6, hB, hfam, hst, hfl1, hfl2⟩
  refine TV_keep _ (p := hB) ?_
  repeat (refine StepC.go ?_)
  refine TV_cond ?_ ?_ <;> intro hc2
  · have hil : i < n := by simp at hc2; omega
    obtain ⟨o, ho⟩ : ∃ o, c.ops[i]? = some o := ⟨_, List.getElem?_eq_getElem (by omega)⟩
    have ng : NthG (opRows c.ops) i (opCs o) := .map opCs ho
    have hpo := hop o (List.mem_of_getElem? ho)
    have hsl := stepsS_len boundS c.ops i
    have hrep : List.replicate (n - i) (0 : Int) = 0 :: List.replicate (n - i - 1) 0 := by rw [← List.replicate_succ]; congr 1; omega
    rw [hrep]
    repeat (first | refine StepC.go ?_ | intro _)
    rename_i q
    have hLn : ∀ s : Int, LenT (intRows (stepsS boundS c.ops i ++ s :: List.replicate (n - i - 1) 0)) n := fun s => ⟨by simp [intRows, hsl]; omega⟩
    have hAi : ∀ s : Int, NthG (intRows (stepsS boundS c.ops i ++ s :: List.replicate (n - i - 1) 0)) i [intT s] := fun s => .map (fun x => [intT x]) (by simp [hsl])
    have hSi : ∀ s z : Int, SetR (intRows (stepsS boundS c.ops i ++ s :: List.replicate (n - i - 1) 0)) i [intT z] (intRows (stepsS boundS c.ops i ++ z :: List.replicate (n - i - 1) 0)) := fun s z => ⟨by
      rw [← set_mid (stepsS boundS c.ops i) s z _ hsl]; simp [intRows, List.map_set]⟩
    refine TV_loop (fun d σ B => ∃ (j : Nat) (s : Int), d = i - j ∧ j ≤ i ∧ TGet σ 32 (intT j) ∧ TGet σ 31 (intT i) ∧ TGet σ 8 (intT i) ∧ TGet σ 9 (.v (.pointer (some (ad q 0)))) ∧ TGet σ 26 (intT i) ∧ TGet σ 25 (intT n) ∧ TGet σ 24 (.sl 7 (opRows c.ops)) ∧ TGet σ 1 (.v (.pointer (some (ad p 0)))) ∧ TGet σ 7 (.v (.slice (some (ad bs 0)) n n)) ∧ TGet σ 6 (.v (gsv bl fam.length)) ∧
      SubP B ((q, .cells (opCs o) 29 true) :: (p, .cells (circCs c) 24 true) :: (bs, .arr 1 (intRows (stepsS boundS c.ops i ++ s :: List.replicate (n - i - 1) 0)) 3 true) :: (bl, .arr 1 (famR fam) 25 false) :: famB 3 fam) ∧
      s = stepK boundS o (c.ops.take j) ((stepsS boundS c.ops i).take j) 0) i
      ⟨0, 0, by omega, by omega, inferInstance, inferInstance, inferInstance, inferInstance, inferInstance, inferInstance, inferInstance, inferInstance, inferInstance, inferInstance, inferInstance, by simp [stepK]⟩ ?_
    rintro d σ B ⟨j, s, rfl, hj, g32, g31, g8, g9, g26, g25, g24, g1, g7, g6, hB, hs⟩
    have hsb := stepK_bounds boundS o fam.length (c.ops.take j) ((stepsS boundS c.ops i).take j) 0 (by omega) (by omega) (fun x hx => hst x (List.mem_of_mem_take hx))
    rw [← hs] at hsb
    refine TV_keep _ (p := hB) ?_
    repeat (refine StepC.go ?_)
    refine TV_cond ?_ ?_ <;> intro hc3
    · have hji : j < i := by simp at hc3; omega
      obtain ⟨a, ha⟩ : ∃ a, c.ops[j]? = some a := ⟨_, List.getElem?_eq_getElem (by omega)⟩
      obtain ⟨x, hx⟩ : ∃ x, (stepsS boundS c.ops i)[j]? = some x := ⟨_, List.getElem?_eq_getElem (by omega)⟩
      have hxb := hst x (List.mem_of_getElem? hx)
      have nga : NthG (opRows c.ops) j (opCs a) := .map opCs ha
      have hAj : NthG (intRows (stepsS boundS c.ops i ++ s :: List.replicate (n - i - 1) 0)) j [intT x] := .map (fun x => [intT x]) (by rw [List.getElem?_append_left (by omega)]; exact hx)
      have hstep := stepK_take boundS o ha hx
      rw [← hs] at hstep
      iterate 3 refine StepC.go ?_
      refine TV_cut (fun σ B => ∃ s', TGet σ 32 (intT j) ∧ TGet σ 31 (intT i) ∧ TGet σ 8 (intT i) ∧ TGet σ 9 (.v (.pointer (some (ad q 0)))) ∧ TGet σ 26 (intT i) ∧ TGet σ 25 (intT n) ∧ TGet σ 24 (.sl 7 (opRows c.ops)) ∧ TGet σ 1 (.v (.pointer (some (ad p 0)))) ∧ TGet σ 7 (.v (.slice (some (ad bs 0)) n n)) ∧ TGet σ 6 (.v (gsv bl fam.length)) ∧
        SubP B ((q, .cells (opCs o) 29 true) :: (p, .cells (circCs c) 24 true) :: (bs, .arr 1 (intRows (stepsS boundS c.ops i ++ s' :: List.replicate (n - i - 1) 0)) 3 true) :: (bl, .arr 1 (famR fam) 25 false) :: famB 3 fam) ∧
        s' = if s ≤ x ∧ boundS a o = true then x + 1 else s) ?_ ?_
      · have h0 : -9223372036854775808 ≤ x + 1 ∧ x + 1 ≤ 9223372036854775807 := by omega
        repeat (first | refine StepC.go ?_ | refine TD_take rfl rfl ?_ | refine TD_load rfl rfl ?_ | refine TV_draw (id := 12) (plan := [.take 0, .take 1, .take 2, .take 3, .take 4, .take 5, .take 6, .take 7, .take 8, .take 9, .take 10, .take 11, .take 12, .take 13, .take 14, .take 15, .one 16, .take 17]) (by kernel_rfl) ?_)
        refine TD_guard rfl rfl ?_ ?_ <;> intro hg
        · have hsx : s ≤ x := by simpa using hg
          repeat (first | (refine TS_on rfl ?_ ?_; · first | rfl | assumption) | refine TD_one rfl ?_ | refine FiltT_nil ?_ | refine FiltT_drop rfl ?_ | refine FiltT_keep rfl ?_ | refine TD_take_on rfl rfl (by first | rfl | assumption) rfl ?_ | refine TD_load_on rfl rfl (by first | rfl | assumption) rfl ?_)
          refine TS_callE (boundT (hop a (List.mem_of_getElem? ha)) hpo) ?_
          repeat (first | refine StepC.go ?_ | refine TD_take rfl rfl ?_)
          refine TV_cond ?_ ?_ <;> intro hb
          · have hbd : boundS a o = true := by simpa [hsx] using hb
            repeat (first | refine StepC.go ?_ | (refine TS_puw (Pu.addi ?_) ?_; · omega))
            exact ⟨x + 1, inferInstance, inferInstance, inferInstance, inferInstance, inferInstance, inferInstance, inferInstance, inferInstance, inferInstance, inferInstance, inferInstance, by rw [if_pos ⟨hsx, hbd⟩]⟩
          · have hbd : ¬ boundS a o = true := by simpa [hsx] using hb
            repeat (refine StepC.go ?_)
            exact ⟨s, inferInstance, inferInstance, inferInstance, inferInstance, inferInstance, inferInstance, inferInstance, inferInstance, inferInstance, inferInstance, inferInstance, by rw [if_neg fun h => hbd h.2]⟩
        · have hsx : ¬ s ≤ x := by simpa using hg
          repeat (first | refine StepC.go ?_ | (refine TS_off rfl ?_ ?_; · first | rfl | assumption) | refine TD_one rfl ?_ | refine FiltT_nil ?_ | refine FiltT_keep rfl ?_ | (refine TD_off rfl rfl ?_ ?_; · first | rfl | assumption) | (refine TD_takew rfl rfl (Pu.pick_f ?_) ?_; · first | rfl | assumption) | (refine TV_cond_f ?_ ?_; · first | rfl | assumption))
          exact ⟨s, inferInstance, inferInstance, inferInstance, inferInstance, inferInstance, inferInstance, inferInstance, inferInstance, inferInstance, inferInstance, inferInstance, by rw [if_neg fun h => hsx h.1]⟩
      · rintro σ B ⟨s', g32, g31, g8, g9, g26, g25, g24, g1, g7, g6, hB, hs'⟩
        repeat (first | refine StepC.go ?_ | (refine TS_puw (Pu.addi ?_) ?_; · omega))
        refine ⟨_, ?_, j + 1, s', rfl, by omega, inferInstance, inferInstance, inferInstance, inferInstance, inferInstance, inferInstance, inferInstance, inferInstance, inferInstance, inferInstance, hB, by rw [hs', hstep]⟩
        omega
    · have hji : j = i := by simp at hc3; omega
      subst hji
      rw [List.take_of_length_le (Nat.le_of_eq hsl)] at hs
      have hgd : c.ops.getD j ⟨0, .empty, [], 0, false, 0, 0⟩ = o := by simp [List.getD, ho]
      have hSs : stepsS boundS c.ops (j + 1) = stepsS boundS c.ops j ++ [s] := by
        rw [stepsS, hgd, stepK_short, hsl, ← hs]
      have hss := asNat_of hsb.1
      repeat (refine StepC.go ?_)
      refine TV_cut (fun σ B => ∃ (bl : Nat) (fam' : List (Nat × List Int)), TGet σ 8 (intT j) ∧ TGet σ 26 (intT j) ∧ TGet σ 25 (intT n) ∧ TGet σ 24 (.sl 7 (opRows c.ops)) ∧ TGet σ 1 (.v (.pointer (some (ad p 0)))) ∧ TGet σ 7 (.v (.slice (some (ad bs 0)) n n)) ∧ TGet σ 6 (.v (gsv bl fam'.length)) ∧
        SubP B ((p, .cells (circCs c) 24 true) :: (bs, .arr 1 (intRows (stepsS boundS c.ops j ++ s :: List.replicate (n - j - 1) 0)) 3 true) :: (bl, .arr 1 (famR fam') 25 false) :: famB 3 fam') ∧
        fam'.map Prod.snd = (if s.toNat = fam.length then fam.map Prod.snd ++ [[]] else fam.map Prod.snd) ∧ s.toNat < fam'.length ∧ fam.length ≤ fam'.length ∧ fam'.length ≤ j + 1 ∧ ∀ x ∈ fam', x.2.length ≤ j) ?_ ?_
      · refine TV_cond ?_ ?_ <;> intro hs2
        · have hsL : s.toNat = fam.length := by simp at hs2; omega
          refine TV_ghost 1 3 ?_
          intro bg
          repeat (first | refine StepC.go ?_ | intro _ | (refine TS_append ?_ (fun _ => ?_); · omega))
          have hR : famR fam ++ [[.v (.slice none 0 0)]] = famR (fam ++ [(bg, [])]) := by simp [famR, gsv]
          rw [hR]
          rename_i bl2
          have hF : famB 3 (fam ++ [(bg, [])]) = famB 3 fam ++ [(bg, .arr 1 [] 3 false)] := by simp [famB, intRows]
          refine ⟨bl2, fam ++ [(bg, [])], inferInstance, inferInstance, inferInstance, inferInstance, inferInstance, inferInstance, tget_as (by rw [List.length_append]; rfl), ?_, by rw [if_pos hsL]; simp, by simp; omega, by simp, by simp; omega, ?_⟩
          · rw [hF]
            refine SubP.last (k := (bg, .arr 1 [] 3 false)) (L := (p, .cells (circCs c) 24 true) :: (bs, .arr 1 (intRows (stepsS boundS c.ops j ++ s :: List.replicate (n - j - 1) 0)) 3 true) :: (bl2, .arr 1 (famR (fam ++ [(bg, [])])) 25 false) :: famB 3 fam) ?_
            infer_instance
          · intro x hx
            rcases List.mem_append.1 hx with h1 | h1
            · exact hfl2 x h1
            · simp at h1; subst h1; simp
        · have hsL : ¬ s.toNat = fam.length := by simp at hs2; omega
          repeat (refine StepC.go ?_)
          exact ⟨bl, fam, inferInstance, inferInstance, inferInstance, inferInstance, inferInstance, inferInstance, inferInstance, inferInstance, by rw [if_neg hsL], by omega, Nat.le_refl _, by omega, hfl2⟩
      · clear hfl2
        rintro σ B ⟨bl, fam', g8, g26, g25, g24, g1, g7, g6, hB, hf1, hf2, hf3, hf4, hfl2⟩
        refine TV_keep _ (p := hB) ?_
        obtain ⟨x, hx⟩ : ∃ x, fam'[s.toNat]? = some x := ⟨_, List.getElem?_eq_getElem hf2⟩
        obtain ⟨bk, lk⟩ := x
        have hlk := hfl2 _ (List.mem_of_getElem? hx)
        simp only at hlk
        have q1 := famB_is (e := 3) hx
        have q2 := famB_in (e := 3) hx
        have q3 : ∀ b', BoxPut (famB 3 fam') bk b' (.arr 1 (intRows lk ++ [[intT (j : Int)]]) 3 false) (famB 3 (fam'.set s.toNat (b', lk ++ [(j : Int)]))) := fun b' => famB_put (l2 := [(j : Int)]) hx b'
        have q4 := famR_at hx
        have q5 : ∀ b', SetR (famR fam') s.toNat [.v (gsv b' (lk.length + 1))] (famR (fam'.set s.toNat (b', lk ++ [(j : Int)]))) := fun b' => ⟨by simp [famR, List.map_set]⟩
        repeat (first | refine StepC.go ?_ | intro _ | (refine TS_puw (Pu.addi ?_) ?_; · omega) | (refine TS_append ?_ (fun _ => ?_); · omega) | refine TD_take rfl rfl ?_ | refine TD_load rfl rfl ?_ | refine TD_one rfl ?_ | refine FiltT_nil ?_ | refine FiltT_drop rfl ?_ | refine FiltT_keep rfl ?_ | refine TV_draw (id := 17) (plan := [.take 0, .take 1, .take 2, .take 3, .take 4, .take 5, .take 6, .take 7, .take 8, .take 9, .take 10, .take 11, .take 12, .one 13, .one 14, .take 15, .one 16]) (by kernel_rfl) ?_)
        have hr2 : List.replicate (n - (j + 1)) (0 : Int) = List.replicate (n - j - 1) 0 := by congr 1
        rename_i bk2
        refine ⟨_, ?_, j + 1, bl, fam'.set s.toNat (bk2, lk ++ [(j : Int)]), rfl, by omega, inferInstance, inferInstance, inferInstance, inferInstance, inferInstance, tget_as (by rw [List.length_set]), ?_, ?_, ?_, ?_, ?_⟩
        · omega
        · rw [hSs, hr2, List.append_assoc]
          show SubP _ (_ :: (bs, .arr 1 (intRows (stepsS boundS c.ops j ++ s :: List.replicate (n - j - 1) 0)) 3 true) :: _)
          infer_instance
        · rw [hSs, laysS, laysK_app, ← laysS, ← hfam]
          simp only [laysK, layS, hsl, Int.zero_add, List.length_map]
          rw [List.map_set, ← hf1]
          congr 1
          simp [List.getD, hx]
        · rw [hSs, List.length_set]
          intro y hy
          rcases List.mem_append.1 hy with h1 | h1
          · have := hst y h1; omega
          · simp at h1; subst h1; omega
        · rw [List.length_set]; omega
        · intro y hy
          rcases List.mem_or_eq_of_mem_set hy with h1 | rfl
          · have := hfl2 y h1; omega
          · simp; omega
  · have hil : i = n := by simp at hc2; omega
    subst hil
    have : Sm63 fam.length := ⟨by omega⟩
    have hfz := famR_frz (B := (p, .cells (circCs c) 24 true) :: (bs, .arr 1 (intRows (stepsS boundS c.ops i ++ List.replicate (i - i) 0)) 3 true) :: (bl, .arr 1 (famR fam) 25 false) :: famB 3 fam) (e := 3) (fam := fam) (fun x hx => by
      have : BoxIs (famB 3 fam) x.1 (.arr 1 (intRows x.2) 3 false) := ⟨List.mem_map.2 ⟨x, hx, rfl⟩⟩
      infer_instance) (fun x hx => by have := hfl2 x hx; omega)
    repeat (refine StepC.go ?_)
    refine retT_2 (.inr rfl) ?_
    simp only [tret, layersC]
    rw [if_pos hck, hfam, hn]
instance : CallIs Try.prog 10 := .of Try.func10 rfl rfl
end Go.Ideal

-- Te
set_option linter.unusedSimpArgs false
set_option linter.unusedVariables false
namespace Go.Ideal
open Go Go.Proofs Go.RowKit
/-! ### Copies; the circuit that takes it back -/
theorem cloneIntT (xs : List Int) (hl : xs.length < 2 ^ 36) : Fn Try.prog 58 [.sl 1 (intRows xs)] (fun r => r = .sl 1 (intRows xs)) := by
  refine Fn_of Try.func58 rfl (Nat.le_of_ble_eq_true rfl) (fun X => ?_)
  have : Sm63 (0 + xs.length) := ⟨by omega⟩
  repeat (refine StepC.go ?_)
  refine TS_isnil ?_
  intro b hb
  repeat' (first | refine StepC.go ?_ | intro _ | (refine TS_append_own ?_ (fun _ => ?_); · omega) | (refine TV_cond ?_ ?_ <;> intro hc <;> try (cases hc; done)))
  · have : xs = [] := by have := hb hc; simpa [intRows] using this
    subst this
    refine retT_1c [.sl 1 []] (.inr rfl) ?_
    rfl
  · refine retT_1 (.inr rfl) ?_
    rfl
instance : CallIs Try.prog 58 := .of Try.func58 rfl rfl
theorem copiedT (o : OpD) (hl : o.qs.length < 2 ^ 36) : Fn Try.prog 34 [.agg (opCs o)] (fun r => r = .agg (opCs o)) := by
  refine Fn_of Try.func34 rfl (Nat.le_of_ble_eq_true rfl) (fun X => ?_)
  repeat (first | refine StepC.go ?_ | intro _)
  refine TS_call (cloneIntT o.qs hl) ?_
  rintro _ rfl
  repeat (refine StepC.go ?_)
  refine retT_1 (.inr rfl) ?_
  rfl
instance : CallIs Try.prog 34 := .of Try.func34 rfl rfl
def gateO (o : OpD) : Bool := decide (o.kind = 1)
theorem inverse1T (o : OpD) : Fn Try.prog 32 [.agg (opCs o)] (fun r => r = boolT (gateO o)) := by
  refine Fn_of Try.func32 rfl (Nat.le_of_ble_eq_true rfl) (fun X => ?_)
  repeat (first | refine StepC.go ?_ | intro _)
  exact retT_1 (.inr rfl) rfl
instance : CallIs Try.prog 32 := .of Try.func32 rfl rfl
theorem retK_none {P : Program} {E : Env} {s : Nat → Value} {h : IHp} {Φ : Value → IHp → Prop} (k : Φ (.tuple #[]) h) {e : IExit} (he : e = .normal ∨ e = .ret) : retK P E [] Φ e s h := by
  unfold retK; exact ⟨he, [], rfl, k⟩
theorem backOps : BackSpec Try.prog 57 7 := by
  intro y bx off n cap sa cs I h hn hbox helem hbody h0
  refine EvX_of Try.func57 rfl (by show 2 ≤ 19; decide) ?_
  have c0 := hbox n h (Nat.le_refl _) h0
  repeat' (first | refine V_seq ?_ | refine V_region ?_ | refine WS_nil ?_ | refine S_normal ?_ | refine V_block ?_ | refine WS_assign ?_ | refine WS_subi (by omega) ?_ | refine WS_len_slice ?_ | refine WS_load ?_)
  refine V_loop (fun d s h' => ∃ i : Nat, d = i ∧ i ≤ n ∧ Get s 3 (.int .i64 ((i : Int) - 1)) ∧ Get s 0 (.func (.yield y) #[] #[]) ∧ Get s 1 (.pointer (some (ad bx off))) ∧ I i h') n ⟨n, rfl, Nat.le_refl _, get_as rfl, inferInstance, inferInstance, h0⟩ ?_
  rintro d s h' ⟨_, rfl, hi, g3, g0, g1, hI⟩
  cases d with
  | zero =>
    repeat' (first | refine V_seq ?_ | refine V_region ?_ | refine WS_nil ?_ | refine S_normal ?_ | refine V_exit ?_ | refine S_exit ?_ | refine B_exit ?_ | refine WS_move ?_ | refine WS_cmp rfl ?_ | refine V_cond_f (by first | rfl | assumption) ?_)
    exact retK_none hI (.inl rfl)
  | succ j =>
    have g3' : Get s 3 (.int .i64 (j : Int)) := ⟨g3.eq.trans (by congr 1; omega)⟩
    clear g3
    have c1 := hbox (j + 1) h' hi hI
    obtain ⟨a, rfl, hr⟩ := helem j h' (by omega) hI
    have hb : 0 ≤ (j : Int) ∧ (j : Int) < (n : Int) := by omega
    have hr' : RowIs h' a.block (a.off + (j : Int).toNat * 7) 7 (cs j) := by rw [Int.toNat_natCast]; exact hr
    repeat' (first | refine V_seq ?_ | refine V_region ?_ | refine WS_nil ?_ | refine S_normal ?_ | refine V_block ?_ | refine V_skip ?_ | refine WS_move ?_ | refine WS_cmp rfl ?_ | refine WS_load ?_ | refine WS_load_agg ?_ | refine WS_indexAddr (by first | decide | omega) ?_ | refine V_cond_t (by first | rfl | assumption) ?_)
    refine WS_yield (hbody j h' (by omega) hI) ?_
    rintro _ H ⟨rfl, hI'⟩
    repeat' (first | refine V_region ?_ | refine WS_nil ?_ | refine S_normal ?_ | refine B_normal ?_ | refine V_skip ?_ | refine WS_move ?_ | refine WS_assign ?_ | refine WS_subi (by omega) ?_ | refine WS_not ?_ | refine V_cond_f (by first | rfl | assumption) ?_)
    refine ⟨_, ?_, j, rfl, by omega, inferInstance, inferInstance, inferInstance, hI'⟩
    omega
instance : CallIs Try.prog 57 := .of Try.func57 rfl rfl
theorem backwardT (rows : List (List Tr)) : Fn Try.prog 33 [.sl 7 rows] (fun r => r = .fn 57 [] [.pf [.sl 7 rows]]) := by
  refine Fn_of Try.func33 rfl (Nat.le_of_ble_eq_true rfl) (fun X => ?_)
  repeat (first | refine StepC.go ?_ | intro _)
  refine retT_1 (.inr rfl) ?_
  rfl
instance : CallIs Try.prog 33 := .of Try.func33 rfl rfl
def invO (o : OpD) : OpD := { o with name := (backS o.name).1 }
def inverseC (c : CircD) : CircD × Int :=
  if (checkC c).2 = 0 then (if c.ops.all gateO = true then (⟨c.qubits, c.bits, (c.ops.reverse.map invO)⟩, 0) else (⟨0, 0, []⟩, 121)) else (⟨0, 0, []⟩, (checkC c).2)
theorem opRows_app (xs ys : List OpD) : opRows (xs ++ ys) = opRows xs ++ opRows ys := by simp [opRows]
theorem qs_len {o : OpD} {q b : Int} (h : faultS o q b = 0) : o.qs.length ≤ 3 := by
  obtain ⟨_, _, h3, _⟩ := fault_ok h
  have : nS o ≤ 3 := by
    unfold nS
    split
    · have := arityS_03 o.name; omega
    · omega
  omega
theorem circInverseT {c : CircD} (hw : CircW c) : Fn Try.prog 7 [circT c] (fun r => r = .tup [circT (inverseC c).1, intT (inverseC c).2]) := by
  refine Fn_of_range Try.func7 rfl rfl (Nat.le_of_ble_eq_true rfl) (fun X => ?_)
  dsimp only
  repeat (first | refine StepC.go ?_ | intro _)
  rename_i p pr
  refine TS_callE (allT hw (p := gateO) fun o _ => inverse1T o) ?_
  repeat (refine StepC.go ?_)
  refine TV_cond ?_ ?_ <;> intro hc
  · repeat (refine StepC.go ?_)
    refine rangeT_ret (retT_2c [.agg [intT 0, intT 0, .sl 7 []], intT (checkC c).2] (.inr rfl) ?_)
    simp only [tret, inverseC]
    rw [if_neg (by simpa using hc)]; rfl
  have hck : (checkC c).2 = 0 := by simpa using hc
  obtain ⟨hr, hlen, hfl⟩ := checkC_ok hck
  rw [if_pos hck]
  repeat (refine StepC.go ?_)
  refine TV_cond ?_ ?_ <;> intro hg
  · repeat (refine StepC.go ?_)
    refine rangeT_ret (retT_2c [.agg [intT 0, intT 0, .sl 7 []], intT 121] (.inr rfl) ?_)
    simp only [tret, inverseC]
    rw [if_pos hck, if_neg (by simpa using hg)]; rfl
  have hga : c.ops.all gateO = true := by simpa using hg
  refine TV_ghost 7 29 ?_
  intro bl0
  repeat (first | refine StepC.go ?_ | intro _)
  rename_i pd
  refine TS_call (backwardT _) ?_
  rintro _ rfl
  repeat (refine StepC.go ?_)
  have hlo : (opRows c.ops).length = c.ops.length := by simp [opRows]
  refine rangeT_back backOps (fun i B => ∃ bl, SubP B [(pr, .cells [intT 0, intT 0, .v (.slice none 0 0)] 24 true), (pd, .cells [intT c.qubits, intT c.bits, .v (gsv bl (c.ops.length - i))] 24 true), (bl, .arr 7 (opRows ((c.ops.drop i).reverse.map invO)) 29 false)]) (by rw [hlo]; omega) ?_ ?_ ?_
  · rw [hlo, Nat.sub_self, List.drop_length]
    exact ⟨bl0, inferInstanceAs (SubP _ [(pr, .cells [intT 0, intT 0, .v (.slice none 0 0)] 24 true), (pd, .cells [intT c.qubits, intT c.bits, .v (.slice none 0 0)] 24 true), (bl0, .arr 7 [] 29 false)])⟩
  · rintro X1 X2 i row B hrow ⟨bl, hB⟩
    refine TV_keep _ (p := hB) ?_
    simp only [opRows, List.getElem?_map, Option.map_eq_some_iff] at hrow
    obtain ⟨o, ho, rfl⟩ := hrow
    have hil := (List.getElem?_eq_some_iff.1 ho).1
    have hql := qs_len (hfl o (List.mem_of_getElem? ho))
    repeat (first | refine StepC.go ?_ | intro _)
    refine ⟨rfl, ?_⟩
    repeat (refine StepC.go ?_)
    refine TS_call (copiedT o (by omega)) ?_
    rintro _ rfl
    repeat (first | refine StepC.go ?_ | intro _)
    refine TS_callE (backT o.name) ?_
    have hL : LenT (opRows ((c.ops.drop (i + 1)).reverse.map invO)) (c.ops.length - (i + 1)) := ⟨by simp [opRows]⟩
    repeat (first | refine StepC.go ?_ | intro _ | (refine TS_append ?_ (fun _ => ?_); · omega))
    rename_i bl2
    refine ⟨rfl, bl2, ?_⟩
    have hd : opRows ((c.ops.drop i).reverse.map invO) = opRows ((c.ops.drop (i + 1)).reverse.map invO) ++ [opCs (invO o)] := by
      rw [drop_cons ho, List.reverse_cons, List.map_append, opRows_app]; rfl
    have hn : c.ops.length - i = c.ops.length - (i + 1) + 1 := by omega
    rw [hd, hn]
    exact inferInstanceAs (SubP _ [_, _, (bl2, .arr 7 (opRows ((c.ops.drop (i + 1)).reverse.map invO) ++ [[intT o.kind, strT (backS o.name).1, .sl 1 (intRows o.qs), intT o.bit, boolT o.iff, u64T o.mask, u64T o.value]]) 29 false)])
  · rintro B mk ⟨bl, hB⟩ X2
    refine TV_keep _ (p := hB) ?_
    rw [Nat.sub_zero, List.drop_zero]
    have hL : LenT (opRows (c.ops.reverse.map invO)) c.ops.length := ⟨by simp [opRows]⟩
    have : Sm63 c.ops.length := ⟨by omega⟩
    repeat (refine StepC.go ?_)
    refine retT_2 (.inr rfl) ?_
    simp only [tret, inverseC]
    rw [if_pos hck, if_pos hga]
instance : CallIs Try.prog 7 := .of Try.func7 rfl rfl
end Go.Ideal

-- Tf
set_option linter.unusedSimpArgs false
set_option linter.unusedVariables false
namespace Go.Ideal
open Go Go.Proofs Go.RowKit
/-! ### The laws' own example -/
def gateD (nm : ByteArray) (qs : List Int) : OpD := ⟨1, nm, qs, 0, false, 0, 0⟩
theorem gateT (nm : ByteArray) (qs : List Int) : Fn Try.prog 30 [strT nm, .sl 1 (intRows qs)] (fun r => r = .agg (opCs (gateD nm qs))) := by
  refine Fn_of Try.func30 rfl (Nat.le_of_ble_eq_true rfl) (fun X => ?_)
  repeat (first | refine StepC.go ?_ | intro _)
  exact retT_1 (.inr rfl) rfl
instance : CallIs Try.prog 30 := .of Try.func30 rfl rfl
def nmH : ByteArray := ⟨#[104]⟩
def nmCx : ByteArray := ⟨#[99, 120]⟩
def pairD : CircD := ⟨2, 1, [gateD nmH [0], gateD nmCx [0, 1]]⟩
def badD : CircD := ⟨2, 0, [gateD nmH [0], gateD nmCx [0, 0]]⟩
theorem pairT : Fn Try.prog 28 [] (fun r => r = circT pairD) := by
  refine Fn_of Try.func28 rfl (Nat.le_of_ble_eq_true rfl) (fun X => ?_)
  repeat (first | refine StepC.go ?_ | intro _)
  rename_i b
  refine TS_freeze 1 b ?_
  refine TS_call (gateT nmH [0]) ?_
  rintro _ rfl
  repeat (first | refine StepC.go ?_ | intro _)
  rename_i b2
  refine TS_freeze 3 b2 ?_
  refine TS_call (gateT nmCx [0, 1]) ?_
  rintro _ rfl
  repeat (first | refine StepC.go ?_ | intro _)
  exact retT_1 (.inr rfl) rfl
instance : CallIs Try.prog 28 := .of Try.func28 rfl rfl
theorem pairW : CircW pairD := by
  intro o ho
  simp only [pairD, List.mem_cons, List.not_mem_nil, or_false] at ho
  rcases ho with rfl | rfl <;> exact ⟨by decide, by decide⟩
theorem badW : CircW badD := by
  intro o ho
  simp only [badD, List.mem_cons, List.not_mem_nil, or_false] at ho
  rcases ho with rfl | rfl <;> exact ⟨by decide, by decide⟩
theorem pair_halves : halvesC pairD = (1, 0) := by decide +kernel
theorem pair_layers : (layersC pairD).2 = 0 ∧ (layersC pairD).1.length = 2 := by decide +kernel
theorem pair_inverse : inverseC pairD = (⟨2, 1, [gateD nmCx [0, 1], gateD nmH [0]]⟩, 0) := by kernel_rfl
theorem bad_check : checkC badD = (1, 113) := by decide +kernel
theorem awake11T : Fn Try.prog 5 [] (fun r => r = boolT true) := by
  refine Fn_of Try.func5 rfl (Nat.le_of_ble_eq_true rfl) (fun X => ?_)
  repeat (refine StepC.go ?_)
  refine TS_call pairT ?_
  rintro _ rfl
  skip
  refine TS_callE (circHalvesT pairW) ?_
  rw [pair_halves]
  repeat (refine StepC.go ?_)
  refine TS_call pairT ?_
  rintro _ rfl
  skip
  refine TS_call (layersT pairW) ?_
  rintro _ rfl
  rw [pair_layers.1]
  have hl := pair_layers.2
  repeat (refine StepC.go ?_)
  refine TS_call pairT ?_
  rintro _ rfl
  skip
  refine TS_call (circInverseT pairW) ?_
  rintro _ rfl
  rw [pair_inverse]
  repeat (first | refine StepC.go ?_ | intro _)
  rename_i b
  refine TS_freeze 25 b ?_
  refine TS_call (gateT nmH [0]) ?_
  rintro _ rfl
  repeat (first | refine StepC.go ?_ | intro _)
  rename_i b2
  refine TS_freeze 27 b2 ?_
  refine TS_call (gateT nmCx [0, 0]) ?_
  rintro _ rfl
  repeat (first | refine StepC.go ?_ | intro _)
  refine TS_callE (checkT (c := badD) badW) ?_
  rw [bad_check]
  have ng : NthG (opRows [gateD nmCx [0, 1], gateD nmH [0]]) 0 (opCs (gateD nmCx [0, 1])) := ⟨rfl⟩
  have hl2 : (layRowsT (layersC pairD).1).length = 2 := by rw [← hl]; simp [layRowsT]
  repeat (first | refine StepC.go ?_ | (refine TS_on rfl ?_ ?_; · first | rfl | assumption))
  refine retT_1 (.inr rfl) ?_
  simp [tret, hl2, opRows, gateD, nmCx, beqS]
instance : CallIs Try.prog 5 := .of Try.func5 rfl rfl
end Go.Ideal

-- Tg
set_option linter.unusedSimpArgs false
set_option linter.unusedVariables false
namespace Go.Ideal
open Go Go.Proofs Go.RowKit
/-! ### The reference's Halves, Clean, Clifford; the law CircuitChecks -/
end Go.Ideal

-- Th
set_option linter.unusedSimpArgs false
set_option linter.unusedVariables false
namespace Go.Ideal
open Go Go.Proofs Go.RowKit
/-! ### From the arguments to trees -/
theorem repR_of {F : Mem} {b m : Nat} : ∀ {rows : List (List Tr)} {off : Nat}, (∀ (i : Nat) (row : List Tr), rows[i]? = some row → ∃ vs, rowM F b (off + i * m) m = some vs ∧ RepL F row vs) → RepR F b m rows off := by
  intro rows
  induction rows with
  | nil => intro off _; simp [RepR]
  | cons r rows ih =>
    intro off h
    simp only [RepR]
    refine ⟨by simpa using h 0 r rfl, ih fun i row hr => ?_⟩
    have := h (i + 1) row (by simpa using hr)
    rw [show off + (i + 1) * m = off + m + i * m by rw [Nat.add_mul]; omega] at this
    exact this
theorem ints_rep {h : IHp} {a : Option Addr} {l c : Nat} {xs : List Int} (hs : SlIs h a l c (ints xs)) (hc : c < 2 ^ 63) (hsp : SpotOk a c) : Rep h.cell? (.sl 1 (intRows xs)) (.slice a l c) := by
  obtain ⟨h1, h2, h3⟩ := hs
  rw [ints_len] at h1
  rw [Rep]
  refine ⟨a, l, c, rfl, by simp [intRows, h1], h2, hc, hsp, ?_⟩
  cases a with
  | none => exact h3
  | some a =>
    simp only at h3 ⊢
    refine repR_of fun i row hr => ?_
    simp only [intRows, List.getElem?_map, Option.map_eq_some_iff] at hr
    obtain ⟨x, hx, rfl⟩ := hr
    have hi := (List.getElem?_eq_some_iff.1 hx).1
    have hcell := row_cell h3 i (by omega)
    have hv : (ints xs)[i]? = some (.int .i64 x) := by simp [ints, hx]
    rw [hv] at hcell
    refine ⟨[.int .i64 x], ?_, RepL.cons (rep_v _) RepL.nil⟩
    rw [Nat.mul_one]
    simp [rowM, hcell]
theorem op_rep {h : IHp} {cells : List Value} {o : OpD} (x : OpC h cells o) : RepL h.cell? (opCs o) cells ∧ OpW o := by
  obtain ⟨a, l, c, rfl, h1, h2, h3, h4, h5⟩ := x
  exact ⟨RepL.cons (rep_v _) (RepL.cons (rep_v _) (RepL.cons (ints_rep h1 h4 h5) (RepL.cons (rep_v _) (RepL.cons (rep_v _) (RepL.cons (rep_v _) (RepL.cons (rep_v _) RepL.nil)))))), h2, h3⟩
theorem circ_rep {h : IHp} {a : Option Addr} {l k : Nat} {c : CircD} (x : OpsV h a l k c.ops) (hsp : SpotOk a k) : Rep h.cell? (circT c) (.agg [.int .i64 c.qubits, .int .i64 c.bits, .slice a l k].toArray) ∧ CircW c := by
  obtain ⟨h1, h2, h3, h4⟩ := x
  have hw : CircW c := by
    intro o ho
    obtain ⟨i, hi⟩ := List.getElem?_of_mem ho
    cases a with
    | none => simp only at h4; have : c.ops = [] := List.eq_nil_of_length_eq_zero (by omega); rw [this] at ho; cases ho
    | some a =>
      obtain ⟨cells, _, h6⟩ := h4 i o hi
      exact (op_rep h6).2
  refine ⟨?_, hw⟩
  rw [Rep]
  refine ⟨_, rfl, RepL.cons (rep_v _) (RepL.cons (rep_v _) (RepL.cons ?_ RepL.nil))⟩
  rw [Rep]
  refine ⟨a, l, k, rfl, by simp [opRows, h1], h2, h3, hsp, ?_⟩
  cases a with
  | none => exact h4
  | some a =>
    simp only
    refine repR_of fun i row hr => ?_
    simp only [opRows, List.getElem?_map, Option.map_eq_some_iff] at hr
    obtain ⟨o, ho, rfl⟩ := hr
    obtain ⟨cells, h5, h6⟩ := h4 i o ho
    exact ⟨cells, by rw [← row_rowM]; exact h5, (op_rep h6).1⟩
set_option maxRecDepth 100000 in
theorem circ_sp {h : IHp} {n : Nat} {cs : List Value} (hd : IRd Try.prog h (n + 5) 24 cs) : ∃ (c : CircD) (a : Option Addr) (l k : Nat), OpsV h a l k c.ops ∧ cs = [.int .i64 c.qubits, .int .i64 c.bits, .slice a l k] ∧ SpotOk a k := by
  obtain ⟨c, a, l, k, h1, h2⟩ := circ_of hd
  have h3 : cs = [.int .i64 c.qubits, .int .i64 c.bits, .slice a l k] := by simpa using h1
  refine ⟨c, a, l, k, h2, h3, ?_⟩
  have hu : ∃ f0 f1 f2, Try.prog.underlying 24 = some (.struct #[f0, f1, f2]) ∧ (f2.type = 22 ∧ f2.offset = 2) :=
    ⟨_, _, _, Try.underlying24, ⟨rfl, rfl⟩⟩
  obtain ⟨f0, f1, f2, hu, ⟨t2, o2⟩⟩ := hu
  have csl : Try.prog.cellsOf 22 = 1 := by kernel_rfl
  rw [IRd, hu] at hd
  obtain ⟨_, hf⟩ := hd
  have g2 := hf 2 f2 rfl
  rw [t2, o2, csl, h3] at g2
  simp only [List.take_succ_cons, List.take_zero, List.drop_zero, List.drop_succ_cons] at g2
  rw [IRd, (UnderIs.eq : Try.prog.underlying 22 = _)] at g2
  rcases g2 with e2 | ⟨a', l', c', e2, _, _, h6, _⟩
  · cases e2; exact fun d hd => by cases hd
  · cases e2
    intro d hd
    cases hd
    exact h6
set_option maxRecDepth 100000 in
theorem circ_tree {h : IHp} {n : Nat} {cs : List Value} (hd : IRd Try.prog h (n + 5) 24 cs) : ∃ c : CircD, Rep h.cell? (circT c) (.agg cs.toArray) ∧ CircW c := by
  have h0 := circ_sp hd
  clear hd
  obtain ⟨c, a, l, k, h1, h2, h3⟩ := h0
  exact ⟨c, by rw [h2]; exact circ_rep h1 h3⟩
set_option maxRecDepth 100000 in
theorem ints_tree {h : IHp} {n : Nat} {v : Value} (hd : IRd Try.prog h (n + 2) 25 [v]) : ∃ xs : List Int, Rep h.cell? (.sl 1 (intRows xs)) v := by
  obtain ⟨a, l, c, xs, rfl, hs, hc, hsp⟩ := SlIs_ints hd
  exact ⟨xs, ints_rep hs hc hsp⟩
theorem slice_cell {P : Program} {w : World} {base : Nat} {t e : TypeId} {v : Value} (hu : P.underlying t = some (.slice e)) (h : Value.okWide P w .any base t v) : v.cells = #[v] ∧ ∀ cs, v ≠ .agg cs := by
  have hn : ∀ cs, v ≠ .agg cs := by
    rintro cs rfl
    simp only [Value.okWide, hu, Cell.okWide, Cell.ok] at h
  exact ⟨by cases v <;> first | rfl | exact absurd rfl (hn _), hn⟩
theorem EvX_of_Fn {P : Program} {f : FuncId} {ts : List Tr} {vs : List Value} {h : IHp} (x : Fn P f ts (fun r => r = boolT true)) (hr : RepL h.cell? ts vs) : EvX P f vs.toArray h (fun v _ => v = .bool true) := by
  unfold Fn at x
  refine (x h.cell? h vs (Sub.refl _) hr).mono ?_
  rintro v h' ⟨_, F, r, _, _, _, h1, rfl⟩
  simpa only [Rep] using h1
end Go.Ideal

-- Tj
set_option linter.unusedSimpArgs false
set_option linter.unusedVariables false
namespace Go.Ideal
open Go Go.Proofs Go.RowKit
/-! ### The reference's order of operations -/
theorem wrap_nn {z : Int} (h0 : 0 ≤ z) (h1 : z < 9223372036854775808) : ConvT .u64 z z := ⟨by
  simp [IntKind.wrap, IntKind.bits, IntKind.signed]; omega⟩
theorem readsT (o : OpD) : Fn Try.prog 66 [.agg (opCs o)] (fun r => r = u64T o.mask) := by
  refine Fn_of Try.func66 rfl (Nat.le_of_ble_eq_true rfl) (fun X => ?_)
  repeat (first | refine StepC.go ?_ | intro _)
  exact retT_1 (.inr rfl) rfl
instance : CallIs Try.prog 66 := .of Try.func66 rfl rfl
theorem writesT {o : OpD} (hb : o.kind = 2 → 0 ≤ o.bit ∧ o.bit < 64) : Fn Try.prog 65 [.agg (opCs o)] (fun r => r = u64T (wrS o)) := by
  refine Fn_of Try.func65 rfl (Nat.le_of_ble_eq_true rfl) (fun X => ?_)
  repeat (first | refine StepC.go ?_ | intro _)
  refine TV_cond ?_ ?_ <;> intro hc
  · have hk : o.kind = 2 := by simpa using hc
    obtain ⟨h0, h1⟩ := hb hk
    have := asNat_of h0
    have := wrap_nn h0 (by omega)
    repeat (refine StepC.go ?_)
    refine retT_1 (.inr rfl) ?_
    simp [tret, wrS, hk, bitN]
  · have hk : ¬ o.kind = 2 := by simpa using hc
    repeat (refine StepC.go ?_)
    refine retT_1 (.inr rfl) ?_
    simp [tret, wrS, hk]
instance : CallIs Try.prog 65 := .of Try.func65 rfl rfl
def commonS (a b : List Int) : Bool := a.any fun x => b.any fun y => decide (x = y)
def boundR (a b : OpD) : Bool := (!decide (a.kind = 1) && !decide (b.kind = 1)) || decide (wrS a &&& (b.mask ||| wrS b) ≠ 0) || decide (wrS b &&& a.mask ≠ 0) || commonS a.qs b.qs
set_option maxHeartbeats 1000000 in
theorem boundRT {a b : OpD} (ha : OpW a) (hb : OpW b) (ha2 : a.kind = 2 → 0 ≤ a.bit ∧ a.bit < 64) (hb2 : b.kind = 2 → 0 ≤ b.bit ∧ b.bit < 64) (hla : a.qs.length < 2 ^ 40) (hlb : b.qs.length < 2 ^ 40) : Fn Try.prog 40 [.agg (opCs a), .agg (opCs b)] (fun r => r = boolT (boundR a b)) := by
  have : Lt64 a.mask := ⟨ha.1⟩
  have : Lt64 b.mask := ⟨hb.1⟩
  have hL1 : (intRows a.qs).length = a.qs.length := by simp [intRows]
  have hL2 : (intRows b.qs).length = b.qs.length := by simp [intRows]
  refine Fn_of Try.func40 rfl (Nat.le_of_ble_eq_true rfl) (fun X => ?_)
  repeat (first | refine StepC.go ?_ | intro _)
  rename_i pa pb
  refine TS_cut (fun σ B => TGet σ 14 (boolT (!decide (a.kind = 1) && !decide (b.kind = 1))) ∧ TGet σ 2 (.v (.pointer (some (ad pa 0)))) ∧ TGet σ 3 (.v (.pointer (some (ad pb 0)))) ∧ SubP B [(pa, .cells (opCs a) 29 true), (pb, .cells (opCs b) 29 true)]) ?_ ?_
  · repeat' (first | refine StepC.go ?_ | (refine TS_on rfl ?_ ?_; · first | rfl | assumption) | (refine TS_off rfl ?_ ?_; · first | rfl | assumption) | (refine TS_puw (Pu.pick_f ?_) ?_; · first | rfl | assumption) | (refine TS_guard rfl ?_ ?_ <;> intro hg))
    all_goals exact ⟨tget_as (by simp_all), inferInstance, inferInstance, inferInstance⟩
  rintro σ B ⟨g14, g2, g3, hB⟩
  refine TV_keep _ (p := hB) ?_
  skip
  refine TV_cond ?_ ?_ <;> intro hk
  · repeat (refine StepC.go ?_)
    refine retT_1 (.inr rfl) ?_
    simp only [tret, boundR, hk, Bool.true_or]
  repeat (refine StepC.go ?_)
  refine TV_draw (id := 3) (plan := [.take 0, .take 2, .take 4, .one 1, .one 3, .one 5, .take 6, .take 7, .take 8, .take 9, .take 10, .take 12, .one 11, .one 13, .take 14, .take 15, .take 16]) (by kernel_rfl) ?_
  refine TD_pin pa 7 ?_
  refine TD_pin pb 7 ?_
  repeat (first | refine TD_load rfl rfl ?_ | refine TD_one rfl ?_ | refine FiltT_nil ?_ | refine FiltT_drop rfl ?_ | refine FiltT_keep rfl ?_)
  refine TS_callE (writesT ha2) ?_
  repeat (first | refine StepC.go ?_ | refine TD_one rfl ?_ | refine FiltT_nil ?_ | refine FiltT_drop rfl ?_ | refine FiltT_keep rfl ?_)
  refine TS_callE (readsT b) ?_
  repeat (first | refine StepC.go ?_ | refine TD_one rfl ?_ | refine FiltT_nil ?_ | refine FiltT_drop rfl ?_ | refine FiltT_keep rfl ?_)
  refine TS_callE (writesT hb2) ?_
  repeat (first | refine StepC.go ?_ | refine TD_take rfl rfl ?_)
  rw [nat0]
  refine TD_guard rfl rfl ?_ ?_ <;> intro hg
  · repeat (first | (refine TS_on rfl ?_ ?_; · first | rfl | assumption) | refine TD_one rfl ?_ | refine FiltT_nil ?_ | refine FiltT_drop rfl ?_ | refine FiltT_keep rfl ?_ | refine TD_loadP_on rfl rfl (by first | rfl | assumption) rfl ?_)
    refine TS_callE (writesT hb2) ?_
    repeat (first | refine StepC.go ?_ | (refine TS_on rfl ?_ ?_; · first | rfl | assumption) | refine TD_one rfl ?_ | refine FiltT_nil ?_ | refine FiltT_drop rfl ?_ | refine FiltT_keep rfl ?_)
    refine TS_callE (readsT a) ?_
    repeat (first | refine StepC.go ?_ | refine TD_take rfl rfl ?_ | refine TD_take_on rfl rfl (by first | rfl | assumption) rfl ?_)
    refine TV_cond ?_ ?_ <;> intro hc
    · repeat (refine StepC.go ?_)
      refine retT_1 (.inr rfl) ?_
      simp only [nat0] at hg hc
      have h1 : (wrS a &&& (b.mask ||| wrS b)) = 0 := by simpa using hg
      have h2 : (wrS b &&& a.mask) ≠ 0 := by simpa [h1] using hc
      simp [tret, boundR, h2]
    simp only [nat0] at hg hc
    have h1 : (wrS a &&& (b.mask ||| wrS b)) = 0 := by simpa using hg
    have h2 : (wrS b &&& a.mask) = 0 := by simpa [h1] using hc
    have hR : boundR a b = commonS a.qs b.qs := by simp only [boundR, hk, h1, h2]; simp
    rw [hR]
    repeat (refine StepC.go ?_)
    refine TV_loop (fun d σ B => ∃ i : Nat, d = a.qs.length - i ∧ i ≤ a.qs.length ∧ TGet σ 5 (intT i) ∧ TGet σ 2 (.v (.pointer (some (ad pa 0)))) ∧ TGet σ 3 (.v (.pointer (some (ad pb 0)))) ∧ SubP B [(pa, .cells (opCs a) 29 true), (pb, .cells (opCs b) 29 true)] ∧ commonS a.qs b.qs = commonS (a.qs.drop i) b.qs) a.qs.length
      ⟨0, by omega, by omega, inferInstance, inferInstance, inferInstance, inferInstance, rfl⟩ ?_
    rintro d σ B ⟨i, rfl, hi, g5, g2, g3, hB, hK⟩
    refine TV_keep _ (p := hB) ?_
    repeat (refine StepC.go ?_)
    rw [hL1]
    refine TV_cond ?_ ?_ <;> intro hc2
    · have hil : i < a.qs.length := by simp at hc2; omega
      obtain ⟨x, hx⟩ : ∃ x, a.qs[i]? = some x := ⟨_, List.getElem?_eq_getElem hil⟩
      have ngx : NthG (intRows a.qs) i [intT x] := .map (fun x => [intT x]) hx
      have hd : commonS (a.qs.drop i) b.qs = ((b.qs.any fun y => decide (x = y)) || commonS (a.qs.drop (i + 1)) b.qs) := by rw [drop_cons hx]; rfl
      repeat (refine StepC.go ?_)
      refine TV_loop (fun d σ B => ∃ j : Nat, d = b.qs.length - j ∧ j ≤ b.qs.length ∧ TGet σ 6 (intT j) ∧ TGet σ 5 (intT i) ∧ TGet σ 2 (.v (.pointer (some (ad pa 0)))) ∧ TGet σ 3 (.v (.pointer (some (ad pb 0)))) ∧ SubP B [(pa, .cells (opCs a) 29 true), (pb, .cells (opCs b) 29 true)] ∧ (b.qs.any fun y => decide (x = y)) = ((b.qs.drop j).any fun y => decide (x = y))) b.qs.length
        ⟨0, by omega, by omega, inferInstance, inferInstance, inferInstance, inferInstance, inferInstance, rfl⟩ ?_
      rintro d σ B ⟨j, rfl, hj, g6, g5, g2, g3, hB, hJ⟩
      refine TV_keep _ (p := hB) ?_
      repeat (refine StepC.go ?_)
      rw [hL2]
      refine TV_cond ?_ ?_ <;> intro hc3
      · have hjl : j < b.qs.length := by simp at hc3; omega
        obtain ⟨y, hy⟩ : ∃ y, b.qs[j]? = some y := ⟨_, List.getElem?_eq_getElem hjl⟩
        have ngy : NthG (intRows b.qs) j [intT y] := .map (fun x => [intT x]) hy
        rw [drop_cons hy, List.any_cons] at hJ
        repeat (first | refine StepC.go ?_ | refine TD_take rfl rfl ?_ | refine TD_load rfl rfl ?_ | refine TV_draw (id := 11) (plan := [.take 0, .take 1, .take 2, .take 3, .take 4, .take 5, .take 6, .take 7, .take 8, .take 9, .take 10]) (by kernel_rfl) ?_)
        refine TV_cond ?_ ?_ <;> intro hxy
        · repeat (refine StepC.go ?_)
          refine retT_1 (.inr rfl) ?_
          simp only [tret]
          rw [hK, hd, hJ, hxy]; simp
        · repeat (first | refine StepC.go ?_ | (refine TS_puw (Pu.addi ?_) ?_; · omega))
          refine ⟨_, ?_, j + 1, rfl, by omega, inferInstance, inferInstance, inferInstance, inferInstance, inferInstance, by rw [hJ, hxy, Bool.false_or]⟩
          omega
      · have hjl : j = b.qs.length := by simp at hc3; omega
        rw [hjl, List.drop_length] at hJ
        repeat (first | refine StepC.go ?_ | (refine TS_puw (Pu.addi ?_) ?_; · omega))
        refine ⟨_, ?_, i + 1, rfl, by omega, inferInstance, inferInstance, inferInstance, inferInstance, by rw [hK, hd, hJ]; rfl⟩
        omega
    · have hil : i = a.qs.length := by simp at hc2; omega
      repeat (refine StepC.go ?_)
      refine retT_1 (.inr rfl) ?_
      simp only [tret]
      rw [hK, hil, List.drop_length]; rfl
  · repeat (first | refine StepC.go ?_ | (refine TS_off rfl ?_ ?_; · first | rfl | assumption) | refine TD_one rfl ?_ | refine FiltT_nil ?_ | refine FiltT_keep rfl ?_ | (refine TD_off rfl rfl ?_ ?_; · first | rfl | assumption) | (refine TD_takew rfl rfl (Pu.pick_t ?_) ?_; · first | rfl | assumption) | (refine TV_cond_t ?_ ?_; · first | rfl | assumption))
    refine retT_1 (.inr rfl) ?_
    have h1 : (wrS a &&& (b.mask ||| wrS b)) ≠ 0 := by simpa [nat0] using hg
    simp [tret, boundR, h1]
instance : CallIs Try.prog 40 := .of Try.func40 rfl rfl
end Go.Ideal

-- Tk
set_option linter.unusedSimpArgs false
set_option linter.unusedVariables false
namespace Go.Ideal
open Go Go.Proofs Go.RowKit
/-! ### The reference's steps and layers -/
theorem bitN_eq {q : Int} (h0 : 0 ≤ q) (h1 : q < 64) : bitN q = 2 ^ q.toNat := by
  unfold bitN
  rw [Nat.shiftLeft_eq, Nat.one_mul]
  refine Nat.mod_eq_of_lt ?_
  have : q.toNat < 64 := by omega
  calc 2 ^ q.toNat < 2 ^ 64 := Nat.pow_lt_pow_right (by decide) this
    _ = _ := by decide
theorem qb_bit (k : Nat) : ∀ (qs : List Int) (a : Nat), (∀ q ∈ qs, 0 ≤ q ∧ q < 64) → ((qs.foldl (fun a q => a ||| bitN q) a).testBit k = (a.testBit k || qs.any fun q => decide (q = (k : Int)))) := by
  intro qs
  induction qs with
  | nil => intro a _; simp
  | cons q qs ih =>
    intro a h
    rw [List.foldl_cons, ih _ (fun x hx => h x (List.mem_cons_of_mem _ hx)), Nat.testBit_or, bitN_eq (h q List.mem_cons_self).1 (h q List.mem_cons_self).2, Nat.testBit_two_pow, List.any_cons, Bool.or_assoc]
    have := h q List.mem_cons_self
    congr 2
    refine decide_eq_decide.2 ?_
    omega
theorem qbS_bit {qs : List Int} (h : ∀ q ∈ qs, 0 ≤ q ∧ q < 64) (k : Nat) : (qbS qs).testBit k = qs.any fun q => decide (q = (k : Int)) := by
  unfold qbS; rw [qb_bit k qs 0 h]; simp
theorem qb_common {xs ys : List Int} (hx : ∀ q ∈ xs, 0 ≤ q ∧ q < 64) (hy : ∀ q ∈ ys, 0 ≤ q ∧ q < 64) : decide (qbS xs &&& qbS ys ≠ 0) = commonS xs ys := by
  rw [Bool.eq_iff_iff, decide_eq_true_iff]
  constructor
  · intro h
    obtain ⟨k, hk⟩ := Nat.exists_testBit_of_ne_zero h
    rw [Nat.testBit_and, qbS_bit hx, qbS_bit hy] at hk
    simp only [Bool.and_eq_true, List.any_eq_true, decide_eq_true_eq] at hk
    obtain ⟨⟨x, hx1, hx2⟩, y, hy1, hy2⟩ := hk
    simp only [commonS, List.any_eq_true, decide_eq_true_eq]
    exact ⟨x, hx1, y, hy1, by omega⟩
  · intro h h0
    simp only [commonS, List.any_eq_true, decide_eq_true_eq] at h
    obtain ⟨x, hx1, y, hy1, rfl⟩ := h
    have := congrArg (fun n => Nat.testBit n x.toNat) h0
    simp only [Nat.testBit_and, qbS_bit hx, qbS_bit hy, Nat.zero_testBit] at this
    have hb := hx x hx1
    have e : ((x.toNat : Nat) : Int) = x := Int.toNat_of_nonneg hb.1
    rw [e] at this
    have h1 : (xs.any fun q => decide (q = x)) = true := List.any_eq_true.2 ⟨x, hx1, by simp⟩
    have h2 : (ys.any fun q => decide (q = x)) = true := List.any_eq_true.2 ⟨x, hy1, by simp⟩
    rw [h1, h2] at this
    cases this
/-- what an operation that is none at fault is like -/
structure OpG (o : OpD) : Prop where
  qs : ∀ q ∈ o.qs, 0 ≤ q ∧ q < 64
  bit : o.kind = 2 → 0 ≤ o.bit ∧ o.bit < 64
  mask : o.iff = false → o.mask = 0
  w : OpW o
  len : o.qs.length ≤ 3
theorem OpG.p {o : OpD} (h : OpG o) : OpP o := ⟨fun q hq => (h.qs q hq).1, fun hk => (h.bit hk).1, h.w⟩
theorem opG_of {o : OpD} {q b : Int} (h : faultS o q b = 0) (hq : q ≤ 64) (hb : b ≤ 64) (hw : OpW o) : OpG o := by
  have hl := qs_len h
  obtain ⟨h1, _, _, h4, h5, _⟩ := fault_ok h
  refine ⟨fun x hx => ?_, fun hk => ?_, fun hi => ?_, hw, hl⟩
  · have := List.any_eq_false.1 h4 x hx
    simp [outS] at this
    omega
  · simp only [bitBad, hk] at h5
    simp at h5
    omega
  · simp only [shapeBad, Bool.or_eq_false_iff] at h1
    have h2 := h1.1.1.2
    simp only [bad2, hi] at h2
    simp at h2
    exact h2.1
theorem bound_eq {a b : OpD} (ha : OpG a) (hb : OpG b) : boundR a b = boundS a b := by
  have r1 : ∀ {o : OpD}, OpG o → rdS o = o.mask := by
    intro o h
    unfold rdS
    cases hi : o.iff
    · simp [h.mask hi]
    · simp
  unfold boundR boundS
  rw [r1 ha, r1 hb, qb_common ha.qs hb.qs, Nat.or_comm b.mask]
  generalize commonS a.qs b.qs = x1
  generalize decide (wrS a &&& (wrS b ||| b.mask) ≠ 0) = x2
  generalize decide (wrS b &&& a.mask ≠ 0) = x3
  generalize (!decide (a.kind = 1) && !decide (b.kind = 1)) = x4
  cases x1 <;> cases x2 <;> cases x3 <;> cases x4 <;> rfl
theorem bound_symm (a b : OpD) : boundS a b = boundS b a := by
  unfold boundS
  have h1 : (decide (wrS a &&& (wrS b ||| rdS b) ≠ 0) || decide (wrS b &&& rdS a ≠ 0)) = (decide (wrS b &&& (wrS a ||| rdS a) ≠ 0) || decide (wrS a &&& rdS b ≠ 0)) := by
    rw [Bool.eq_iff_iff]
    simp only [Bool.or_eq_true, decide_eq_true_eq, Nat.and_or_distrib_left, ne_eq, Nat.or_eq_zero_iff]
    rw [Nat.and_comm (wrS a) (wrS b)]
    by_cases x1 : wrS b &&& wrS a = 0 <;> by_cases x2 : wrS a &&& rdS b = 0 <;> by_cases x3 : wrS b &&& rdS a = 0 <;> simp [x1, x2, x3]
  rw [Nat.and_comm (qbS a.qs), Bool.or_assoc (decide _), h1, ← Bool.or_assoc, Bool.and_comm]
end Go.Ideal

-- Tl
set_option linter.unusedSimpArgs false
set_option linter.unusedVariables false
namespace Go.Ideal
open Go Go.Proofs Go.RowKit
theorem stepK_congr {f g : OpD → OpD → Bool} {o : OpD} : ∀ (os : List OpD) (xs : List Int) (s : Int), (∀ a ∈ os, f a o = g a o) → stepK f o os xs s = stepK g o os xs s := by
  intro os
  induction os with
  | nil => intro xs s _; cases xs <;> rfl
  | cons a os ih =>
    intro xs s h
    cases xs with
    | nil => rfl
    | cons x xs => simp only [stepK]; rw [h a List.mem_cons_self]; exact ih xs _ (fun b hb => h b (List.mem_cons_of_mem _ hb))
theorem stepsS_congr {f g : OpD → OpD → Bool} {os : List OpD} (h : ∀ a ∈ os, ∀ b ∈ os, f a b = g a b) : ∀ n, n ≤ os.length → stepsS f os n = stepsS g os n := by
  intro n
  induction n with
  | zero => intro _; rfl
  | succ n ih =>
    intro hn
    obtain ⟨o, ho⟩ : ∃ o, os[n]? = some o := ⟨_, List.getElem?_eq_getElem (by omega)⟩
    simp only [stepsS, ih (by omega)]
    rw [show os.getD n ⟨0, .empty, [], 0, false, 0, 0⟩ = o by simp [List.getD, ho]]
    rw [stepK_congr os _ 0 (fun a ha => h a ha o (List.mem_of_getElem? ho))]
theorem stepsS_nn (bd : OpD → OpD → Bool) (os : List OpD) : ∀ n, ∀ x ∈ stepsS bd os n, 0 ≤ x ∧ x < n := by
  intro n
  induction n with
  | zero => intro x hx; cases hx
  | succ n ih =>
    intro x hx
    simp only [stepsS] at hx
    rcases List.mem_append.1 hx with h | h
    · have := ih x h; omega
    · rw [List.mem_singleton.1 h]
      have := stepK_bounds bd (os.getD n ⟨0, .empty, [], 0, false, 0, 0⟩) n os (stepsS bd os n) 0 (by omega) (by omega) ih
      omega
set_option maxHeartbeats 1000000 in
theorem stepsRT {c : CircD} (hw : ∀ o ∈ c.ops, OpG o) (hlen : c.ops.length ≤ 4096) : Fn Try.prog 41 [circT c] (fun r => r = .sl 1 (intRows (stepsS boundR c.ops c.ops.length))) := by
  refine Fn_of Try.func41 rfl (Nat.le_of_ble_eq_true rfl) (fun X => ?_)
  have hL : (opRows c.ops).length = c.ops.length := by simp [opRows]
  obtain ⟨n, hn⟩ : ∃ n, n = c.ops.length := ⟨_, rfl⟩
  repeat (first | refine StepC.go ?_ | intro _)
  rename_i p
  refine TV_ghost 1 3 ?_
  intro b0
  refine TV_loop (fun d σ B => ∃ (i b : Nat), d = n - i ∧ i ≤ n ∧ TGet σ 4 (intT i) ∧ TGet σ 1 (.v (.pointer (some (ad p 0)))) ∧ TGet σ 3 (.v (gsv b i)) ∧ SubP B [(p, .cells (circCs c) 24 true), (b, .arr 1 (intRows (stepsS boundR c.ops i)) 3 false)]) n
    ⟨0, b0, by omega, by omega, inferInstance, inferInstance, tget_as rfl, inferInstanceAs (SubP _ [(p, .cells (circCs c) 24 true), (b0, .arr 1 [] 3 false)])⟩ ?_
  rintro d σ B ⟨i, b, rfl, hi, g4, g1, g3, hB⟩
  refine TV_keep _ (p := hB) ?_
  have hLn : LenT (intRows (stepsS boundR c.ops i)) i := ⟨by simp [intRows, stepsS_len]⟩
  repeat (refine StepC.go ?_)
  rw [hL, ← hn]
  refine TV_cond ?_ ?_ <;> intro hc
  · have hil : i < n := by simp at hc; omega
    obtain ⟨o, ho⟩ : ∃ o, c.ops[i]? = some o := ⟨_, List.getElem?_eq_getElem (by omega)⟩
    have ng : NthG (opRows c.ops) i (opCs o) := .map opCs ho
    have hgo := hw o (List.mem_of_getElem? ho)
    have hsl := stepsS_len boundR c.ops i
    repeat (refine StepC.go ?_)
    refine TV_loop (fun d σ B => ∃ (j : Nat) (s : Int), d = i - j ∧ j ≤ i ∧ TGet σ 6 (intT j) ∧ TGet σ 5 (intT s) ∧ TGet σ 4 (intT i) ∧ TGet σ 1 (.v (.pointer (some (ad p 0)))) ∧ TGet σ 3 (.v (gsv b i)) ∧ SubP B [(p, .cells (circCs c) 24 true), (b, .arr 1 (intRows (stepsS boundR c.ops i)) 3 false)] ∧ s = stepK boundR o (c.ops.take j) ((stepsS boundR c.ops i).take j) 0) i
      ⟨0, 0, by omega, by omega, inferInstance, inferInstance, inferInstance, inferInstance, inferInstance, inferInstance, by simp [stepK]⟩ ?_
    rintro d σ B ⟨j, s, rfl, hj, g6, g5, g4, g1, g3, hB, hs⟩
    refine TV_keep _ (p := hB) ?_
    repeat (refine StepC.go ?_)
    refine TV_cond ?_ ?_ <;> intro hc3
    · have hji : j < i := by simp at hc3; omega
      obtain ⟨a, ha⟩ : ∃ a, c.ops[j]? = some a := ⟨_, List.getElem?_eq_getElem (by omega)⟩
      obtain ⟨x, hx⟩ : ∃ x, (stepsS boundR c.ops i)[j]? = some x := ⟨_, List.getElem?_eq_getElem (by omega)⟩
      have hxb := stepsS_nn boundR c.ops i x (List.mem_of_getElem? hx)
      have hga := hw a (List.mem_of_getElem? ha)
      have nga : NthG (opRows c.ops) j (opCs a) := .map opCs ha
      have hAj : NthG (intRows (stepsS boundR c.ops i)) j [intT x] := .map (fun x => [intT x]) hx
      have hstep := stepK_take boundR o ha hx
      rw [← hs] at hstep
      iterate 3 refine StepC.go ?_
      refine TV_cut (fun σ B => ∃ s', TGet σ 6 (intT j) ∧ TGet σ 5 (intT s') ∧ TGet σ 4 (intT i) ∧ TGet σ 1 (.v (.pointer (some (ad p 0)))) ∧ TGet σ 3 (.v (gsv b i)) ∧ SubP B [(p, .cells (circCs c) 24 true), (b, .arr 1 (intRows (stepsS boundR c.ops i)) 3 false)] ∧ s' = if s ≤ x ∧ boundR a o = true then x + 1 else s) ?_ ?_
      · have h0 : -9223372036854775808 ≤ x + 1 ∧ x + 1 ≤ 9223372036854775807 := by omega
        repeat (first | refine StepC.go ?_ | refine TD_take rfl rfl ?_ | refine TD_load rfl rfl ?_ | refine TV_draw (id := 9) (plan := [.take 0, .take 1, .take 2, .take 3, .take 4, .take 5, .take 6, .take 7, .take 8, .take 9, .take 10, .take 11, .take 12, .take 13, .take 14, .take 15, .take 16, .one 17, .take 18]) (by kernel_rfl) ?_)
        refine TD_guard rfl rfl ?_ ?_ <;> intro hg
        · have hsx : s ≤ x := by simpa using hg
          repeat (first | (refine TS_on rfl ?_ ?_; · first | rfl | assumption) | refine TD_one rfl ?_ | refine FiltT_nil ?_ | refine FiltT_keep rfl ?_ | refine TD_take_on rfl rfl (by first | rfl | assumption) rfl ?_ | refine TD_load_on rfl rfl (by first | rfl | assumption) rfl ?_)
          refine TS_callE (boundRT hga.w hgo.w hga.bit hgo.bit (by have := hga.len; omega) (by have := hgo.len; omega)) ?_
          repeat (first | refine StepC.go ?_ | refine TD_take rfl rfl ?_)
          refine TV_cond ?_ ?_ <;> intro hb
          · have hbd : boundR a o = true := by simpa [hsx] using hb
            repeat (first | refine StepC.go ?_ | (refine TS_puw (Pu.addi ?_) ?_; · omega))
            exact ⟨x + 1, inferInstance, inferInstance, inferInstance, inferInstance, inferInstance, inferInstance, by rw [if_pos ⟨hsx, hbd⟩]⟩
          · have hbd : ¬ boundR a o = true := by simpa [hsx] using hb
            repeat (refine StepC.go ?_)
            exact ⟨s, inferInstance, inferInstance, inferInstance, inferInstance, inferInstance, inferInstance, by rw [if_neg fun h => hbd h.2]⟩
        · have hsx : ¬ s ≤ x := by simpa using hg
          repeat (first | refine StepC.go ?_ | (refine TS_off rfl ?_ ?_; · first | rfl | assumption) | refine TD_one rfl ?_ | refine FiltT_nil ?_ | refine FiltT_keep rfl ?_ | (refine TD_off rfl rfl ?_ ?_; · first | rfl | assumption) | (refine TD_takew rfl rfl (Pu.pick_f ?_) ?_; · first | rfl | assumption) | (refine TV_cond_f ?_ ?_; · first | rfl | assumption))
          exact ⟨s, inferInstance, inferInstance, inferInstance, inferInstance, inferInstance, inferInstance, by rw [if_neg fun h => hsx h.1]⟩
      · rintro σ B ⟨s', g6, g5, g4, g1, g3, hB, hs'⟩
        repeat (first | refine StepC.go ?_ | (refine TS_puw (Pu.addi ?_) ?_; · omega))
        refine ⟨_, ?_, j + 1, s', rfl, by omega, inferInstance, inferInstance, inferInstance, inferInstance, inferInstance, hB, by rw [hs', hstep]⟩
        omega
    · have hji : j = i := by simp at hc3; omega
      subst hji
      rw [List.take_of_length_le (Nat.le_of_eq hsl)] at hs
      have hgd : c.ops.getD j ⟨0, .empty, [], 0, false, 0, 0⟩ = o := by simp [List.getD, ho]
      have hSs : stepsS boundR c.ops (j + 1) = stepsS boundR c.ops j ++ [s] := by
        rw [stepsS, hgd, stepK_short, hsl, ← hs]
      repeat (first | refine StepC.go ?_ | intro _ | (refine TS_puw (Pu.addi ?_) ?_; · omega) | (refine TS_append ?_ (fun _ => ?_); · omega))
      rename_i b2
      refine ⟨_, ?_, j + 1, b2, rfl, by omega, inferInstance, inferInstance, inferInstance, ?_⟩
      · omega
      · rw [hSs, intRows_app]
        exact inferInstanceAs (SubP _ [(p, .cells (circCs c) 24 true), (b2, .arr 1 (intRows (stepsS boundR c.ops j) ++ [[intT s]]) 3 false)])
  · have hil : i = n := by simp at hc; omega
    subst hil
    have : Sm63 i := ⟨by omega⟩
    repeat (refine StepC.go ?_)
    refine retT_1 (.inr rfl) ?_
    simp only [tret, hn]
instance : CallIs Try.prog 41 := .of Try.func41 rfl rfl
end Go.Ideal
