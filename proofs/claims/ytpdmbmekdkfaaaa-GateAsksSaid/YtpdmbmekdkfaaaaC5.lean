/- Part 5 of what the proof stands on: an interpreter over an ideal memory that is proved sound, steps over it, and contracts of the functions that are called. No condition: no law is claimed here. -/
import Derived.Test.YtpdmbmekdkfaaaaC4
-- Twa
set_option linter.unusedSimpArgs false
set_option linter.unusedVariables false
namespace Go.Ideal
open Go Go.Proofs Go.RowKit
/-! ### The gate that takes it back, as the reference tells -/
theorem EvX_same {P : Program} {n f : Nat} {args : Array Value} {v : Value} {h : IHp} (hr : icall P n (.fn f) args h = some (v, h)) : EvX P f args h (fun w h' => w = v ∧ Ext h h') := by
  unfold EvX
  exact ⟨v, h, ⟨n, hr⟩, rfl, Ext.refl _⟩
theorem refInv_0 (h : IHp) : icall Try.prog 400 (.fn 17) [.string ⟨#[115]⟩].toArray h = some (.tuple [.string ⟨#[115, 100, 103]⟩, .int .i64 0].toArray, h) := by kernel_rfl
theorem refInv_1 (h : IHp) : icall Try.prog 400 (.fn 17) [.string ⟨#[116]⟩].toArray h = some (.tuple [.string ⟨#[116, 100, 103]⟩, .int .i64 0].toArray, h) := by kernel_rfl
theorem refInv_2 (h : IHp) : icall Try.prog 400 (.fn 17) [.string ⟨#[118]⟩].toArray h = some (.tuple [.string ⟨#[118, 100, 103]⟩, .int .i64 0].toArray, h) := by kernel_rfl
theorem refInv_3 (h : IHp) : icall Try.prog 400 (.fn 17) [.string ⟨#[119]⟩].toArray h = some (.tuple [.string ⟨#[119, 100, 103]⟩, .int .i64 0].toArray, h) := by kernel_rfl
theorem refInv_4 (h : IHp) : icall Try.prog 400 (.fn 17) [.string ⟨#[99, 115]⟩].toArray h = some (.tuple [.string ⟨#[99, 115, 100, 103]⟩, .int .i64 0].toArray, h) := by kernel_rfl
theorem refInv_5 (h : IHp) : icall Try.prog 400 (.fn 17) [.string ⟨#[105, 115, 119, 97, 112]⟩].toArray h = some (.tuple [.string ⟨#[105, 115, 119, 97, 112, 100, 103]⟩, .int .i64 0].toArray, h) := by kernel_rfl
theorem refInv_6 (h : IHp) : icall Try.prog 400 (.fn 17) [.string ⟨#[115, 100, 103]⟩].toArray h = some (.tuple [.string ⟨#[115]⟩, .int .i64 0].toArray, h) := by kernel_rfl
theorem refInv_7 (h : IHp) : icall Try.prog 400 (.fn 17) [.string ⟨#[116, 100, 103]⟩].toArray h = some (.tuple [.string ⟨#[116]⟩, .int .i64 0].toArray, h) := by kernel_rfl
theorem refInv_8 (h : IHp) : icall Try.prog 400 (.fn 17) [.string ⟨#[118, 100, 103]⟩].toArray h = some (.tuple [.string ⟨#[118]⟩, .int .i64 0].toArray, h) := by kernel_rfl
theorem refInv_9 (h : IHp) : icall Try.prog 400 (.fn 17) [.string ⟨#[119, 100, 103]⟩].toArray h = some (.tuple [.string ⟨#[119]⟩, .int .i64 0].toArray, h) := by kernel_rfl
theorem refInv_10 (h : IHp) : icall Try.prog 400 (.fn 17) [.string ⟨#[99, 115, 100, 103]⟩].toArray h = some (.tuple [.string ⟨#[99, 115]⟩, .int .i64 0].toArray, h) := by kernel_rfl
theorem refInv_11 (h : IHp) : icall Try.prog 400 (.fn 17) [.string ⟨#[105, 115, 119, 97, 112, 100, 103]⟩].toArray h = some (.tuple [.string ⟨#[105, 115, 119, 97, 112]⟩, .int .i64 0].toArray, h) := by kernel_rfl
set_option maxHeartbeats 2000000 in
theorem refInverse_spec (b : ByteArray) (h : IHp) : EvX Try.prog 17 [.string b].toArray h (fun v h' => v = .tuple [.string (backS b).1, .int .i64 (backS b).2].toArray ∧ Ext h h') := by
  by_cases c0 : beqS b ⟨#[115]⟩ = true
  · have hx := beqS_iff.1 c0; subst hx; exact EvX_same (refInv_0 h)
  have f0 : beqS b ⟨#[115]⟩ = false := by simpa using c0
  clear c0
  by_cases c1 : beqS b ⟨#[116]⟩ = true
  · have hx := beqS_iff.1 c1; subst hx; exact EvX_same (refInv_1 h)
  have f1 : beqS b ⟨#[116]⟩ = false := by simpa using c1
  clear c1
  by_cases c2 : beqS b ⟨#[118]⟩ = true
  · have hx := beqS_iff.1 c2; subst hx; exact EvX_same (refInv_2 h)
  have f2 : beqS b ⟨#[118]⟩ = false := by simpa using c2
  clear c2
  by_cases c3 : beqS b ⟨#[119]⟩ = true
  · have hx := beqS_iff.1 c3; subst hx; exact EvX_same (refInv_3 h)
  have f3 : beqS b ⟨#[119]⟩ = false := by simpa using c3
  clear c3
  by_cases c4 : beqS b ⟨#[99, 115]⟩ = true
  · have hx := beqS_iff.1 c4; subst hx; exact EvX_same (refInv_4 h)
  have f4 : beqS b ⟨#[99, 115]⟩ = false := by simpa using c4
  clear c4
  by_cases c5 : beqS b ⟨#[105, 115, 119, 97, 112]⟩ = true
  · have hx := beqS_iff.1 c5; subst hx; exact EvX_same (refInv_5 h)
  have f5 : beqS b ⟨#[105, 115, 119, 97, 112]⟩ = false := by simpa using c5
  clear c5
  by_cases c6 : beqS b ⟨#[115, 100, 103]⟩ = true
  · have hx := beqS_iff.1 c6; subst hx; exact EvX_same (refInv_6 h)
  have f6 : beqS b ⟨#[115, 100, 103]⟩ = false := by simpa using c6
  clear c6
  by_cases c7 : beqS b ⟨#[116, 100, 103]⟩ = true
  · have hx := beqS_iff.1 c7; subst hx; exact EvX_same (refInv_7 h)
  have f7 : beqS b ⟨#[116, 100, 103]⟩ = false := by simpa using c7
  clear c7
  by_cases c8 : beqS b ⟨#[118, 100, 103]⟩ = true
  · have hx := beqS_iff.1 c8; subst hx; exact EvX_same (refInv_8 h)
  have f8 : beqS b ⟨#[118, 100, 103]⟩ = false := by simpa using c8
  clear c8
  by_cases c9 : beqS b ⟨#[119, 100, 103]⟩ = true
  · have hx := beqS_iff.1 c9; subst hx; exact EvX_same (refInv_9 h)
  have f9 : beqS b ⟨#[119, 100, 103]⟩ = false := by simpa using c9
  clear c9
  by_cases c10 : beqS b ⟨#[99, 115, 100, 103]⟩ = true
  · have hx := beqS_iff.1 c10; subst hx; exact EvX_same (refInv_10 h)
  have f10 : beqS b ⟨#[99, 115, 100, 103]⟩ = false := by simpa using c10
  clear c10
  by_cases c11 : beqS b ⟨#[105, 115, 119, 97, 112, 100, 103]⟩ = true
  · have hx := beqS_iff.1 c11; subst hx; exact EvX_same (refInv_11 h)
  have f11 : beqS b ⟨#[105, 115, 119, 97, 112, 100, 103]⟩ = false := by simpa using c11
  clear c11
  refine EvX_of Try.func17 rfl (by show 1 ≤ 30; decide) ?_
  repeat' (first | refine V_seq ?_ | refine V_region ?_ | refine WS_nil ?_ | refine S_normal ?_ | refine V_block ?_ | refine B_normal ?_ | refine V_skip ?_ | refine WS_move ?_ | refine WS_assign ?_ | refine WS_streq ?_ | refine V_cond_f (by first | rfl | assumption) ?_)
  refine WS_call (refArity_spec b _) ?_
  rintro _ _ ⟨rfl, rfl⟩
  repeat' (first | refine V_seq ?_ | refine V_region ?_ | refine WS_nil ?_ | refine S_normal ?_ | refine V_skip ?_ | refine V_ret ?_ | refine S_ret ?_ | refine WS_move ?_ | refine WS_assign ?_ | refine WS_cmp rfl ?_ | (refine V_cond ?_ ?_ <;> intro hc <;> try (cases hc; done)))
  all_goals refine retK_2 ⟨?_, Ext.refl _⟩ (.inr rfl)
  all_goals
    unfold backS
    unfold arityS at hc
    cases hk : kOf b with
    | none => simp_all
    | some e =>
      obtain ⟨hm, rfl⟩ := kOf_mem hk
      have hall : (KT.all fun e => decide (0 < e.arity) && (beqS e.back e.name || beqS e.name ⟨#[115]⟩ || beqS e.name ⟨#[116]⟩ || beqS e.name ⟨#[118]⟩ || beqS e.name ⟨#[119]⟩ || beqS e.name ⟨#[99, 115]⟩ || beqS e.name ⟨#[105, 115, 119, 97, 112]⟩ || beqS e.name ⟨#[115, 100, 103]⟩ || beqS e.name ⟨#[116, 100, 103]⟩ || beqS e.name ⟨#[118, 100, 103]⟩ || beqS e.name ⟨#[119, 100, 103]⟩ || beqS e.name ⟨#[99, 115, 100, 103]⟩ || beqS e.name ⟨#[105, 115, 119, 97, 112, 100, 103]⟩)) = true := by decide +kernel
      rw [List.all_eq_true] at hall
      have := hall e hm
      simp only [f0, f1, f2, f3, f4, f5, f6, f7, f8, f9, f10, f11, Bool.or_false, Bool.and_eq_true, decide_eq_true_eq] at this
      have h2 := beqS_iff.1 this.2
      rw [hk] at hc
      simp_all
instance : CallIs Try.prog 17 := .of Try.func17 rfl rfl
end Go.Ideal

-- Ja
set_option linter.unusedSimpArgs false
set_option linter.unusedVariables false
namespace Go.Ideal
open Go Go.Proofs Go.RowKit
/-! ### What tells the columns -/
inductive ColD where
  | flip (bits : Int) (turns : List Int)
  | last (n turn : Int)
  | mixed (own other ownLast : Int)
  | swapped (a b turn : Int)
  | turnedY
  | controlled
def colT : ColD → Tr
  | .flip b ts => .fn 58 [] [.pf [intT b], .pf [.sl 1 (intRows ts)]]
  | .last n t => .fn 59 [] [.pf [intT n], .pf [intT t]]
  | .mixed a b c => .fn 60 [] [.pf [intT a], .pf [intT b], .pf [intT c]]
  | .swapped a b t => .fn 61 [] [.pf [intT a], .pf [intT b], .pf [intT t]]
  | .turnedY => .fn 45 [] []
  | .controlled => .fn 46 [] []
theorem flipT (b : Int) (ts : List Int) : Fn Try.prog 41 [intT b, .sl 1 (intRows ts)] (fun r => r = colT (.flip b ts)) := by
  refine Fn_of Try.func41 rfl (Nat.le_of_ble_eq_true rfl) (fun X => ?_)
  repeat (first | refine StepC.go ?_ | intro _)
  exact retT_1 (.inr rfl) rfl
theorem lastT (a b : Int) : Fn Try.prog 42 [intT a, intT b] (fun r => r = colT (.last a b)) := by
  refine Fn_of Try.func42 rfl (Nat.le_of_ble_eq_true rfl) (fun X => ?_)
  repeat (first | refine StepC.go ?_ | intro _)
  exact retT_1 (.inr rfl) rfl
theorem mixedT (a b c : Int) : Fn Try.prog 43 [intT a, intT b, intT c] (fun r => r = colT (.mixed a b c)) := by
  refine Fn_of Try.func43 rfl (Nat.le_of_ble_eq_true rfl) (fun X => ?_)
  repeat (first | refine StepC.go ?_ | intro _)
  exact retT_1 (.inr rfl) rfl
theorem swappedT (a b c : Int) : Fn Try.prog 44 [intT a, intT b, intT c] (fun r => r = colT (.swapped a b c)) := by
  refine Fn_of Try.func44 rfl (Nat.le_of_ble_eq_true rfl) (fun X => ?_)
  repeat (first | refine StepC.go ?_ | intro _)
  exact retT_1 (.inr rfl) rfl
/-- memory that is new since h0 -/
def newMem (h0 H : IHp) : Mem := fun b off => if h0.fresh ≤ b then H.cell? b off else none
theorem newMem_ext {h0 H H' : IHp} (e : Ext H H') : Sub (newMem h0 H) (newMem h0 H') := fun b off v h => by
  unfold newMem at *
  split at h
  · rename_i hb; rw [if_pos hb]; exact cell_ext e h
  · cases h
theorem newMem_sub {h0 H : IHp} : Sub (newMem h0 H) H.cell? := fun b off v h => by
  unfold newMem at h
  split at h
  · exact h
  · cases h
/-- a closure that is made, at level 2 -/
theorem made_ev {f : FuncId} {ts : List Tr} {t : Tr} {vs : List Value} {h0 H : IHp} (x : Fn Try.prog f ts (fun r => r = t)) (hf : h0.fresh ≤ H.fresh) (hv : RepL (newMem h0 H) ts vs) : EvX Try.prog f vs.toArray H (fun v H' => Ext H H' ∧ Rep (newMem h0 H') t v) := by
  unfold Fn at x
  refine (x (newMem h0 H) H vs newMem_sub hv).mono fun v H' ⟨e, F, r, a1, a2, a3, a4, a5⟩ => ⟨e, ?_⟩
  rw [a5] at a4
  refine Rep.sub (fun b off v h => ?_) a4
  have h1 := a2 _ _ _ h
  unfold newMem
  rcases a3 b off v h with h2 | h2
  · unfold newMem at h2
    split at h2
    · rename_i hb; rw [if_pos hb]; exact h1
    · cases h2
  · rw [if_pos (by omega)]; exact h1
theorem slice_new {h0 H : IHp} {e : Nat} (hf : h0.fresh ≤ H.fresh) (ts : List Int) (hl : ts.length < 2 ^ 63) : Rep (newMem h0 (H.push (.cells (ints ts) e true))) (.sl 1 (intRows ts)) (.slice (some (ad H.fresh 0)) ts.length ts.length) := by
  simp only [Rep]
  refine ⟨_, _, _, rfl, by simp [intRows], Nat.le_refl _, hl, fun d hd => by cases hd; exact .inl rfl, ?_⟩
  have o : ObjIs (H.push (.cells (ints ts) e true)) H.fresh (ints ts) e true := inferInstance
  have hc : ∀ (off : Nat) v, (ints ts)[off]? = some v → newMem h0 (H.push (.cells (ints ts) e true)) H.fresh off = some v := fun off v hv => by
    unfold newMem
    rw [if_pos hf, o.cell]; exact hv
  have key : ∀ (xs : List Int) (off : Nat), (∀ (i : Nat) v, (ints xs)[i]? = some v → newMem h0 (H.push (.cells (ints ts) e true)) H.fresh (off + i) = some v) → RepR (newMem h0 (H.push (.cells (ints ts) e true))) H.fresh 1 (intRows xs) off := by
    intro xs
    induction xs with
    | nil => intro off _; simp [intRows, RepR]
    | cons x xs ih =>
      intro off h
      simp only [intRows, List.map_cons, RepR]
      refine ⟨⟨[.int .i64 x], ?_, RepL.cons (rep_v _) RepL.nil⟩, ?_⟩
      · have := h 0 (.int .i64 x) rfl
        simp only [Nat.add_zero] at this
        simp only [rowM, this, Option.bind_some]
      · refine ih (off + 1) fun i v hv => ?_
        have := h (i + 1) v (by simpa [ints] using hv)
        rw [show off + 1 + i = off + (i + 1) by omega]; exact this
  exact key ts 0 (fun i v hv => by rw [Nat.zero_add]; exact hc i v hv)
end Go.Ideal

-- Jb
set_option linter.unusedSimpArgs false
set_option linter.unusedVariables false
namespace Go.Ideal
open Go Go.Proofs Go.RowKit
/-! ### The gates with what tells their columns -/
def KC : List ColD := [
  .flip 0 [0],
  .flip 1 [0],
  .flip 1 [2, 6],
  .last 1 4,
  .mixed 0 0 4,
  .last 1 2,
  .last 1 6,
  .last 1 1,
  .last 1 7,
  .mixed 1 7 1,
  .mixed 7 1 7,
  .flip 0 [1],
  .flip 0 [7],
  .swapped 1 3 0,
  .turnedY,
  .last 3 4,
  .controlled,
  .last 3 2,
  .last 3 6,
  .swapped 1 2 0,
  .swapped 1 2 2,
  .swapped 1 2 6,
  .swapped 3 7 0,
  .last 7 4,
  .swapped 3 5 0]
structure KInv2 (h0 H : IHp) (m n : Nat) (cs : List Value) : Prop where
  ext : Ext h0 H
  lo : h0.fresh ≤ m
  map : MapIs H m (rowsOf (KT.take n) cs)
  len : cs.length = n
  fns : ∀ (i : Nat) c, cs[i]? = some c → ∃ q, KC[i]? = some q ∧ Rep (newMem h0 H) (colT q) c
theorem KInv2.grow {h0 H H' : IHp} {m n : Nat} {cs : List Value} (k : KInv2 h0 H m n cs) (e : Ext H H') : KInv2 h0 H' m n cs := ⟨k.ext.trans e, k.lo, k.map.ext e, k.len, fun i c hc => let ⟨q, a, b⟩ := k.fns i c hc; ⟨q, a, Rep.sub (newMem_ext e) b⟩⟩
theorem KInv2.add {h0 H H' : IHp} {m n : Nat} {cs : List Value} {c : Value} {e : KE} {q : ColD} {b : ByteArray} {v : Value} (k : KInv2 h0 H m n cs) (he : KT[n]? = some e) (hq : KC[n]? = some q) (hb : (b, v) = krow e c) (hc : Rep (newMem h0 H) (colT q) c)
    (hH : H' = H.putObj m (.map (ents (rowsOf (KT.take n) cs ++ [(b, v)]) 0) (rowsOf (KT.take n) cs ++ [(b, v)]).length)) : KInv2 h0 H' m (n + 1) (cs ++ [c]) := by
  have hn : n < KT.length := (List.getElem?_eq_some_iff.1 he).1
  have hr : rowsOf (KT.take (n + 1)) (cs ++ [c]) = rowsOf (KT.take n) cs ++ [(b, v)] := by
    rw [List.take_add_one, he, rowsOf, rowsOf, hb]
    simp only [Option.toList_some]
    rw [List.zipWith_append (by rw [List.length_take, k.len]; omega)]
    rfl
  have hs : Sub (newMem h0 H) (newMem h0 H') := fun b off u h => by
    unfold newMem at *
    split at h
    · rename_i hb2
      rw [if_pos hb2, hH]
      have hm := k.map
      unfold IHp.cell? at h ⊢
      split
      · rename_i ho; rw [if_pos ho] at h; exact h
      · rename_i ho
        rw [if_neg ho] at h
        simp only [IHp.putObj]
        by_cases e2 : b / 2 = m / 2
        · rw [e2, hm.eq] at h; cases h
        · rw [List.getElem?_set_ne (fun x => e2 x.symm)]; exact h
    · cases h
  refine ⟨by rw [hH]; exact k.ext.putObj k.lo, k.lo, ?_, by simp [k.len], fun i c' hc' => ?_⟩
  · rw [hr, hH]
    refine ⟨k.map.even, ?_⟩
    have := (List.getElem?_eq_some_iff.1 k.map.eq).1
    simp [IHp.putObj, this]
  · rw [List.getElem?_append] at hc'
    split at hc'
    · obtain ⟨q', a, r⟩ := k.fns i c' hc'
      exact ⟨q', a, Rep.sub hs r⟩
    · rename_i hi
      have hi2 : i = n := by
        have := (List.getElem?_eq_some_iff.1 hc').1
        simp at this
        have := k.len
        omega
      subst hi2
      rw [k.len, Nat.sub_self] at hc'
      cases hc'
      exact ⟨q, hq, Rep.sub hs hc⟩
theorem KInv2.fresh {h0 H : IHp} {m n : Nat} {cs : List Value} (k : KInv2 h0 H m n cs) : h0.fresh ≤ H.fresh := k.ext.fresh
theorem col_fn {F : Mem} {q : ColD} {c : Value} (h : Rep F (colT q) c) : ∃ f a b, c = .func (.func f) a b := by
  cases q <;> (simp only [colT, Rep] at h; obtain ⟨va, vb, h, _⟩ := h; exact ⟨_, _, _, h⟩)
set_option maxHeartbeats 4000000 in
theorem kinds_spec2 (h : IHp) : EvX Try.prog 30 [].toArray h (fun v h' => Ext h h' ∧ ∃ m cs, v = .map (some m) ∧ h.fresh ≤ m ∧ MapIs h' m (rowsOf KT cs) ∧ cs.length = 25 ∧ ∀ (i : Nat) c, cs[i]? = some c → ∃ q, KC[i]? = some q ∧ Rep (newMem h h') (colT q) c) := by
  refine EvX_of Try.func30 rfl (by show 0 ≤ 56; decide) ?_
  repeat (first | refine V_seq ?_ | refine V_region ?_ | refine WS_nil ?_ | refine S_normal ?_ | refine WS_assign ?_)
  refine WS_makeMap ?_
  refine WS_gen ?_
  intro H0 hH0
  have k0 : KInv2 h H0 h.fresh 0 [] := ⟨hH0 ▸ Ext.push _ _, Nat.le_refl _, ⟨by unfold IHp.fresh; omega, by rw [hH0]; exact obj_push h _⟩, rfl, fun i c hc => by simp at hc⟩
  obtain ⟨m, hm⟩ : ∃ m, m = h.fresh := ⟨_, rfl⟩
  rw [← hm] at k0 ⊢
  clear hH0
  repeat (refine WS_buildSlice (by decide) rfl rfl (by simp [Value.cells]) ?_)
  refine WS_gen ?_
  intro G hG
  have sl : Rep (newMem h G) (.sl 1 (intRows [0])) (.slice (some (ad H0.fresh 0)) 1 1) := hG ▸ slice_new k0.fresh [0] (by decide)
  have k0 := k0.grow (H' := G) (hG ▸ Ext.push _ _)
  clear hG
  refine WS_call (made_ev (flipT 0 [0]) k0.fresh (RepL.cons (rep_v _) (RepL.cons sl RepL.nil))) ?_
  rintro c G ⟨eG, rc⟩
  have k0 := k0.grow eG
  obtain ⟨f, a, b, rfl⟩ := col_fn rc
  repeat (refine WS_build ?_)
  refine WS_insert (mi := k0.map) (look_none _ _ (by decide +kernel)) ?_
  refine WS_gen ?_
  intro H1 hH
  have k1 := k0.add (e := ⟨(⟨#[105]⟩ : ByteArray), 1, 0, true, true, (⟨#[105]⟩ : ByteArray)⟩) rfl rfl rfl rc hH
  refine WS_live1 1 ?_
  intro s g1
  clear hH
  repeat (refine WS_buildSlice (by decide) rfl rfl (by simp [Value.cells]) ?_)
  refine WS_gen ?_
  intro G hG
  have sl : Rep (newMem h G) (.sl 1 (intRows [0])) (.slice (some (ad H1.fresh 0)) 1 1) := hG ▸ slice_new k1.fresh [0] (by decide)
  have k1 := k1.grow (H' := G) (hG ▸ Ext.push _ _)
  clear hG
  refine WS_call (made_ev (flipT 1 [0]) k1.fresh (RepL.cons (rep_v _) (RepL.cons sl RepL.nil))) ?_
  rintro c G ⟨eG, rc⟩
  have k1 := k1.grow eG
  obtain ⟨f, a, b, rfl⟩ := col_fn rc
  repeat (refine WS_build ?_)
  refine WS_insert (mi := k1.map) (look_none _ _ (by decide +kernel)) ?_
  refine WS_gen ?_
  intro H2 hH
  have k2 := k1.add (e := ⟨(⟨#[120]⟩ : ByteArray), 1, 0, true, false, (⟨#[120]⟩ : ByteArray)⟩) rfl rfl rfl rc hH
  refine WS_live1 1 ?_
  intro s g1
  clear hH
  repeat (refine WS_buildSlice (by decide) rfl rfl (by simp [Value.cells]) ?_)
  refine WS_gen ?_
  intro G hG
  have sl : Rep (newMem h G) (.sl 1 (intRows [2, 6])) (.slice (some (ad H2.fresh 0)) 2 2) := hG ▸ slice_new k2.fresh [2, 6] (by decide)
  have k2 := k2.grow (H' := G) (hG ▸ Ext.push _ _)
  clear hG
  refine WS_call (made_ev (flipT 1 [2, 6]) k2.fresh (RepL.cons (rep_v _) (RepL.cons sl RepL.nil))) ?_
  rintro c G ⟨eG, rc⟩
  have k2 := k2.grow eG
  obtain ⟨f, a, b, rfl⟩ := col_fn rc
  repeat (refine WS_build ?_)
  refine WS_insert (mi := k2.map) (look_none _ _ (by decide +kernel)) ?_
  refine WS_gen ?_
  intro H3 hH
  have k3 := k2.add (e := ⟨(⟨#[121]⟩ : ByteArray), 1, 0, true, false, (⟨#[121]⟩ : ByteArray)⟩) rfl rfl rfl rc hH
  refine WS_live1 1 ?_
  intro s g1
  clear hH
  skip
  refine WS_call (made_ev (lastT 1 4) k3.fresh (RepL.cons (rep_v _) (RepL.cons (rep_v _) RepL.nil))) ?_
  rintro c G ⟨eG, rc⟩
  have k3 := k3.grow eG
  obtain ⟨f, a, b, rfl⟩ := col_fn rc
  repeat (refine WS_build ?_)
  refine WS_insert (mi := k3.map) (look_none _ _ (by decide +kernel)) ?_
  refine WS_gen ?_
  intro H4 hH
  have k4 := k3.add (e := ⟨(⟨#[122]⟩ : ByteArray), 1, 0, true, true, (⟨#[122]⟩ : ByteArray)⟩) rfl rfl rfl rc hH
  refine WS_live1 1 ?_
  intro s g1
  clear hH
  skip
  refine WS_call (made_ev (mixedT 0 0 4) k4.fresh (RepL.cons (rep_v _) (RepL.cons (rep_v _) (RepL.cons (rep_v _) RepL.nil)))) ?_
  rintro c G ⟨eG, rc⟩
  have k4 := k4.grow eG
  obtain ⟨f, a, b, rfl⟩ := col_fn rc
  repeat (refine WS_build ?_)
  refine WS_insert (mi := k4.map) (look_none _ _ (by decide +kernel)) ?_
  refine WS_gen ?_
  intro H5 hH
  have k5 := k4.add (e := ⟨(⟨#[104]⟩ : ByteArray), 1, 1, true, false, (⟨#[104]⟩ : ByteArray)⟩) rfl rfl rfl rc hH
  refine WS_live1 1 ?_
  intro s g1
  clear hH
  skip
  refine WS_call (made_ev (lastT 1 2) k5.fresh (RepL.cons (rep_v _) (RepL.cons (rep_v _) RepL.nil))) ?_
  rintro c G ⟨eG, rc⟩
  have k5 := k5.grow eG
  obtain ⟨f, a, b, rfl⟩ := col_fn rc
  repeat (refine WS_build ?_)
  refine WS_insert (mi := k5.map) (look_none _ _ (by decide +kernel)) ?_
  refine WS_gen ?_
  intro H6 hH
  have k6 := k5.add (e := ⟨(⟨#[115]⟩ : ByteArray), 1, 0, true, true, (⟨#[115, 100, 103]⟩ : ByteArray)⟩) rfl rfl rfl rc hH
  refine WS_live1 1 ?_
  intro s g1
  clear hH
  skip
  refine WS_call (made_ev (lastT 1 6) k6.fresh (RepL.cons (rep_v _) (RepL.cons (rep_v _) RepL.nil))) ?_
  rintro c G ⟨eG, rc⟩
  have k6 := k6.grow eG
  obtain ⟨f, a, b, rfl⟩ := col_fn rc
  repeat (refine WS_build ?_)
  refine WS_insert (mi := k6.map) (look_none _ _ (by decide +kernel)) ?_
  refine WS_gen ?_
  intro H7 hH
  have k7 := k6.add (e := ⟨(⟨#[115, 100, 103]⟩ : ByteArray), 1, 0, true, true, (⟨#[115]⟩ : ByteArray)⟩) rfl rfl rfl rc hH
  refine WS_live1 1 ?_
  intro s g1
  clear hH
  skip
  refine WS_call (made_ev (lastT 1 1) k7.fresh (RepL.cons (rep_v _) (RepL.cons (rep_v _) RepL.nil))) ?_
  rintro c G ⟨eG, rc⟩
  have k7 := k7.grow eG
  obtain ⟨f, a, b, rfl⟩ := col_fn rc
  repeat (refine WS_build ?_)
  refine WS_insert (mi := k7.map) (look_none _ _ (by decide +kernel)) ?_
  refine WS_gen ?_
  intro H8 hH
  have k8 := k7.add (e := ⟨(⟨#[116]⟩ : ByteArray), 1, 0, false, true, (⟨#[116, 100, 103]⟩ : ByteArray)⟩) rfl rfl rfl rc hH
  refine WS_live1 1 ?_
  intro s g1
  clear hH
  skip
  refine WS_call (made_ev (lastT 1 7) k8.fresh (RepL.cons (rep_v _) (RepL.cons (rep_v _) RepL.nil))) ?_
  rintro c G ⟨eG, rc⟩
  have k8 := k8.grow eG
  obtain ⟨f, a, b, rfl⟩ := col_fn rc
  repeat (refine WS_build ?_)
  refine WS_insert (mi := k8.map) (look_none _ _ (by decide +kernel)) ?_
  refine WS_gen ?_
  intro H9 hH
  have k9 := k8.add (e := ⟨(⟨#[116, 100, 103]⟩ : ByteArray), 1, 0, false, true, (⟨#[116]⟩ : ByteArray)⟩) rfl rfl rfl rc hH
  refine WS_live1 1 ?_
  intro s g1
  clear hH
  skip
  refine WS_call (made_ev (mixedT 1 7 1) k9.fresh (RepL.cons (rep_v _) (RepL.cons (rep_v _) (RepL.cons (rep_v _) RepL.nil)))) ?_
  rintro c G ⟨eG, rc⟩
  have k9 := k9.grow eG
  obtain ⟨f, a, b, rfl⟩ := col_fn rc
  repeat (refine WS_build ?_)
  refine WS_insert (mi := k9.map) (look_none _ _ (by decide +kernel)) ?_
  refine WS_gen ?_
  intro H10 hH
  have k10 := k9.add (e := ⟨(⟨#[118]⟩ : ByteArray), 1, 1, true, false, (⟨#[118, 100, 103]⟩ : ByteArray)⟩) rfl rfl rfl rc hH
  refine WS_live1 1 ?_
  intro s g1
  clear hH
  skip
  refine WS_call (made_ev (mixedT 7 1 7) k10.fresh (RepL.cons (rep_v _) (RepL.cons (rep_v _) (RepL.cons (rep_v _) RepL.nil)))) ?_
  rintro c G ⟨eG, rc⟩
  have k10 := k10.grow eG
  obtain ⟨f, a, b, rfl⟩ := col_fn rc
  repeat (refine WS_build ?_)
  refine WS_insert (mi := k10.map) (look_none _ _ (by decide +kernel)) ?_
  refine WS_gen ?_
  intro H11 hH
  have k11 := k10.add (e := ⟨(⟨#[118, 100, 103]⟩ : ByteArray), 1, 1, true, false, (⟨#[118]⟩ : ByteArray)⟩) rfl rfl rfl rc hH
  refine WS_live1 1 ?_
  intro s g1
  clear hH
  repeat (refine WS_buildSlice (by decide) rfl rfl (by simp [Value.cells]) ?_)
  refine WS_gen ?_
  intro G hG
  have sl : Rep (newMem h G) (.sl 1 (intRows [1])) (.slice (some (ad H11.fresh 0)) 1 1) := hG ▸ slice_new k11.fresh [1] (by decide)
  have k11 := k11.grow (H' := G) (hG ▸ Ext.push _ _)
  clear hG
  refine WS_call (made_ev (flipT 0 [1]) k11.fresh (RepL.cons (rep_v _) (RepL.cons sl RepL.nil))) ?_
  rintro c G ⟨eG, rc⟩
  have k11 := k11.grow eG
  obtain ⟨f, a, b, rfl⟩ := col_fn rc
  repeat (refine WS_build ?_)
  refine WS_insert (mi := k11.map) (look_none _ _ (by decide +kernel)) ?_
  refine WS_gen ?_
  intro H12 hH
  have k12 := k11.add (e := ⟨(⟨#[119]⟩ : ByteArray), 1, 0, true, true, (⟨#[119, 100, 103]⟩ : ByteArray)⟩) rfl rfl rfl rc hH
  refine WS_live1 1 ?_
  intro s g1
  clear hH
  repeat (refine WS_buildSlice (by decide) rfl rfl (by simp [Value.cells]) ?_)
  refine WS_gen ?_
  intro G hG
  have sl : Rep (newMem h G) (.sl 1 (intRows [7])) (.slice (some (ad H12.fresh 0)) 1 1) := hG ▸ slice_new k12.fresh [7] (by decide)
  have k12 := k12.grow (H' := G) (hG ▸ Ext.push _ _)
  clear hG
  refine WS_call (made_ev (flipT 0 [7]) k12.fresh (RepL.cons (rep_v _) (RepL.cons sl RepL.nil))) ?_
  rintro c G ⟨eG, rc⟩
  have k12 := k12.grow eG
  obtain ⟨f, a, b, rfl⟩ := col_fn rc
  repeat (refine WS_build ?_)
  refine WS_insert (mi := k12.map) (look_none _ _ (by decide +kernel)) ?_
  refine WS_gen ?_
  intro H13 hH
  have k13 := k12.add (e := ⟨(⟨#[119, 100, 103]⟩ : ByteArray), 1, 0, true, true, (⟨#[119]⟩ : ByteArray)⟩) rfl rfl rfl rc hH
  refine WS_live1 1 ?_
  intro s g1
  clear hH
  skip
  refine WS_call (made_ev (swappedT 1 3 0) k13.fresh (RepL.cons (rep_v _) (RepL.cons (rep_v _) (RepL.cons (rep_v _) RepL.nil)))) ?_
  rintro c G ⟨eG, rc⟩
  have k13 := k13.grow eG
  obtain ⟨f, a, b, rfl⟩ := col_fn rc
  repeat (refine WS_build ?_)
  refine WS_insert (mi := k13.map) (look_none _ _ (by decide +kernel)) ?_
  refine WS_gen ?_
  intro H14 hH
  have k14 := k13.add (e := ⟨(⟨#[99, 120]⟩ : ByteArray), 2, 0, true, false, (⟨#[99, 120]⟩ : ByteArray)⟩) rfl rfl rfl rc hH
  refine WS_live1 1 ?_
  intro s g1
  clear hH
  repeat (refine WS_build ?_)
  have rc : Rep (newMem h H14) (colT .turnedY) (.func (.func 45) #[] #[]) := by
    simp only [colT, Rep]
    exact ⟨[], [], rfl, RepL.nil, RepL.nil⟩
  refine WS_insert (mi := k14.map) (look_none _ _ (by decide +kernel)) ?_
  refine WS_gen ?_
  intro H15 hH
  have k15 := k14.add (e := ⟨(⟨#[99, 121]⟩ : ByteArray), 2, 0, true, false, (⟨#[99, 121]⟩ : ByteArray)⟩) rfl rfl rfl rc hH
  refine WS_live1 1 ?_
  intro s g1
  clear hH
  skip
  refine WS_call (made_ev (lastT 3 4) k15.fresh (RepL.cons (rep_v _) (RepL.cons (rep_v _) RepL.nil))) ?_
  rintro c G ⟨eG, rc⟩
  have k15 := k15.grow eG
  obtain ⟨f, a, b, rfl⟩ := col_fn rc
  repeat (refine WS_build ?_)
  refine WS_insert (mi := k15.map) (look_none _ _ (by decide +kernel)) ?_
  refine WS_gen ?_
  intro H16 hH
  have k16 := k15.add (e := ⟨(⟨#[99, 122]⟩ : ByteArray), 2, 0, true, true, (⟨#[99, 122]⟩ : ByteArray)⟩) rfl rfl rfl rc hH
  refine WS_live1 1 ?_
  intro s g1
  clear hH
  repeat (refine WS_build ?_)
  have rc : Rep (newMem h H16) (colT .controlled) (.func (.func 46) #[] #[]) := by
    simp only [colT, Rep]
    exact ⟨[], [], rfl, RepL.nil, RepL.nil⟩
  refine WS_insert (mi := k16.map) (look_none _ _ (by decide +kernel)) ?_
  refine WS_gen ?_
  intro H17 hH
  have k17 := k16.add (e := ⟨(⟨#[99, 104]⟩ : ByteArray), 2, 1, false, false, (⟨#[99, 104]⟩ : ByteArray)⟩) rfl rfl rfl rc hH
  refine WS_live1 1 ?_
  intro s g1
  clear hH
  skip
  refine WS_call (made_ev (lastT 3 2) k17.fresh (RepL.cons (rep_v _) (RepL.cons (rep_v _) RepL.nil))) ?_
  rintro c G ⟨eG, rc⟩
  have k17 := k17.grow eG
  obtain ⟨f, a, b, rfl⟩ := col_fn rc
  repeat (refine WS_build ?_)
  refine WS_insert (mi := k17.map) (look_none _ _ (by decide +kernel)) ?_
  refine WS_gen ?_
  intro H18 hH
  have k18 := k17.add (e := ⟨(⟨#[99, 115]⟩ : ByteArray), 2, 0, false, true, (⟨#[99, 115, 100, 103]⟩ : ByteArray)⟩) rfl rfl rfl rc hH
  refine WS_live1 1 ?_
  intro s g1
  clear hH
  skip
  refine WS_call (made_ev (lastT 3 6) k18.fresh (RepL.cons (rep_v _) (RepL.cons (rep_v _) RepL.nil))) ?_
  rintro c G ⟨eG, rc⟩
  have k18 := k18.grow eG
  obtain ⟨f, a, b, rfl⟩ := col_fn rc
  repeat (refine WS_build ?_)
  refine WS_insert (mi := k18.map) (look_none _ _ (by decide +kernel)) ?_
  refine WS_gen ?_
  intro H19 hH
  have k19 := k18.add (e := ⟨(⟨#[99, 115, 100, 103]⟩ : ByteArray), 2, 0, false, true, (⟨#[99, 115]⟩ : ByteArray)⟩) rfl rfl rfl rc hH
  refine WS_live1 1 ?_
  intro s g1
  clear hH
  skip
  refine WS_call (made_ev (swappedT 1 2 0) k19.fresh (RepL.cons (rep_v _) (RepL.cons (rep_v _) (RepL.cons (rep_v _) RepL.nil)))) ?_
  rintro c G ⟨eG, rc⟩
  have k19 := k19.grow eG
  obtain ⟨f, a, b, rfl⟩ := col_fn rc
  repeat (refine WS_build ?_)
  refine WS_insert (mi := k19.map) (look_none _ _ (by decide +kernel)) ?_
  refine WS_gen ?_
  intro H20 hH
  have k20 := k19.add (e := ⟨(⟨#[115, 119, 97, 112]⟩ : ByteArray), 2, 0, true, false, (⟨#[115, 119, 97, 112]⟩ : ByteArray)⟩) rfl rfl rfl rc hH
  refine WS_live1 1 ?_
  intro s g1
  clear hH
  skip
  refine WS_call (made_ev (swappedT 1 2 2) k20.fresh (RepL.cons (rep_v _) (RepL.cons (rep_v _) (RepL.cons (rep_v _) RepL.nil)))) ?_
  rintro c G ⟨eG, rc⟩
  have k20 := k20.grow eG
  obtain ⟨f, a, b, rfl⟩ := col_fn rc
  repeat (refine WS_build ?_)
  refine WS_insert (mi := k20.map) (look_none _ _ (by decide +kernel)) ?_
  refine WS_gen ?_
  intro H21 hH
  have k21 := k20.add (e := ⟨(⟨#[105, 115, 119, 97, 112]⟩ : ByteArray), 2, 0, true, false, (⟨#[105, 115, 119, 97, 112, 100, 103]⟩ : ByteArray)⟩) rfl rfl rfl rc hH
  refine WS_live1 1 ?_
  intro s g1
  clear hH
  skip
  refine WS_call (made_ev (swappedT 1 2 6) k21.fresh (RepL.cons (rep_v _) (RepL.cons (rep_v _) (RepL.cons (rep_v _) RepL.nil)))) ?_
  rintro c G ⟨eG, rc⟩
  have k21 := k21.grow eG
  obtain ⟨f, a, b, rfl⟩ := col_fn rc
  repeat (refine WS_build ?_)
  refine WS_insert (mi := k21.map) (look_none _ _ (by decide +kernel)) ?_
  refine WS_gen ?_
  intro H22 hH
  have k22 := k21.add (e := ⟨(⟨#[105, 115, 119, 97, 112, 100, 103]⟩ : ByteArray), 2, 0, true, false, (⟨#[105, 115, 119, 97, 112]⟩ : ByteArray)⟩) rfl rfl rfl rc hH
  refine WS_live1 1 ?_
  intro s g1
  clear hH
  skip
  refine WS_call (made_ev (swappedT 3 7 0) k22.fresh (RepL.cons (rep_v _) (RepL.cons (rep_v _) (RepL.cons (rep_v _) RepL.nil)))) ?_
  rintro c G ⟨eG, rc⟩
  have k22 := k22.grow eG
  obtain ⟨f, a, b, rfl⟩ := col_fn rc
  repeat (refine WS_build ?_)
  refine WS_insert (mi := k22.map) (look_none _ _ (by decide +kernel)) ?_
  refine WS_gen ?_
  intro H23 hH
  have k23 := k22.add (e := ⟨(⟨#[99, 99, 120]⟩ : ByteArray), 3, 0, false, false, (⟨#[99, 99, 120]⟩ : ByteArray)⟩) rfl rfl rfl rc hH
  refine WS_live1 1 ?_
  intro s g1
  clear hH
  skip
  refine WS_call (made_ev (lastT 7 4) k23.fresh (RepL.cons (rep_v _) (RepL.cons (rep_v _) RepL.nil))) ?_
  rintro c G ⟨eG, rc⟩
  have k23 := k23.grow eG
  obtain ⟨f, a, b, rfl⟩ := col_fn rc
  repeat (refine WS_build ?_)
  refine WS_insert (mi := k23.map) (look_none _ _ (by decide +kernel)) ?_
  refine WS_gen ?_
  intro H24 hH
  have k24 := k23.add (e := ⟨(⟨#[99, 99, 122]⟩ : ByteArray), 3, 0, false, true, (⟨#[99, 99, 122]⟩ : ByteArray)⟩) rfl rfl rfl rc hH
  refine WS_live1 1 ?_
  intro s g1
  clear hH
  skip
  refine WS_call (made_ev (swappedT 3 5 0) k24.fresh (RepL.cons (rep_v _) (RepL.cons (rep_v _) (RepL.cons (rep_v _) RepL.nil)))) ?_
  rintro c G ⟨eG, rc⟩
  have k24 := k24.grow eG
  obtain ⟨f, a, b, rfl⟩ := col_fn rc
  repeat (refine WS_build ?_)
  refine WS_insert (mi := k24.map) (look_none _ _ (by decide +kernel)) ?_
  refine WS_gen ?_
  intro H25 hH
  have k25 := k24.add (e := ⟨(⟨#[99, 115, 119, 97, 112]⟩ : ByteArray), 3, 0, false, false, (⟨#[99, 115, 119, 97, 112]⟩ : ByteArray)⟩) rfl rfl rfl rc hH
  refine WS_live1 1 ?_
  intro s g1
  clear hH
  repeat (first | refine WS_nil ?_ | refine S_normal ?_ | refine V_ret ?_ | refine WS_move ?_ | refine WS_assign ?_)
  exact retK_1 ⟨k25.ext, _, _, rfl, by rw [hm]; exact Nat.le_refl _, k25.map, k25.len, k25.fns⟩ (.inr rfl)
end Go.Ideal

-- Jc
set_option linter.unusedSimpArgs false
set_option linter.unusedVariables false
namespace Go.Ideal
open Go Go.Proofs Go.RowKit
/-! ### A gate is looked up -/
def colOf (b : ByteArray) : Option ColD := ((KT.zip KC).find? fun x => beqS b x.1.name).map (·.2)
theorem look2 {b : ByteArray} {R : ColD → Value → Prop} : ∀ (es : List KE) (qs : List ColD) (cs : List Value), cs.length = es.length → qs.length = es.length → (∀ (i : Nat) c, cs[i]? = some c → ∃ q, qs[i]? = some q ∧ R q c) →
    match es.find? (fun e => beqS b e.name) with
    | none => lookB b (rowsOf es cs) = none
    | some e => ∃ c q, lookB b (rowsOf es cs) = some (krow e c).2 ∧ ((es.zip qs).find? fun x => beqS b x.1.name).map (·.2) = some q ∧ R q c := by
  intro es
  induction es with
  | nil => intro qs cs h _ _; cases cs <;> simp [rowsOf, lookB] at h ⊢
  | cons e es ih =>
    intro qs cs h h2 hR
    match cs, qs, h, h2 with
    | c :: cs, q :: qs, h, h2 =>
      simp only [List.length_cons, Nat.add_right_cancel_iff] at h h2
      rw [List.find?_cons]
      cases hb : beqS b e.name with
      | true =>
        obtain ⟨q', h3, h4⟩ := hR 0 c rfl
        cases h3
        exact ⟨c, q, by simp [rowsOf, krow, lookB, hb], by simp [hb], h4⟩
      | false =>
        have h1 := ih qs cs h h2 (fun i c hc => hR (i + 1) c hc)
        cases hf : es.find? (fun e => beqS b e.name) with
        | none => rw [hf] at h1; simp only at h1 ⊢; simpa [rowsOf, krow, lookB, hb] using h1
        | some e' =>
          rw [hf] at h1
          obtain ⟨c', q', h3, h4, h5⟩ := h1
          exact ⟨c', q', by simpa [rowsOf, krow, lookB, hb] using h3, by simpa [hb] using h4, h5⟩
@[reducible] def kT (e : KE) (q : ColD) : Tr := .agg [intT e.arity, intT e.halves, boolT e.cliff, boolT e.diag, strT e.back, colT q]
section
variable {X : Cx} {E : Env} {σ : Nat → Tr} {B : Boxes} {ops : Array Oper} {K : TK} {l : List Oper} {H : List (Nat × Nat)}
theorem TS_kinds {b : ByteArray} {d1 dk d2 : Tmp} {t kt et : TypeId} {ty1 ty2 ty3 : TypeId} {p1 p2 p3 : String} {a1 a2 a3 : Array Edge} {at_ : Array TypeId} [ex : TGet σ 0 (strT b)] (h10 : Nat.beq 0 d1 = false) (h1k : Nat.beq d1 dk = false) [u : UnderIs Try.prog t (.map kt et)] [uk : UnderIs Try.prog kt .string] [zi : ZeroIs Try.prog et (.agg [.int .i64 0, .int .i64 0, .bool false, .bool false, .string ByteArray.empty, .nilFunc].toArray)]
    (k0 : kOf b = none → ∀ m, TS X Try.prog E ops K l H (putT (putT (putT σ (some d1) (.v (.map (some m)))) (some dk) (strT b)) (some d2) (.tup [.agg [intT 0, intT 0, boolT false, boolT false, strT ByteArray.empty, .v .nilFunc], boolT false])) B)
    (k1 : ∀ e q, kOf b = some e → colOf b = some q → ∀ m, TS X Try.prog E ops K l H (putT (putT (putT σ (some d1) (.v (.map (some m)))) (some dk) (strT b)) (some d2) (.tup [kT e q, boolT true])) B) :
    TS X Try.prog E ops K (⟨some d1, .call ⟨.value (.func 30), #[], at_⟩, ty1, p1, a1, none⟩ :: ⟨some dk, .move (.tmp 0), ty2, p2, a2, none⟩ :: ⟨some d2, .lookup t (.tmp d1) (.tmp dk) true, ty3, p3, a3, none⟩ :: l) H σ B := by
  unfold TS at *
  intro F s h held r hh
  have g0 : Get s 0 (.string b) := ex.is r
  refine WS_call (ps := []) (kinds_spec2 h) ?_
  rintro _ h' ⟨ext, m, cs, rfl, hm, mi, hl, fns⟩
  have g1 : Get (putS s (some d1) (.map (some m))) 0 (.string b) := Get.ne h10 g0
  refine WS_move ?_
  have g2 : Get (putS (putS s (some d1) (.map (some m))) (some dk) (.string b)) d1 (.map (some m)) := Get.ne h1k inferInstance
  refine WS_lookup_ok ?_
  have hF : Sub F (fun b off => if h.fresh ≤ b then h'.cell? b off else F b off) := fun b off v hf => by
    by_cases hb : h.fresh ≤ b
    · simp only [hb, if_true]; exact cell_ext ext (r.sub _ _ _ hf)
    · simp only [hb, if_false]; exact hf
  have r' := r.grow ext hF (fun b off v hf => by
    by_cases hb : h.fresh ≤ b
    · simp only [hb, if_true] at hf; exact hf
    · simp only [hb, if_false] at hf; exact cell_ext ext (r.sub _ _ _ hf)) (fun b off v hf => by
    by_cases hb : h.fresh ≤ b
    · exact .inr hb
    · simp only [hb, if_false] at hf; exact .inl hf)
  have hN : Sub (newMem h h') (fun b off => if h.fresh ≤ b then h'.cell? b off else F b off) := fun b off v hf => by
    unfold newMem at hf
    split at hf
    · rename_i hb; simp only [hb, if_true]; exact hf
    · cases hf
  have hh' : HeldOk (fun b off => if h.fresh ≤ b then h'.cell? b off else F b off) B H h' held := hh.keys (fun b off v hc => cell_ext ext hc) hF (fun b hb => hb)
  have h3 := look2 (b := b) (R := fun q c => Rep (newMem h h') (colT q) c) KT KC cs hl rfl fns
  cases hk : kOf b with
  | none =>
    unfold kOf at hk
    rw [hk] at h3
    simp only at h3
    rw [h3]
    refine k0 hk m _ _ h' held (((r'.put (rep_v _)).put (rep_v _)).put ?_) hh'
    simp only [Rep]
    exact ⟨_, rfl, RepL.cons (by simp only [Rep]; exact ⟨_, rfl, RepL.cons (rep_v _) (RepL.cons (rep_v _) (RepL.cons (rep_v _) (RepL.cons (rep_v _) (RepL.cons (rep_v _) (RepL.cons (rep_v _) RepL.nil)))))⟩) (RepL.cons (rep_v _) RepL.nil)⟩
  | some e =>
    have hk' := hk
    unfold kOf at hk
    rw [hk] at h3
    obtain ⟨c, q, h4, h5, h6⟩ := h3
    rw [h4]
    refine k1 e q hk' h5 m _ _ h' held (((r'.put (rep_v _)).put (rep_v _)).put ?_) hh'
    simp only [Rep]
    exact ⟨_, rfl, RepL.cons (by simp only [Rep]; exact ⟨_, rfl, RepL.cons (rep_v _) (RepL.cons (rep_v _) (RepL.cons (rep_v _) (RepL.cons (rep_v _) (RepL.cons (rep_v _) (RepL.cons (Rep.sub hN h6) RepL.nil)))))⟩) (RepL.cons (rep_v _) RepL.nil)⟩
end
end Go.Ideal

-- Jd
set_option linter.unusedSimpArgs false
set_option linter.unusedVariables false
namespace Go.Ideal
open Go Go.Proofs Go.RowKit
/-! ### Whole numbers as floats: what math tells of them -/
@[reducible] def flT (n : Int) : Tr := .v (.float .f64 (flb n))
@[reducible] def cxT (a b : Int) : Tr := .v (.complex .f64 (flb a) (flb b))
theorem ext_trunc (v : Value) : pureOf Try.prog (callFunc 94 #[v]) = pureOf Try.prog (do pure (.value (← Extern.MathFloor.toIntegral "math.archTrunc" .zero #[v]))) := by rfl
theorem ext_bits (v : Value) : pureOf Try.prog (callFunc 93 #[v]) = pureOf Try.prog (do pure (.value (← Extern.MathFloatBits.float64bits #[v]))) := by rfl
theorem ext_from (v : Value) : pureOf Try.prog (callFunc 92 #[v]) = pureOf Try.prog (do pure (.value (← Extern.MathFloatBits.float64frombits #[v]))) := by rfl
theorem truncT {n : Int} [h : Sm53 n] : Fn Try.prog 89 [flT n] (fun r => r = flT n) := by
  refine Fn_of Try.func89 rfl (Nat.le_of_ble_eq_true rfl) (fun X => ?_)
  repeat (first | refine StepC.go ?_ | (refine TV_cond_t ?_ ?_; · first | rfl | assumption))
  refine TS_ext (v := .float .f64 (flb n)) (r := .float .f64 (flb n)) rfl rfl ?_ rfl ?_
  · rw [ext_trunc]
    obtain ⟨m, p, h1, _, _⟩ := read_flb h.lt
    have h2 : FloatKind.f64.decode (flb n) = .number (decide (n < 0)) m p := h1
    have h3 := fl_trunc h.lt
    rw [h1] at h3
    have h4 : FloatKind.f64.encode (Ieee.Datum.integral .zero (.number (decide (n < 0)) m p)) = flb n := h3
    have hR : Extern.MathFloor.toIntegral "math.archTrunc" .zero #[.float .f64 (flb n)] = pure (.float .f64 (flb n)) := by
      show (match FloatKind.f64.decode (flb n) with
        | .nan s t => _
        | d => (pure (Value.float .f64 (FloatKind.f64.encode (d.integral .zero))) : Sem Value)) = _
      rw [h2]
      simp only
      rw [h4]
    rw [hR]
    rfl
  repeat (refine StepC.go ?_)
  exact retT_1 (.inr rfl) rfl
instance : CallIs Try.prog 89 := .of Try.func89 rfl rfl
theorem fz_lt {w : Nat} {n : Int} (h : FzIs w n) : w < 2 ^ 64 ∧ w % 2 ^ 63 = flb (n.natAbs : Int) := by
  have hr := rungI_lt h.sm
  have h0 : flb (n.natAbs : Int) = rungI n.natAbs := by rw [flb_pos (by omega), Int.natAbs_natCast]
  rw [h0]
  rcases h.eq with h1 | ⟨rfl, s, h1⟩
  · rw [h1]
    by_cases h2 : n < 0
    · rw [flb_neg h2]
      exact ⟨by omega, by rw [Nat.add_mod_left, Nat.mod_eq_of_lt hr]⟩
    · rw [flb_pos (by omega)]
      exact ⟨by omega, Nat.mod_eq_of_lt hr⟩
  · rw [h1]
    cases s <;> exact ⟨by decide +kernel, by decide +kernel⟩
theorem bits_abs {w : Nat} (h : w < 2 ^ 64) : ibits .andNot .u64 (w : Int) 9223372036854775808 = ((w % 2 ^ 63 : Nat) : Int) := by
  have h1 : (BitVec.ofInt 64 (w : Int) &&& ~~~BitVec.ofInt 64 9223372036854775808).toNat = w % 2 ^ 63 := by
    have h2 : (~~~BitVec.ofInt 64 9223372036854775808 : BitVec 64) = BitVec.ofNat 64 (2 ^ 63 - 1) := by decide +kernel
    rw [h2, BitVec.toNat_and, BitVec.toNat_ofNat, ofInt_u64 h, show (2 ^ 63 - 1) % 2 ^ 64 = 2 ^ 63 - 1 by decide +kernel, Nat.and_two_pow_sub_one_eq_mod]
  show IntKind.u64.wrap ((BitVec.ofInt 64 (w : Int) &&& ~~~BitVec.ofInt 64 9223372036854775808).toNat : Int) = _
  rw [h1]
  have h3 : w % 2 ^ 63 < 2 ^ 64 := Nat.lt_of_lt_of_le (Nat.mod_lt _ (Nat.two_pow_pos _)) (by decide +kernel)
  exact wrap_u64 h3
theorem absT {w : Nat} {n : Int} (h : FzIs w n) : Fn Try.prog 88 [.v (.float .f64 w)] (fun r => r = flT (n.natAbs : Int)) := by
  refine Fn_of Try.func88 rfl (Nat.le_of_ble_eq_true rfl) (fun X => ?_)
  obtain ⟨hw, hm⟩ := fz_lt h
  repeat (refine StepC.go ?_)
  refine TS_ext (v := .float .f64 w) (r := .int .u64 w) rfl rfl (by rw [ext_bits]; rfl) rfl ?_
  repeat (refine StepC.go ?_)
  rw [bits_abs hw, hm]
  refine TS_ext (v := .int .u64 (flb (n.natAbs : Int) : Nat)) (r := .float .f64 (flb (n.natAbs : Int))) rfl rfl (by rw [ext_from]; rfl) rfl ?_
  repeat (refine StepC.go ?_)
  exact retT_1 (.inr rfl) rfl
instance : CallIs Try.prog 88 := .of Try.func88 rfl rfl
theorem sign_bit {n : Int} (h : n.natAbs < 2 ^ 53) : decide (IntKind.i64.wrap ((flb n : Nat) : Int) < 0) = decide (n < 0) := by
  have hr := rungI_lt h
  have hb : (2 : Int) ^ IntKind.i64.bits = 18446744073709551616 := by rfl
  have hb' : (2 : Int) ^ (IntKind.i64.bits - 1) = 9223372036854775808 := by rfl
  have hs : IntKind.i64.signed = true := rfl
  have h63 : (2 : Nat) ^ 63 = 9223372036854775808 := by decide +kernel
  rw [h63] at hr
  rw [Bool.eq_iff_iff]
  simp only [decide_eq_true_eq]
  unfold IntKind.wrap
  simp only [hb, hb', hs]
  by_cases h2 : n < 0
  · rw [flb_neg h2, h63]
    rw [Int.emod_eq_of_lt (by omega) (by omega)]
    rw [if_pos (by simp; omega)]
    omega
  · rw [flb_pos (by omega)]
    rw [Int.emod_eq_of_lt (by omega) (by omega)]
    rw [if_neg (by simp; omega)]
    omega
theorem signT {n : Int} [h : Sm53 n] : Fn Try.prog 90 [flT n] (fun r => r = boolT (decide (n < 0))) := by
  refine Fn_of Try.func90 rfl (Nat.le_of_ble_eq_true rfl) (fun X => ?_)
  repeat (refine StepC.go ?_)
  refine TS_ext (v := .float .f64 (flb n)) (r := .int .u64 (flb n : Nat)) rfl rfl (by rw [ext_bits]; rfl) rfl ?_
  repeat (refine StepC.go ?_)
  refine retT_1 (.inr rfl) ?_
  simp only [tret]
  have := sign_bit (n := n) h.lt
  rw [Bool.eq_iff_iff] at this
  congr 3
  exact propext (by simpa using this)
instance : CallIs Try.prog 90 := .of Try.func90 rfl rfl
end Go.Ideal

-- Je
set_option linter.unusedSimpArgs false
set_option linter.unusedVariables false
namespace Go.Ideal
open Go Go.Proofs Go.RowKit
/-! ### Gaussian integers: the program -/
theorem wholeT {n : Int} [h : Sm53 n] : Fn Try.prog 83 [flT n] (fun r => r = boolT true) := by
  refine Fn_of Try.func83 rfl (Nat.le_of_ble_eq_true rfl) (fun X => ?_)
  have hl := h.lt
  repeat (refine StepC.go ?_)
  refine TS_callE truncT ?_
  have d1 : decide (n = n) = true := by simp
  have d2 : decide ((n.natAbs : Int) ≤ 9007199254740991) = true := by simp; omega
  have d5 : (if decide (n = n) = true then decide ((n.natAbs : Int) ≤ 9007199254740991) else false) = true := by rw [d1, d2]; rfl
  have hz : Sm53 (n.natAbs : Int) := ⟨by rw [Int.natAbs_natCast]; exact hl⟩
  repeat (first | refine StepC.go ?_ | (refine TS_on rfl ?_ ?_; · first | rfl | assumption))
  refine TS_callE (absT (FzIs.of (h := ⟨rfl, hl⟩))) ?_
  repeat (first | refine StepC.go ?_ | (refine TS_on rfl ?_ ?_; · first | rfl | assumption))
  by_cases h0 : n = 0
  · have d3 : decide (n = 0) = true := by simpa using h0
    repeat (first | refine StepC.go ?_ | (refine TS_on rfl ?_ ?_; · first | rfl | assumption))
    refine TS_callE signT ?_
    have d4 : decide (n < 0) = false := by simp [h0]
    rw [d4]
    repeat (first | refine StepC.go ?_ | (refine TS_on rfl ?_ ?_; · first | rfl | assumption))
    refine retT_1 (.inr rfl) ?_
    show Tr.v (.bool _) = _
    rw [d5, d3]; rfl
  · have d3 : decide (n = 0) = false := by simpa using h0
    repeat (first | refine StepC.go ?_ | (refine TS_on rfl ?_ ?_; · first | rfl | assumption) | (refine TS_off rfl ?_ ?_; · first | rfl | assumption) | (refine TS_puw (Pu.pick_f ?_) ?_; · first | rfl | assumption))
    refine retT_1 (.inr rfl) ?_
    show Tr.v (.bool _) = _
    rw [d5]; rfl
instance : CallIs Try.prog 83 := .of Try.func83 rfl rfl
theorem gCheckT {a b : Int} [h : Sm53 a] [h2 : Sm53 b] : Fn Try.prog 75 [cxT a b] (fun r => r = intT 0) := by
  refine Fn_of Try.func75 rfl (Nat.le_of_ble_eq_true rfl) (fun X => ?_)
  repeat (refine StepC.go ?_)
  refine TS_callE wholeT ?_
  repeat (first | refine StepC.go ?_ | (refine TS_on rfl ?_ ?_; · first | rfl | assumption))
  refine TS_callE wholeT ?_
  repeat (first | refine StepC.go ?_ | (refine TS_on rfl ?_ ?_; · first | rfl | assumption) | (refine TV_cond_f ?_ ?_; · first | rfl | assumption))
  exact retT_1 (.inr rfl) rfl
instance : CallIs Try.prog 75 := .of Try.func75 rfl rfl
theorem madeT {u v : Nat} {a b : Int} (h : FzIs u a) (h2 : FzIs v b) : Fn Try.prog 76 [.v (.float .f64 u), .v (.float .f64 v)] (fun r => r = cxT a b) := by
  refine Fn_of Try.func76 rfl (Nat.le_of_ble_eq_true rfl) (fun X => ?_)
  repeat (refine StepC.go ?_)
  exact retT_1 (.inr rfl) rfl
instance : CallIs Try.prog 76 := .of Try.func76 rfl rfl
/-- times i to the power k -/
def gTurn (k : Int) (a b : Int) : Int × Int := if k = 1 then (-b, a) else if k = 2 then (-a, -b) else if k = 3 then (b, -a) else (a, b)
theorem gTurnT {a b k : Int} [h : Sm53 a] [h2 : Sm53 b] (hk : k = 0 ∨ k = 1 ∨ k = 2 ∨ k = 3) : Fn Try.prog 63 [cxT a b, intT k] (fun r => r = .tup [cxT (gTurn k a b).1 (gTurn k a b).2, intT 0]) := by
  refine Fn_of Try.func63 rfl (Nat.le_of_ble_eq_true rfl) (fun X => ?_)
  have hA : ibits .and .i64 k 3 = k := by rcases hk with rfl | rfl | rfl | rfl <;> decide +kernel
  have hz1 : FzIs (flb a) a := ⟨.inl rfl, h.lt⟩
  have hz2 : FzIs (flb b) b := ⟨.inl rfl, h2.lt⟩
  repeat (refine StepC.go ?_)
  refine TS_callE gCheckT ?_
  repeat (first | refine StepC.go ?_ | (refine TV_cond_f ?_ ?_; · first | rfl | assumption))
  rw [hA]
  rcases hk with rfl | rfl | rfl | rfl
  · repeat (first | refine StepC.go ?_ | (refine TV_cond_f ?_ ?_; · first | rfl | assumption))
    exact retT_2 (.inr rfl) rfl
  · repeat (first | refine StepC.go ?_ | intro _ | (refine TV_cond_t ?_ ?_; · first | rfl | assumption))
    rename_i w hw
    refine TS_callE (madeT hw hz1) ?_
    repeat (refine StepC.go ?_)
    exact retT_2 (.inr rfl) rfl
  · repeat (first | refine StepC.go ?_ | intro _ | (refine TV_cond_t ?_ ?_; · first | rfl | assumption) | (refine TV_cond_f ?_ ?_; · first | rfl | assumption))
    rename_i w hw w2 hw2
    refine TS_callE (madeT hw hw2) ?_
    repeat (refine StepC.go ?_)
    exact retT_2 (.inr rfl) rfl
  · repeat (first | refine StepC.go ?_ | intro _ | (refine TV_cond_t ?_ ?_; · first | rfl | assumption) | (refine TV_cond_f ?_ ?_; · first | rfl | assumption))
    rename_i w hw
    refine TS_callE (madeT hz2 hw) ?_
    repeat (refine StepC.go ?_)
    exact retT_2 (.inr rfl) rfl
instance : CallIs Try.prog 63 := .of Try.func63 rfl rfl
instance : CallIs Try.prog 74 := .of Try.func74 rfl rfl
end Go.Ideal

-- Jf
set_option linter.unusedSimpArgs false
set_option linter.unusedVariables false
namespace Go.Ideal
open Go Go.Proofs Go.RowKit
/-! ### Elements a + b i + (c + d i) w: the program -/
structure RgD where
  a : Int
  b : Int
  c : Int
  d : Int
  deriving DecidableEq
@[reducible] def rgCs (r : RgD) : List Tr := [cxT r.a r.b, cxT r.c r.d]
@[reducible] def rgT (r : RgD) : Tr := .agg (rgCs r)
class RgS (r : RgD) : Prop where
  a : r.a.natAbs < 2 ^ 53
  b : r.b.natAbs < 2 ^ 53
  c : r.c.natAbs < 2 ^ 53
  d : r.d.natAbs < 2 ^ 53
def rTurn (k : Int) (r : RgD) : RgD :=
  let r := if k % 2 = 1 then ⟨-r.d, r.c, r.a, r.b⟩ else r
  ⟨(gTurn (k / 2) r.a r.b).1, (gTurn (k / 2) r.a r.b).2, (gTurn (k / 2) r.c r.d).1, (gTurn (k / 2) r.c r.d).2⟩
theorem rCheckT {r : RgD} [h : RgS r] : Fn Try.prog 62 [rgT r] (fun t => t = intT 0) := by
  refine Fn_of Try.func62 rfl (Nat.le_of_ble_eq_true rfl) (fun X => ?_)
  have : Sm53 r.a := ⟨h.a⟩
  have : Sm53 r.b := ⟨h.b⟩
  have : Sm53 r.c := ⟨h.c⟩
  have : Sm53 r.d := ⟨h.d⟩
  repeat (first | refine StepC.go ?_ | intro _)
  refine TS_callE gCheckT ?_
  repeat (first | refine StepC.go ?_ | (refine TV_cond_f ?_ ?_; · first | rfl | assumption))
  refine TS_callE gCheckT ?_
  repeat (refine StepC.go ?_)
  exact retT_1 (.inr rfl) rfl
instance : CallIs Try.prog 62 := .of Try.func62 rfl rfl
theorem pairT {a b c d : Int} : Fn Try.prog 64 [cxT a b, intT 0, cxT c d, intT 0] (fun t => t = .tup [rgT ⟨a, b, c, d⟩, intT 0]) := by
  refine Fn_of Try.func64 rfl (Nat.le_of_ble_eq_true rfl) (fun X => ?_)
  repeat (first | refine StepC.go ?_ | intro _ | (refine TV_cond_f ?_ ?_; · first | rfl | assumption))
  exact retT_2 (.inr rfl) rfl
instance : CallIs Try.prog 64 := .of Try.func64 rfl rfl
theorem rTurnT {r : RgD} [h : RgS r] {k : Int} (hk : 0 ≤ k ∧ k < 8) : Fn Try.prog 47 [rgT r, intT k] (fun t => t = .tup [rgT (rTurn k r), intT 0]) := by
  refine Fn_of Try.func47 rfl (Nat.le_of_ble_eq_true rfl) (fun X => ?_)
  have : Sm53 r.a := ⟨h.a⟩
  have : Sm53 r.b := ⟨h.b⟩
  have : Sm53 r.c := ⟨h.c⟩
  have : Sm53 r.d := ⟨h.d⟩
  have : Sm53 (-r.d) := ⟨by rw [Int.natAbs_neg]; exact h.d⟩
  have hA : ibits .and .i64 k 7 = k := by
    obtain ⟨n, rfl⟩ : ∃ n : Nat, k = n := ⟨k.toNat, by omega⟩
    have : n < 8 := by omega
    match n, this with
    | 0, _ | 1, _ | 2, _ | 3, _ | 4, _ | 5, _ | 6, _ | 7, _ => decide +kernel
  have hB : ibits .and .i64 k 1 = k % 2 := by
    obtain ⟨n, rfl⟩ : ∃ n : Nat, k = n := ⟨k.toNat, by omega⟩
    have : n < 8 := by omega
    match n, this with
    | 0, _ | 1, _ | 2, _ | 3, _ | 4, _ | 5, _ | 6, _ | 7, _ => decide +kernel
  repeat (first | refine StepC.go ?_ | intro _)
  refine TS_callE rCheckT ?_
  repeat (first | refine StepC.go ?_ | (refine TV_cond_f ?_ ?_; · first | rfl | assumption))
  rw [hA]
  skip
  rw [hB]
  have hk2 : k / 2 = 0 ∨ k / 2 = 1 ∨ k / 2 = 2 ∨ k / 2 = 3 := by omega
  have hdv : idivs .quo .i64 k 2 = some (k / 2) := by
    clear hA hB hk2
    obtain ⟨n, rfl⟩ : ∃ n : Nat, k = n := ⟨k.toNat, by omega⟩
    have : n < 8 := by omega
    match n, this with
    | 0, _ | 1, _ | 2, _ | 3, _ | 4, _ | 5, _ | 6, _ | 7, _ => decide
  by_cases h1 : k % 2 = 1
  · have d1 : decide (k % 2 = 1) = true := by simpa using h1
    repeat (first | refine StepC.go ?_ | (refine TV_cond_t ?_ ?_; · first | rfl | assumption))
    refine TS_callE (gTurnT (.inr (.inl rfl))) ?_
    repeat (refine StepC.go ?_)
    refine TS_puw (Pu.divw (r := k / 2) (by decide) hdv) ?_
    skip
    refine TS_callE (gTurnT (a := -r.d) (b := r.c) hk2) ?_
    repeat (refine StepC.go ?_)
    refine TS_puw (Pu.divw (r := k / 2) (by decide) hdv) ?_
    skip
    refine TS_callE (gTurnT (a := r.a) (b := r.b) hk2) ?_
    repeat (refine StepC.go ?_)
    refine TS_callE pairT ?_
    repeat (refine StepC.go ?_)
    refine retT_2 (.inr rfl) ?_
    simp only [rTurn, if_pos h1]; rfl
  · have d1 : decide (k % 2 = 1) = false := by simpa using h1
    repeat (first | refine StepC.go ?_ | (refine TV_cond_f ?_ ?_; · first | rfl | assumption))
    refine TS_puw (Pu.divw (r := k / 2) (by decide) hdv) ?_
    skip
    refine TS_callE (gTurnT (a := r.a) (b := r.b) hk2) ?_
    repeat (refine StepC.go ?_)
    refine TS_puw (Pu.divw (r := k / 2) (by decide) hdv) ?_
    skip
    refine TS_callE (gTurnT (a := r.c) (b := r.d) hk2) ?_
    repeat (refine StepC.go ?_)
    refine TS_callE pairT ?_
    repeat (refine StepC.go ?_)
    refine retT_2 (.inr rfl) ?_
    simp only [rTurn, if_neg h1]; rfl
instance : CallIs Try.prog 47 := .of Try.func47 rfl rfl
end Go.Ideal

-- Jg
set_option linter.unusedSimpArgs false
set_option linter.unusedVariables false
namespace Go.Ideal
open Go Go.Proofs Go.RowKit
/-! ### The columns -/
structure CellD where
  row : Int
  turn : Int
  under : Int
  deriving DecidableEq
@[reducible] def cellCs (c : CellD) : List Tr := [intT c.row, intT c.turn, intT c.under]
@[reducible] def cellT (c : CellD) : Tr := .agg (cellCs c)
@[reducible] def cellRows (l : List CellD) : List (List Tr) := l.map cellCs
def colV : ColD → Nat → List CellD
  | .flip b ts, y => [⟨ibits .xor .i64 (y : Int) b, ts.getD (y % ts.length) 0, 0⟩]
  | .last n t, y => if (y : Int) = n then [⟨y, t, 0⟩] else [⟨y, 0, 0⟩]
  | .mixed a b c, y => if y = 0 then [⟨0, a, 1⟩, ⟨1, b, 1⟩] else [⟨0, b, 1⟩, ⟨1, c, 1⟩]
  | .swapped a b t, y => if (y : Int) = a then [⟨b, t, 0⟩] else if (y : Int) = b then [⟨a, t, 0⟩] else [⟨y, 0, 0⟩]
  | .turnedY, y => if y = 1 then [⟨3, 2, 0⟩] else if y = 3 then [⟨1, 6, 0⟩] else [⟨y, 0, 0⟩]
  | .controlled, y => if y = 1 then [⟨1, 0, 1⟩, ⟨3, 0, 1⟩] else if y = 3 then [⟨1, 0, 1⟩, ⟨3, 4, 1⟩] else [⟨y, 0, 0⟩]
theorem lastC {n t : Int} {y : Nat} : Fn Try.prog 59 [intT (y : Int), .pf [intT n], .pf [intT t]] (fun r => r = .sl 3 (cellRows (colV (.last n t) y))) := by
  refine Fn_of Try.func59 rfl (Nat.le_of_ble_eq_true rfl) (fun X => ?_)
  repeat (refine StepC.go ?_)
  by_cases h1 : (y : Int) = n
  · have d1 : decide ((y : Int) = n) = true := by simpa using h1
    repeat (first | refine StepC.go ?_ | intro _ | (refine TV_cond_t ?_ ?_; · first | rfl | assumption))
    refine retT_1 (.inr rfl) ?_
    simp only [colV, if_pos h1]; rfl
  · have d1 : decide ((y : Int) = n) = false := by simpa using h1
    repeat (first | refine StepC.go ?_ | intro _ | (refine TV_cond_f ?_ ?_; · first | rfl | assumption))
    refine retT_1 (.inr rfl) ?_
    simp only [colV, if_neg h1]; rfl
theorem mixedC {a b c : Int} {y : Nat} : Fn Try.prog 60 [intT (y : Int), .pf [intT a], .pf [intT b], .pf [intT c]] (fun r => r = .sl 3 (cellRows (colV (.mixed a b c) y))) := by
  refine Fn_of Try.func60 rfl (Nat.le_of_ble_eq_true rfl) (fun X => ?_)
  repeat (refine StepC.go ?_)
  by_cases h1 : y = 0
  · have d1 : decide ((y : Int) = 0) = true := by simp; omega
    repeat (first | refine StepC.go ?_ | intro _ | (refine TV_cond_t ?_ ?_; · first | rfl | assumption))
    refine retT_1 (.inr rfl) ?_
    simp only [colV, if_pos h1]; rfl
  · have d1 : decide ((y : Int) = 0) = false := by simp; omega
    repeat (first | refine StepC.go ?_ | intro _ | (refine TV_cond_f ?_ ?_; · first | rfl | assumption))
    refine retT_1 (.inr rfl) ?_
    simp only [colV, if_neg h1]; rfl
theorem swappedC {a b t : Int} {y : Nat} : Fn Try.prog 61 [intT (y : Int), .pf [intT a], .pf [intT b], .pf [intT t]] (fun r => r = .sl 3 (cellRows (colV (.swapped a b t) y))) := by
  refine Fn_of Try.func61 rfl (Nat.le_of_ble_eq_true rfl) (fun X => ?_)
  repeat (refine StepC.go ?_)
  by_cases h1 : (y : Int) = a
  · have d1 : decide ((y : Int) = a) = true := by simpa using h1
    repeat (first | refine StepC.go ?_ | intro _ | (refine TV_cond_t ?_ ?_; · first | rfl | assumption))
    refine retT_1 (.inr rfl) ?_
    simp only [colV, if_pos h1]; rfl
  have d1 : decide ((y : Int) = a) = false := by simpa using h1
  repeat (first | refine StepC.go ?_ | (refine TV_cond_f ?_ ?_; · first | rfl | assumption))
  by_cases h2 : (y : Int) = b
  · have d2 : decide ((y : Int) = b) = true := by simpa using h2
    repeat (first | refine StepC.go ?_ | intro _ | (refine TV_cond_t ?_ ?_; · first | rfl | assumption))
    refine retT_1 (.inr rfl) ?_
    simp only [colV, if_neg h1, if_pos h2]; rfl
  · have d2 : decide ((y : Int) = b) = false := by simpa using h2
    repeat (first | refine StepC.go ?_ | intro _ | (refine TV_cond_f ?_ ?_; · first | rfl | assumption))
    refine retT_1 (.inr rfl) ?_
    simp only [colV, if_neg h1, if_neg h2]; rfl
theorem turnedC {y : Nat} : Fn Try.prog 45 [intT (y : Int)] (fun r => r = .sl 3 (cellRows (colV .turnedY y))) := by
  refine Fn_of Try.func45 rfl (Nat.le_of_ble_eq_true rfl) (fun X => ?_)
  repeat (refine StepC.go ?_)
  by_cases h1 : y = 1
  · have d1 : decide ((y : Int) = 1) = true := by simp; omega
    repeat (first | refine StepC.go ?_ | intro _ | (refine TV_cond_t ?_ ?_; · first | rfl | assumption))
    refine retT_1 (.inr rfl) ?_
    simp only [colV, if_pos h1]; rfl
  have d1 : decide ((y : Int) = 1) = false := by simp; omega
  repeat (first | refine StepC.go ?_ | (refine TV_cond_f ?_ ?_; · first | rfl | assumption))
  by_cases h2 : y = 3
  · have d2 : decide ((y : Int) = 3) = true := by simp; omega
    repeat (first | refine StepC.go ?_ | intro _ | (refine TV_cond_t ?_ ?_; · first | rfl | assumption))
    refine retT_1 (.inr rfl) ?_
    simp only [colV, if_neg h1, if_pos h2]; rfl
  · have d2 : decide ((y : Int) = 3) = false := by simp; omega
    repeat (first | refine StepC.go ?_ | intro _ | (refine TV_cond_f ?_ ?_; · first | rfl | assumption))
    refine retT_1 (.inr rfl) ?_
    simp only [colV, if_neg h1, if_neg h2]; rfl
theorem controlledC {y : Nat} : Fn Try.prog 46 [intT (y : Int)] (fun r => r = .sl 3 (cellRows (colV .controlled y))) := by
  refine Fn_of Try.func46 rfl (Nat.le_of_ble_eq_true rfl) (fun X => ?_)
  repeat (refine StepC.go ?_)
  by_cases h1 : y = 1
  · have d1 : decide ((y : Int) = 1) = true := by simp; omega
    repeat (first | refine StepC.go ?_ | intro _ | (refine TV_cond_t ?_ ?_; · first | rfl | assumption))
    refine retT_1 (.inr rfl) ?_
    simp only [colV, if_pos h1]; rfl
  have d1 : decide ((y : Int) = 1) = false := by simp; omega
  repeat (first | refine StepC.go ?_ | (refine TV_cond_f ?_ ?_; · first | rfl | assumption))
  by_cases h2 : y = 3
  · have d2 : decide ((y : Int) = 3) = true := by simp; omega
    repeat (first | refine StepC.go ?_ | intro _ | (refine TV_cond_t ?_ ?_; · first | rfl | assumption))
    refine retT_1 (.inr rfl) ?_
    simp only [colV, if_neg h1, if_pos h2]; rfl
  · have d2 : decide ((y : Int) = 3) = false := by simp; omega
    repeat (first | refine StepC.go ?_ | intro _ | (refine TV_cond_f ?_ ?_; · first | rfl | assumption))
    refine retT_1 (.inr rfl) ?_
    simp only [colV, if_neg h1, if_neg h2]; rfl
theorem flipC {b : Int} {y : Nat} {ts : List Int} (h1 : 0 < ts.length) (h2 : ts.length < 2 ^ 31) : Fn Try.prog 58 [intT (y : Int), .pf [intT b], .pf [.sl 1 (intRows ts)]] (fun r => r = .sl 3 (cellRows (colV (.flip b ts) y))) := by
  refine Fn_of Try.func58 rfl (Nat.le_of_ble_eq_true rfl) (fun X => ?_)
  have hl : (intRows ts).length = ts.length := by simp [intRows]
  have hdv : idivs .rem .i64 (y : Int) ((intRows ts).length : Int) = some ((y % ts.length : Nat) : Int) := by
    show some ((y : Int).tmod ((intRows ts).length : Int)) = _
    rw [hl, Int.tmod_eq_emod_of_nonneg (by omega)]; rfl
  have hlt : y % ts.length < ts.length := Nat.mod_lt _ h1
  have hg : ts[y % ts.length]? = some (ts.getD (y % ts.length) 0) := by
    rw [List.getD_eq_getElem?_getD, List.getElem?_eq_getElem hlt]; rfl
  have ng : NthG (intRows ts) (y % ts.length) [intT (ts.getD (y % ts.length) 0)] := .map (fun x => [intT x]) hg
  repeat (first | refine StepC.go ?_ | refine TD_take rfl rfl ?_ | refine TD_load rfl rfl ?_ | refine TV_draw (id := 1) (plan := [.take 0, .take 1, .take 2, .take 3, .take 4, .take 5, .take 6, .take 7, .take 8, .take 9, .take 10, .one 11, .take 12]) (by kernel_rfl) ?_)
  refine TD_takew rfl rfl (Pu.divw (r := ((y % ts.length : Nat) : Int)) (by omega) hdv) ?_
  repeat (first | refine StepC.go ?_ | intro _ | refine TD_take rfl rfl ?_ | refine TD_load rfl rfl ?_ | refine TD_one rfl ?_ | refine FiltT_nil ?_)
  refine retT_1 (.inr rfl) ?_
  rfl
end Go.Ideal

-- Jh
set_option linter.unusedSimpArgs false
set_option linter.unusedVariables false
namespace Go.Ideal
open Go Go.Proofs Go.RowKit
/-! ### The closures in one; amplitudes -/
@[reducible] def colF : ColD → Nat
  | .flip _ _ => 58
  | .last _ _ => 59
  | .mixed _ _ _ => 60
  | .swapped _ _ _ => 61
  | .turnedY => 45
  | .controlled => 46
def colB : ColD → List Tr
  | .flip b ts => [.pf [intT b], .pf [.sl 1 (intRows ts)]]
  | .last n t => [.pf [intT n], .pf [intT t]]
  | .mixed a b c => [.pf [intT a], .pf [intT b], .pf [intT c]]
  | .swapped a b t => [.pf [intT a], .pf [intT b], .pf [intT t]]
  | .turnedY => []
  | .controlled => []
theorem colT_eq (q : ColD) : colT q = .fn (colF q) [] (colB q) := by cases q <;> rfl
theorem colT_cells (q : ColD) : CellsT (colT q) [colT q] := by rw [colT_eq]; infer_instance
attribute [instance] colT_cells
def ColOk : ColD → Prop
  | .flip _ ts => 0 < ts.length ∧ ts.length < 2 ^ 31
  | _ => True
instance : CallIs Try.prog 58 := .of Try.func58 rfl rfl
instance : CallIs Try.prog 59 := .of Try.func59 rfl rfl
instance : CallIs Try.prog 60 := .of Try.func60 rfl rfl
instance : CallIs Try.prog 61 := .of Try.func61 rfl rfl
instance : CallIs Try.prog 45 := .of Try.func45 rfl rfl
instance : CallIs Try.prog 46 := .of Try.func46 rfl rfl
theorem col_call (q : ColD) : CallIs Try.prog (colF q) := by cases q <;> infer_instance
theorem colC {q : ColD} {y : Nat} (h : ColOk q) : Fn Try.prog (colF q) (([] ++ [intT (y : Int)]) ++ colB q) (fun r => r = .sl 3 (cellRows (colV q y))) := by
  cases q with
  | flip b ts => exact flipC h.1 h.2
  | last n t => exact lastC
  | mixed a b c => exact mixedC
  | swapped a b t => exact swappedC
  | turnedY => exact turnedC
  | controlled => exact controlledC
structure AmD where
  r : RgD
  k : Int
  deriving DecidableEq
@[reducible] def amCs (a : AmD) : List Tr := [cxT a.r.a a.r.b, cxT a.r.c a.r.d, intT a.k]
@[reducible] def amT (a : AmD) : Tr := .agg (amCs a)
@[reducible] def amRows (l : List AmD) : List (List Tr) := l.map amCs
@[reducible] def oneR : RgD := ⟨1, 0, 0, 0⟩
instance : RgS oneR := ⟨by decide, by decide, by decide, by decide⟩
theorem flb1 : flb 1 = 4607182418800017408 := by decide +kernel
theorem flb0 : flb 0 = 0 := by decide +kernel
theorem rTurn1T {k : Int} (hk : 0 ≤ k ∧ k < 8) : Fn Try.prog 47 [.agg [.v (.complex .f64 4607182418800017408 0), .v (.complex .f64 0 0)], intT k] (fun t => t = .tup [rgT (rTurn k oneR), intT 0]) := by
  have h := rTurnT (r := oneR) hk
  simp only [rgT, rgCs, cxT, flb1, flb0] at h ⊢
  exact h
def cellA (c : CellD) : AmD := ⟨rTurn c.turn oneR, c.under⟩
theorem valueT {c : CellD} (hk : 0 ≤ c.turn ∧ c.turn < 8) : Fn Try.prog 31 [cellT c] (fun t => t = amT (cellA c)) := by
  refine Fn_of Try.func31 rfl (Nat.le_of_ble_eq_true rfl) (fun X => ?_)
  repeat (first | refine StepC.go ?_ | intro _)
  refine TS_callE (rTurn1T hk) ?_
  repeat (first | refine StepC.go ?_ | intro _)
  exact retT_1 (.inr rfl) rfl
instance : CallIs Try.prog 31 := .of Try.func31 rfl rfl
end Go.Ideal

-- Ji
set_option linter.unusedSimpArgs false
set_option linter.unusedVariables false
namespace Go.Ideal
open Go Go.Proofs Go.RowKit
/-! ### What holds of all gates; a column -/
theorem take_snoc {α : Type} {l : List α} {i : Nat} {x : α} (h : l[i]? = some x) : l.take (i + 1) = l.take i ++ [x] := by
  rw [List.take_add_one, h]; rfl
def in8 (t : Int) : Bool := decide (0 ≤ t) && decide (t < 8)
def fineB (x : KE × ColD) : Bool := (decide (x.1.arity = 1) || decide (x.1.arity = 2) || decide (x.1.arity = 3)) && match x.2 with
  | .flip _ ts => decide (0 < ts.length) && decide (ts.length < 8) && ts.all in8
  | .last _ t => in8 t
  | .mixed a b c => in8 a && in8 b && in8 c
  | .swapped _ _ t => in8 t
  | _ => true
theorem fine_all : (KT.zip KC).all fineB = true := by decide +kernel
theorem in8_iff {t : Int} (h : in8 t = true) : 0 ≤ t ∧ t < 8 := by simpa [in8] using h
structure GFine (e : KE) (q : ColD) : Prop where
  ar : e.arity = 1 ∨ e.arity = 2 ∨ e.arity = 3
  ok : ColOk q
  tu : ∀ y, ∀ c ∈ colV q y, 0 ≤ c.turn ∧ c.turn < 8
theorem colV_len (q : ColD) (y : Nat) : (colV q y).length = 1 ∨ (colV q y).length = 2 := by
  cases q <;> simp only [colV] <;> repeat' split
  all_goals simp
theorem fine_of {b : ByteArray} {e : KE} {q : ColD} (h1 : kOf b = some e) (h2 : colOf b = some q) : GFine e q := by
  have hz : ∀ (l : List KE) (m : List ColD), l.length = m.length → l.find? (fun e => beqS b e.name) = some e → ((l.zip m).find? fun x => beqS b x.1.name).map (·.2) = some q → (e, q) ∈ l.zip m := by
    intro l
    induction l with
    | nil => intro m _ h; cases h
    | cons a l ih =>
      intro m hm h3 h4
      match m, hm with
      | c :: m, hm =>
        rw [List.find?_cons] at h3
        rw [List.zip_cons_cons, List.find?_cons] at h4
        cases hb : beqS b a.name with
        | true =>
          simp only [hb] at h3 h4
          simp only [Option.map_some, Option.some.injEq] at h3 h4
          subst h3; subst h4
          exact List.mem_cons_self
        | false =>
          simp only [hb] at h3 h4
          exact List.mem_cons_of_mem _ (ih m (by simpa using hm) h3 h4)
  have h3 := hz KT KC rfl h1 h2
  have h4 := List.all_eq_true.1 fine_all _ h3
  simp only [fineB, Bool.and_eq_true, Bool.or_eq_true, decide_eq_true_eq] at h4
  obtain ⟨h5, h6⟩ := h4
  refine ⟨by omega, ?_, fun y c hc => ?_⟩
  · cases q <;> simp only [ColOk] <;> simp at h6 <;> omega
  · cases q with
    | flip b ts =>
      simp only [Bool.and_eq_true, decide_eq_true_eq] at h6
      simp only [colV, List.mem_singleton] at hc
      subst hc
      refine in8_iff (List.all_eq_true.1 h6.2 _ ?_)
      have hl : y % ts.length < ts.length := Nat.mod_lt _ h6.1.1
      rw [List.getD_eq_getElem?_getD, List.getElem?_eq_getElem hl]
      exact List.getElem_mem _
    | last n t =>
      have := in8_iff h6
      simp only [colV] at hc
      split at hc <;> (rw [List.mem_singleton.1 hc]; simp; try omega)
    | mixed a b' c' =>
      simp only [Bool.and_eq_true] at h6
      have h7 := in8_iff h6.1.1
      have h8 := in8_iff h6.1.2
      have h9 := in8_iff h6.2
      simp only [colV] at hc
      split at hc <;> (simp only [List.mem_cons, List.not_mem_nil, or_false] at hc; rcases hc with rfl | rfl <;> assumption)
    | swapped a b' t =>
      have := in8_iff h6
      simp only [colV] at hc
      repeat' split at hc
      all_goals (rw [List.mem_singleton.1 hc]; simp; try omega)
    | turnedY =>
      simp only [colV] at hc
      repeat' split at hc
      all_goals (rw [List.mem_singleton.1 hc]; simp)
    | controlled =>
      simp only [colV] at hc
      repeat' split at hc
      all_goals (simp only [List.mem_cons, List.not_mem_nil, or_false] at hc)
      · rcases hc with rfl | rfl <;> simp
      · rcases hc with rfl | rfl <;> simp
      · rw [hc]; simp
def wS (e : KE) : Nat := 2 ^ e.arity.toNat
theorem wS_shi {e : KE} {q : ColD} (g : GFine e q) : ShiT .shl .i64 1 e.arity (wS e : Int) := by
  unfold wS
  rcases g.ar with h | h | h <;> rw [h] <;> exact ⟨by decide, by decide⟩
theorem wS_le {e : KE} {q : ColD} (g : GFine e q) : wS e = 2 ∨ wS e = 4 ∨ wS e = 8 := by
  unfold wS
  rcases g.ar with h | h | h <;> rw [h] <;> decide
def columnS (b : ByteArray) (y : Int) : List Int × List AmD × Int :=
  match kOf b, colOf b with
  | some e, some q => if y < 0 ∨ (wS e : Int) ≤ y then ([], [], 2) else ((colV q y.toNat).map (·.row), (colV q y.toNat).map cellA, 0)
  | _, _ => ([], [], 80)
set_option synthInstance.maxSize 4000 in
set_option synthInstance.maxHeartbeats 400000 in
set_option maxHeartbeats 4000000 in
theorem columnT {b : ByteArray} {y : Int} : Fn Try.prog 21 [strT b, intT y] (fun r => r = .tup [.sl 1 (intRows (columnS b y).1), .sl 3 (amRows (columnS b y).2.1), intT (columnS b y).2.2]) := by
  refine Fn_of Try.func21 rfl (Nat.le_of_ble_eq_true rfl) (fun X => ?_)
  repeat (refine StepC.go ?_)
  refine TS_kinds (by rfl) (by rfl) ?_ ?_
  · intro hk m
    repeat (first | refine StepC.go ?_ | intro _ | (refine TV_cond_t ?_ ?_; · first | rfl | assumption))
    refine retT_3c [.sl 1 [], .sl 3 [], intT 80] (.inr rfl) ?_
    simp only [columnS, hk]; rfl
  · intro e q hk hq m
    have g := fine_of hk hq
    have hsh := wS_shi g
    have hw := wS_le g
    repeat (first | refine StepC.go ?_ | intro _ | (refine TV_cond_f ?_ ?_; · first | rfl | assumption))
    by_cases hy : y < 0
    · have d1 : decide (y < 0) = true := by simpa using hy
      repeat (first | refine StepC.go ?_ | (refine TS_off rfl ?_ ?_; · first | rfl | assumption) | (refine TS_puw (Pu.pick_t ?_) ?_; · first | rfl | assumption) | (refine TV_cond_t ?_ ?_; · first | rfl | assumption))
      refine retT_3c [.sl 1 [], .sl 3 [], intT 2] (.inr rfl) ?_
      simp only [columnS, hk, hq]; rw [if_pos (.inl hy)]; rfl
    have d1 : decide (y < 0) = false := by simpa using hy
    repeat (first | refine StepC.go ?_ | (refine TS_on rfl ?_ ?_; · first | rfl | assumption))
    by_cases hy2 : (wS e : Int) ≤ y
    · have d2 : decide ((wS e : Int) ≤ y) = true := by simpa using hy2
      have d3 : (if decide (y < 0) = true then true else decide ((wS e : Int) ≤ y)) = true := by rw [d1, d2]; rfl
      repeat (first | refine StepC.go ?_ | (refine TV_cond_t ?_ ?_; · first | rfl | assumption))
      refine retT_3c [.sl 1 [], .sl 3 [], intT 2] (.inr rfl) ?_
      simp only [columnS, hk, hq]; rw [if_pos (.inr hy2)]; rfl
    have d2 : decide ((wS e : Int) ≤ y) = false := by simpa using hy2
    obtain ⟨yn, rfl⟩ : ∃ n : Nat, y = n := ⟨y.toNat, by omega⟩
    repeat (first | refine StepC.go ?_ | (refine TV_cond_f ?_ ?_; · first | rfl | assumption))
    have := col_call q
    refine TS_callV (f := colF q) (a := []) (b := colB q) (ef := colT_eq q ▸ inferInstance) (colC (y := yn) g.ok) ?_
    rintro _ rfl
    obtain ⟨L, hL⟩ : ∃ L, L = colV q yn := ⟨_, rfl⟩
    have hl2 := colV_len q yn
    have htu := g.tu yn
    rw [← hL] at hl2 htu ⊢
    have hLL : (cellRows L).length = L.length := by simp [cellRows]
    repeat (refine StepC.go ?_)
    rw [hLL]
    refine TV_ghost 1 3 ?_
    intro g1
    refine TV_ghost 3 46 ?_
    intro g2
    refine TV_loop (fun d σ B => ∃ (i : Nat) (b1 b2 : Nat), d = L.length - i ∧ i ≤ L.length ∧ TGet σ 35 (intT i) ∧ TGet σ 34 (intT L.length) ∧ TGet σ 33 (.sl 3 (cellRows L)) ∧ TGet σ 9 (.v (gsv b1 i)) ∧ TGet σ 10 (.v (gsv b2 i)) ∧
      SubP B [(b1, .arr 1 (intRows ((L.take i).map (·.row))) 3 false), (b2, .arr 3 (amRows ((L.take i).map cellA)) 46 false)]) L.length
      ⟨0, g1, g2, by omega, by omega, inferInstance, inferInstance, inferInstance, tget_as rfl, tget_as rfl, ?_⟩ ?_
    · exact ⟨_, List.Perm.swap _ _ _⟩
    rintro d σ B ⟨i, b1, b2, rfl, hi, g35, g34, g33, g9, g10, hB⟩
    refine TV_keep _ (p := hB) ?_
    have hs1 : 8 * (i + 1) ≤ 2 ^ 47 + 2 ^ 20 := by omega
    repeat (refine StepC.go ?_)
    refine TV_cond ?_ ?_ <;> intro hc
    · have hil : i < L.length := by have := of_decide_eq_true hc; omega
      obtain ⟨c, hcc⟩ : ∃ c, L[i]? = some c := ⟨_, List.getElem?_eq_getElem hil⟩
      have ngc : NthG (cellRows L) i (cellCs c) := .map cellCs hcc
      have h8 := htu c (List.mem_of_getElem? hcc)
      have ln1 : LenT (intRows ((L.take i).map (·.row))) i := ⟨by simp [intRows]; omega⟩
      have ln2 : LenT (amRows ((L.take i).map cellA)) i := ⟨by simp [amRows]; omega⟩
      have lo1 : LenO (intRows ((L.take i).map (·.row))) i := ⟨by simp [intRows]; omega⟩
      have lo2 : LenO (amRows ((L.take i).map cellA)) i := ⟨by simp [amRows]; omega⟩
      have hr1 : intRows ((L.take (i + 1)).map (·.row)) = intRows ((L.take i).map (·.row)) ++ [[intT c.row]] := by rw [take_snoc hcc]; simp [intRows]
      have hr2 : amRows ((L.take (i + 1)).map cellA) = amRows ((L.take i).map cellA) ++ [amCs (cellA c)] := by rw [take_snoc hcc]; simp [amRows]
      repeat (first | refine StepC.go ?_ | intro _ | (refine TS_append ?_ (fun _ => ?_); · omega) | refine TD_take rfl rfl ?_ | refine TD_load rfl rfl ?_ | refine TD_one rfl ?_ | refine FiltT_nil ?_ | refine FiltT_drop rfl ?_ | refine FiltT_keep rfl ?_ | refine TV_draw (id := 11) (plan := [.take 0, .take 1, .take 2, .take 5, .take 6, .one 3, .one 4, .one 7, .one 8, .one 9, .take 10, .take 11]) (by kernel_rfl) ?_)
      refine TS_callE (valueT h8) ?_
      repeat (first | refine StepC.go ?_ | intro _ | (refine TS_puw (Pu.addi ?_) ?_; · omega) | (refine TS_append ?_ (fun _ => ?_); · omega) | refine TD_take rfl rfl ?_ | refine TD_one rfl ?_ | refine FiltT_nil ?_)
      rename_i w1 w2 w3 w4 w5
      refine ⟨_, ?_, i + 1, w3, w5, rfl, by omega, tget_as rfl, inferInstance, inferInstance, inferInstance, inferInstance, ?_⟩
      · omega
      · rw [hr1, hr2]; infer_instance
    · have hil : i = L.length := by have := of_decide_eq_false hc; omega
      subst hil
      have ln1 : LenT (intRows ((L.take L.length).map (·.row))) L.length := ⟨by simp [intRows]⟩
      have ln2 : LenT (amRows ((L.take L.length).map cellA)) L.length := ⟨by simp [amRows]⟩
      have : Sm63 L.length := ⟨by omega⟩
      repeat (refine StepC.go ?_)
      refine retT_3 (.inr rfl) ?_
      have hcs : columnS b (yn : Int) = (L.map (·.row), L.map cellA, 0) := by
        simp only [columnS, hk, hq]
        rw [if_neg (by omega), Int.toNat_natCast, ← hL]
      rw [hcs, List.take_length]
      rfl
instance : CallIs Try.prog 21 := .of Try.func21 rfl rfl
end Go.Ideal

-- Jj
set_option linter.unusedSimpArgs false
set_option linter.unusedVariables false
namespace Go.Ideal
open Go Go.Proofs Go.RowKit
/-! ### A gate's matrix: the program -/
def zeroA : AmD := ⟨⟨0, 0, 0, 0⟩, 0⟩
theorem zeroA_cs : amCs zeroA = [.v (.complex .f64 0 0), .v (.complex .f64 0 0), .v (.int .i64 0)] := by
  simp only [zeroA, amCs, cxT, flb0]
def matT (m : List (List AmD)) : Tr := .sl 1 (m.map fun l => [.sl 3 (amRows l)])
def amB (fam : List (Nat × List AmD)) : Boxes := fam.map fun x => (x.1, .arr 3 (amRows x.2) 46 true)
def amR (n : Nat) (fam : List (Nat × List AmD)) : List (List Tr) := fam.map fun x => [.v (.slice (some (ad x.1 0)) n n)]
def putA (m : List (List AmD)) (y : Nat) (c : CellD) : List (List AmD) := m.set c.row.toNat ((m.getD c.row.toNat []).set y (cellA c))
def colsA (q : ColD) (m : List (List AmD)) (n : Nat) : List (List AmD) := (List.range n).foldl (fun m y => (colV q y).foldl (fun m c => putA m y c) m) m
def matrixS (e : KE) (q : ColD) : List (List AmD) := colsA q (List.replicate (wS e) (List.replicate (wS e) zeroA)) (wS e)
def matrixC (b : ByteArray) : List (List AmD) × Int :=
  match kOf b, colOf b with
  | some e, some q => (matrixS e q, 0)
  | _, _ => ([], 80)
def rowsFine (x : KE × ColD) : Bool := (List.range (wS x.1)).all fun y => (colV x.2 y).all fun c => decide (0 ≤ c.row) && decide (c.row < (wS x.1 : Int))
theorem rows_all : (KT.zip KC).all rowsFine = true := by decide +kernel
theorem zip_of {b : ByteArray} {e : KE} {q : ColD} (h1 : kOf b = some e) (h2 : colOf b = some q) : (e, q) ∈ KT.zip KC := by
  have hz : ∀ (l : List KE) (m : List ColD), l.length = m.length → l.find? (fun e => beqS b e.name) = some e → ((l.zip m).find? fun x => beqS b x.1.name).map (·.2) = some q → (e, q) ∈ l.zip m := by
    intro l
    induction l with
    | nil => intro m _ h; cases h
    | cons a l ih =>
      intro m hm h3 h4
      match m, hm with
      | c :: m, hm =>
        rw [List.find?_cons] at h3
        rw [List.zip_cons_cons, List.find?_cons] at h4
        cases hb : beqS b a.name with
        | true =>
          simp only [hb] at h3 h4
          simp only [Option.map_some, Option.some.injEq] at h3 h4
          subst h3; subst h4
          exact List.mem_cons_self
        | false =>
          simp only [hb] at h3 h4
          exact List.mem_cons_of_mem _ (ih m (by simpa using hm) h3 h4)
  exact hz KT KC rfl h1 h2
theorem row_fine {b : ByteArray} {e : KE} {q : ColD} (h1 : kOf b = some e) (h2 : colOf b = some q) {y : Nat} (hy : y < wS e) : ∀ c ∈ colV q y, 0 ≤ c.row ∧ c.row < (wS e : Int) := by
  intro c hc
  have h3 := List.all_eq_true.1 rows_all _ (zip_of h1 h2)
  have h4 := List.all_eq_true.1 h3 y (List.mem_range.2 hy)
  have h5 := List.all_eq_true.1 h4 c hc
  simpa using h5
theorem amB_is {fam : List (Nat × List AmD)} {k b : Nat} {l : List AmD} (h : fam[k]? = some (b, l)) : BoxIs (amB fam) b (.arr 3 (amRows l) 46 true) := ⟨List.mem_map.2 ⟨(b, l), List.mem_of_getElem? h, rfl⟩⟩
theorem amB_in {fam : List (Nat × List AmD)} {k b : Nat} {l : List AmD} (h : fam[k]? = some (b, l)) : InKeys (amB fam) b := ⟨List.mem_map.2 ⟨_, (amB_is h).mem, rfl⟩⟩
theorem amB_put {fam : List (Nat × List AmD)} {k b : Nat} {l l2 : List AmD} (h : fam[k]? = some (b, l)) : BoxPut (amB fam) b b (.arr 3 (amRows l2) 46 true) (amB (fam.set k (b, l2))) := ⟨by
  have hk := (List.getElem?_eq_some_iff.1 h).1
  have hd := drop_cons h
  refine ⟨amB (fam.take k), .arr 3 (amRows l) 46 true, amB (fam.drop (k + 1)), ?_, ?_⟩
  · conv => lhs; rw [← List.take_append_drop k fam, hd]
    simp [amB]
  · rw [List.set_eq_take_append_cons_drop, if_pos hk]
    simp [amB]⟩
theorem amR_at {n : Nat} {fam : List (Nat × List AmD)} {k b : Nat} {l : List AmD} (h : fam[k]? = some (b, l)) : NthG (amR n fam) k [.v (.slice (some (ad b 0)) n n)] := ⟨by simp [amR, h]⟩
theorem amR_set {n : Nat} {fam : List (Nat × List AmD)} {k b : Nat} {l l2 : List AmD} (h : fam[k]? = some (b, l)) : amR n (fam.set k (b, l2)) = amR n fam := by
  refine List.ext_getElem? fun i => ?_
  simp only [amR, List.getElem?_map, List.getElem?_set]
  by_cases hi : k = i
  · subst hi
    rw [if_pos rfl, if_pos (List.getElem?_eq_some_iff.1 h).1, h]; rfl
  · rw [if_neg hi]
theorem amR_frz {B : Boxes} {n : Nat} {fam : List (Nat × List AmD)} (hb : ∀ x ∈ fam, BoxIs B x.1 (.arr 3 (amRows x.2) 46 true)) (hs : n < 2 ^ 63) (hn : ∀ x ∈ fam, x.2.length = n) (h0 : 0 < n) : FrzR B (amR n fam) ((fam.map Prod.snd).map fun l => [.sl 3 (amRows l)]) := ⟨by simp [amR], fun i row hr => by
  simp only [amR, List.getElem?_map, Option.map_eq_some_iff] at hr
  obtain ⟨x, hx, rfl⟩ := hr
  have hm := List.mem_of_getElem? hx
  have := hb x hm
  have : Sm63 n := ⟨hs⟩
  have : LenT (amRows x.2) n := ⟨by simp [amRows, hn x hm]⟩
  refine ⟨[.sl 3 (amRows x.2)], by simp [hx], ?_⟩
  have : FrzL B [.v (.slice (some (ad x.1 0)) n n)] [.sl 3 (amRows x.2)] := inferInstance
  exact this.eq⟩
theorem colsA_succ (q : ColD) (m : List (List AmD)) (n : Nat) : colsA q m (n + 1) = (colV q n).foldl (fun m c => putA m n c) (colsA q m n) := by
  simp [colsA, List.range_succ]
set_option synthInstance.maxSize 4000 in
set_option synthInstance.maxHeartbeats 400000 in
set_option maxHeartbeats 4000000 in
theorem matrixT {b : ByteArray} : Fn Try.prog 18 [strT b] (fun r => r = .tup [matT (matrixC b).1, intT (matrixC b).2]) := by
  refine Fn_of Try.func18 rfl (Nat.le_of_ble_eq_true rfl) (fun X => ?_)
  repeat (refine StepC.go ?_)
  refine TS_kinds (by rfl) (by rfl) ?_ ?_
  · intro hk m
    repeat (first | refine StepC.go ?_ | intro _ | (refine TV_cond_t ?_ ?_; · first | rfl | assumption))
    refine retT_2c [.sl 1 [], intT 80] (.inr rfl) ?_
    simp only [matrixC, hk]; rfl
  · intro e q hk hq m
    have g := fine_of hk hq
    have hsh := wS_shi g
    have hw := wS_le g
    have hrf := fun {y} => row_fine hk hq (y := y)
    have hmc : matrixC b = (matrixS e q, 0) := by simp only [matrixC, hk, hq]
    rw [hmc]
    unfold matrixS
    obtain ⟨n, hn⟩ : ∃ n, n = wS e := ⟨_, rfl⟩
    rw [← hn] at hsh hw hrf ⊢
    repeat (first | refine StepC.go ?_ | intro _ | (refine TS_makeSlice ?_ (fun _ => ?_); · omega) | (refine TV_cond_f ?_ ?_; · first | rfl | assumption))
    rename_i pk bs
    refine TV_loop (fun d σ B => ∃ (i : Nat) (fam : List (Nat × List AmD)), d = n - i ∧ i ≤ n ∧ TGet σ 27 (intT i) ∧ TGet σ 26 (intT n) ∧ TGet σ 7 (.v (.slice (some (ad bs 0)) n n)) ∧ TGet σ 6 (intT n) ∧ TGet σ 4 ((.v (.pointer (some (ad pk 0))))) ∧
      SubP B ((pk, .cells [intT e.arity, intT e.halves, boolT e.cliff, boolT e.diag, strT e.back, colT q] 61 true) :: (bs, .arr 1 (amR n fam ++ List.replicate (n - i) [.v (.slice none 0 0)]) 37 true) :: amB fam) ∧ fam.map Prod.snd = List.replicate i (List.replicate n zeroA)) n
      ⟨0, [], by omega, by omega, tget_as rfl, inferInstance, inferInstance, inferInstance, inferInstance, ?_, rfl⟩ ?_
    · exact ⟨[], List.Perm.swap _ _ _⟩
    rintro d σ B ⟨i, fam, rfl, hi, g27, g26, g7, g6, g4, hB, hfam⟩
    refine TV_keep _ (p := hB) ?_
    have hfl : fam.length = i := by have := congrArg List.length hfam; simpa using this
    repeat (refine StepC.go ?_)
    refine TV_cond ?_ ?_ <;> intro hc
    · have hin : i < n := by have := of_decide_eq_true hc; omega
      have q1 : NthG (amR n fam ++ List.replicate (n - i) [Tr.v (.slice none 0 0)]) i [Tr.v (.slice none 0 0)] := ⟨by
        have h1 : (amR n fam).length = i := by simp [amR, hfl]
        rw [List.getElem?_append_right (by omega), h1, Nat.sub_self, List.getElem?_replicate, if_pos (by omega)]⟩
      have q2 : ∀ b', SetR (amR n fam ++ List.replicate (n - i) [Tr.v (.slice none 0 0)]) i [.v (.slice (some (ad b' 0)) n n)] (amR n (fam ++ [(b', List.replicate n zeroA)]) ++ List.replicate (n - (i + 1)) [Tr.v (.slice none 0 0)]) := fun b' => ⟨by
        rw [show n - i = (n - (i + 1)) + 1 by omega, List.replicate_succ, List.set_append_right _ _ (by simp [amR, hfl])]
        simp [amR, hfl]⟩
      have q3 : LenT (amR n fam ++ List.replicate (n - i) [Tr.v (.slice none 0 0)]) n := ⟨by simp [amR, hfl]; omega⟩
      repeat (first | refine StepC.go ?_ | (refine TS_puw (Pu.addi ?_) ?_; · omega) | (refine TS_makeSlice ?_ (fun _ => ?_); · omega))
      rename_i b2
      refine ⟨_, ?_, i + 1, fam ++ [(b2, List.replicate n zeroA)], rfl, by omega, tget_as rfl, inferInstance, inferInstance, inferInstance, inferInstance, ?_, ?_⟩
      · omega
      · refine ⟨[], ?_⟩
        have h1 : amRows (List.replicate n zeroA) = List.replicate n [Tr.v (.complex .f64 0 0), .v (.complex .f64 0 0), .v (.int .i64 0)] := by rw [← zeroA_cs]; simp [amRows]
        have h2 : amB (fam ++ [(b2, List.replicate n zeroA)]) = amB fam ++ [(b2, .arr 3 (List.replicate n [Tr.v (.complex .f64 0 0), .v (.complex .f64 0 0), .v (.int .i64 0)]) 46 true)] := by simp [amB, h1]
        rw [h2, List.append_nil]
        exact (List.perm_append_singleton _ (_ :: _ :: _)).symm
      · rw [List.map_append, hfam, List.replicate_succ']; rfl
    · have hin : i = n := by have := of_decide_eq_false hc; omega
      subst hin
      repeat (refine StepC.go ?_)
      simp only [Nat.sub_self, List.replicate_zero, List.append_nil]
      obtain ⟨M0, hM0⟩ : ∃ M0, M0 = List.replicate i (List.replicate i zeroA) := ⟨_, rfl⟩
      have hlen0 : ∀ x ∈ fam, x.2.length = i := fun x hx => by
        have h1 : x.2 ∈ fam.map Prod.snd := List.mem_map.2 ⟨x, hx, rfl⟩
        rw [hfam] at h1; rw [List.eq_of_mem_replicate h1]; simp
      rw [← hM0] at hfam ⊢
      refine TV_loop (fun d σ B => ∃ (y : Nat) (fam : List (Nat × List AmD)), d = i - y ∧ y ≤ i ∧ TGet σ 37 (intT y) ∧ TGet σ 36 (intT i) ∧ TGet σ 7 (.v (.slice (some (ad bs 0)) i i)) ∧ TGet σ 4 (.v (.pointer (some (ad pk 0)))) ∧
        SubP B ((pk, .cells [intT e.arity, intT e.halves, boolT e.cliff, boolT e.diag, strT e.back, colT q] 61 true) :: (bs, .arr 1 (amR i fam) 37 true) :: amB fam) ∧ fam.length = i ∧ (∀ x ∈ fam, x.2.length = i) ∧ fam.map Prod.snd = colsA q M0 y) i
        ⟨0, fam, by omega, by omega, tget_as rfl, inferInstance, inferInstance, inferInstance, inferInstance, hfl, hlen0, hfam⟩ ?_
      clear hlen0 hfam hfl hB
      rintro d σ B ⟨y, fam, rfl, hy, g37, g36, g7, g4, hB, hfl, hlen, hfam⟩
      refine TV_keep _ (p := hB) ?_
      repeat (refine StepC.go ?_)
      refine TV_cond ?_ ?_ <;> intro hc2
      · have hyi : y < i := by have := of_decide_eq_true hc2; omega
        repeat (refine StepC.go ?_)
        have := col_call q
        refine TS_callV (f := colF q) (a := []) (b := colB q) (ef := colT_eq q ▸ inferInstance) (colC (y := y) g.ok) ?_
        rintro _ rfl
        have hrf2 := hrf hyi
        have htu := g.tu y
        have hcs := colsA_succ q M0 y
        obtain ⟨L, hL⟩ : ∃ L, L = colV q y := ⟨_, rfl⟩
        have hl2 := colV_len q y
        rw [← hL] at hrf2 htu hcs hl2 ⊢
        have hLL : (cellRows L).length = L.length := by simp [cellRows]
        repeat (refine StepC.go ?_)
        rw [hLL]
        refine TV_loop (fun d σ B => ∃ (j : Nat) (fam : List (Nat × List AmD)), d = L.length - j ∧ j ≤ L.length ∧ TGet σ 45 (intT j) ∧ TGet σ 44 (intT L.length) ∧ TGet σ 43 (.sl 3 (cellRows L)) ∧ TGet σ 9 (intT y) ∧ TGet σ 37 (intT y) ∧ TGet σ 36 (intT i) ∧ TGet σ 7 (.v (.slice (some (ad bs 0)) i i)) ∧ TGet σ 4 (.v (.pointer (some (ad pk 0)))) ∧
          SubP B ((pk, .cells [intT e.arity, intT e.halves, boolT e.cliff, boolT e.diag, strT e.back, colT q] 61 true) :: (bs, .arr 1 (amR i fam) 37 true) :: amB fam) ∧ fam.length = i ∧ (∀ x ∈ fam, x.2.length = i) ∧ fam.map Prod.snd = (L.take j).foldl (fun m c => putA m y c) (colsA q M0 y)) L.length
          ⟨0, fam, by omega, by omega, tget_as rfl, inferInstance, inferInstance, inferInstance, inferInstance, inferInstance, inferInstance, inferInstance, inferInstance, hfl, hlen, hfam⟩ ?_
        clear hlen hfam hfl hB fam g37 g36 g7 g4
        rintro d σ B ⟨j, fam, rfl, hj, g45, g44, g43, g9, g37, g36, g7, g4, hB, hfl, hlen, hfam⟩
        refine TV_keep _ (p := hB) ?_
        repeat (refine StepC.go ?_)
        refine TV_cond ?_ ?_ <;> intro hc3
        · have hjl : j < L.length := by have := of_decide_eq_true hc3; omega
          obtain ⟨c, hcc⟩ : ∃ c, L[j]? = some c := ⟨_, List.getElem?_eq_getElem hjl⟩
          have ngc : NthG (cellRows L) j (cellCs c) := .map cellCs hcc
          have h8 := htu c (List.mem_of_getElem? hcc)
          have hr := hrf2 c (List.mem_of_getElem? hcc)
          obtain ⟨k, hk⟩ : ∃ k : Nat, c.row = (k : Int) := ⟨c.row.toNat, by omega⟩
          have hkn : k < i := by omega
          have hA : AsNat c.row k := ⟨hk⟩
          obtain ⟨⟨bk, lk⟩, hx⟩ : ∃ x, fam[k]? = some x := ⟨_, List.getElem?_eq_getElem (by omega)⟩
          have hlk : lk.length = i := hlen _ (List.mem_of_getElem? hx)
          obtain ⟨a0, ha0⟩ : ∃ a, lk[y]? = some a := ⟨_, List.getElem?_eq_getElem (by omega)⟩
          have q1 := amB_is hx
          have q2 := amB_in hx
          have q3 := amB_put (l2 := lk.set y (cellA c)) hx
          have q4 := amR_at (n := i) hx
          have q5 : LenT (amR i fam) i := ⟨by simp [amR, hfl]⟩
          have q6 : LenT (amRows lk) i := ⟨by simp [amRows, hlk]⟩
          have q7 : NthG (amRows lk) y (amCs a0) := .map amCs ha0
          have q8 : SetR (amRows lk) y (amCs (cellA c)) (amRows (lk.set y (cellA c))) := ⟨by simp [amRows, List.map_set]⟩
          repeat (first | refine StepC.go ?_ | intro _ | refine TD_take rfl rfl ?_ | refine TD_load rfl rfl ?_ | refine TD_one rfl ?_ | refine FiltT_nil ?_ | refine FiltT_drop rfl ?_ | refine FiltT_keep rfl ?_ | refine TV_draw (id := 17) (plan := [.take 0, .take 1, .take 2, .take 3, .take 4, .take 5, .take 6, .one 7, .take 8, .one 9]) (by kernel_rfl) ?_)
          refine TS_callE (valueT h8) ?_
          repeat (first | refine StepC.go ?_ | (refine TS_puw (Pu.addi ?_) ?_; · omega) | refine TD_take rfl rfl ?_ | refine TD_one rfl ?_ | refine FiltT_nil ?_ | refine FiltT_drop rfl ?_)
          refine ⟨_, ?_, j + 1, fam.set k (bk, lk.set y (cellA c)), rfl, by omega, tget_as rfl, inferInstance, inferInstance, inferInstance, inferInstance, inferInstance, inferInstance, inferInstance, ?_, by simp [hfl], ?_, ?_⟩
          · omega
          · rw [amR_set hx]; infer_instance
          · intro x hxx
            rcases List.mem_or_eq_of_mem_set hxx with h1 | rfl
            · exact hlen x h1
            · simpa using hlk
          · rw [take_snoc hcc, List.foldl_append, ← hfam]
            simp [putA, List.map_set, hk, hx]
        · have hjl : j = L.length := by have := of_decide_eq_false hc3; omega
          subst hjl
          rw [List.take_length] at hfam
          repeat (first | refine StepC.go ?_ | (refine TS_puw (Pu.addi ?_) ?_; · omega))
          refine ⟨_, ?_, y + 1, fam, rfl, by omega, tget_as rfl, inferInstance, inferInstance, inferInstance, inferInstance, hfl, hlen, by rw [hcs, hfam]⟩
          omega
      · have hyi : y = i := by have := of_decide_eq_false hc2; omega
        subst hyi
        have : Sm63 y := ⟨by omega⟩
        have q5 : LenT (amR y fam) y := ⟨by simp [amR, hfl]⟩
        have hfz := amR_frz (n := y) (B := (bs, .arr 1 (amR y fam) 37 true) :: amB fam) (fam := fam) (fun x hx => by
          have : BoxIs (amB fam) x.1 (.arr 3 (amRows x.2) 46 true) := ⟨List.mem_map.2 ⟨x, hx, rfl⟩⟩
          infer_instance) (by omega) hlen (by omega)
        refine TV_drop ((bs, .arr 1 (amR y fam) 37 true) :: amB fam) (List.sublist_cons_self _ _) ?_
        repeat (refine StepC.go ?_)
        refine retT_2 (.inr rfl) ?_
        rw [← hfam]
        rfl
instance : CallIs Try.prog 18 := .of Try.func18 rfl rfl
end Go.Ideal

-- Jk
set_option linter.unusedSimpArgs false
set_option linter.unusedVariables false
namespace Go.Ideal
open Go Go.Proofs Go.RowKit
/-! ### Whole numbers, turns: the reference -/
instance : FlIs (no_index 14069245235905429503) (-9007199254740991) := ⟨by decide +kernel, by decide⟩
theorem rWholeT {n : Int} [h : Sm53 n] : Fn Try.prog 91 [flT n] (fun r => r = boolT true) := by
  refine Fn_of Try.func91 rfl (Nat.le_of_ble_eq_true rfl) (fun X => ?_)
  have hl := h.lt
  have d1 : decide (-9007199254740991 ≤ n) = true := by simp; omega
  have d2 : decide (n ≤ 9007199254740991) = true := by simp; omega
  have d5 : decide (n = n) = true := by simp
  by_cases h0 : n = 0
  · subst h0
    simp only [flT, flb0]
    repeat (first | refine StepC.go ?_ | (refine TS_on rfl ?_ ?_; · first | rfl | assumption) | (refine TV_cond_f ?_ ?_; · first | rfl | assumption))
    refine retT_1 (.inr rfl) ?_
    rfl
  · have d3 : decide (n = 0) = false := by simpa using h0
    have d6 : (!if decide (-9007199254740991 ≤ n) = true then decide (n ≤ 9007199254740991) else false) = false := by rw [d1, d2]; rfl
    have d7 : (if (!if decide (-9007199254740991 ≤ n) = true then decide (n ≤ 9007199254740991) else false) = true then true else false) = false := by rw [d6]; rfl
    repeat (first | refine StepC.go ?_ | (refine TS_on rfl ?_ ?_; · first | rfl | assumption) | (refine TS_off rfl ?_ ?_; · first | rfl | assumption) | (refine TS_puw (Pu.pick_f ?_) ?_; · first | rfl | assumption) | (refine TV_cond_f ?_ ?_; · first | rfl | assumption))
    refine retT_1 (.inr rfl) ?_
    show Tr.v (.bool _) = _
    rw [d5]
instance : CallIs Try.prog 91 := .of Try.func91 rfl rfl
theorem rgCheckT {a b : Int} [h : Sm53 a] [h2 : Sm53 b] : Fn Try.prog 84 [cxT a b] (fun r => r = intT 0) := by
  refine Fn_of Try.func84 rfl (Nat.le_of_ble_eq_true rfl) (fun X => ?_)
  repeat (refine StepC.go ?_)
  refine TS_callE rWholeT ?_
  repeat (first | refine StepC.go ?_ | (refine TS_on rfl ?_ ?_; · first | rfl | assumption))
  refine TS_callE rWholeT ?_
  repeat (first | refine StepC.go ?_ | (refine TV_cond_t ?_ ?_; · first | rfl | assumption))
  exact retT_1 (.inr rfl) rfl
instance : CallIs Try.prog 84 := .of Try.func84 rfl rfl
theorem rPlainT {u v : Nat} {a b : Int} (h : FzIs u a) (h2 : FzIs v b) : Fn Try.prog 87 [.v (.float .f64 u), .v (.float .f64 v)] (fun r => r = cxT a b) := by
  refine Fn_of Try.func87 rfl (Nat.le_of_ble_eq_true rfl) (fun X => ?_)
  repeat (refine StepC.go ?_)
  exact retT_1 (.inr rfl) rfl
instance : CallIs Try.prog 87 := .of Try.func87 rfl rfl
theorem rgTurnT {a b : Int} [h : Sm53 a] [h2 : Sm53 b] : Fn Try.prog 79 [cxT a b, intT 1] (fun r => r = .tup [cxT (-b) a, intT 0]) := by
  refine Fn_of Try.func79 rfl (Nat.le_of_ble_eq_true rfl) (fun X => ?_)
  have hA : ibits .and .i64 1 3 = 1 := by decide +kernel
  have hz1 : FzIs (flb a) a := ⟨.inl rfl, h.lt⟩
  repeat (refine StepC.go ?_)
  refine TS_callE rgCheckT ?_
  repeat (first | refine StepC.go ?_ | (refine TV_cond_f ?_ ?_; · first | rfl | assumption))
  rw [hA]
  refine TV_loop (fun d σ B => (d = 1 ∧ TGet σ 9 (intT 1) ∧ TGet σ 7 (flT a) ∧ TGet σ 8 (flT b)) ∨ (d = 0 ∧ TGet σ 9 (intT 0) ∧ ∃ w, FzIs w (-b) ∧ TGet σ 7 (.v (.float .f64 w)) ∧ TGet σ 8 (flT a))) 1 (.inl ⟨rfl, inferInstance, inferInstance, inferInstance⟩) ?_
  rintro d σ B (⟨rfl, g9, g7, g8⟩ | ⟨rfl, g9, w, hw, g7, g8⟩)
  · repeat (first | refine StepC.go ?_ | intro _ | (refine TS_puw (Pu.subi ?_) ?_; · omega) | (refine TV_cond_t ?_ ?_; · first | rfl | assumption))
    rename_i w hw
    exact ⟨0, by omega, .inr ⟨rfl, inferInstance, w, hw, inferInstance, inferInstance⟩⟩
  · repeat (first | refine StepC.go ?_ | (refine TV_cond_f ?_ ?_; · first | rfl | assumption))
    refine TS_callE (rPlainT hw hz1) ?_
    repeat (refine StepC.go ?_)
    exact retT_2 (.inr rfl) rfl
instance : CallIs Try.prog 79 := .of Try.func79 rfl rfl
theorem rrCheckT {r : RgD} [h : RgS r] : Fn Try.prog 77 [rgT r] (fun t => t = intT 0) := by
  refine Fn_of Try.func77 rfl (Nat.le_of_ble_eq_true rfl) (fun X => ?_)
  have : Sm53 r.a := ⟨h.a⟩
  have : Sm53 r.b := ⟨h.b⟩
  have : Sm53 r.c := ⟨h.c⟩
  have : Sm53 r.d := ⟨h.d⟩
  repeat (first | refine StepC.go ?_ | intro _)
  refine TS_callE rgCheckT ?_
  repeat (first | refine StepC.go ?_ | (refine TS_on rfl ?_ ?_; · first | rfl | assumption))
  refine TS_callE rgCheckT ?_
  repeat (first | refine StepC.go ?_ | (refine TS_on rfl ?_ ?_; · first | rfl | assumption) | (refine TV_cond_f ?_ ?_; · first | rfl | assumption))
  exact retT_1 (.inr rfl) rfl
instance : CallIs Try.prog 77 := .of Try.func77 rfl rfl
/-- times w, k times -/
def rSteps : Nat → RgD → RgD
  | 0, r => r
  | n + 1, r => let s := rSteps n r; ⟨-s.d, s.c, s.a, s.b⟩
theorem rSteps_sm {r : RgD} (h : RgS r) : ∀ n, RgS (rSteps n r)
  | 0 => h
  | n + 1 => by
    have := rSteps_sm h n
    exact ⟨by show (-(rSteps n r).d).natAbs < _; rw [Int.natAbs_neg]; exact this.d, this.c, this.a, this.b⟩
theorem rrTurnT {r : RgD} [h : RgS r] {k : Nat} (hk : k < 8) : Fn Try.prog 68 [rgT r, intT (k : Int)] (fun t => t = .tup [rgT (rSteps k r), intT 0]) := by
  refine Fn_of Try.func68 rfl (Nat.le_of_ble_eq_true rfl) (fun X => ?_)
  have v1 : idivs .rem .i64 (k : Int) 8 = some (k : Int) := by
    match k, hk with
    | 0, _ | 1, _ | 2, _ | 3, _ | 4, _ | 5, _ | 6, _ | 7, _ => decide
  have v2 : idivs .rem .i64 ((k : Int) + 8) 8 = some (k : Int) := by
    match k, hk with
    | 0, _ | 1, _ | 2, _ | 3, _ | 4, _ | 5, _ | 6, _ | 7, _ => decide
  repeat (first | refine StepC.go ?_ | intro _)
  refine TS_callE rrCheckT ?_
  repeat (first | refine StepC.go ?_ | (refine TV_cond_f ?_ ?_; · first | rfl | assumption))
  refine TS_puw (Pu.divw (r := (k : Int)) (by decide) v1) ?_
  repeat ((refine TS_puw (Pu.addi ?_) ?_; · omega))
  refine TS_puw (Pu.divw (r := (k : Int)) (by decide) v2) ?_
  repeat (refine StepC.go ?_)
  rename_i po pr
  refine TV_loop (fun d σ B => ∃ i : Nat, d = k - i ∧ i ≤ k ∧ TGet σ 6 (intT (i : Int)) ∧ TGet σ 1 (intT (k : Int)) ∧ TGet σ 2 (.v (.pointer (some (ad po 0)))) ∧ TGet σ 4 (.v (.pointer (some (ad pr 0)))) ∧
    SubP B [(pr, .cells [.v (.complex .f64 0 0), .v (.complex .f64 0 0)] 44 true), (po, .cells (rgCs (rSteps i r)) 44 true)]) k
    ⟨0, by omega, by omega, tget_as rfl, inferInstance, inferInstance, inferInstance, by simp only [rSteps]; infer_instance⟩ ?_
  rintro d σ B ⟨i, rfl, hi, g6, g1, g2, g4, hB⟩
  refine TV_keep _ (p := hB) ?_
  have hs := rSteps_sm h i
  have : Sm53 (rSteps i r).a := ⟨hs.a⟩
  have : Sm53 (rSteps i r).b := ⟨hs.b⟩
  have : Sm53 (rSteps i r).c := ⟨hs.c⟩
  have : Sm53 (rSteps i r).d := ⟨hs.d⟩
  repeat (refine StepC.go ?_)
  refine TV_cond ?_ ?_ <;> intro hc
  · have hik : i < k := by have := of_decide_eq_true hc; omega
    repeat (refine StepC.go ?_)
    refine TS_callE rgTurnT ?_
    repeat (first | refine StepC.go ?_ | (refine TS_puw (Pu.addi ?_) ?_; · omega))
    refine ⟨_, ?_, i + 1, rfl, by omega, tget_as rfl, inferInstance, inferInstance, inferInstance, ?_⟩
    · omega
    · simp only [rSteps]; infer_instance
  · have hik : i = k := by have := of_decide_eq_false hc; omega
    subst hik
    repeat (refine StepC.go ?_)
    exact retT_2 (.inr rfl) rfl
instance : CallIs Try.prog 68 := .of Try.func68 rfl rfl
end Go.Ideal

-- Jl
set_option linter.unusedSimpArgs false
set_option linter.unusedVariables false
namespace Go.Ideal
open Go Go.Proofs Go.RowKit
/-! ### Powers of w: the reference -/
theorem rEven1T : Fn Try.prog 85 [cxT 1 0] (fun r => r = boolT false) := by
  refine Fn_of Try.func85 rfl (Nat.le_of_ble_eq_true rfl) (fun X => ?_)
  have s1 : Sm53 1 := ⟨by decide⟩
  have s0 : Sm53 0 := ⟨by decide⟩
  repeat (first | refine StepC.go ?_ | (refine TS_puw (Pu.subi ?_) ?_; · omega))
  refine TS_puw (Pu.divw (r := 1) (by decide) (by decide)) ?_
  repeat (refine StepC.go ?_)
  exact retT_1 (.inr rfl) rfl
instance : CallIs Try.prog 85 := .of Try.func85 rfl rfl
theorem rHalve1T : Fn Try.prog 78 [rgT oneR] (fun r => r = .tup [rgT ⟨0, 0, 0, 0⟩, boolT false, intT 0]) := by
  refine Fn_of Try.func78 rfl (Nat.le_of_ble_eq_true rfl) (fun X => ?_)
  repeat (first | refine StepC.go ?_ | intro _)
  refine TS_callE rrCheckT ?_
  repeat (first | refine StepC.go ?_ | (refine TV_cond_f ?_ ?_; · first | rfl | assumption))
  refine TS_callE rEven1T ?_
  repeat (first | refine StepC.go ?_ | (refine TS_off rfl ?_ ?_; · first | rfl | assumption) | (refine TS_puw (Pu.pick_t ?_) ?_; · first | rfl | assumption) | (refine TV_cond_t ?_ ?_; · first | rfl | assumption))
  refine retT_3 (.inr rfl) ?_
  simp only [rgT, rgCs, cxT, flb0]; rfl
instance : CallIs Try.prog 78 := .of Try.func78 rfl rfl
theorem raCheck1T {k : Int} (hk : k = 0 ∨ k = 1) : Fn Try.prog 67 [amT ⟨oneR, k⟩] (fun r => r = intT 0) := by
  refine Fn_of Try.func67 rfl (Nat.le_of_ble_eq_true rfl) (fun X => ?_)
  repeat (first | refine StepC.go ?_ | intro _)
  refine TS_callE (rrCheckT (r := oneR)) ?_
  rcases hk with rfl | rfl
  · repeat (first | refine StepC.go ?_ | (refine TS_on rfl ?_ ?_; · first | rfl | assumption) | (refine TV_cond_f ?_ ?_; · first | rfl | assumption))
    exact retT_1 (.inr rfl) rfl
  · repeat (first | refine StepC.go ?_ | (refine TS_on rfl ?_ ?_; · first | rfl | assumption) | (refine TV_cond_t ?_ ?_; · first | rfl | assumption) | (refine TV_cond_f ?_ ?_; · first | rfl | assumption))
    refine TS_callE rHalve1T ?_
    repeat (first | refine StepC.go ?_ | intro _ | (refine TV_cond_f ?_ ?_; · first | rfl | assumption))
    exact retT_1 (.inr rfl) rfl
instance : CallIs Try.prog 67 := .of Try.func67 rfl rfl
theorem raTurn1T {k : Int} (hk : k = 0 ∨ k = 1) {t : Nat} (ht : t < 8) : Fn Try.prog 50 [amT ⟨oneR, k⟩, intT (t : Int)] (fun r => r = .tup [amT ⟨rSteps t oneR, k⟩, intT 0]) := by
  refine Fn_of Try.func50 rfl (Nat.le_of_ble_eq_true rfl) (fun X => ?_)
  repeat (first | refine StepC.go ?_ | intro _)
  refine TS_callE (raCheck1T hk) ?_
  repeat (first | refine StepC.go ?_ | (refine TV_cond_f ?_ ?_; · first | rfl | assumption))
  refine TS_callE (rrTurnT (r := oneR) ht) ?_
  repeat (first | refine StepC.go ?_ | intro _)
  exact retT_2 (.inr rfl) rfl
instance : CallIs Try.prog 50 := .of Try.func50 rfl rfl
def powA (t : Nat) (k : Int) : AmD := ⟨rSteps t oneR, k⟩
theorem powerT {k : Int} (hk : k = 0 ∨ k = 1) {t : Nat} (ht : t < 8) : Fn Try.prog 33 [intT (t : Int), intT k] (fun r => r = amT (powA t k)) := by
  refine Fn_of Try.func33 rfl (Nat.le_of_ble_eq_true rfl) (fun X => ?_)
  have e1 : Fn Try.prog 50 [.agg [.v (.complex .f64 4607182418800017408 0), .v (.complex .f64 0 0), intT k], intT (t : Int)] (fun r => r = .tup [amT ⟨rSteps t oneR, k⟩, intT 0]) := by
    have h := raTurn1T hk ht
    simp only [amT, amCs, cxT, flb1, flb0] at h ⊢
    exact h
  repeat (first | refine StepC.go ?_ | intro _)
  refine TS_callE e1 ?_
  repeat (first | refine StepC.go ?_ | intro _)
  exact retT_1 (.inr rfl) rfl
instance : CallIs Try.prog 33 := .of Try.func33 rfl rfl
end Go.Ideal

-- Jm
set_option linter.unusedSimpArgs false
set_option linter.unusedVariables false
namespace Go.Ideal
open Go Go.Proofs Go.RowKit
/-! ### Entries: the reference, evaluated at all places -/
def entS (q : ColD) (x y : Nat) : Int × Int := match (colV q y).find? (fun c => decide (c.row = (x : Int))) with
  | some c => (c.turn, c.under)
  | none => (-1, 0)
def placesOf (p : KE × ColD) : List (Nat × Nat) := (List.range (wS p.1)).flatMap fun x => (List.range (wS p.1)).map fun y => (x, y)
def tupEq (v : Value) (x y : Int) : Bool := match v with
  | .tuple a => match a.toList with
    | [.int .i64 u, .int .i64 w] => decide (u = x) && decide (w = y)
    | _ => false
  | _ => false
theorem tupEq_eq {v : Value} {x y : Int} (h : tupEq v x y = true) : v = .tuple [.int .i64 x, .int .i64 y].toArray := by
  unfold tupEq at h
  split at h
  · rename_i a
    split at h
    · rename_i u w ha
      simp only [Bool.and_eq_true, decide_eq_true_eq] at h
      obtain ⟨rfl, rfl⟩ := h
      rw [← ha]
    · cases h
  · cases h
noncomputable def entRan (p : KE × ColD) (h : IHp) (c : Nat × Nat) : Option (Bool × IHp) := (icall Try.prog 60 (.fn 32) #[.string p.1.name, .int .i64 c.1, .int .i64 c.2] h).map (fun r => (tupEq r.1 (entS p.2 c.1 c.2).1 (entS p.2 c.1 c.2).2, r.2))
theorem ents_ran (h : IHp) : ((KT.zip KC).drop 21).map (fun p => (placesOf p).map (entRan p h)) = ((KT.zip KC).drop 21).map (fun p => (placesOf p).map fun _ => some (true, h)) := by kernel_rfl
theorem ents_ran1 (h : IHp) : ((KT.zip KC).take 21).map (fun p => (placesOf p).map (entRan p h)) = ((KT.zip KC).take 21).map (fun p => (placesOf p).map fun _ => some (true, h)) := by kernel_rfl
theorem entT {b : ByteArray} {e : KE} {q : ColD} (h1 : kOf b = some e) (h2 : colOf b = some q) {x y : Nat} (hx : x < wS e) (hy : y < wS e) : Fn Try.prog 32 [strT b, intT (x : Int), intT (y : Int)] (fun r => r = .tup [intT (entS q x y).1, intT (entS q x y).2]) := by
  refine Fn_vals (ws := [_, _, _]) (w := .tuple [.int .i64 (entS q x y).1, .int .i64 (entS q x y).2].toArray) (fun h => ?_) (fun F => rep_pair _ _)
  have hz := zip_of h1 h2
  have hm : (placesOf (e, q)).map (entRan (e, q) h) = (placesOf (e, q)).map fun _ => some (true, h) := by
    rw [← List.take_append_drop 21 (KT.zip KC)] at hz
    rcases List.mem_append.1 hz with h3 | h3
    · exact List.map_inj_left.1 (ents_ran1 h) _ h3
    · exact List.map_inj_left.1 (ents_ran h) _ h3
  have hp : (x, y) ∈ placesOf (e, q) := by
    simp only [placesOf, List.mem_flatMap, List.mem_map, List.mem_range]
    exact ⟨x, hx, y, hy, rfl⟩
  have h4 := List.map_inj_left.1 hm _ hp
  unfold entRan at h4
  obtain ⟨⟨w, h'⟩, h5, h6⟩ := Option.map_eq_some_iff.1 h4
  simp only [Prod.mk.injEq] at h6
  obtain ⟨h7, h8⟩ := h6
  subst h8
  unfold EvX
  refine ⟨w, h', ⟨60, ?_⟩, tupEq_eq h7, Ext.refl _⟩
  have hb : b = e.name := (kOf_mem h1).2
  rw [hb]
  exact h5
instance : CallIs Try.prog 32 := .of Try.func32 rfl rfl
end Go.Ideal

-- Jn
set_option linter.unusedSimpArgs false
set_option linter.unusedVariables false
namespace Go.Ideal
open Go Go.Proofs Go.RowKit
/-! ### A column: the reference -/
theorem refArityT (b : ByteArray) : Fn Try.prog 9 [strT b] (fun r => r = intT (arityS b)) := Fn_vals (ws := [_]) (fun h => (refArity_spec b h).mono fun v h' ⟨a, c⟩ => ⟨a, c ▸ Ext.refl _⟩) (fun F => rep_v _)
theorem colV_under (q : ColD) (y : Nat) : ∀ c ∈ colV q y, c.under = 0 ∨ c.under = 1 := by
  intro c hc
  cases q <;> simp only [colV] at hc <;> (repeat' split at hc) <;> simp only [List.mem_cons, List.not_mem_nil, or_false] at hc <;>
    first | (rcases hc with rfl | rfl <;> simp) | (rw [hc]; simp)
theorem entS_ok {e : KE} {q : ColD} (g : GFine e q) (x y : Nat) : (entS q x y).1 = -1 ∨ ((0 ≤ (entS q x y).1 ∧ (entS q x y).1 < 8) ∧ ((entS q x y).2 = 0 ∨ (entS q x y).2 = 1)) := by
  unfold entS
  split
  · rename_i c hc
    have hm := List.mem_of_find?_eq_some hc
    exact .inr ⟨g.tu y c hm, colV_under q y c hm⟩
  · exact .inl rfl
def entA (q : ColD) (x y : Nat) : AmD := powA (entS q x y).1.toNat (entS q x y).2
def refRows (q : ColD) (y n : Nat) : List Nat := (List.range n).filter fun x => decide (0 ≤ (entS q x y).1)
def refColumnS (b : ByteArray) (y : Int) : List Int × List AmD × Int :=
  match kOf b, colOf b with
  | some e, some q => if y < 0 ∨ (wS e : Int) ≤ y then ([], [], 2) else ((refRows q y.toNat (wS e)).map (fun x : Nat => (x : Int)), (refRows q y.toNat (wS e)).map (fun x => entA q x y.toNat), 0)
  | _, _ => ([], [], 80)
theorem refRows_succ (q : ColD) (y n : Nat) : refRows q y (n + 1) = refRows q y n ++ (if 0 ≤ (entS q n y).1 then [n] else []) := by
  unfold refRows
  rw [List.range_succ, List.filter_append]
  congr 1
  by_cases h : 0 ≤ (entS q n y).1 <;> simp [h]
theorem colOf_some {b : ByteArray} {e : KE} (h : kOf b = some e) : ∃ q, colOf b = some q := by
  have hz : ∀ (l : List KE) (m : List ColD), l.length = m.length → l.find? (fun e => beqS b e.name) = some e → ∃ q, ((l.zip m).find? fun x => beqS b x.1.name).map (·.2) = some q := by
    intro l
    induction l with
    | nil => intro m _ h; cases h
    | cons a l ih =>
      intro m hm h3
      match m, hm with
      | c :: m, hm =>
        rw [List.find?_cons] at h3
        rw [List.zip_cons_cons, List.find?_cons]
        cases hb : beqS b a.name with
        | true => exact ⟨c, by simp [hb]⟩
        | false =>
          simp only [hb] at h3 ⊢
          exact ih m (by simpa using hm) h3
  exact hz KT KC rfl h
theorem arity_of {b : ByteArray} {e : KE} (h : kOf b = some e) : arityS b = e.arity := by simp only [arityS, h]
set_option synthInstance.maxSize 4000 in
set_option synthInstance.maxHeartbeats 400000 in
set_option maxHeartbeats 4000000 in
theorem refColumnT {b : ByteArray} {y : Int} : Fn Try.prog 22 [strT b, intT y] (fun r => r = .tup [.sl 1 (intRows (refColumnS b y).1), .sl 3 (amRows (refColumnS b y).2.1), intT (refColumnS b y).2.2]) := by
  refine Fn_of Try.func22 rfl (Nat.le_of_ble_eq_true rfl) (fun X => ?_)
  repeat (refine StepC.go ?_)
  refine TS_callE (refArityT b) ?_
  cases hk : kOf b with
  | none =>
    have h0 : arityS b = 0 := arityS_pos.2 hk
    rw [h0]
    repeat (first | refine StepC.go ?_ | (refine TV_cond_t ?_ ?_; · first | rfl | assumption))
    refine retT_3c [.sl 1 [], .sl 3 [], intT 80] (.inr rfl) ?_
    simp only [refColumnS, hk]; rfl
  | some e =>
    obtain ⟨q, hq⟩ := colOf_some hk
    have g := fine_of hk hq
    have hsh := wS_shi g
    have hw := wS_le g
    rw [arity_of hk]
    have d0 : decide (e.arity = 0) = false := by have := g.ar; simp; omega
    repeat (first | refine StepC.go ?_ | (refine TV_cond_f ?_ ?_; · first | rfl | assumption))
    by_cases hy : y < 0
    · have d1 : decide (y < 0) = true := by simpa using hy
      repeat (first | refine StepC.go ?_ | (refine TS_off rfl ?_ ?_; · first | rfl | assumption) | (refine TS_puw (Pu.pick_t ?_) ?_; · first | rfl | assumption) | (refine TV_cond_t ?_ ?_; · first | rfl | assumption))
      refine retT_3c [.sl 1 [], .sl 3 [], intT 2] (.inr rfl) ?_
      simp only [refColumnS, hk, hq]; rw [if_pos (.inl hy)]; rfl
    have d1 : decide (y < 0) = false := by simpa using hy
    repeat (first | refine StepC.go ?_ | (refine TS_on rfl ?_ ?_; · first | rfl | assumption))
    by_cases hy2 : (wS e : Int) ≤ y
    · have d2 : decide ((wS e : Int) ≤ y) = true := by simpa using hy2
      have d3 : (if decide (y < 0) = true then true else decide ((wS e : Int) ≤ y)) = true := by rw [d1, d2]; rfl
      repeat (first | refine StepC.go ?_ | (refine TV_cond_t ?_ ?_; · first | rfl | assumption))
      refine retT_3c [.sl 1 [], .sl 3 [], intT 2] (.inr rfl) ?_
      simp only [refColumnS, hk, hq]; rw [if_pos (.inr hy2)]; rfl
    have d2 : decide ((wS e : Int) ≤ y) = false := by simpa using hy2
    obtain ⟨yn, rfl⟩ : ∃ n : Nat, y = n := ⟨y.toNat, by omega⟩
    have hyn : yn < wS e := by omega
    repeat (first | refine StepC.go ?_ | (refine TV_cond_f ?_ ?_; · first | rfl | assumption))
    obtain ⟨n, hn⟩ : ∃ n, n = wS e := ⟨_, rfl⟩
    have hrc : refColumnS b (yn : Int) = ((refRows q yn n).map (fun x : Nat => (x : Int)), (refRows q yn n).map (fun x => entA q x yn), 0) := by
      simp only [refColumnS, hk, hq]
      rw [if_neg (by omega), Int.toNat_natCast, hn]
    rw [hrc]
    have hent := fun {x} (hx : x < n) => entT hk hq (x := x) (y := yn) (hn ▸ hx) hyn
    rw [← hn] at hsh hw hyn
    have hbd : ∀ i, (refRows q yn i).length ≤ i := fun i => by
      have := List.length_filter_le (fun x => decide (0 ≤ (entS q x yn).1)) (List.range i)
      simpa [refRows] using this
    refine TV_ghost 1 3 ?_
    intro g1
    refine TV_ghost 3 46 ?_
    intro g2
    refine TV_loop (fun d σ B => ∃ (i : Nat) (b1 b2 : Nat), d = n - i ∧ i ≤ n ∧ TGet σ 10 (intT (i : Int)) ∧ TGet σ 7 (intT e.arity) ∧ TGet σ 0 (strT b) ∧ TGet σ 1 (intT (yn : Int)) ∧ TGet σ 8 (.v (gsv b1 (refRows q yn i).length)) ∧ TGet σ 9 (.v (gsv b2 (refRows q yn i).length)) ∧
      SubP B [(b1, .arr 1 (intRows ((refRows q yn i).map (fun x : Nat => (x : Int)))) 3 false), (b2, .arr 3 (amRows ((refRows q yn i).map (fun x => entA q x yn))) 46 false)]) n
      ⟨0, g1, g2, by omega, by omega, tget_as rfl, inferInstance, inferInstance, inferInstance, tget_as rfl, tget_as rfl, ⟨_, List.Perm.swap _ _ _⟩⟩ ?_
    rintro d σ B ⟨i, b1, b2, rfl, hi, g10, g7, g0, g1', g8, g9, hB⟩
    refine TV_keep _ (p := hB) ?_
    have hm := hbd i
    repeat (refine StepC.go ?_)
    refine TV_cond ?_ ?_ <;> intro hc
    · have hin : i < n := by have := of_decide_eq_true hc; omega
      have hsu := refRows_succ q yn i
      have hok := entS_ok g i yn
      have hea : ∀ p u, (entS q i yn) = (p, u) → entA q i yn = powA p.toNat u := fun p u h => by simp only [entA, h]
      repeat (refine StepC.go ?_)
      refine TS_callE (hent hin) ?_
      obtain ⟨⟨p, u⟩, hpu⟩ : ∃ pu, entS q i yn = pu := ⟨_, rfl⟩
      have hea2 := hea p u hpu
      rw [hpu] at hok hsu ⊢
      simp only at hok hsu ⊢
      have ln1 : LenT (intRows ((refRows q yn i).map (fun x : Nat => (x : Int)))) (refRows q yn i).length := ⟨by simp [intRows]⟩
      have ln2 : LenT (amRows ((refRows q yn i).map (fun x => entA q x yn))) (refRows q yn i).length := ⟨by simp [amRows]⟩
      have lo1 : LenO (intRows ((refRows q yn i).map (fun x : Nat => (x : Int)))) (refRows q yn i).length := ⟨by simp [intRows]⟩
      have lo2 : LenO (amRows ((refRows q yn i).map (fun x => entA q x yn))) (refRows q yn i).length := ⟨by simp [amRows]⟩
      rcases hok with rfl | ⟨⟨p0, p8⟩, hu⟩
      · rw [if_neg (by omega), List.append_nil] at hsu
        repeat (first | refine StepC.go ?_ | (refine TS_puw (Pu.addi ?_) ?_; · omega) | (refine TV_cond_f ?_ ?_; · first | rfl | assumption))
        refine ⟨_, ?_, i + 1, b1, b2, rfl, by omega, tget_as rfl, inferInstance, inferInstance, inferInstance, ?_, ?_, ?_⟩
        · omega
        · rw [hsu]; infer_instance
        · rw [hsu]; infer_instance
        · rw [hsu]; infer_instance
      · rw [if_pos p0] at hsu
        have d4 : decide (0 ≤ p) = true := by simpa using p0
        obtain ⟨pn, rfl⟩ : ∃ pn : Nat, p = pn := ⟨p.toNat, by omega⟩
        have hs1 : 24 * ((refRows q yn i).length + 1) ≤ 2 ^ 47 + 2 ^ 20 := by omega
        repeat (first | refine StepC.go ?_ | intro _ | (refine TS_append ?_ (fun _ => ?_); · omega) | (refine TV_cond_t ?_ ?_; · first | rfl | assumption))
        refine TS_callE (powerT hu (by omega)) ?_
        repeat (first | refine StepC.go ?_ | intro _ | (refine TS_puw (Pu.addi ?_) ?_; · omega) | (refine TS_append ?_ (fun _ => ?_); · omega))
        rename_i w1 w2 w3 w4
        have hl3 : (refRows q yn (i + 1)).length = (refRows q yn i).length + 1 := by rw [hsu]; simp
        have hr1 : intRows ((refRows q yn (i + 1)).map (fun x : Nat => (x : Int))) = intRows ((refRows q yn i).map (fun x : Nat => (x : Int))) ++ [[intT (i : Int)]] := by rw [hsu]; simp [intRows]
        have hr2 : amRows ((refRows q yn (i + 1)).map (fun x => entA q x yn)) = amRows ((refRows q yn i).map (fun x => entA q x yn)) ++ [amCs (powA pn u)] := by rw [hsu]; simp [amRows, hea2]
        refine ⟨_, ?_, i + 1, w2, w4, rfl, by omega, tget_as rfl, inferInstance, inferInstance, inferInstance, ?_, ?_, ?_⟩
        · omega
        · rw [hl3]; infer_instance
        · rw [hl3]; infer_instance
        · rw [hr1, hr2]; infer_instance
    · have hin : i = n := by have := of_decide_eq_false hc; omega
      subst hin
      have ln1 : LenT (intRows ((refRows q yn i).map (fun x : Nat => (x : Int)))) (refRows q yn i).length := ⟨by simp [intRows]⟩
      have ln2 : LenT (amRows ((refRows q yn i).map (fun x => entA q x yn))) (refRows q yn i).length := ⟨by simp [amRows]⟩
      have : Sm63 (refRows q yn i).length := ⟨by omega⟩
      repeat (refine StepC.go ?_)
      exact retT_3 (.inr rfl) rfl
instance : CallIs Try.prog 22 := .of Try.func22 rfl rfl
end Go.Ideal

-- Jo
set_option linter.unusedSimpArgs false
set_option linter.unusedVariables false
namespace Go.Ideal
open Go Go.Proofs Go.RowKit
/-! ### A gate's matrix: the reference -/
def entZ (q : ColD) (x j : Nat) : AmD := if 0 ≤ (entS q x j).1 then entA q x j else zeroA
def rowK (q : ColD) (x n y : Nat) : List AmD := (List.range n).map fun j => if j < y then entZ q x j else zeroA
def refRow (q : ColD) (n x : Nat) : List AmD := (List.range n).map (entZ q x)
def refMatrixC (b : ByteArray) : List (List AmD) × Int :=
  match kOf b, colOf b with
  | some e, some q => ((List.range (wS e)).map (refRow q (wS e)), 0)
  | _, _ => ([], 80)
theorem rowK_0 (q : ColD) (x n : Nat) : rowK q x n 0 = List.replicate n zeroA := by
  unfold rowK
  rw [List.eq_replicate_iff]
  exact ⟨by simp, fun a ha => by
    obtain ⟨j, _, rfl⟩ := List.mem_map.1 ha
    simp⟩
theorem rowK_n (q : ColD) (x n : Nat) : rowK q x n n = refRow q n x := by
  unfold rowK refRow
  exact List.map_congr_left fun j hj => by rw [if_pos (List.mem_range.1 hj)]
theorem rowK_succ (q : ColD) (x n y : Nat) (hy : y < n) : rowK q x n (y + 1) = (rowK q x n y).set y (entZ q x y) := by
  refine List.ext_getElem? fun j => ?_
  rw [List.getElem?_set]
  unfold rowK
  simp only [List.getElem?_map, List.length_map, List.length_range]
  by_cases hj : y = j
  · subst hj
    rw [if_pos rfl, if_pos hy, List.getElem?_range hy]; simp
  · rw [if_neg hj]
    by_cases hn : j < n
    · rw [List.getElem?_range hn]
      simp only [Option.map_some, Option.some.injEq]
      by_cases h2 : j < y
      · rw [if_pos h2, if_pos (by omega)]
      · rw [if_neg h2, if_neg (by omega)]
    · rw [List.getElem?_eq_none (by simp; omega)]; rfl
theorem rowK_skip (q : ColD) (x n y : Nat) (h : (entS q x y).1 = -1) : rowK q x n (y + 1) = rowK q x n y := by
  unfold rowK
  refine List.map_congr_left fun j hj => ?_
  by_cases h2 : j < y
  · rw [if_pos h2, if_pos (by omega)]
  · by_cases h3 : j = y
    · subst h3
      rw [if_pos (by omega), if_neg (by omega)]
      unfold entZ; rw [if_neg (by omega)]
    · rw [if_neg h2, if_neg (by omega)]
set_option synthInstance.maxSize 4000 in
set_option synthInstance.maxHeartbeats 400000 in
set_option maxHeartbeats 4000000 in
theorem refMatrixT {b : ByteArray} : Fn Try.prog 19 [strT b] (fun r => r = .tup [matT (refMatrixC b).1, intT (refMatrixC b).2]) := by
  refine Fn_of Try.func19 rfl (Nat.le_of_ble_eq_true rfl) (fun X => ?_)
  repeat (refine StepC.go ?_)
  refine TS_callE (refArityT b) ?_
  cases hk : kOf b with
  | none =>
    have h0 : arityS b = 0 := arityS_pos.2 hk
    rw [h0]
    repeat (first | refine StepC.go ?_ | (refine TV_cond_t ?_ ?_; · first | rfl | assumption))
    refine retT_2c [.sl 1 [], intT 80] (.inr rfl) ?_
    simp only [refMatrixC, hk]; rfl
  | some e =>
    obtain ⟨q, hq⟩ := colOf_some hk
    have g := fine_of hk hq
    have hsh := wS_shi g
    have hw := wS_le g
    rw [arity_of hk]
    have d0 : decide (e.arity = 0) = false := by have := g.ar; simp; omega
    repeat (first | refine StepC.go ?_ | (refine TV_cond_f ?_ ?_; · first | rfl | assumption))
    obtain ⟨n, hn⟩ : ∃ n, n = wS e := ⟨_, rfl⟩
    have hrc : refMatrixC b = ((List.range n).map (refRow q n), 0) := by
      simp only [refMatrixC, hk, hq]
      rw [hn]
    rw [hrc]
    have hent := fun {x y} (hx : x < n) (hy : y < n) => entT hk hq (x := x) (y := y) (hn ▸ hx) (hn ▸ hy)
    rw [← hn] at hsh hw
    refine TV_ghost 1 37 ?_
    intro g1
    refine TV_loop (fun d σ B => ∃ (i : Nat) (bo : Nat) (fam : List (Nat × List AmD)), d = n - i ∧ i ≤ n ∧ TGet σ 6 (intT (i : Int)) ∧ TGet σ 4 (intT e.arity) ∧ TGet σ 0 (strT b) ∧ TGet σ 5 (.v (gsv bo i)) ∧
      SubP B ((bo, .arr 1 (amR n fam) 37 false) :: amB fam) ∧ fam.length = i ∧ (∀ x ∈ fam, x.2.length = n) ∧ fam.map Prod.snd = (List.range i).map (refRow q n)) n
      ⟨0, g1, [], by omega, by omega, tget_as rfl, inferInstance, inferInstance, tget_as rfl, ⟨[], List.Perm.refl _⟩, rfl, (fun x hx => by cases hx), rfl⟩ ?_
    rintro d σ B ⟨i, bo, fam, rfl, hi, g6, g4, g0, g5, hB, hfl, hlen, hfam⟩
    refine TV_keep _ (p := hB) ?_
    repeat (refine StepC.go ?_)
    refine TV_cond ?_ ?_ <;> intro hc
    · have hin : i < n := by have := of_decide_eq_true hc; omega
      repeat (first | refine StepC.go ?_ | (refine TS_makeSlice ?_ (fun _ => ?_); · omega))
      rename_i br
      have hz0 : List.replicate n [Tr.v (.complex .f64 0 0), .v (.complex .f64 0 0), .v (.int .i64 0)] = amRows (rowK q i n 0) := by rw [rowK_0, ← zeroA_cs]; simp [amRows]
      rw [hz0]
      refine TV_loop (fun d σ B => ∃ (y : Nat), d = n - y ∧ y ≤ n ∧ TGet σ 8 (intT (y : Int)) ∧ TGet σ 7 (.v (.slice (some (ad br 0)) n n)) ∧ TGet σ 6 (intT (i : Int)) ∧ TGet σ 4 (intT e.arity) ∧ TGet σ 0 (strT b) ∧ TGet σ 5 (.v (gsv bo i)) ∧
        SubP B ((br, .arr 3 (amRows (rowK q i n y)) 46 true) :: (bo, .arr 1 (amR n fam) 37 false) :: amB fam)) n
        ⟨0, by omega, by omega, tget_as rfl, inferInstance, inferInstance, inferInstance, inferInstance, inferInstance, inferInstance⟩ ?_
      rintro d σ B ⟨y, rfl, hy, g8, g7, g6, g4, g0, g5, hB⟩
      refine TV_keep _ (p := hB) ?_
      have q6 : LenT (amRows (rowK q i n y)) n := ⟨by simp [amRows, rowK]⟩
      repeat (refine StepC.go ?_)
      refine TV_cond ?_ ?_ <;> intro hc2
      · have hyn : y < n := by have := of_decide_eq_true hc2; omega
        have hok := entS_ok g i y
        have hea : ∀ p u, (entS q i y) = (p, u) → entA q i y = powA p.toNat u := fun p u h => by simp only [entA, h]
        obtain ⟨a0, ha0⟩ : ∃ a, (rowK q i n y)[y]? = some a := ⟨_, List.getElem?_eq_getElem (by simp [rowK]; omega)⟩
        have q7 : NthG (amRows (rowK q i n y)) y (amCs a0) := .map amCs ha0
        repeat (refine StepC.go ?_)
        refine TS_callE (hent hin hyn) ?_
        obtain ⟨⟨p, u⟩, hpu⟩ : ∃ pu, entS q i y = pu := ⟨_, rfl⟩
        have hea2 := hea p u hpu
        have hsk := rowK_skip q i n y
        have hsc := rowK_succ q i n y hyn
        have hez : entZ q i y = if 0 ≤ (entS q i y).1 then entA q i y else zeroA := rfl
        rw [hpu] at hok hsk hez ⊢
        simp only at hok hsk hez ⊢
        rcases hok with rfl | ⟨⟨p0, p8⟩, hu⟩
        · have hsk := hsk rfl
          repeat (first | refine StepC.go ?_ | (refine TS_puw (Pu.addi ?_) ?_; · omega) | (refine TV_cond_f ?_ ?_; · first | rfl | assumption))
          refine ⟨_, ?_, y + 1, rfl, by omega, tget_as rfl, inferInstance, inferInstance, inferInstance, inferInstance, inferInstance, ?_⟩
          · omega
          · rw [hsk]; infer_instance
        · have d4 : decide (0 ≤ p) = true := by simpa using p0
          obtain ⟨pn, rfl⟩ : ∃ pn : Nat, p = pn := ⟨p.toNat, by omega⟩
          rw [if_pos p0, hea2, Int.toNat_natCast] at hez
          rw [hez] at hsc
          have q8 : SetR (amRows (rowK q i n y)) y (amCs (powA pn u)) (amRows (rowK q i n (y + 1))) := ⟨by rw [hsc]; simp [amRows, List.map_set]⟩
          repeat (first | refine StepC.go ?_ | (refine TV_cond_t ?_ ?_; · first | rfl | assumption))
          refine TS_callE (powerT hu (by omega)) ?_
          repeat (first | refine StepC.go ?_ | (refine TS_puw (Pu.addi ?_) ?_; · omega))
          refine ⟨_, ?_, y + 1, rfl, by omega, tget_as rfl, inferInstance, inferInstance, inferInstance, inferInstance, inferInstance, inferInstance⟩
          omega
      · have hyn : y = n := by have := of_decide_eq_false hc2; omega
        subst hyn
        have hs1 : 24 * (i + 1) ≤ 2 ^ 47 + 2 ^ 20 := by omega
        have ln1 : LenT (amR y fam) i := ⟨by simp [amR, hfl]⟩
        have lo1 : LenO (amR y fam) i := ⟨by simp [amR, hfl]⟩
        rw [rowK_n]
        repeat (first | refine StepC.go ?_ | intro _ | (refine TS_puw (Pu.addi ?_) ?_; · omega) | (refine TS_append ?_ (fun _ => ?_); · omega))
        rename_i w1 w2
        refine ⟨_, ?_, i + 1, w2, fam ++ [(br, refRow q y i)], rfl, by omega, tget_as rfl, inferInstance, inferInstance, inferInstance, ?_, by simp [hfl], ?_, ?_⟩
        · omega
        · have e1 : amR y (fam ++ [(br, refRow q y i)]) = amR y fam ++ [[.v (.slice (some (ad br 0)) y y)]] := by simp [amR]
          have e2 : amB (fam ++ [(br, refRow q y i)]) = amB fam ++ [(br, .arr 3 (amRows (refRow q y i)) 46 true)] := by simp [amB]
          rw [e1, e2]
          exact ⟨[_], (List.Perm.cons _ (List.perm_append_singleton _ (_ :: _)).symm).trans (List.perm_append_singleton _ _).symm⟩
        · intro x hx
          rcases List.mem_append.1 hx with h1 | h1
          · exact hlen x h1
          · rw [List.mem_singleton.1 h1]; simp [refRow]
        · rw [List.map_append, hfam, List.range_succ, List.map_append]; rfl
    · have hin : i = n := by have := of_decide_eq_false hc; omega
      subst hin
      have : Sm63 i := ⟨by omega⟩
      have q5 : LenT (amR i fam) i := ⟨by simp [amR, hfl]⟩
      have hfz := amR_frz (n := i) (B := (bo, .arr 1 (amR i fam) 37 false) :: amB fam) (fam := fam) (fun x hx => by
        have : BoxIs (amB fam) x.1 (.arr 3 (amRows x.2) 46 true) := ⟨List.mem_map.2 ⟨x, hx, rfl⟩⟩
        infer_instance) (by omega) hlen (by omega)
      repeat (refine StepC.go ?_)
      refine retT_2 (.inr rfl) ?_
      rw [← hfam]
      rfl
instance : CallIs Try.prog 19 := .of Try.func19 rfl rfl
end Go.Ideal

-- Jp
set_option linter.unusedSimpArgs false
set_option linter.unusedVariables false
namespace Go.Ideal
open Go Go.Proofs Go.RowKit
/-! ### The program's columns and matrices are the reference's -/
def colEq (p : KE × ColD) : Bool := (List.range (wS p.1)).all fun y => decide ((colV p.2 y).map (·.row) = (refRows p.2 y (wS p.1)).map (fun x : Nat => (x : Int))) && decide ((colV p.2 y).map cellA = (refRows p.2 y (wS p.1)).map (fun x => entA p.2 x y))
theorem cols_all : (KT.zip KC).all colEq = true := by decide +kernel
def matEq (p : KE × ColD) : Bool := decide (matrixS p.1 p.2 = (List.range (wS p.1)).map (refRow p.2 (wS p.1)))
theorem mats_all : (KT.zip KC).all matEq = true := by decide +kernel
theorem column_eq (b : ByteArray) (y : Int) : columnS b y = refColumnS b y := by
  unfold columnS refColumnS
  cases hk : kOf b with
  | none => rfl
  | some e =>
    cases hq : colOf b with
    | none => rfl
    | some q =>
      simp only
      split
      · rfl
      · rename_i hy
        have h1 := List.all_eq_true.1 cols_all _ (zip_of hk hq)
        have h2 := List.all_eq_true.1 h1 y.toNat (List.mem_range.2 (show y.toNat < wS e by omega))
        simp only [Bool.and_eq_true, decide_eq_true_eq] at h2
        rw [h2.1, h2.2]
theorem matrix_eq (b : ByteArray) : matrixC b = refMatrixC b := by
  unfold matrixC refMatrixC
  cases hk : kOf b with
  | none => rfl
  | some e =>
    cases hq : colOf b with
    | none => rfl
    | some q =>
      simp only
      have h1 := List.all_eq_true.1 mats_all _ (zip_of hk hq)
      simp only [matEq, decide_eq_true_eq] at h1
      rw [h1]
end Go.Ideal

-- Jq
set_option linter.unusedSimpArgs false
set_option linter.unusedVariables false
namespace Go.Ideal
open Go Go.Proofs Go.RowKit
/-! ### Amplitudes compared -/
def ringEq (r s : RgD) : Bool := (decide (r.a = s.a) && decide (r.b = s.b)) && ((decide (r.c = s.c) && decide (r.d = s.d)) && true)
def ampEq (a b : AmD) : Bool := ringEq a.r b.r && ((a.k == b.k) && true)
theorem ampEq_iff {a b : AmD} : ampEq a b = decide (a = b) := by
  obtain ⟨⟨a1, a2, a3, a4⟩, a5⟩ := a
  obtain ⟨⟨b1, b2, b3, b4⟩, b5⟩ := b
  rw [Bool.eq_iff_iff]
  simp [ampEq, ringEq]
  intro _
  constructor
  · rintro ⟨⟨h1, h2⟩, h3, h4⟩; exact ⟨h1, h2, h3, h4⟩
  · rintro ⟨h1, h2, h3, h4⟩; exact ⟨⟨h1, h2⟩, h3, h4⟩
@[reducible] def cxV (a b : Int) : Value := .complex .f64 (flb a) (flb b)
@[reducible] def amVs (a : AmD) : List Value := [cxV a.r.a a.r.b, cxV a.r.c a.r.d, .int .i64 a.k]
theorem ring_eqG {r s : RgD} (h : RgS r) (h2 : RgS s) {n : Nat} : pureOf Try.prog (Op.equalIn (n + 2) 44 (.agg [cxV r.a r.b, cxV r.c r.d].toArray) (.agg [cxV s.a s.b, cxV s.c s.d].toArray)) = some (ringEq r s) := by
  refine eqIn_struct (P := Try.prog) Try.underlying44 (by kernel_rfl) ?_
  refine .cons (by decide) (part_leaf Try.underlying42 (fun _ h => by cases h) (fun _ _ h => by cases h) rfl) (part_leaf Try.underlying42 (fun _ h => by cases h) (fun _ _ h => by cases h) rfl) (eqIn_complex Try.underlying42 h.a h.b h2.a h2.b) ?_
  refine .cons (by decide) (part_leaf Try.underlying42 (fun _ h => by cases h) (fun _ _ h => by cases h) rfl) (part_leaf Try.underlying42 (fun _ h => by cases h) (fun _ _ h => by cases h) rfl) (eqIn_complex Try.underlying42 h.c h.d h2.c h2.d) ?_
  exact .nil
theorem am_eqG {a b : AmD} (h : RgS a.r) (h2 : RgS b.r) : ∃ fs, Try.prog.underlying 46 = some (.struct fs) ∧ EqG Try.prog 9999 fs.toList (amVs a).toArray (amVs b).toArray (ampEq a b) := by
  refine ⟨_, Try.underlying46, ?_⟩
  refine .cons (by decide) (part_struct (n := 2) Try.underlying44 (by kernel_rfl)) (part_struct (n := 2) Try.underlying44 (by kernel_rfl)) (ring_eqG (n := 9997) h h2) ?_
  refine .cons (by decide) (part_leaf Try.underlying3 (fun _ h => by cases h) (fun _ _ h => by cases h) rfl) (part_leaf Try.underlying3 (fun _ h => by cases h) (fun _ _ h => by cases h) rfl) (eqIn_int Try.underlying3) ?_
  exact .nil
section
variable {σ : Nat → Tr} {B : Boxes}
theorem Pu.amNe {yt : TypeId} {x y : Operand} {a b : AmD} (h : RgS a.r) (h2 : RgS b.r) [e1 : TEval σ x (amT a)] [e2 : TEval σ y (amT b)] : Pu Try.prog σ B (.binOp .neq 46 x y yt) (.v (.bool (!decide (a = b)))) := by
  obtain ⟨fs, u, e⟩ := am_eqG h h2
  rw [← ampEq_iff]
  exact Pu.eqG (amVs a) (amVs b) (e1 := e1) (e2 := e2) (.inr ⟨rfl, rfl⟩) rfl rfl u (by kernel_rfl) (by kernel_rfl) rfl rfl e
theorem Pu.amEq {yt : TypeId} {x y : Operand} {a b : AmD} (h : RgS a.r) (h2 : RgS b.r) [e1 : TEval σ x (amT a)] [e2 : TEval σ y (amT b)] : Pu Try.prog σ B (.binOp .eql 46 x y yt) (.v (.bool (decide (a = b)))) := by
  obtain ⟨fs, u, e⟩ := am_eqG h h2
  rw [← ampEq_iff]
  exact Pu.eqG (amVs a) (amVs b) (e1 := e1) (e2 := e2) (.inl ⟨rfl, rfl⟩) rfl rfl u (by kernel_rfl) (by kernel_rfl) rfl rfl e
end
end Go.Ideal

-- Jr
set_option linter.unusedSimpArgs false
set_option linter.unusedVariables false
namespace Go.Ideal
open Go Go.Proofs Go.RowKit
/-! ### The same matrix -/
set_option synthInstance.maxSize 4000 in
set_option synthInstance.maxHeartbeats 400000 in
set_option maxHeartbeats 4000000 in
theorem mSameT {m : List (List AmD)} (h1 : m.length < 2 ^ 40) (h2 : ∀ l ∈ m, l.length < 2 ^ 40) (h3 : ∀ l ∈ m, ∀ a ∈ l, RgS a.r) : Fn Try.prog 20 [matT m, matT m] (fun r => r = boolT true) := by
  refine Fn_of Try.func20 rfl (Nat.le_of_ble_eq_true rfl) (fun X => ?_)
  unfold matT
  obtain ⟨R, hR⟩ : ∃ R, R = m.map fun l => [Tr.sl 3 (amRows l)] := ⟨_, rfl⟩
  have hL : R.length = m.length := by rw [hR]; simp
  rw [← hR]
  repeat (first | refine StepC.go ?_ | (refine TV_cond_f ?_ ?_; · first | rfl | assumption))
  rw [hL]
  refine TV_loop (fun d σ B => ∃ i : Nat, d = m.length - i ∧ i ≤ m.length ∧ TGet σ 5 (intT i) ∧ TGet σ 0 (.sl 1 R) ∧ TGet σ 1 (.sl 1 R)) m.length
    ⟨0, by omega, by omega, inferInstance, inferInstance, inferInstance⟩ ?_
  rintro d σ B ⟨i, rfl, hi, g5, g0, g1⟩
  repeat (refine StepC.go ?_)
  rw [hL]
  refine TV_cond ?_ ?_ <;> intro hc
  · have hil : i < m.length := by have := of_decide_eq_true hc; omega
    obtain ⟨l, hl⟩ : ∃ l, m[i]? = some l := ⟨_, List.getElem?_eq_getElem hil⟩
    have ng : NthG R i [Tr.sl 3 (amRows l)] := ⟨by rw [hR]; simp [hl]⟩
    have hlm := List.mem_of_getElem? hl
    have hL2 : (amRows l).length = l.length := by simp [amRows]
    repeat (first | refine StepC.go ?_ | refine TD_take rfl rfl ?_ | refine TD_load rfl rfl ?_ | refine TV_draw (id := 6) (plan := [.take 0, .take 1, .take 2, .take 3, .take 4, .take 5, .take 6, .take 7, .take 8, .take 9, .take 10]) (by kernel_rfl) ?_ | (refine TV_cond_f ?_ ?_; · first | rfl | assumption))
    rw [hL2]
    refine TV_loop (fun d σ B => ∃ j : Nat, d = l.length - j ∧ j ≤ l.length ∧ TGet σ 6 (intT j) ∧ TGet σ 5 (intT i) ∧ TGet σ 0 (.sl 1 R) ∧ TGet σ 1 (.sl 1 R)) l.length
      ⟨0, by omega, by omega, inferInstance, inferInstance, inferInstance, inferInstance⟩ ?_
    rintro d σ B ⟨j, rfl, hj, g6, g5, g0, g1⟩
    repeat (refine StepC.go ?_)
    rw [hL2]
    refine TV_cond ?_ ?_ <;> intro hc2
    · have hjl : j < l.length := by have := of_decide_eq_true hc2; omega
      obtain ⟨a, ha⟩ : ∃ a, l[j]? = some a := ⟨_, List.getElem?_eq_getElem hjl⟩
      have nga : NthG (amRows l) j (amCs a) := .map amCs ha
      have hs2 := h2 l hlm
      have hra := h3 l hlm a (List.mem_of_getElem? ha)
      repeat (first | refine StepC.go ?_ | refine TD_take rfl rfl ?_ | refine TD_load rfl rfl ?_ | refine TV_draw (id := 11) (plan := [.take 0, .take 1, .take 2, .take 3, .take 4, .take 5, .take 6, .take 7, .take 8, .take 9, .take 10, .take 11, .take 12, .take 13, .take 14]) (by kernel_rfl) ?_)
      refine TD_takew rfl rfl (Pu.amNe (a := a) (b := a) hra hra) ?_
      have dd : (!decide (a = a)) = false := by simp
      rw [dd]
      repeat (first | refine StepC.go ?_ | (refine TS_puw (Pu.addi ?_) ?_; · omega) | (refine TV_cond_f ?_ ?_; · first | rfl | assumption))
      refine ⟨_, ?_, j + 1, rfl, by omega, inferInstance, inferInstance, inferInstance, inferInstance⟩
      omega
    · repeat (first | refine StepC.go ?_ | (refine TS_puw (Pu.addi ?_) ?_; · omega))
      refine ⟨_, ?_, i + 1, rfl, by omega, inferInstance, inferInstance, inferInstance⟩
      omega
  · repeat (refine StepC.go ?_)
    refine retT_1 (.inr rfl) ?_
    rfl
instance : CallIs Try.prog 20 := .of Try.func20 rfl rfl
end Go.Ideal

-- Js
set_option linter.unusedSimpArgs false
set_option linter.unusedVariables false
namespace Go.Ideal
open Go Go.Proofs Go.RowKit
/-! ### The other questions: both -/
theorem gateDiagonal_spec (b : ByteArray) (h : IHp) : EvX Try.prog 14 [.string b].toArray h (fun v h' => v = .bool (diagS b) ∧ Ext h h') := by
  refine EvX_of Try.func14 rfl (by show 1 ≤ 7; decide) ?_
  repeat' (first | refine V_seq ?_ | refine V_region ?_ | refine WS_nil ?_ | refine S_normal ?_ | refine WS_assign ?_)
  refine WS_call (kinds_spec h) ?_
  rintro _ H ⟨eH, m, cs, rfl, hm, hmap, hl, _⟩
  obtain ⟨c, hc, _⟩ := look_row b hl
  repeat' (refine WS_move ?_)
  refine WS_lookup (mi := hmap) ?_
  rw [hc]
  repeat' (first | refine WS_nil ?_ | refine S_normal ?_ | refine V_ret ?_ | refine WS_assign ?_ | refine WS_field ?_)
  exact retK_1 ⟨rfl, eH⟩ (.inr rfl)
instance : CallIs Try.prog 14 := .of Try.func14 rfl rfl
theorem diagT (b : ByteArray) : Fn Try.prog 14 [strT b] (fun r => r = boolT (diagS b)) := Fn_vals (ws := [_]) (fun h => gateDiagonal_spec b h) (fun F => rep_v _)
set_option maxHeartbeats 2000000 in
theorem refDiagonal_spec (b : ByteArray) (h : IHp) : EvX Try.prog 15 [.string b].toArray h (fun v h' => v = .bool (diagS b) ∧ h' = h) := by
  refine EvX_of Try.func15 rfl (by show 1 ≤ 17; decide) ?_
  repeat' (first | refine V_seq ?_ | refine V_region ?_ | refine WS_nil ?_ | refine S_normal ?_ | refine V_block ?_ | refine B_normal ?_ | refine V_skip ?_ | refine V_ret ?_ | refine S_ret ?_ | refine B_ret ?_ | refine WS_move ?_ | refine WS_assign ?_ | refine WS_streq ?_ | refine V_cond_t (by first | rfl | assumption) ?_ | (refine V_cond ?_ ?_ <;> intro hc <;> try (cases hc; done)))
  all_goals refine retK_1 ⟨?_, rfl⟩ (.inr rfl)
  all_goals first
    | (have hx := beqS_iff.1 (by assumption); subst hx; rfl)
    | (unfold diagS
       cases hk : kOf b with
       | none => rfl
       | some e =>
         obtain ⟨hm, rfl⟩ := kOf_mem hk
         have hall : (KT.all fun e => !e.diag || beqS e.name ⟨#[105]⟩ || beqS e.name ⟨#[122]⟩ || beqS e.name ⟨#[115]⟩ || beqS e.name ⟨#[115, 100, 103]⟩ || beqS e.name ⟨#[116]⟩ || beqS e.name ⟨#[116, 100, 103]⟩ || beqS e.name ⟨#[119]⟩ || beqS e.name ⟨#[119, 100, 103]⟩ || beqS e.name ⟨#[99, 122]⟩ || beqS e.name ⟨#[99, 115]⟩ || beqS e.name ⟨#[99, 115, 100, 103]⟩ || beqS e.name ⟨#[99, 99, 122]⟩) = true := by decide +kernel
         rw [List.all_eq_true] at hall
         have := hall e hm
         simp_all)
instance : CallIs Try.prog 15 := .of Try.func15 rfl rfl
theorem refDiagT (b : ByteArray) : Fn Try.prog 15 [strT b] (fun r => r = boolT (diagS b)) := Fn_vals (ws := [_]) (fun h => (refDiagonal_spec b h).mono fun v h' ⟨a, c⟩ => ⟨a, c ▸ Ext.refl _⟩) (fun F => rep_v _)
theorem refHalvesGT (b : ByteArray) : Fn Try.prog 11 [strT b] (fun r => r = intT (halvesS b)) := Fn_vals (ws := [_]) (fun h => (refHalves_spec b h).mono fun v h' ⟨a, c⟩ => ⟨a, c ▸ Ext.refl _⟩) (fun F => rep_v _)
theorem refCliffGT (b : ByteArray) : Fn Try.prog 13 [strT b] (fun r => r = boolT (cliffS b)) := Fn_vals (ws := [_]) (fun h => (refClifford_spec b h).mono fun v h' ⟨a, c⟩ => ⟨a, c ▸ Ext.refl _⟩) (fun F => rep_v _)
theorem refBackGT (b : ByteArray) : Fn Try.prog 17 [strT b] (fun r => r = .tup [strT (backS b).1, intT (backS b).2]) := Fn_vals (ws := [_]) (fun h => refInverse_spec b h) (fun F => rep_pair _ _)
end Go.Ideal

-- Jt
set_option linter.unusedSimpArgs false
set_option linter.unusedVariables false
namespace Go.Ideal
open Go Go.Proofs Go.RowKit
/-! ### The names; alive -/
theorem flbm1 : flb (-1) = 13830554455654793216 := by decide +kernel
theorem rgm1 : RgS ⟨-1, 0, 0, 0⟩ := ⟨by decide, by decide, by decide, by decide⟩
def nameRows : List (List Tr) := KT.map fun e => [strT e.name]
set_option synthInstance.maxSize 4000 in
set_option synthInstance.maxHeartbeats 400000 in
set_option maxHeartbeats 4000000 in
theorem listedT : Fn Try.prog 34 [] (fun r => r = .sl 1 nameRows) := by
  refine Fn_of Try.func34 rfl (Nat.le_of_ble_eq_true rfl) (fun X => ?_)
  repeat (first | refine StepC.go ?_ | intro _)
  refine retT_1 (.inr rfl) ?_
  rfl
instance : CallIs Try.prog 34 := .of Try.func34 rfl rfl
theorem namesT : Fn Try.prog 23 [] (fun r => r = .sl 1 nameRows) := by
  refine Fn_of Try.func23 rfl (Nat.le_of_ble_eq_true rfl) (fun X => ?_)
  repeat (refine StepC.go ?_)
  refine TS_call listedT ?_
  rintro _ rfl
  repeat (refine StepC.go ?_)
  refine retT_1 (.inr rfl) ?_
  rfl
instance : CallIs Try.prog 23 := .of Try.func23 rfl rfl
set_option synthInstance.maxSize 4000 in
set_option synthInstance.maxHeartbeats 400000 in
set_option maxHeartbeats 4000000 in
theorem alive08T : Fn Try.prog 7 [] (fun r => r = boolT true) := by
  refine Fn_of Try.func7 rfl (Nat.le_of_ble_eq_true rfl) (fun X => ?_)
  repeat (refine StepC.go ?_)
  refine TS_call (columnT (b := ⟨#[99, 104]⟩) (y := 3)) ?_
  have hc : columnS ⟨#[99, 104]⟩ 3 = ([1, 3], [⟨⟨1, 0, 0, 0⟩, 1⟩, ⟨⟨-1, 0, 0, 0⟩, 1⟩], 0) := by decide +kernel
  rw [hc]
  intro r hr
  dsimp only at hr
  obtain ⟨R, hR⟩ : ∃ R, R = intRows [1, 3] := ⟨_, rfl⟩
  obtain ⟨A, hA⟩ : ∃ A, A = amRows [⟨⟨1, 0, 0, 0⟩, 1⟩, ⟨⟨-1, 0, 0, 0⟩, 1⟩] := ⟨_, rfl⟩
  rw [← hR, ← hA] at hr
  subst hr
  have hRl : R.length = 2 := by rw [hR]; rfl
  have hAl : A.length = 2 := by rw [hA]; rfl
  have ng1 : NthG R 1 [intT 3] := ⟨by rw [hR]; rfl⟩
  have ng2 : NthG A 1 (amCs ⟨⟨-1, 0, 0, 0⟩, 1⟩) := ⟨by rw [hA]; rfl⟩
  clear hR hA
  repeat (refine StepC.go ?_)
  refine TS_callE (backT ⟨#[88]⟩) ?_
  have hb : backS ⟨#[88]⟩ = (⟨#[]⟩, 80) := by decide +kernel
  rw [hb]
  repeat (refine StepC.go ?_)
  refine TS_callE (backT ⟨#[118]⟩) ?_
  have hv : backS ⟨#[118]⟩ = (⟨#[118, 100, 103]⟩, 0) := by decide +kernel
  rw [hv]
  repeat (first | refine StepC.go ?_ | (refine TS_on rfl ?_ ?_; · first | rfl | assumption))
  refine TS_call namesT ?_
  rintro _ rfl
  have hn : nameRows.length = 25 := rfl
  repeat (first | refine StepC.go ?_ | (refine TS_on rfl ?_ ?_; · first | rfl | assumption) | (refine TV_cond_f ?_ ?_; · first | rfl | assumption))
  rw [hn]
  skip
  rw [hRl]
  repeat (first | refine StepC.go ?_ | (refine TS_on rfl ?_ ?_; · first | rfl | assumption))
  rw [hAl]
  repeat (first | refine StepC.go ?_ | (refine TS_on rfl ?_ ?_; · first | rfl | assumption))
  have e1 : amT ⟨⟨-1, 0, 0, 0⟩, 1⟩ = .agg [.v (.complex .f64 13830554455654793216 0), .v (.complex .f64 0 0), .v (.int .i64 1)] := by simp only [amT, amCs, cxT, flbm1, flb0]
  refine TS_puw (Pu.amEq (a := ⟨⟨-1, 0, 0, 0⟩, 1⟩) (b := ⟨⟨-1, 0, 0, 0⟩, 1⟩) (e2 := by rw [e1]; infer_instance) rgm1 rgm1) ?_
  repeat (first | refine StepC.go ?_ | (refine TS_on rfl ?_ ?_; · first | rfl | assumption))
  refine TS_callE (arityT _) ?_
  repeat (first | refine StepC.go ?_ | (refine TS_on rfl ?_ ?_; · first | rfl | assumption))
  refine retT_1 (.inr rfl) ?_
  rfl
instance : CallIs Try.prog 7 := .of Try.func7 rfl rfl
end Go.Ideal

-- Ju
set_option linter.unusedSimpArgs false
set_option linter.unusedVariables false
namespace Go.Ideal
open Go Go.Proofs Go.RowKit
/-! ### The law GateAsks -/
def smR (r : RgD) : Bool := decide (r.a.natAbs < 2 ^ 53) && decide (r.b.natAbs < 2 ^ 53) && decide (r.c.natAbs < 2 ^ 53) && decide (r.d.natAbs < 2 ^ 53)
theorem smR_iff {r : RgD} (h : smR r = true) : RgS r := by
  simp only [smR, Bool.and_eq_true, decide_eq_true_eq] at h
  exact ⟨h.1.1.1, h.1.1.2, h.1.2, h.2⟩
theorem rTurn_sm {k : Int} (h : 0 ≤ k ∧ k < 8) : RgS (rTurn k oneR) := by
  refine smR_iff ?_
  obtain ⟨n, rfl⟩ : ∃ n : Nat, k = n := ⟨k.toNat, by omega⟩
  have : n < 8 := by omega
  match n, this with
  | 0, _ | 1, _ | 2, _ | 3, _ | 4, _ | 5, _ | 6, _ | 7, _ => decide +kernel
theorem column_fine (b : ByteArray) (y : Int) : (columnS b y).1.length = (columnS b y).2.1.length ∧ (columnS b y).1.length ≤ 2 ∧ ∀ a ∈ (columnS b y).2.1, RgS a.r := by
  unfold columnS
  cases hk : kOf b with
  | none => exact ⟨rfl, Nat.zero_le 2, by simp⟩
  | some e =>
    cases hq : colOf b with
    | none => exact ⟨rfl, Nat.zero_le 2, by simp⟩
    | some q =>
      simp only
      split
      · exact ⟨rfl, Nat.zero_le 2, by simp⟩
      · have g := fine_of hk hq
        refine ⟨by simp, ?_, ?_⟩
        · rcases colV_len q y.toNat with h | h <;> simp [h]
        · intro a ha
          obtain ⟨c, hc, rfl⟩ := List.mem_map.1 ha
          exact rTurn_sm (g.tu _ c hc)
def matFine (p : KE × ColD) : Bool := decide ((matrixS p.1 p.2).length ≤ 8) && (matrixS p.1 p.2).all fun l => decide (l.length ≤ 8) && l.all fun a => smR a.r
theorem matFine_all : (KT.zip KC).all matFine = true := by decide +kernel
theorem matrix_fine (b : ByteArray) : (matrixC b).1.length < 2 ^ 40 ∧ (∀ l ∈ (matrixC b).1, l.length < 2 ^ 40) ∧ ∀ l ∈ (matrixC b).1, ∀ a ∈ l, RgS a.r := by
  unfold matrixC
  cases hk : kOf b with
  | none => exact ⟨show (0 : Nat) < 2 ^ 40 by decide, by simp, by simp⟩
  | some e =>
    cases hq : colOf b with
    | none => exact ⟨show (0 : Nat) < 2 ^ 40 by decide, by simp, by simp⟩
    | some q =>
      simp only
      have h1 := List.all_eq_true.1 matFine_all _ (zip_of hk hq)
      simp only [matFine, Bool.and_eq_true, decide_eq_true_eq, List.all_eq_true] at h1
      refine ⟨by omega, fun l hl => ?_, fun l hl a ha => smR_iff ((h1.2 l hl).2 a ha)⟩
      have := (h1.2 l hl).1
      omega
theorem beqS_self (b : ByteArray) : beqS b b = true := beqS_iff.2 rfl
set_option synthInstance.maxSize 4000 in
set_option synthInstance.maxHeartbeats 400000 in
set_option maxHeartbeats 4000000 in
theorem gateAsksT (b : ByteArray) (y : Int) : Fn Try.prog 3 [strT b, intT y] (fun r => r = boolT true) := by
  refine Fn_of Try.func3 rfl (Nat.le_of_ble_eq_true rfl) (fun X => ?_)
  repeat (refine StepC.go ?_)
  refine TS_callE alive08T ?_
  repeat (first | refine StepC.go ?_ | (refine TV_cond_f ?_ ?_; · first | rfl | assumption))
  refine TS_callE (arityT b) ?_
  repeat (refine StepC.go ?_)
  refine TS_callE (refArityT b) ?_
  repeat (first | refine StepC.go ?_ | (refine TS_on rfl ?_ ?_; · first | rfl | assumption))
  skip
  refine TS_callE (halvesGT b) ?_
  repeat (first | refine StepC.go ?_ | (refine TS_on rfl ?_ ?_; · first | rfl | assumption))
  refine TS_callE (refHalvesGT b) ?_
  repeat (first | refine StepC.go ?_ | (refine TS_on rfl ?_ ?_; · first | rfl | assumption))
  skip
  refine TS_callE (cliffT b) ?_
  repeat (first | refine StepC.go ?_ | (refine TS_on rfl ?_ ?_; · first | rfl | assumption))
  refine TS_callE (refCliffGT b) ?_
  repeat (first | refine StepC.go ?_ | (refine TS_on rfl ?_ ?_; · first | rfl | assumption))
  simp only [beq_self_eq_true, Bool.not_true]
  repeat (first | refine StepC.go ?_ | (refine TS_on rfl ?_ ?_; · first | rfl | assumption))
  refine TS_callE (diagT b) ?_
  repeat (first | refine StepC.go ?_ | (refine TS_on rfl ?_ ?_; · first | rfl | assumption))
  refine TS_callE (refDiagT b) ?_
  repeat (first | refine StepC.go ?_ | (refine TS_on rfl ?_ ?_; · first | rfl | assumption))
  simp only [beq_self_eq_true, Bool.not_true]
  repeat (first | refine StepC.go ?_ | (refine TV_cond_f ?_ ?_; · first | rfl | assumption))
  refine TS_callE (backT b) ?_
  repeat (refine StepC.go ?_)
  refine TS_callE (refBackGT b) ?_
  generalize backS b = bk
  obtain ⟨bk1, bk2⟩ := bk
  have hbk := beqS_self bk1
  repeat (first | refine StepC.go ?_ | (refine TS_on rfl ?_ ?_; · first | rfl | assumption) | (refine TV_cond_f ?_ ?_; · first | rfl | assumption))
  try simp only [hbk, Bool.not_true]
  skip
  refine TS_call matrixT ?_
  obtain ⟨f1, f2, f3⟩ := matrix_fine b
  have hme := matrix_eq b
  generalize matrixC b = M at hme f1 f2 f3
  obtain ⟨m, em⟩ := M
  rintro _ rfl
  repeat (refine StepC.go ?_)
  refine TS_call refMatrixT ?_
  rw [← hme]
  rintro _ rfl
  repeat (refine StepC.go ?_)
  refine TS_callE (mSameT f1 f2 f3) ?_
  repeat (first | refine StepC.go ?_ | (refine TS_on rfl ?_ ?_; · first | rfl | assumption) | (refine TV_cond_f ?_ ?_; · first | rfl | assumption))
  refine TS_call (columnT (b := b) (y := y)) ?_
  obtain ⟨k1, k2, k3⟩ := column_fine b y
  have hce := column_eq b y
  generalize columnS b y = C at hce k1 k2 k3
  obtain ⟨rs, ams, ec⟩ := C
  rintro _ rfl
  repeat (refine StepC.go ?_)
  refine TS_call (refColumnT (b := b) (y := y)) ?_
  rw [← hce]
  rintro _ rfl
  repeat (first | refine StepC.go ?_ | (refine TS_on rfl ?_ ?_; · first | rfl | assumption) | (refine TV_cond_f ?_ ?_; · first | rfl | assumption))
  have hRl : (intRows rs).length = rs.length := by simp [intRows]
  refine TV_loop (fun d σ B => ∃ i : Nat, d = rs.length - i ∧ i ≤ rs.length ∧ TGet σ 15 (intT i) ∧ TGet σ 11 (.sl 1 (intRows rs)) ∧ TGet σ 12 (.sl 3 (amRows ams)) ∧ TGet σ 13 (.sl 1 (intRows rs)) ∧ TGet σ 14 (.sl 3 (amRows ams))) rs.length
    ⟨0, by omega, by omega, inferInstance, inferInstance, inferInstance, inferInstance, inferInstance⟩ ?_
  rintro d σ B ⟨i, rfl, hi, g15, g11, g12, g13, g14⟩
  repeat (refine StepC.go ?_)
  rw [hRl]
  refine TV_cond ?_ ?_ <;> intro hc
  · have hil : i < rs.length := by have := of_decide_eq_true hc; omega
    have hk2 : rs.length ≤ 2 := k2
    have hk1 : rs.length = ams.length := k1
    obtain ⟨x, hx⟩ : ∃ x, rs[i]? = some x := ⟨_, List.getElem?_eq_getElem hil⟩
    obtain ⟨a, ha⟩ : ∃ a, ams[i]? = some a := ⟨_, List.getElem?_eq_getElem (hk1 ▸ hil)⟩
    have ngx : NthG (intRows rs) i [intT x] := .map (fun x => [intT x]) hx
    have nga : NthG (amRows ams) i (amCs a) := .map amCs ha
    have hra : RgS a.r := k3 a (List.mem_of_getElem? ha)
    repeat (first | refine StepC.go ?_ | refine TD_take rfl rfl ?_ | refine TD_load rfl rfl ?_ | refine TD_take_on rfl rfl (by first | rfl | assumption) rfl ?_ | refine TD_load_on rfl rfl (by first | rfl | assumption) rfl ?_ | refine TV_draw (id := 20) (plan := [.take 0, .take 1, .take 2, .take 3, .take 4, .take 5, .take 6, .take 7, .take 8, .take 9, .take 10, .take 11, .take 12, .take 13, .take 14, .take 15, .take 16, .take 17, .take 18, .take 19]) (by kernel_rfl) ?_)
    refine TD_take_on (u := false) (b := false) rfl rfl rfl rfl (p := Pu.amNe (a := a) (b := a) hra hra) ?_
    have dd : (!decide (a = a)) = false := by simp
    rw [dd]
    repeat (first | refine StepC.go ?_ | (refine TS_puw (Pu.addi ?_) ?_; · omega) | refine TD_take rfl rfl ?_ | (refine TV_cond_f ?_ ?_; · first | rfl | assumption))
    refine ⟨_, ?_, i + 1, rfl, by omega, inferInstance, inferInstance, inferInstance, inferInstance, inferInstance⟩
    omega
  · repeat (refine StepC.go ?_)
    refine retT_1 (.inr rfl) ?_
    rfl
theorem EvX_of_FnG {P : Program} {f : FuncId} {ts : List Tr} {vs : List Value} {h : IHp} (x : Fn P f ts (fun r => r = boolT true)) (hr : RepL h.cell? ts vs) : EvX P f vs.toArray h (fun v _ => v = .bool true) := by
  unfold Fn at x
  refine (x h.cell? h vs (Sub.refl _) hr).mono ?_
  rintro v h' ⟨_, F, r, _, _, _, h1, rfl⟩
  simpa only [Rep] using h1
theorem string_argG {P : Program} {w : World} {base : Nat} {t : TypeId} {v : Value} (hu : P.underlying t = some .string) (h : Value.okWide P w .any base t v) : ∃ s, v = .string s := by
  cases v <;> first | exact ⟨_, rfl⟩ | (simp [Value.okWide, hu, Cell.okWide, Cell.ok] at h)
theorem R_stringG (s : ByteArray) : R RM0 (.string s) (.string s) := by simp only [R]
theorem gateAsksW {h : IHp} (hnew : h.new = []) {b : ByteArray} {y : Int} : EvX Try.prog 3 #[.string b, .int .i64 y] h (fun v _ => v = .bool true) :=
  EvX_of_FnG (gateAsksT b y) (RepL.cons (rep_v _) (RepL.cons (rep_v _) RepL.nil))
end Go.Ideal
