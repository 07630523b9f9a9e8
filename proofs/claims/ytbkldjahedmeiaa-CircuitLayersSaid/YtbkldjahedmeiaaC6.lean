/- Part 6 of what the proof stands on: an interpreter over an ideal memory that is proved sound, steps over it, and contracts of the functions that are called. No condition: no law is claimed here. -/
import Derived.Test.YtbkldjahedmeiaaC5
-- Ug
set_option linter.unusedSimpArgs false
set_option linter.unusedVariables false
namespace Go.Ideal
open Go Go.Proofs Go.RowKit
theorem intRows_snoc (xs : List Int) (z : Int) : intRows xs ++ [[intT z]] = intRows (xs ++ [z]) := by simp [intRows]
theorem intRows_ne {xs : List Int} (h : xs ≠ []) : (intRows xs).isEmpty = false := by cases xs with
  | nil => exact absurd rfl h
  | cons => rfl
theorem boundT_no {a b : OpD} (ha : OpG a) (hb : OpG b) (h : boundS a b = false) : boundR a b = false := by rw [bound_eq ha hb]; exact h
/-- what is left when one is taken out -/
theorem left_rows {lf junk : List Int} {k : Nat} (hk : k < lf.length) : (intRows (lf ++ junk)).take k ++ (((intRows (lf ++ junk)).drop (k + 1)).take (lf.length - (k + 1)) ++ (intRows (lf ++ junk)).drop (k + (lf.length - (k + 1)))) = intRows ((lf.take k ++ lf.drop (k + 1)) ++ (lf ++ junk).drop (lf.length - 1)) := by
  have e1 : k + (lf.length - (k + 1)) = lf.length - 1 := by omega
  have e2 : ((lf ++ junk).drop (k + 1)).take (lf.length - (k + 1)) = lf.drop (k + 1) := by
    rw [List.drop_append_of_le_length (by omega), List.take_append_of_le_length (by simp), List.take_of_length_le (by simp)]
  have e3 : (lf ++ junk).take k = lf.take k := List.take_append_of_le_length (by omega)
  rw [e1]
  unfold intRows
  rw [← List.map_take, ← List.map_drop, ← List.map_take, ← List.map_drop, e2, e3, ← List.map_append, ← List.map_append, List.append_assoc]
theorem Pu.own_endw {P : Program} {σ : Nat → Tr} {B : Boxes} {x y : Operand} {t e m b len cap bt : Nat} {k : IntKind} {i : Int} {rows : List (List Tr)} [e1 : TEval σ x (.v (.slice (some (ad b 0)) len cap))] [e2 : TEval σ y (.v (.int k i))] [u : UnderIs P t (.slice e)] [z : SizeIs P e m] [bi : BoxIs B b (.arr m rows bt false)] (hi : i = (cap : Int)) (hl : len = cap) (hn : cap ≠ 0) (hr : rows ≠ []) : Pu P σ B (.slice t x (some y) none none) (.v (.slice (some ⟨b, 0, some (cap * m)⟩) 0 1)) := by
  subst hl
  exact Pu.own_end (a := ⟨hi⟩) hn hr
set_option synthInstance.maxSize 4000 in
set_option synthInstance.maxHeartbeats 400000 in
set_option maxHeartbeats 8000000 in
theorem circuitLayersT {c : CircD} {picks : List Int} (hw : CircW c) (hp : I64s picks) : Fn Try.prog 4 [circT c, .sl 1 (intRows picks)] (fun r => r = boolT true) := by
  refine Fn_of Try.func4 rfl (Nat.le_of_ble_eq_true rfl) (fun X => ?_)
  refine TV_fact 1 (fun F v h => rep_small h) fun hsm => ?_
  have hLp : (intRows picks).length = picks.length := by simp [intRows]
  have hLc : (opRows c.ops).length = c.ops.length := by simp [opRows]
  rw [hLp] at hsm
  repeat (first | refine StepC.go ?_ | intro _)
  rename_i p
  refine TS_callE awake11T ?_
  repeat (first | refine StepC.go ?_ | refine TV_cond_f (by first | rfl | assumption) ?_)
  refine TV_cond ?_ ?_ <;> intro hc0
  · repeat (refine StepC.go ?_)
    exact retT_1 (.inr rfl) rfl
  have hn300 : c.ops.length ≤ 300 := by rw [hLc] at hc0; simp at hc0; omega
  repeat (refine StepC.go ?_)
  refine TS_call (layersT hw) ?_
  rintro _ rfl
  repeat (refine StepC.go ?_)
  refine TV_cond ?_ ?_ <;> intro hc
  · have hl0 : (layersC c).1 = [] := by
      unfold layersC at hc ⊢
      split
      · rename_i h; rw [if_pos h] at hc; simp at hc
      · rfl
    rw [hl0]
    repeat (refine StepC.go ?_)
    exact retT_1 (.inr rfl) rfl
  have hck : (checkC c).2 = 0 := by
    unfold layersC at hc
    split at hc
    · assumption
    · simpa using hc
  obtain ⟨hlen, hg⟩ := circ_good hw hck
  have hlay : (layersC c).1 = layL c.ops := by rw [layersC, if_pos hck]; rfl
  rw [hlay]
  obtain ⟨L, hL⟩ : ∃ L, L = layL c.ops := ⟨_, rfl⟩
  have hLL : (layRowsT L).length = L.length := by simp [layRowsT]
  have hLn := layL_num c.ops
  rw [← hL] at hLn ⊢
  repeat (first | refine StepC.go ?_ | refine TS_makeSlice (by omega) (fun _ => ?_))
  rename_i bs
  rw [hLc, replicate_bool]
  refine TV_ghost 1 3 ?_
  intro bo
  obtain ⟨n, hn⟩ : ∃ n, n = c.ops.length := ⟨_, rfl⟩
  obtain ⟨f, hf⟩ : ∃ f, f = stS c.ops := ⟨_, rfl⟩
  rw [seen0, ← hn, ← hf]
  skip
  refine TV_loop (fun d σ B => ∃ (i bo : Nat) (order : List Int) (tn : Nat), d = L.length - i ∧ i ≤ L.length ∧ TGet σ 1 (.sl 1 (intRows picks)) ∧ TGet σ 2 (.v (.pointer (some (ad p 0)))) ∧ TGet σ 5 (layT L) ∧ TGet σ 7 (.v (.slice (some (ad bs 0)) n n)) ∧ TGet σ 8 (.v (gsv bo order.length)) ∧ TGet σ 9 (intT tn) ∧ TGet σ 10 (intT i) ∧
      SubP B [(bo, .arr 1 (intRows order) 3 false), (bs, .arr 1 (boolRows (seenL n fun x => decide (f x < (i : Int)))) 4 true), (p, .cells (circCs c) 24 true)] ∧ tn ≤ order.length ∧ Part L f i order []) L.length
    ⟨0, bo, [], 0, by omega, by omega, inferInstance, inferInstance, inferInstance, inferInstance, tget_as rfl, tget_as rfl, tget_as rfl, inferInstanceAs (SubP _ [(bo, .arr 1 [] 3 false), _, _]), by simp, Part.start⟩ ?_
  rintro d σ B ⟨i, bo, order, tn, rfl, hi, g1, g2, g5, g7, g8, g9, g10, hB, htn, hpart⟩
  refine TV_keep _ (p := hB) ?_
  repeat (refine StepC.go ?_)
  rw [hLL]
  refine TV_cond ?_ ?_ <;> intro hc2
  · have hil : i < L.length := by simp at hc2; omega
    obtain ⟨lay, hly⟩ : ∃ l, L[i]? = some l := ⟨_, List.getElem?_eq_getElem hil⟩
    have ngl : NthG (layRowsT L) i [.sl 1 (intRows lay)] := .map (fun l => [Tr.sl 1 (intRows l)]) hly
    have hly' := hly
    rw [hL] at hly'
    have hll := layL_len hly'
    have hne := layL_ne hly'
    have hie := intRows_ne hne
    repeat (first | refine StepC.go ?_ | intro _ | refine TS_append_own (by omega) (fun _ => ?_))
    rename_i b00 bl
    rw [hie, Bool.false_and, List.nil_append, Nat.zero_add, seen_start f n i lay]
    refine TV_loop (fun d σ B => ∃ (k : Nat), d = lay.length - k ∧ k ≤ lay.length ∧ TGet σ 1 (.sl 1 (intRows picks)) ∧ TGet σ 2 (.v (.pointer (some (ad p 0)))) ∧ TGet σ 5 (layT L) ∧ TGet σ 7 (.v (.slice (some (ad bs 0)) n n)) ∧ TGet σ 8 (.v (gsv bo order.length)) ∧ TGet σ 9 (intT tn) ∧ TGet σ 10 (intT i) ∧ TGet σ 11 (.v (.slice (some (ad bl 0)) lay.length lay.length)) ∧ TGet σ 12 (intT k) ∧
        SubP B [(bl, .arr 1 (intRows lay) 3 false), (bo, .arr 1 (intRows order) 3 false), (bs, .arr 1 (boolRows (seenL n (seenP f lay i k))) 4 true), (p, .cells (circCs c) 24 true)]) lay.length
      ⟨0, by omega, by omega, inferInstance, inferInstance, inferInstance, inferInstance, inferInstance, inferInstance, inferInstance, inferInstance, tget_as rfl, inferInstance⟩ ?_
    clear hB g1 g2 g5 g7 g8 g9 g10
    rintro d σ B ⟨k, rfl, hk, g1, g2, g5, g7, g8, g9, g10, g11, g12, hB⟩
    refine TV_keep _ (p := hB) ?_
    repeat (refine StepC.go ?_)
    refine TV_cond ?_ ?_ <;> intro hc3
    · have hkl : k < lay.length := by simp at hc3; omega
      obtain ⟨x, hx⟩ : ∃ x, lay[k]? = some x := ⟨_, List.getElem?_eq_getElem hkl⟩
      have ngx : NthG (intRows lay) k [intT x] := .map (fun x => [intT x]) hx
      have hxm := List.mem_of_getElem? hx
      obtain ⟨hx0, hx1⟩ := (layL_mem hly').1 hxm
      rw [← hn] at hx0
      have hxn := asNat_of hx0.1
      have d0 : decide (x < 0) = false := by simp; omega
      have d1 : decide ((n : Int) ≤ x) = false := by simp; omega
      have hsn := seen_no hly' hx
      rw [← hf] at hsn
      have hs2 : (seenL n (seenP f lay i k))[x.toNat]? = some false := by rw [seenL_at (by omega), hsn]
      have ngs : NthG (boolRows (seenL n (seenP f lay i k))) x.toNat [boolT false] := .map (fun x => [boolT x]) hs2
      have hLb : LenT (boolRows (seenL n (seenP f lay i k))) n := ⟨by simp [boolRows, seenL_len]⟩
      have E1 : (if decide (x < 0) = true then true else decide ((n : Int) ≤ x)) = false := by rw [d0, d1]; rfl
      have E2 : (if (if decide (x < 0) = true then true else decide ((n : Int) ≤ x)) = true then true else false) = false := by rw [E1]; rfl
      have E3 : (if (if (if decide (x < 0) = true then true else decide ((n : Int) ≤ x)) = true then true else false) = true then true else false) = false := by rw [E2]; rfl
      repeat (first | refine StepC.go ?_ | refine TS_on rfl (by first | rfl | assumption) ?_)
      refine TS_cut (fun σ B => TGet σ 92 (boolT false) ∧ TGet σ 1 (.sl 1 (intRows picks)) ∧ TGet σ 2 (.v (.pointer (some (ad p 0)))) ∧ TGet σ 5 (layT L) ∧ TGet σ 7 (.v (.slice (some (ad bs 0)) n n)) ∧ TGet σ 8 (.v (gsv bo order.length)) ∧ TGet σ 9 (intT tn) ∧ TGet σ 10 (intT i) ∧ TGet σ 11 (.v (.slice (some (ad bl 0)) lay.length lay.length)) ∧ TGet σ 12 (intT k) ∧ TGet σ 13 (intT x) ∧
        SubP B [(bl, .arr 1 (intRows lay) 3 false), (bo, .arr 1 (intRows order) 3 false), (bs, .arr 1 (boolRows (seenL n (seenP f lay i k))) 4 true), (p, .cells (circCs c) 24 true)]) ?_ ?_
      · by_cases hk0 : k = 0
        · have D3 : decide ((0 : Int) < (k : Int)) = false := by simp; omega
          repeat (first | refine StepC.go ?_ | refine TS_on rfl (by first | rfl | assumption) ?_ | refine TS_off rfl (by first | rfl | assumption) ?_ | refine TS_puw (Pu.pick_f (by first | rfl | assumption)) ?_)
          exact ⟨tget_as (by rw [E3]), inferInstance, inferInstance, inferInstance, inferInstance, inferInstance, inferInstance, inferInstance, inferInstance, inferInstance, inferInstance, inferInstance⟩
        · have D3 : decide ((0 : Int) < (k : Int)) = true := by simp; omega
          obtain ⟨y, hy⟩ : ∃ y, lay[k - 1]? = some y := ⟨_, List.getElem?_eq_getElem (by omega)⟩
          have ngy : NthG (intRows lay) (k - 1) [intT y] := .map (fun x => [intT x]) hy
          have hyn : AsNat ((k : Int) - 1) (k - 1) := ⟨by omega⟩
          have hyx := layL_rise hly' hy hx (by omega)
          have d4 : decide (x ≤ y) = false := by simp; omega
          repeat (first | refine StepC.go ?_ | refine TS_on rfl (by first | rfl | assumption) ?_ | refine TS_puw (Pu.subi (by omega)) ?_)
          exact ⟨tget_as (by rw [E2, D3, d4]; rfl), inferInstance, inferInstance, inferInstance, inferInstance, inferInstance, inferInstance, inferInstance, inferInstance, inferInstance, inferInstance, inferInstance⟩
      clear hB g1 g2 g5 g7 g8 g9 g10 g11 g12
      rintro σ B ⟨g92, g1, g2, g5, g7, g8, g9, g10, g11, g12, g13, hB⟩
      refine TV_keep _ (p := hB) ?_
      repeat (first | refine StepC.go ?_ | refine TV_cond_f (by first | rfl | assumption) ?_)
      rw [hn, hf, seen_next hly' hx, ← hn, ← hf]
      obtain ⟨prev, hpr0, hprv⟩ : ∃ prev : List Int, (i = 0 → prev = []) ∧ (0 < i → L[i - 1]? = some prev) := by
        by_cases h0 : i = 0
        · exact ⟨[], fun _ => rfl, fun h => by omega⟩
        · exact ⟨L[i - 1]'(by omega), fun h => absurd h h0, fun _ => List.getElem?_eq_getElem (by omega)⟩
      obtain ⟨bS, hbS⟩ : ∃ bS : Nat → Bool, bS = fun j => decide ((i : Int) = 0) || (prev.take j).any fun y => decide (y < x) && boundS (opAt c.ops y) (opAt c.ops x) := ⟨_, rfl⟩
      have hbS0 : bS 0 = decide ((i : Int) = 0) := by rw [hbS]; simp
      have hbSe : bS prev.length = true := by
        rw [hbS]
        by_cases h0 : i = 0
        · have : decide ((i : Int) = 0) = true := by simp; omega
          simp only [this, Bool.true_or]
        · have h1 := hprv (by omega)
          rw [hL] at h1
          obtain ⟨i', rfl⟩ : ∃ i', i = i' + 1 := ⟨i - 1, by omega⟩
          simp only [List.take_length]
          rw [layL_bound hly' h1 hxm, Bool.or_true]
      have hpm : ∀ y ∈ prev, 0 < i ∧ 0 ≤ y ∧ y < n := fun y hy => by
        by_cases h0 : i = 0
        · rw [hpr0 h0] at hy; cases hy
        · have h1 := hprv (by omega)
          rw [hL] at h1
          have := ((layL_mem h1).1 hy).1
          exact ⟨by omega, by omega, by omega⟩
      have hpl : prev.length ≤ n := by
        by_cases h0 : i = 0
        · rw [hpr0 h0]; simp
        · have h1 := hprv (by omega)
          rw [hL] at h1
          rw [hn]; exact layL_len h1
      have hgx : OpG (opAt c.ops x) := hg _ (List.mem_of_getElem? (opAt_get (ops := c.ops) (k := x) (by omega)))
      have ngox : NthG (opRows c.ops) x.toNat (opCs (opAt c.ops x)) := .map opCs (opAt_get (ops := c.ops) (k := x) (by omega))
      refine TV_loop (fun d σ B => ∃ (j : Nat), d = prev.length - j ∧ j ≤ prev.length ∧ TGet σ 14 (boolT (bS j)) ∧ TGet σ 15 (intT j) ∧ TGet σ 1 (.sl 1 (intRows picks)) ∧ TGet σ 2 (.v (.pointer (some (ad p 0)))) ∧ TGet σ 5 (layT L) ∧ TGet σ 7 (.v (.slice (some (ad bs 0)) n n)) ∧ TGet σ 8 (.v (gsv bo order.length)) ∧ TGet σ 9 (intT tn) ∧ TGet σ 10 (intT i) ∧ TGet σ 11 (.v (.slice (some (ad bl 0)) lay.length lay.length)) ∧ TGet σ 12 (intT k) ∧ TGet σ 13 (intT x) ∧
          SubP B [(bl, .arr 1 (intRows lay) 3 false), (bo, .arr 1 (intRows order) 3 false), (bs, .arr 1 (boolRows (seenL n (seenP f lay i (k + 1)))) 4 true), (p, .cells (circCs c) 24 true)]) prev.length
        ⟨0, by omega, by omega, tget_as (by rw [hbS0]), tget_as rfl, inferInstance, inferInstance, inferInstance, inferInstance, inferInstance, inferInstance, inferInstance, inferInstance, inferInstance, inferInstance, inferInstance⟩ ?_
      clear hB g92 g1 g2 g5 g7 g8 g9 g10 g11 g12 g13
      rintro d σ B ⟨j, rfl, hj, g14, g15, g1, g2, g5, g7, g8, g9, g10, g11, g12, g13, hB⟩
      refine TV_keep _ (p := hB) ?_
      repeat (refine StepC.go ?_)
      refine TS_cut (fun σ B => TGet σ 109 (boolT (decide ((j : Int) < prev.length))) ∧ TGet σ 14 (boolT (bS j)) ∧ TGet σ 15 (intT j) ∧ TGet σ 1 (.sl 1 (intRows picks)) ∧ TGet σ 2 (.v (.pointer (some (ad p 0)))) ∧ TGet σ 5 (layT L) ∧ TGet σ 7 (.v (.slice (some (ad bs 0)) n n)) ∧ TGet σ 8 (.v (gsv bo order.length)) ∧ TGet σ 9 (intT tn) ∧ TGet σ 10 (intT i) ∧ TGet σ 11 (.v (.slice (some (ad bl 0)) lay.length lay.length)) ∧ TGet σ 12 (intT k) ∧ TGet σ 13 (intT x) ∧
        SubP B [(bl, .arr 1 (intRows lay) 3 false), (bo, .arr 1 (intRows order) 3 false), (bs, .arr 1 (boolRows (seenL n (seenP f lay i (k + 1)))) 4 true), (p, .cells (circCs c) 24 true)]) ?_ ?_
      · by_cases h0 : i = 0
        · have D3 : decide ((0 : Int) < (i : Int)) = false := by simp; omega
          have D4 : decide ((j : Int) < prev.length) = false := by rw [hpr0 h0]; simp
          repeat (first | refine StepC.go ?_ | refine TS_off rfl (by first | rfl | assumption) ?_ | refine TS_puw (Pu.pick_f (by first | rfl | assumption)) ?_)
          exact ⟨tget_as (by rw [D4]), inferInstance, inferInstance, inferInstance, inferInstance, inferInstance, inferInstance, inferInstance, inferInstance, inferInstance, inferInstance, inferInstance, inferInstance, inferInstance⟩
        · have D3 : decide ((0 : Int) < (i : Int)) = true := by simp; omega
          have ngp : NthG (layRowsT L) (i - 1) [.sl 1 (intRows prev)] := .map (fun l => [Tr.sl 1 (intRows l)]) (hprv (by omega))
          have hin : AsNat ((i : Int) - 1) (i - 1) := ⟨by omega⟩
          have hLv : (intRows prev).length = prev.length := by simp [intRows]
          repeat (first | refine StepC.go ?_ | refine TS_on rfl (by first | rfl | assumption) ?_ | refine TS_puw (Pu.subi (by omega)) ?_)
          exact ⟨tget_as (by rw [D3, hLv]; simp), inferInstance, inferInstance, inferInstance, inferInstance, inferInstance, inferInstance, inferInstance, inferInstance, inferInstance, inferInstance, inferInstance, inferInstance, inferInstance⟩
      clear hB g14 g15 g1 g2 g5 g7 g8 g9 g10 g11 g12 g13
      rintro σ B ⟨g109, g14, g15, g1, g2, g5, g7, g8, g9, g10, g11, g12, g13, hB⟩
      refine TV_keep _ (p := hB) ?_
      skip
      refine TV_cond ?_ ?_ <;> intro hc4
      · have hjl : j < prev.length := by simp at hc4; omega
        obtain ⟨y, hy⟩ : ∃ y, prev[j]? = some y := ⟨_, List.getElem?_eq_getElem hjl⟩
        have ngy : NthG (intRows prev) j [intT y] := .map (fun x => [intT x]) hy
        obtain ⟨hi0, hyb⟩ := hpm y (List.mem_of_getElem? hy)
        have ngp : NthG (layRowsT L) (i - 1) [.sl 1 (intRows prev)] := .map (fun l => [Tr.sl 1 (intRows l)]) (hprv hi0)
        have hin : AsNat ((i : Int) - 1) (i - 1) := ⟨by omega⟩
        have hyn := asNat_of hyb.1
        have hoy := opAt_get (ops := c.ops) (k := y) (by omega)
        have ngoy : NthG (opRows c.ops) y.toNat (opCs (opAt c.ops y)) := .map opCs hoy
        have hgy := hg _ (List.mem_of_getElem? hoy)
        have hbn : bS (j + 1) = (bS j || (decide (y < x) && boundS (opAt c.ops y) (opAt c.ops x))) := by
          rw [hbS]; simp only [take_succ hy, List.any_append, List.any_cons, List.any_nil, Bool.or_false, Bool.or_assoc]
        cases hbj : bS j with
        | true =>
          rw [hbj] at g14 hbn
          repeat (first | refine StepC.go ?_ | refine TS_off_undef rfl ?_ | refine TS_puw (Pu.addi (by omega)) ?_ | refine TS_puw (Pu.subi (by omega)) ?_ | refine TD_take rfl rfl ?_ | refine TD_one rfl ?_ | refine FiltT_nil ?_ | refine TD_off rfl rfl (by first | rfl | assumption) ?_ | refine TD_off_undef rfl rfl ?_ | refine TV_draw (id := 27) (plan := [.take 0, .take 1, .take 2, .take 3, .take 4, .take 5, .take 6, .take 7, .take 8, .take 9, .take 10, .take 11, .take 12, .take 13, .take 14, .take 15, .one 16, .take 17, .take 18, .take 19]) (by kernel_rfl) ?_)
          refine ⟨_, ?_, j + 1, rfl, by omega, tget_as (by rw [hbn]; rfl), tget_as rfl, inferInstance, inferInstance, inferInstance, inferInstance, inferInstance, inferInstance, inferInstance, inferInstance, inferInstance, inferInstance, inferInstance⟩
          omega
        | false =>
          rw [hbj, Bool.false_or] at hbn
          rw [hbj] at g14
          by_cases hyx : y < x
          · have D5 : decide (y < x) = true := by simpa using hyx
            rw [D5, Bool.true_and] at hbn
            repeat (first | refine StepC.go ?_ | refine TS_on rfl (by first | rfl | assumption) ?_ | refine TS_puw (Pu.subi (by omega)) ?_ | refine TD_take rfl rfl ?_ | refine TD_one rfl ?_ | refine FiltT_nil ?_ | refine FiltT_keep rfl ?_ | refine TD_take_on rfl rfl (by first | rfl | assumption) rfl ?_ | refine TD_load_on rfl rfl (by first | rfl | assumption) rfl ?_ | refine TV_draw (id := 27) (plan := [.take 0, .take 1, .take 2, .take 3, .take 4, .take 5, .take 6, .take 7, .take 8, .take 9, .take 10, .take 11, .take 12, .take 13, .take 14, .take 15, .one 16, .take 17, .take 18, .take 19]) (by kernel_rfl) ?_)
            refine TS_callE (boundRT hgy.w hgx.w hgy.bit hgx.bit (by have := hgy.len; omega) (by have := hgx.len; omega)) ?_
            repeat (first | refine StepC.go ?_ | refine TS_puw (Pu.addi (by omega)) ?_ | refine TD_take rfl rfl ?_ | refine TD_take_on rfl rfl (by first | rfl | assumption) rfl ?_)
            refine ⟨_, ?_, j + 1, rfl, by omega, tget_as (by rw [hbn, bound_eq hgy hgx, D5]; rfl), tget_as rfl, inferInstance, inferInstance, inferInstance, inferInstance, inferInstance, inferInstance, inferInstance, inferInstance, inferInstance, inferInstance, inferInstance⟩
            omega
          · have D5 : decide (y < x) = false := by simpa using hyx
            rw [D5, Bool.false_and] at hbn
            repeat (first | refine StepC.go ?_ | refine TS_off rfl (by first | rfl | assumption) ?_ | refine TS_puw (Pu.addi (by omega)) ?_ | refine TS_puw (Pu.subi (by omega)) ?_ | refine TD_take rfl rfl ?_ | refine TD_one rfl ?_ | refine FiltT_nil ?_ | refine TD_off rfl rfl (by first | rfl | assumption) ?_ | refine TD_take_on rfl rfl (by first | rfl | assumption) rfl ?_ | refine TD_take_on (p := Pu.pick_f (by first | rfl | assumption)) rfl rfl (by first | rfl | assumption) rfl ?_ | refine TV_draw (id := 27) (plan := [.take 0, .take 1, .take 2, .take 3, .take 4, .take 5, .take 6, .take 7, .take 8, .take 9, .take 10, .take 11, .take 12, .take 13, .take 14, .take 15, .one 16, .take 17, .take 18, .take 19]) (by kernel_rfl) ?_)
            refine ⟨_, ?_, j + 1, rfl, by omega, tget_as (by rw [hbn]), tget_as rfl, inferInstance, inferInstance, inferInstance, inferInstance, inferInstance, inferInstance, inferInstance, inferInstance, inferInstance, inferInstance, inferInstance⟩
            omega
      · have hjl : j = prev.length := by simp at hc4; omega
        rw [hjl, hbSe] at g14
        repeat (refine StepC.go ?_)
        refine TV_loop (fun d σ B => ∃ (j : Nat), d = k - j ∧ j ≤ k ∧ TGet σ 14 (boolT true) ∧ TGet σ 17 (intT j) ∧ TGet σ 1 (.sl 1 (intRows picks)) ∧ TGet σ 2 (.v (.pointer (some (ad p 0)))) ∧ TGet σ 5 (layT L) ∧ TGet σ 7 (.v (.slice (some (ad bs 0)) n n)) ∧ TGet σ 8 (.v (gsv bo order.length)) ∧ TGet σ 9 (intT tn) ∧ TGet σ 10 (intT i) ∧ TGet σ 11 (.v (.slice (some (ad bl 0)) lay.length lay.length)) ∧ TGet σ 12 (intT k) ∧ TGet σ 13 (intT x) ∧
          SubP B [(bl, .arr 1 (intRows lay) 3 false), (bo, .arr 1 (intRows order) 3 false), (bs, .arr 1 (boolRows (seenL n (seenP f lay i (k + 1)))) 4 true), (p, .cells (circCs c) 24 true)]) k
          ⟨0, by omega, by omega, inferInstance, tget_as rfl, inferInstance, inferInstance, inferInstance, inferInstance, inferInstance, inferInstance, inferInstance, inferInstance, inferInstance, inferInstance, inferInstance⟩ ?_
        clear hB g109 g14 g15 g1 g2 g5 g7 g8 g9 g10 g11 g12 g13
        rintro d σ B ⟨j, rfl, hj, g14, g17, g1, g2, g5, g7, g8, g9, g10, g11, g12, g13, hB⟩
        refine TV_keep _ (p := hB) ?_
        repeat (refine StepC.go ?_)
        refine TV_cond ?_ ?_ <;> intro hc5
        · have hjk : j < k := by simp at hc5; omega
          obtain ⟨y, hy⟩ : ∃ y, lay[j]? = some y := ⟨_, List.getElem?_eq_getElem (by omega)⟩
          have ngy : NthG (intRows lay) j [intT y] := .map (fun x => [intT x]) hy
          have hym := List.mem_of_getElem? hy
          have hyb := ((layL_mem hly').1 hym).1
          have hyn := asNat_of hyb.1
          have hoy := opAt_get (ops := c.ops) (k := y) (by omega)
          have ngoy : NthG (opRows c.ops) y.toNat (opCs (opAt c.ops y)) := .map opCs hoy
          have hgy := hg _ (List.mem_of_getElem? hoy)
          have hno := boundT_no hgy hgx (layL_free hly' hxm hym (layL_rise hly' hy hx hjk))
          repeat (first | refine StepC.go ?_ | refine TD_take rfl rfl ?_ | refine TD_load rfl rfl ?_ | refine TD_one rfl ?_ | refine FiltT_nil ?_ | refine FiltT_keep rfl ?_ | refine TV_draw (id := 31) (plan := [.take 0, .take 1, .take 2, .take 3, .take 4, .take 5, .take 6, .take 7, .take 8, .take 9, .take 10, .take 11, .take 12, .one 13]) (by kernel_rfl) ?_)
          refine TS_callE (boundRT hgy.w hgx.w hgy.bit hgx.bit (by have := hgy.len; omega) (by have := hgx.len; omega)) ?_
          repeat (first | refine StepC.go ?_ | refine TS_puw (Pu.addi (by omega)) ?_ | refine TV_cond_f (by first | rfl | assumption) ?_)
          refine ⟨_, ?_, j + 1, rfl, by omega, inferInstance, tget_as rfl, inferInstance, inferInstance, inferInstance, inferInstance, inferInstance, inferInstance, inferInstance, inferInstance, inferInstance, inferInstance, inferInstance⟩
          omega
        · repeat (first | refine StepC.go ?_ | refine TS_puw (Pu.addi (by omega)) ?_ | refine TV_cond_f (by first | rfl | assumption) ?_)
          refine ⟨_, ?_, k + 1, rfl, by omega, inferInstance, inferInstance, inferInstance, inferInstance, inferInstance, inferInstance, inferInstance, inferInstance, tget_as rfl, inferInstance⟩
          omega
    · have hkl : k = lay.length := by simp at hc3; omega
      subst hkl
      rw [hf, hn, seen_end hly', ← hn, ← hf]
      have hpart2 : Part L f (i + 1) order lay := hpart.next hly fun x hx => by rw [hf]; exact ((layL_mem hly').1 hx).2
      repeat (refine StepC.go ?_)
      refine TV_loop (fun d σ B => ∃ (bo : Nat) (order lf junk : List Int) (tn : Nat), d = lf.length ∧ TGet σ 1 (.sl 1 (intRows picks)) ∧ TGet σ 2 (.v (.pointer (some (ad p 0)))) ∧ TGet σ 5 (layT L) ∧ TGet σ 7 (.v (.slice (some (ad bs 0)) n n)) ∧ TGet σ 8 (.v (gsv bo order.length)) ∧ TGet σ 10 (intT i) ∧ TGet σ 11 (.v (.slice (some (ad bl 0)) lf.length lay.length)) ∧ TGet σ 9 (intT tn) ∧
          SubP B [(bl, .arr 1 (intRows (lf ++ junk)) 3 false), (bo, .arr 1 (intRows order) 3 false), (bs, .arr 1 (boolRows (seenL n fun x => decide (f x < ((i + 1 : Nat) : Int)))) 4 true), (p, .cells (circCs c) 24 true)] ∧ lf.length + junk.length = lay.length ∧ tn ≤ order.length ∧ Part L f (i + 1) order lf) lay.length
        ⟨bo, order, lay, [], tn, rfl, inferInstance, inferInstance, inferInstance, inferInstance, inferInstance, inferInstance, inferInstance, inferInstance, by rw [List.append_nil]; infer_instance, by simp, htn, hpart2⟩ ?_
      clear hB g1 g2 g5 g7 g8 g9 g10 g11 g12 hpart2 htn hpart
      clear bo order tn
      rintro d σ B ⟨bo, order, lf, junk, tn, rfl, g1, g2, g5, g7, g8, g10, g11, g9, hB, hjk, htn, hpart⟩
      refine TV_keep _ (p := hB) ?_
      have hple : order.length + lf.length ≤ n := by
        have := hpart
        rw [hL, hf] at this
        rw [hn]; exact this.le
      repeat (refine StepC.go ?_)
      refine TV_cond ?_ ?_ <;> intro hc4
      · have hlf : 0 < lf.length := by simp at hc4; omega
        repeat (refine StepC.go ?_)
        rw [hLp]
        refine TV_cut (fun σ B => ∃ (kk tn' : Nat), TGet σ 18 (intT kk) ∧ TGet σ 9 (intT tn') ∧ kk < lf.length ∧ tn' ≤ tn + 1 ∧ TGet σ 1 (.sl 1 (intRows picks)) ∧ TGet σ 2 (.v (.pointer (some (ad p 0)))) ∧ TGet σ 5 (layT L) ∧ TGet σ 7 (.v (.slice (some (ad bs 0)) n n)) ∧ TGet σ 8 (.v (gsv bo order.length)) ∧ TGet σ 10 (intT i) ∧ TGet σ 11 (.v (.slice (some (ad bl 0)) lf.length lay.length)) ∧
          SubP B [(bl, .arr 1 (intRows (lf ++ junk)) 3 false), (bo, .arr 1 (intRows order) 3 false), (bs, .arr 1 (boolRows (seenL n fun x => decide (f x < ((i + 1 : Nat) : Int)))) 4 true), (p, .cells (circCs c) 24 true)]) ?_ ?_
        · refine TV_cond ?_ ?_ <;> intro hc5
          · have hpl : 0 < picks.length := by simp at hc5; omega
            have hmod : tn % picks.length < picks.length := Nat.mod_lt _ hpl
            obtain ⟨pk, hpk⟩ : ∃ pk, picks[tn % picks.length]? = some pk := ⟨_, List.getElem?_eq_getElem hmod⟩
            have ngp : NthG (intRows picks) (tn % picks.length) [intT pk] := .map (fun x => [intT x]) hpk
            have hpb := hp pk (List.mem_of_getElem? hpk)
            repeat (refine StepC.go ?_)
            rw [hLp]
            refine TS_puw (Pu.divw (r := ((tn % picks.length : Nat) : Int)) (by omega) (by simp only [idivs, Int.ofNat_tmod])) ?_
            repeat (refine StepC.go ?_)
            refine TV_cut (fun σ B => ∃ (k2 : Nat), TGet σ 18 (intT k2) ∧ TGet σ 9 (intT tn) ∧ TGet σ 1 (.sl 1 (intRows picks)) ∧ TGet σ 2 (.v (.pointer (some (ad p 0)))) ∧ TGet σ 5 (layT L) ∧ TGet σ 7 (.v (.slice (some (ad bs 0)) n n)) ∧ TGet σ 8 (.v (gsv bo order.length)) ∧ TGet σ 10 (intT i) ∧ TGet σ 11 (.v (.slice (some (ad bl 0)) lf.length lay.length)) ∧
              SubP B [(bl, .arr 1 (intRows (lf ++ junk)) 3 false), (bo, .arr 1 (intRows order) 3 false), (bs, .arr 1 (boolRows (seenL n fun x => decide (f x < ((i + 1 : Nat) : Int)))) 4 true), (p, .cells (circCs c) 24 true)]) ?_ ?_
            · refine TV_cond ?_ ?_ <;> intro hc6
              · have hpn : pk < 0 := by simpa using hc6
                have hw1 : IntKind.i64.wrap (0 - (pk + 1)) = (((-(pk + 1)).toNat : Nat) : Int) := by
                  rw [wrap_i64_id (by omega)]; omega
                repeat (first | refine StepC.go ?_ | refine TS_puw (Pu.addi (by omega)) ?_)
                exact ⟨(-(pk + 1)).toNat, tget_as (by rw [hw1]), inferInstance, inferInstance, inferInstance, inferInstance, inferInstance, inferInstance, inferInstance, inferInstance, inferInstance⟩
              · have hpn : 0 ≤ pk := by simp at hc6; omega
                repeat (refine StepC.go ?_)
                exact ⟨pk.toNat, tget_as (by rw [Int.toNat_of_nonneg hpn]), inferInstance, inferInstance, inferInstance, inferInstance, inferInstance, inferInstance, inferInstance, inferInstance, inferInstance⟩
            clear hB g1 g2 g5 g7 g8 g9 g10 g11
            rintro σ B ⟨k2, g18, g9, g1, g2, g5, g7, g8, g10, g11, hB⟩
            refine TV_keep _ (p := hB) ?_
            repeat (refine StepC.go ?_)
            refine TS_puw (Pu.divw (r := ((k2 % lf.length : Nat) : Int)) (by omega) (by simp only [idivs, Int.ofNat_tmod])) ?_
            repeat (first | refine StepC.go ?_ | refine TS_puw (Pu.addi (by omega)) ?_)
            exact ⟨k2 % lf.length, tn + 1, inferInstance, tget_as rfl, Nat.mod_lt _ hlf, Nat.le_refl _, inferInstance, inferInstance, inferInstance, inferInstance, inferInstance, inferInstance, inferInstance, inferInstance⟩
          · repeat (refine StepC.go ?_)
            exact ⟨0, tn, tget_as rfl, inferInstance, hlf, by omega, inferInstance, inferInstance, inferInstance, inferInstance, inferInstance, inferInstance, inferInstance, inferInstance⟩
        clear hB g1 g2 g5 g7 g8 g9 g10 g11
        rintro σ B ⟨kk, tn', g18, g9, hkk, htn', g1, g2, g5, g7, g8, g10, g11, hB⟩
        refine TV_keep _ (p := hB) ?_
        obtain ⟨z, hz⟩ : ∃ z, lf[kk]? = some z := ⟨_, List.getElem?_eq_getElem hkk⟩
        have ngz : NthG (intRows (lf ++ junk)) kk [intT z] := .map (fun x => [intT x]) (by rw [List.getElem?_append_left hkk]; exact hz)
        have hLt : LenT (intRows (lf ++ junk)) lay.length := ⟨by simp [intRows]; omega⟩
        have hrx : RealX (intRows (lf ++ junk)) false := ⟨fun h => by
          have := congrArg List.length h
          simp [intRows] at this
          have h2 := this.1
          subst h2; simp at hlf⟩
        repeat (refine StepC.go ?_)
        refine TS_puw (Pu.index_len hkk) ?_
        repeat (first | refine StepC.go ?_ | intro _ | refine TS_append (by omega) (fun _ => ?_) | refine TD_take rfl rfl ?_ | refine TV_draw (id := 44) (plan := [.take 0, .take 1, .take 2, .take 3, .take 4, .take 5, .take 6, .one 7, .take 8]) (by kernel_rfl) ?_)
        rename_i bz bo2
        rw [intRows_snoc]
        refine TD_takew rfl rfl (Pu.slice_own (by omega)) ?_
        repeat (first | refine TD_take rfl rfl ?_ | refine TD_takew rfl rfl (Pu.addi (by omega)) ?_)
        have hk1 : AsNat ((kk : Int) + 1) (kk + 1) := ⟨by omega⟩
        have hrl : (intRows (lf ++ junk)).length = lay.length := hLt.eq
        have hrn : intRows (lf ++ junk) ≠ [] := fun h => by have := hrx.eq h; cases this
        have hlr := left_rows (junk := junk) hkk
        have hll3 : (lf.take kk ++ lf.drop (kk + 1)).length = kk + (lf.length - (kk + 1)) := by simp; omega
        have hll4 : (lf.take kk ++ lf.drop (kk + 1)).length + ((lf ++ junk).drop (lf.length - 1)).length = lay.length := by rw [hll3]; simp; omega
        have hpick := hpart.pick hz
        have hgo : (order ++ [z]).length = order.length + 1 := by simp
        by_cases hend : kk + 1 = lay.length
        · have h0 : lf.length - (kk + 1) = 0 := by omega
          rw [h0, List.take_zero] at hlr
          refine TD_takew rfl rfl (Pu.own_endw (by omega) (by omega) (by omega) hrn) ?_
          repeat (first | refine TD_one rfl ?_ | refine FiltT_nil ?_)
          refine TS_append_in (sr := SrcT.mark) (by omega) (by omega) ?_
          rw [hlr]
          repeat (first | refine StepC.go ?_ | refine TD_take rfl rfl ?_)
          refine ⟨_, ?_, bo2, order ++ [z], lf.take kk ++ lf.drop (kk + 1), (lf ++ junk).drop (lf.length - 1), tn', rfl, inferInstance, inferInstance, inferInstance, inferInstance, tget_as (by rw [hgo]), inferInstance, tget_as (by rw [hll3, h0]), inferInstance, inferInstance, hll4, by rw [hgo]; omega, hpick⟩
          rw [hll3]; omega
        · refine TD_takew rfl rfl (Pu.own_lo (j := kk + 1) (by omega) (by omega) (by omega)) ?_
          repeat (first | refine TD_one rfl ?_ | refine FiltT_nil ?_)
          refine TS_append_in (n2 := lf.length - (kk + 1)) (sr := SrcT.part (j := kk + 1) (by rw [hrl]; omega)) (ln2 := ⟨by simp [intRows]; omega⟩) (by omega) (by omega) ?_
          rw [hlr]
          repeat (first | refine StepC.go ?_ | refine TD_take rfl rfl ?_)
          refine ⟨_, ?_, bo2, order ++ [z], lf.take kk ++ lf.drop (kk + 1), (lf ++ junk).drop (lf.length - 1), tn', rfl, inferInstance, inferInstance, inferInstance, inferInstance, tget_as (by rw [hgo]), inferInstance, tget_as (by rw [hll3]), inferInstance, inferInstance, hll4, by rw [hgo]; omega, hpick⟩
          rw [hll3]; omega
      · have hlf : lf = [] := by
          have h0 := of_decide_eq_false hc4
          have : lf.length = 0 := by omega
          exact List.eq_nil_of_length_eq_zero this
        subst hlf
        repeat (first | refine StepC.go ?_ | refine TS_puw (Pu.addi (by omega)) ?_)
        refine ⟨_, ?_, i + 1, bo, order, tn, rfl, by omega, inferInstance, inferInstance, inferInstance, inferInstance, inferInstance, inferInstance, tget_as rfl, inferInstance, htn, hpart⟩
        omega
  · have hil : i = L.length := by have := of_decide_eq_false hc2; omega
    subst hil
    rw [hL, hf] at hpart
    have hord := hpart.ordered
    have hol := hord.len
    have hLo : LenT (intRows order) order.length := inferInstance
    have : Sm63 order.length := ⟨by omega⟩
    obtain ⟨r1, r2, r3, r4⟩ := hord.layers hck
    have hgw : CircW (orderC c order).1 := by
      rw [r1]
      intro o ho
      exact hw o (hord.ops.mem_iff.1 ho)
    have ro : (orderC c order).1 = ⟨c.qubits, c.bits, order.map (opAt c.ops)⟩ := by rw [r1]
    have re : (orderC c order).2 = 0 := by rw [r1]
    rw [← ro] at r2 r3 r4
    obtain ⟨c2, hc2e⟩ : ∃ c2, c2 = (orderC c order).1 := ⟨_, rfl⟩
    rw [← hc2e] at r2 r3 r4 hgw
    refine TV_freeze (b := 0) 8 bo ?_
    have hLo2 : (intRows order).length = (opRows c.ops).length := by rw [hLc, ← hol]; simp [intRows]
    have hdd : ∀ z : Int, (!decide (z = z)) = false := fun z => by simp
    repeat (refine StepC.go ?_)
    rw [hLo2, hdd]
    repeat (first | refine StepC.go ?_ | refine TV_cond_f (by first | rfl | assumption) ?_)
    refine TS_call (circOrderT hw) ?_
    rintro _ rfl
    rw [← hc2e, re]
    repeat (first | refine StepC.go ?_ | intro _)
    refine TS_call (layersT hgw) ?_
    rintro _ rfl
    rw [r2]
    rw [hlay, ← hL] at r3 r4
    obtain ⟨M, hM⟩ : ∃ M, M = (layersC c2).1 := ⟨_, rfl⟩
    rw [← hM] at r3 r4 ⊢
    have hMM : (layRowsT M).length = L.length := by simp [layRowsT, r3]
    repeat (first | refine StepC.go ?_ | refine TS_on rfl (by first | rfl | assumption) ?_)
    rw [hMM, hLL, hdd]
    repeat (first | refine StepC.go ?_ | refine TV_cond_f (by first | rfl | assumption) ?_)
    refine TV_loop (fun d σ B => ∃ (i : Nat), d = L.length - i ∧ i ≤ L.length ∧ TGet σ 5 (layT L) ∧ TGet σ 21 (layT M) ∧ TGet σ 23 (intT i)) L.length
      ⟨0, by omega, by omega, inferInstance, inferInstance, tget_as rfl⟩ ?_
    clear hB g1 g2 g5 g7 g8 g9 g10
    rintro d σ B ⟨i, rfl, hi, g5, g21, g23⟩
    repeat (refine StepC.go ?_)
    rw [hMM]
    refine TV_cond ?_ ?_ <;> intro hc3
    · have hil : i < L.length := by have := of_decide_eq_true hc3; omega
      obtain ⟨lay, hly⟩ : ∃ l, L[i]? = some l := ⟨_, List.getElem?_eq_getElem hil⟩
      obtain ⟨lay2, hly2⟩ : ∃ l, M[i]? = some l := ⟨_, List.getElem?_eq_getElem (by omega)⟩
      have ngl : NthG (layRowsT L) i [.sl 1 (intRows lay)] := .map (fun l => [Tr.sl 1 (intRows l)]) hly
      have ngm : NthG (layRowsT M) i [.sl 1 (intRows lay2)] := .map (fun l => [Tr.sl 1 (intRows l)]) hly2
      have hsz := r4 i
      rw [List.getD, List.getD, hly, hly2] at hsz
      simp only [Option.getD_some] at hsz
      have hz1 : (intRows lay2).length = (intRows lay).length := by simp [intRows, hsz]
      repeat (first | refine StepC.go ?_ | refine TD_take rfl rfl ?_ | refine TD_load rfl rfl ?_ | refine TV_draw (id := 54) (plan := [.take 0, .take 1, .take 2, .take 3, .take 4, .take 5, .take 6, .take 7, .take 8, .take 9, .take 10]) (by kernel_rfl) ?_)
      rw [hz1, hdd]
      repeat (first | refine StepC.go ?_ | refine TS_puw (Pu.addi (by omega)) ?_ | refine TV_cond_f (by first | rfl | assumption) ?_)
      refine ⟨_, ?_, i + 1, rfl, by omega, inferInstance, inferInstance, tget_as rfl⟩
      omega
    · repeat (refine StepC.go ?_)
      exact retT_1 (.inr rfl) rfl
instance : CallIs Try.prog 4 := .of Try.func4 rfl rfl
/-- the law's walk from its arguments as they are read -/
theorem circuitLayersW {h : IHp} (hnew : h.new = []) {v v2 : Value} {c : CircD} {picks : List Int} (hv : Rep h.cell? (circT c) v ∧ CircW c) (hv2 : Rep h.cell? (.sl 1 (intRows picks)) v2 ∧ I64s picks) : EvX Try.prog 4 [v, v2].toArray h (fun v _ => v = .bool true) :=
  EvX_of_Fn (circuitLayersT hv.2 hv2.2) (RepL.cons hv.1 (RepL.cons hv2.1 RepL.nil))
end Go.Ideal
