/- Part 6 of what the proof stands on: an interpreter over an ideal memory that is proved sound, steps over it, and contracts of the functions that are called. No condition: no law is claimed here. -/
import Derived.Test.YtodgjkffkjhinaaC5
-- Tm
set_option linter.unusedSimpArgs false
set_option linter.unusedVariables false
namespace Go.Ideal
open Go Go.Proofs Go.RowKit
/-! ### The reference's layers; lists that are the same -/
/-- steps are good: each is at most one more than what has been -/
def goodS : List Int → Nat → Prop
  | [], _ => True
  | s :: ss, L => 0 ≤ s ∧ s ≤ L ∧ goodS ss (if s.toNat = L then L + 1 else L)
def lenS (ss : List Int) (L : Nat) : Nat := ss.foldl (fun L s => if s.toNat = L then L + 1 else L) L
theorem laysK_len : ∀ (ss : List Int) (i : Int) (ls : List (List Int)), (laysK ss i ls).length = lenS ss ls.length := by
  intro ss
  induction ss with
  | nil => intro i ls; rfl
  | cons s ss ih => intro i ls; simp only [laysK, ih, layS_len, lenS, List.foldl_cons]
theorem goodS_app : ∀ (ss ts : List Int) (L : Nat), goodS (ss ++ ts) L ↔ goodS ss L ∧ goodS ts (lenS ss L) := by
  intro ss
  induction ss with
  | nil => intro ts L; simp [goodS, lenS]
  | cons s ss ih => intro ts L; simp only [List.cons_append, goodS, ih, lenS, List.foldl_cons, and_assoc]
theorem lenS_app (ss : List Int) (s : Int) (L : Nat) : lenS (ss ++ [s]) L = if s.toNat = lenS ss L then lenS ss L + 1 else lenS ss L := by unfold lenS; rw [List.foldl_append]; rfl
theorem stepsS_good (bd : OpD → OpD → Bool) (os : List OpD) : ∀ n, goodS (stepsS bd os n) 0 ∧ ∀ x ∈ stepsS bd os n, 0 ≤ x ∧ x < (lenS (stepsS bd os n) 0 : Nat) := by
  intro n
  induction n with
  | zero => exact ⟨trivial, fun x hx => by cases hx⟩
  | succ n ih =>
    obtain ⟨h1, h2⟩ := ih
    have hb := stepK_bounds bd (os.getD n ⟨0, .empty, [], 0, false, 0, 0⟩) (lenS (stepsS bd os n) 0 : Nat) os (stepsS bd os n) 0 (by omega) (by omega) h2
    simp only [stepsS]
    refine ⟨(goodS_app _ _ _).2 ⟨h1, hb.1, hb.2, trivial⟩, fun x hx => ?_⟩
    rw [lenS_app]
    rcases List.mem_append.1 hx with h | h
    · have := h2 x h
      split <;> omega
    · rw [List.mem_singleton.1 h]
      split <;> omega
theorem layersR_at {ss : List Int} (h : goodS ss 0) {i : Nat} {s : Int} (hs : ss[i]? = some s) : 0 ≤ s ∧ s ≤ (laysS (ss.take i)).length := by
  have hi := (List.getElem?_eq_some_iff.1 hs).1
  have e : ss = ss.take i ++ s :: ss.drop (i + 1) := by conv => lhs; rw [← List.take_append_drop i ss, drop_cons hs]
  rw [e] at h
  have h2 := ((goodS_app _ _ _).1 h).2
  rw [laysS, laysK_len]
  exact ⟨h2.1, h2.2.1⟩
theorem stepsEq {c : CircD} (hg : ∀ o ∈ c.ops, OpG o) : stepsS boundR c.ops c.ops.length = stepsS boundS c.ops c.ops.length := stepsS_congr (fun a ha b hb => bound_eq (hg a ha) (hg b hb)) _ (Nat.le_refl _)
theorem circ_good {c : CircD} (hw : CircW c) (h : (checkC c).2 = 0) : c.ops.length ≤ 4096 ∧ ∀ o ∈ c.ops, OpG o := by
  obtain ⟨hr, hlen, hfl⟩ := checkC_ok h
  obtain ⟨_, hq64, _, hb64⟩ := rangeBad_no hr
  exact ⟨hlen, fun o ho => opG_of (hfl o ho) hq64 hb64 (hw o ho)⟩
set_option maxHeartbeats 2000000 in
theorem layersRT {c : CircD} (hw : CircW c) : Fn Try.prog 15 [circT c] (fun r => r = .tup [layT (layersC c).1, intT (layersC c).2]) := by
  refine Fn_of Try.func15 rfl (Nat.le_of_ble_eq_true rfl) (fun X => ?_)
  repeat (first | refine StepC.go ?_ | intro _)
  rename_i p
  refine TS_callE (checkRT hw) ?_
  repeat (refine StepC.go ?_)
  refine TV_cond ?_ ?_ <;> intro hc
  · repeat (refine StepC.go ?_)
    refine retT_2c [.sl 1 [], intT (checkC c).2] (.inr rfl) ?_
    simp only [tret, layersC]
    rw [if_neg (by simpa using hc)]; rfl
  have hck : (checkC c).2 = 0 := by simpa using hc
  obtain ⟨hlen, hg⟩ := circ_good hw hck
  repeat (refine StepC.go ?_)
  refine TS_call (stepsRT hg hlen) ?_
  rintro _ rfl
  rw [stepsEq hg]
  obtain ⟨n, hn⟩ : ∃ n, n = c.ops.length := ⟨_, rfl⟩
  obtain ⟨ss, hss⟩ : ∃ ss, ss = stepsS boundS c.ops c.ops.length := ⟨_, rfl⟩
  have hsl : ss.length = n := by rw [hss, hn, stepsS_len]
  have hgd : goodS ss 0 := by rw [hss]; exact (stepsS_good _ _ _).1
  rw [← hss]
  repeat (refine StepC.go ?_)
  refine TV_ghost 1 25 ?_
  intro bl
  have hLs : (intRows ss).length = n := by simp [intRows, hsl]
  refine TV_loop (fun d σ B => ∃ (i : Nat) (bl : Nat) (fam : List (Nat × List Int)), d = n - i ∧ i ≤ n ∧ TGet σ 8 (intT i) ∧ TGet σ 6 (.sl 1 (intRows ss)) ∧ TGet σ 7 (.v (gsv bl fam.length)) ∧
      SubP B ((bl, .arr 1 (famR fam) 25 false) :: famB 3 fam) ∧
      fam.map Prod.snd = laysS (ss.take i) ∧ fam.length ≤ i ∧ ∀ x ∈ fam, x.2.length ≤ i) n
    ⟨0, bl, [], by omega, by omega, inferInstance, inferInstance, tget_as rfl, inferInstanceAs (SubP _ [(bl, .arr 1 [] 25 false)]), rfl, by simp, by simp⟩ ?_
  rintro d σ B ⟨i, bl, fam, rfl, hi, g8, g6, g7, hB, hfam, hfl1, hfl2⟩
  refine TV_keep _ (p := hB) ?_
  repeat (refine StepC.go ?_)
  rw [hLs]
  refine TV_cond ?_ ?_ <;> intro hc2
  · have hil : i < n := by simp at hc2; omega
    obtain ⟨s, hs⟩ : ∃ s, ss[i]? = some s := ⟨_, List.getElem?_eq_getElem (by omega)⟩
    have hsb := layersR_at hgd hs
    rw [← hfam, List.length_map] at hsb
    have hss := asNat_of hsb.1
    have nS : NthG (intRows ss) i [intT s] := .map (fun x => [intT x]) hs
    iterate 5 refine StepC.go ?_
    refine TV_cut (fun σ B => ∃ (bl : Nat) (fam' : List (Nat × List Int)), TGet σ 8 (intT i) ∧ TGet σ 6 (.sl 1 (intRows ss)) ∧ TGet σ 7 (.v (gsv bl fam'.length)) ∧
        SubP B ((bl, .arr 1 (famR fam') 25 false) :: famB 3 fam') ∧
        fam'.map Prod.snd = (if s.toNat = fam.length then fam.map Prod.snd ++ [[]] else fam.map Prod.snd) ∧ s.toNat < fam'.length ∧ fam.length ≤ fam'.length ∧ fam'.length ≤ i + 1 ∧ ∀ x ∈ fam', x.2.length ≤ i) ?_ ?_
    · repeat (refine StepC.go ?_)
      refine TV_loop (fun d σ B => ∃ (bl : Nat) (fam' : List (Nat × List Int)), d = s.toNat + 1 - fam'.length ∧ TGet σ 8 (intT i) ∧ TGet σ 6 (.sl 1 (intRows ss)) ∧ TGet σ 7 (.v (gsv bl fam'.length)) ∧
        SubP B ((bl, .arr 1 (famR fam') 25 false) :: famB 3 fam') ∧
        (fam' = fam ∨ (s.toNat = fam.length ∧ ∃ bg, fam' = fam ++ [(bg, [])]))) (s.toNat + 1 - fam.length)
        ⟨bl, fam, rfl, inferInstance, inferInstance, inferInstance, inferInstance, .inl rfl⟩ ?_
      rintro d σ B ⟨bl, fam', rfl, g8, g6, g7, hB, hor⟩
      refine TV_keep _ (p := hB) ?_
      repeat (refine StepC.go ?_)
      refine TV_cond ?_ ?_ <;> intro hs2
      · have hsL : fam' = fam ∧ s.toNat = fam.length := by
          simp at hs2
          rcases hor with h | ⟨h, bg, rfl⟩
          · subst h; exact ⟨rfl, by omega⟩
          · simp at hs2; omega
        obtain ⟨rfl, hsL⟩ := hsL
        refine TV_ghost 1 3 ?_
        intro bg
        repeat (first | refine StepC.go ?_ | intro _ | (refine TS_append ?_ (fun _ => ?_); · omega))
        have hR : famR fam' ++ [[.v (.slice none 0 0)]] = famR (fam' ++ [(bg, [])]) := by simp [famR, gsv]
        rw [hR]
        rename_i bl2
        have hF : famB 3 (fam' ++ [(bg, [])]) = famB 3 fam' ++ [(bg, .arr 1 [] 3 false)] := by simp [famB, intRows]
        refine ⟨_, ?_, bl2, fam' ++ [(bg, [])], rfl, inferInstance, inferInstance, tget_as (by rw [List.length_append]; rfl), ?_, .inr ⟨hsL, bg, rfl⟩⟩
        · simp; omega
        · rw [hF]
          refine SubP.last (k := (bg, .arr 1 [] 3 false)) (L := (bl2, .arr 1 (famR (fam' ++ [(bg, [])])) 25 false) :: famB 3 fam') ?_
          infer_instance
      · repeat (refine StepC.go ?_)
        simp at hs2
        rcases hor with h | ⟨h, bg, rfl⟩
        · subst h
          exact ⟨bl, fam', inferInstance, inferInstance, inferInstance, inferInstance, by rw [if_neg (by omega)], by omega, Nat.le_refl _, by omega, hfl2⟩
        · refine ⟨bl, fam ++ [(bg, [])], inferInstance, inferInstance, inferInstance, inferInstance, by rw [if_pos h]; simp, by simp; omega, by simp, by simp; omega, ?_⟩
          intro x hx
          rcases List.mem_append.1 hx with h1 | h1
          · exact hfl2 x h1
          · simp at h1; subst h1; simp
    · clear hfl2
      rintro σ B ⟨bl, fam', g8, g6, g7, hB, hf1, hf2, hf3, hf4, hfl2⟩
      refine TV_keep _ (p := hB) ?_
      obtain ⟨x, hx⟩ : ∃ x, fam'[s.toNat]? = some x := ⟨_, List.getElem?_eq_getElem hf2⟩
      obtain ⟨bk, lk⟩ := x
      have hlk := hfl2 _ (List.mem_of_getElem? hx)
      simp only at hlk
      have q1 := famB_is (e := 3) hx
      have q2 := famB_in (e := 3) hx
      have q3 : ∀ b', BoxPut (famB 3 fam') bk b' (.arr 1 (intRows lk ++ [[intT (i : Int)]]) 3 false) (famB 3 (fam'.set s.toNat (b', lk ++ [(i : Int)]))) := fun b' => famB_put (l2 := [(i : Int)]) hx b'
      have q4 := famR_at hx
      have q5 : ∀ b', SetR (famR fam') s.toNat [.v (gsv b' (lk.length + 1))] (famR (fam'.set s.toNat (b', lk ++ [(i : Int)]))) := fun b' => ⟨by simp [famR, List.map_set]⟩
      repeat (first | refine StepC.go ?_ | intro _ | (refine TS_puw (Pu.addi ?_) ?_; · omega) | (refine TS_append ?_ (fun _ => ?_); · omega) | refine TD_take rfl rfl ?_ | refine TD_load rfl rfl ?_ | refine TD_one rfl ?_ | refine FiltT_nil ?_ | refine FiltT_drop rfl ?_ | refine FiltT_keep rfl ?_ | refine TV_draw (id := 11) (plan := [.take 0, .take 1, .take 2, .take 3, .take 4, .take 5, .take 6, .take 7, .take 8, .take 9, .take 10, .take 11, .take 12, .one 13, .one 14, .take 15, .one 16]) (by kernel_rfl) ?_)
      rename_i bk2
      refine ⟨_, ?_, i + 1, bl, fam'.set s.toNat (bk2, lk ++ [(i : Int)]), rfl, by omega, inferInstance, inferInstance, tget_as (by rw [List.length_set]), ?_, ?_, ?_, ?_⟩
      · omega
      · infer_instance
      · rw [List.take_add_one, hs, Option.toList_some, laysS, laysK_app, ← laysS, ← hfam]
        simp only [laysK, layS, Int.zero_add, List.length_map]
        rw [List.map_set, ← hf1, List.length_take, hsl, Nat.min_eq_left (Nat.le_of_lt hil)]
        congr 1
        simp [List.getD, hx]
      · rw [List.length_set]; omega
      · intro y hy
        rcases List.mem_or_eq_of_mem_set hy with h1 | rfl
        · have := hfl2 y h1; omega
        · simp; omega
  · have hil : i = n := by simp at hc2; omega
    subst hil
    have : Sm63 fam.length := ⟨by omega⟩
    have hfz := famR_frz (B := (bl, .arr 1 (famR fam) 25 false) :: famB 3 fam) (e := 3) (fam := fam) (fun x hx => by
      have : BoxIs (famB 3 fam) x.1 (.arr 1 (intRows x.2) 3 false) := ⟨List.mem_map.2 ⟨x, hx, rfl⟩⟩
      infer_instance) (fun x hx => by have := hfl2 x hx; omega)
    repeat (refine StepC.go ?_)
    refine retT_2 (.inr rfl) ?_
    simp only [tret, layersC]
    rw [if_pos hck, hfam, ← hss, List.take_of_length_le (Nat.le_of_eq hsl)]
instance : CallIs Try.prog 15 := .of Try.func15 rfl rfl
end Go.Ideal

-- Tn
set_option linter.unusedSimpArgs false
set_option linter.unusedVariables false
namespace Go.Ideal
open Go Go.Proofs Go.RowKit
/-! ### The same lists, the same circuits -/
theorem layS_mem {ls : List (List Int)} {s i : Int} {k : Nat} (h : ∀ l ∈ ls, l.length ≤ k) : ∀ l ∈ layS ls s i, l.length ≤ k + 1 := by
  have h2 : ∀ l ∈ (if s.toNat = ls.length then ls ++ [[]] else ls), l.length ≤ k := by
    intro l hl
    split at hl
    · rcases List.mem_append.1 hl with h1 | h1
      · exact h l h1
      · rw [List.mem_singleton.1 h1]; exact Nat.zero_le _
    · exact h l hl
  intro l hl
  unfold layS at hl
  rcases List.mem_or_eq_of_mem_set hl with h1 | rfl
  · exact Nat.le_succ_of_le (h2 l h1)
  · rw [List.length_append]
    refine Nat.succ_le_succ ?_
    generalize (if s.toNat = ls.length then ls ++ [[]] else ls) = l2 at h2
    rw [List.getD]
    cases hx : l2[s.toNat]? with
    | none => exact Nat.zero_le _
    | some x => exact h2 x (List.mem_of_getElem? hx)
theorem laysK_mem : ∀ (ss : List Int) (i : Int) (ls : List (List Int)) (k : Nat), (∀ l ∈ ls, l.length ≤ k) → ∀ l ∈ laysK ss i ls, l.length ≤ k + ss.length := by
  intro ss
  induction ss with
  | nil => intro i ls k h l hl; exact h l hl
  | cons s ss ih =>
    intro i ls k h l hl
    have := ih (i + 1) _ (k + 1) (layS_mem h) l hl
    simp only [List.length_cons]; omega
theorem layersC_mem (c : CircD) : ∀ l ∈ (layersC c).1, l.length < 2 ^ 40 := by
  intro l hl
  unfold layersC at hl
  split at hl
  · rename_i h
    have h1 := (checkC_ok h).2.1
    have h2 := laysK_mem _ 0 [] 0 (by simp) l hl
    rw [stepsS_len] at h2
    omega
  · cases hl
set_option maxHeartbeats 1000000 in
theorem sameListsT {ls : List (List Int)} (hs : ∀ l ∈ ls, l.length < 2 ^ 40) : Fn Try.prog 16 [layT ls, layT ls] (fun r => r = boolT true) := by
  refine Fn_of Try.func16 rfl (Nat.le_of_ble_eq_true rfl) (fun X => ?_)
  refine TV_fact 0 (fun F v h => rep_small h) fun hsm => ?_
  have hL : (layRowsT ls).length = ls.length := by simp [layRowsT]
  rw [hL] at hsm
  repeat (first | refine StepC.go ?_ | (refine TV_cond_f ?_ ?_; · first | rfl | assumption))
  rw [hL]
  refine TV_loop (fun d σ B => ∃ i : Nat, d = ls.length - i ∧ i ≤ ls.length ∧ TGet σ 5 (intT i) ∧ TGet σ 0 (layT ls) ∧ TGet σ 1 (layT ls)) ls.length
    ⟨0, by omega, by omega, inferInstance, inferInstance, inferInstance⟩ ?_
  rintro d σ B ⟨i, rfl, hi, g5, g0, g1⟩
  repeat (refine StepC.go ?_)
  rw [hL]
  refine TV_cond ?_ ?_ <;> intro hc
  · have hil : i < ls.length := by simp at hc; omega
    obtain ⟨l, hl⟩ : ∃ l, ls[i]? = some l := ⟨_, List.getElem?_eq_getElem hil⟩
    have ng : NthG (layRowsT ls) i [.sl 1 (intRows l)] := .map (fun l => [Tr.sl 1 (intRows l)]) hl
    have hL2 : (intRows l).length = l.length := by simp [intRows]
    repeat (first | refine StepC.go ?_ | refine TD_take rfl rfl ?_ | refine TD_load rfl rfl ?_ | refine TV_draw (id := 6) (plan := [.take 0, .take 1, .take 2, .take 3, .take 4, .take 5, .take 6, .take 7, .take 8, .take 9, .take 10]) (by kernel_rfl) ?_ | (refine TV_cond_f ?_ ?_; · first | rfl | assumption))
    refine TV_loop (fun d σ B => ∃ j : Nat, d = l.length - j ∧ j ≤ l.length ∧ TGet σ 6 (intT j) ∧ TGet σ 5 (intT i) ∧ TGet σ 0 (layT ls) ∧ TGet σ 1 (layT ls)) l.length
      ⟨0, by omega, by omega, inferInstance, inferInstance, inferInstance, inferInstance⟩ ?_
    rintro d σ B ⟨j, rfl, hj, g6, g5, g0, g1⟩
    repeat (refine StepC.go ?_)
    rw [hL2]
    refine TV_cond ?_ ?_ <;> intro hc2
    · have hjl : j < l.length := by simp at hc2; omega
      obtain ⟨x, hx⟩ : ∃ x, l[j]? = some x := ⟨_, List.getElem?_eq_getElem hjl⟩
      have ngx : NthG (intRows l) j [intT x] := .map (fun x => [intT x]) hx
      have hsm2 := hs l (List.mem_of_getElem? hl)
      repeat (first | refine StepC.go ?_ | (refine TS_puw (Pu.addi ?_) ?_; · omega) | refine TD_take rfl rfl ?_ | refine TD_load rfl rfl ?_ | refine TV_draw (id := 11) (plan := [.take 0, .take 1, .take 2, .take 3, .take 4, .take 5, .take 6, .take 7, .take 8, .take 9, .take 10, .take 11, .take 12, .take 13, .take 14]) (by kernel_rfl) ?_ | (refine TV_cond_f ?_ ?_; · first | rfl | assumption))
      refine ⟨_, ?_, j + 1, rfl, by omega, inferInstance, inferInstance, inferInstance, inferInstance⟩
      omega
    · repeat (first | refine StepC.go ?_ | (refine TS_puw (Pu.addi ?_) ?_; · omega))
      refine ⟨_, ?_, i + 1, rfl, by omega, inferInstance, inferInstance, inferInstance⟩
      omega
  · repeat (refine StepC.go ?_)
    refine retT_1 (.inr rfl) ?_
    rfl
instance : CallIs Try.prog 16 := .of Try.func16 rfl rfl
set_option synthInstance.maxSize 4000 in
set_option synthInstance.maxHeartbeats 400000 in
set_option maxHeartbeats 4000000 in
theorem sameT {c : CircD} (hs : ∀ o ∈ c.ops, o.qs.length < 2 ^ 40) : Fn Try.prog 11 [circT c, circT c] (fun r => r = boolT true) := by
  refine Fn_of Try.func11 rfl (Nat.le_of_ble_eq_true rfl) (fun X => ?_)
  refine TV_fact 0 (fun F v h => by obtain ⟨w, h1⟩ := rep_agg_at h (i := 2) rfl; exact rep_small h1) fun hsm => ?_
  have hL : (opRows c.ops).length = c.ops.length := by simp [opRows]
  rw [hL] at hsm
  repeat (first | refine StepC.go ?_ | intro _ | (refine TS_on rfl ?_ ?_; · first | rfl | assumption) | (refine TV_cond_f ?_ ?_; · first | rfl | assumption))
  rename_i pa pb
  refine TV_loop (fun d σ B => ∃ i : Nat, d = c.ops.length - i ∧ i ≤ c.ops.length ∧ TGet σ 5 (intT i) ∧ TGet σ 2 (.v (.pointer (some (ad pa 0)))) ∧ TGet σ 3 (.v (.pointer (some (ad pb 0)))) ∧ SubP B [(pa, .cells (circCs c) 24 true), (pb, .cells (circCs c) 24 true)]) c.ops.length
    ⟨0, by omega, by omega, inferInstance, inferInstance, inferInstance, inferInstance⟩ ?_
  rintro d σ B ⟨i, rfl, hi, g5, g2, g3, hB⟩
  refine TV_keep _ (p := hB) ?_
  repeat (refine StepC.go ?_)
  rw [hL]
  refine TV_cond ?_ ?_ <;> intro hc
  · have hil : i < c.ops.length := by simp at hc; omega
    obtain ⟨o, ho⟩ : ∃ o, c.ops[i]? = some o := ⟨_, List.getElem?_eq_getElem hil⟩
    have ng : NthG (opRows c.ops) i (opCs o) := .map opCs ho
    have hL2 : (intRows o.qs).length = o.qs.length := by simp [intRows]
    repeat (first | refine StepC.go ?_ | intro _ | (refine TS_on rfl ?_ ?_; · first | rfl | assumption) | refine TD_take rfl rfl ?_ | refine TD_load rfl rfl ?_ | refine TD_one rfl ?_ | refine FiltT_nil ?_ | refine FiltT_drop rfl ?_ | refine FiltT_keep rfl ?_ | refine TD_virt rfl rfl rfl (fun _ => ?_) | refine TV_draw (id := 6) (plan := [.take 0, .take 1, .take 2, .take 3, .take 4, .take 5, .take 6, .take 7, .take 8, .take 9, .virt 10, .one 11, .one 12, .one 13]) (by kernel_rfl) ?_)
    rename_i px py
    have hbb : (!o.iff == o.iff) = false := by simp
    rw [hbb]
    repeat (first | refine StepC.go ?_ | (refine TS_on rfl ?_ ?_; · first | rfl | assumption) | (refine TV_cond_f ?_ ?_; · first | rfl | assumption))
    refine TV_loop (fun d σ B => ∃ j : Nat, d = o.qs.length - j ∧ j ≤ o.qs.length ∧ TGet σ 8 (intT j) ∧ TGet σ 5 (intT i) ∧ TGet σ 6 (.v (.pointer (some (ad px 0)))) ∧ TGet σ 7 (.v (.pointer (some (ad py 0)))) ∧ TGet σ 2 (.v (.pointer (some (ad pa 0)))) ∧ TGet σ 3 (.v (.pointer (some (ad pb 0)))) ∧ SubP B [(px, .cells (opCs o) 29 true), (py, .cells (opCs o) 29 true), (pa, .cells (circCs c) 24 true), (pb, .cells (circCs c) 24 true)]) o.qs.length
      ⟨0, by omega, by omega, inferInstance, inferInstance, inferInstance, inferInstance, inferInstance, inferInstance, inferInstance⟩ ?_
    rintro d σ B ⟨j, rfl, hj, g8, g5, g6, g7, g2, g3, hB⟩
    refine TV_keep _ (p := hB) ?_
    have hqs := hs o (List.mem_of_getElem? ho)
    repeat (refine StepC.go ?_)
    rw [hL2]
    refine TV_cond ?_ ?_ <;> intro hc2
    · have hjl : j < o.qs.length := by simp at hc2; omega
      obtain ⟨x, hx⟩ : ∃ x, o.qs[j]? = some x := ⟨_, List.getElem?_eq_getElem hjl⟩
      have ngx : NthG (intRows o.qs) j [intT x] := .map (fun x => [intT x]) hx
      repeat (first | refine StepC.go ?_ | (refine TS_puw (Pu.addi ?_) ?_; · omega) | refine TD_take rfl rfl ?_ | refine TD_load rfl rfl ?_ | refine TV_draw (id := 12) (plan := [.take 0, .take 1, .take 2, .take 3, .take 4, .take 5, .take 6, .take 7, .take 8, .take 9, .take 10]) (by kernel_rfl) ?_ | (refine TV_cond_f ?_ ?_; · first | rfl | assumption))
      refine ⟨_, ?_, j + 1, rfl, by omega, inferInstance, inferInstance, inferInstance, inferInstance, inferInstance, inferInstance, inferInstance⟩
      omega
    · repeat (first | refine StepC.go ?_ | (refine TS_puw (Pu.addi ?_) ?_; · omega))
      refine ⟨_, ?_, i + 1, rfl, by omega, inferInstance, inferInstance, inferInstance, inferInstance⟩
      omega
  · repeat (refine StepC.go ?_)
    refine retT_1 (.inr rfl) ?_
    rfl
instance : CallIs Try.prog 11 := .of Try.func11 rfl rfl
end Go.Ideal

-- To
set_option linter.unusedSimpArgs false
set_option linter.unusedVariables false
namespace Go.Ideal
open Go Go.Proofs Go.RowKit
/-! ### A circuit in memory of its own -/
set_option maxHeartbeats 1000000 in
theorem copyT {c : CircD} (hs : ∀ o ∈ c.ops, o.qs.length < 2 ^ 36) (hl : c.ops.length ≤ 2 ^ 20) : Fn Try.prog 6 [circT c] (fun r => r = circT c) := by
  refine Fn_of Try.func6 rfl (Nat.le_of_ble_eq_true rfl) (fun X => ?_)
  have hL : (opRows c.ops).length = c.ops.length := by simp [opRows]
  repeat (first | refine StepC.go ?_ | intro _)
  rename_i p pr pd
  refine TV_ghost 7 29 ?_
  intro b0
  refine TV_loop (fun d σ B => ∃ (i b : Nat), d = c.ops.length - i ∧ i ≤ c.ops.length ∧ TGet σ 4 (intT i) ∧ TGet σ 1 (.v (.pointer (some (ad p 0)))) ∧ TGet σ 2 (.v (.pointer (some (ad pr 0)))) ∧ TGet σ 3 (.v (.pointer (some (ad pd 0)))) ∧ SubP B [(p, .cells (circCs c) 24 true), (pr, .cells [intT 0, intT 0, .v (.slice none 0 0)] 24 true), (pd, .cells [intT c.qubits, intT c.bits, .v (gsv b i)] 24 true), (b, .arr 7 (opRows (c.ops.take i)) 29 false)]) c.ops.length
    ⟨0, b0, by omega, by omega, inferInstance, inferInstance, inferInstance, inferInstance, inferInstanceAs (SubP _ [(p, .cells (circCs c) 24 true), (pr, .cells [intT 0, intT 0, .v (.slice none 0 0)] 24 true), (pd, .cells [intT c.qubits, intT c.bits, .v (.slice none 0 0)] 24 true), (b0, .arr 7 [] 29 false)])⟩ ?_
  rintro d σ B ⟨i, b, rfl, hi, g4, g1, g2, g3, hB⟩
  refine TV_keep _ (p := hB) ?_
  have hLn : LenT (opRows (c.ops.take i)) i := ⟨by simp [opRows]; omega⟩
  have : Sm63 i := ⟨by omega⟩
  repeat (refine StepC.go ?_)
  rw [hL]
  refine TV_cond ?_ ?_ <;> intro hc
  · have hil : i < c.ops.length := by simp at hc; omega
    obtain ⟨o, ho⟩ : ∃ o, c.ops[i]? = some o := ⟨_, List.getElem?_eq_getElem (by omega)⟩
    have ng : NthG (opRows c.ops) i (opCs o) := .map opCs ho
    have hso := hs o (List.mem_of_getElem? ho)
    have : Sm63 (0 + o.qs.length) := ⟨by omega⟩
    iterate 5 refine StepC.go ?_
    refine TV_cut (fun σ B => ∃ (po : Nat), TGet σ 4 (intT i) ∧ TGet σ 1 (.v (.pointer (some (ad p 0)))) ∧ TGet σ 2 (.v (.pointer (some (ad pr 0)))) ∧ TGet σ 3 (.v (.pointer (some (ad pd 0)))) ∧ TGet σ 5 (.v (.pointer (some (ad po 0)))) ∧ SubP B [(po, .cells (opCs o) 29 true), (p, .cells (circCs c) 24 true), (pr, .cells [intT 0, intT 0, .v (.slice none 0 0)] 24 true), (pd, .cells [intT c.qubits, intT c.bits, .v (gsv b i)] 24 true), (b, .arr 7 (opRows (c.ops.take i)) 29 false)]) ?_ ?_
    · repeat (first | refine StepC.go ?_ | intro _)
      rename_i po
      exact ⟨po, inferInstance, inferInstance, inferInstance, inferInstance, inferInstance, inferInstance⟩
    rintro σ B ⟨po, g4, g1, g2, g3, g5, hB⟩
    refine TV_keep _ (p := hB) ?_
    refine StepC.go ?_
    refine TV_cut (fun σ B => ∃ (po bo : Nat), TGet σ 4 (intT i) ∧ TGet σ 1 (.v (.pointer (some (ad p 0)))) ∧ TGet σ 2 (.v (.pointer (some (ad pr 0)))) ∧ TGet σ 3 (.v (.pointer (some (ad pd 0)))) ∧ TGet σ 5 (.v (.pointer (some (ad po 0)))) ∧ SubP B [(bo, .arr 1 ([] ++ intRows o.qs) 3 ((intRows o.qs).isEmpty && true)), (po, .cells [intT o.kind, strT o.name, .v (.slice (some (ad bo 0)) (0 + o.qs.length) (0 + o.qs.length)), intT o.bit, boolT o.iff, u64T o.mask, u64T o.value] 29 true), (p, .cells (circCs c) 24 true), (pr, .cells [intT 0, intT 0, .v (.slice none 0 0)] 24 true), (pd, .cells [intT c.qubits, intT c.bits, .v (gsv b i)] 24 true), (b, .arr 7 (opRows (c.ops.take i)) 29 false)]) ?_ ?_
    · repeat (first | refine StepC.go ?_ | intro _ | (refine TS_append_own ?_ (fun _ => ?_); · omega))
      rename_i be bo
      exact ⟨po, bo, inferInstance, inferInstance, inferInstance, inferInstance, inferInstance, inferInstance⟩
    rintro σ B ⟨po, bo, g4, g1, g2, g3, g5, hB⟩
    refine TV_keep _ (p := hB) ?_
    have hLq : LenT ([] ++ intRows o.qs) (0 + o.qs.length) := ⟨by simp [intRows]⟩
    refine TV_freezeC po bo ?_
    repeat (first | refine StepC.go ?_ | intro _ | (refine TS_puw (Pu.addi ?_) ?_; · omega) | (refine TS_append ?_ (fun _ => ?_); · omega))
    rename_i b2
    have hd : opRows (c.ops.take (i + 1)) = opRows (c.ops.take i) ++ [opCs o] := by
      rw [List.take_add_one, ho, opRows_app]; rfl
    refine ⟨_, ?_, i + 1, b2, rfl, by omega, inferInstance, inferInstance, inferInstance, inferInstance, ?_⟩
    · omega
    · rw [hd]; simp only [List.nil_append]; infer_instance
  · have hil : i = c.ops.length := by simp at hc; omega
    subst hil
    rw [List.take_length]
    repeat (refine StepC.go ?_)
    refine retT_1 (.inr rfl) ?_
    rfl
instance : CallIs Try.prog 6 := .of Try.func6 rfl rfl
end Go.Ideal

-- Tp
set_option linter.unusedSimpArgs false
set_option linter.unusedVariables false
namespace Go.Ideal
open Go Go.Proofs Go.RowKit
/-! ### Operations in another order -/
def boolRows (xs : List Bool) : List (List Tr) := xs.map fun x => [boolT x]
instance {xs : List Bool} {i : Nat} {z : Bool} : SetR (boolRows xs) i [boolT z] (boolRows (xs.set i z)) := ⟨by simp [boolRows, List.map_set]⟩
theorem replicate_bool (n : Nat) (z : Bool) : List.replicate n [boolT z] = boolRows (List.replicate n z) := by simp [boolRows]
def noOp : OpD := ⟨0, .empty, [], 0, false, 0, 0⟩
def opAt (ops : List OpD) (k : Int) : OpD := ops.getD k.toNat noOp
/-- numbers below n, none twice -/
def permK (n : Nat) : List Int → List Bool → Bool
  | [], _ => true
  | k :: ks, seen => !(decide (k < 0) || decide ((n : Int) ≤ k) || seen.getD k.toNat false) && permK n ks (seen.set k.toNat true)
/-- is a number bound to one before it that ought to be behind it? -/
def clashK (ops : List OpD) (x : Int) (ks : List Int) : Bool := ks.any fun k => decide (k > x) && boundS (opAt ops k) (opAt ops x)
def clashS (ops : List OpD) (order : List Int) : Nat → Bool
  | 0 => false
  | i + 1 => clashS ops order i || clashK ops (order.getD i 0) (order.take i)
theorem clash_more {ops : List OpD} {order : List Int} {i : Nat} (h : clashS ops order i = true) : ∀ n, i ≤ n → clashS ops order n = true := by
  intro n hn
  induction n with
  | zero => have : i = 0 := by omega
            subst this; exact h
  | succ n ih =>
    by_cases h1 : i = n + 1
    · subst h1; exact h
    · simp only [clashS, ih (by omega), Bool.true_or]
def orderC (c : CircD) (order : List Int) : CircD × Int :=
  if (checkC c).2 = 0 then
    (if order.length = c.ops.length ∧ permK c.ops.length order (List.replicate c.ops.length false) = true ∧ clashS c.ops order order.length = false then (⟨c.qubits, c.bits, order.map (opAt c.ops)⟩, 0) else (⟨0, 0, []⟩, 2))
  else (⟨0, 0, []⟩, (checkC c).2)
theorem permK_in {n : Nat} : ∀ (ks : List Int) (seen : List Bool), permK n ks seen = true → ∀ k ∈ ks, 0 ≤ k ∧ k < n := by
  intro ks
  induction ks with
  | nil => intro _ _ k hk; cases hk
  | cons x ks ih =>
    intro seen h k hk
    simp only [permK, Bool.and_eq_true, Bool.not_eq_true', Bool.or_eq_false_iff, decide_eq_false_iff_not] at h
    rcases List.mem_cons.1 hk with rfl | h1
    · omega
    · exact ih _ h.2 k h1
theorem opAt_get {ops : List OpD} {k : Int} (h : 0 ≤ k ∧ k < ops.length) : ops[k.toNat]? = some (opAt ops k) := by
  unfold opAt
  rw [List.getD, List.getElem?_eq_getElem (by omega)]; rfl
theorem clashK_app (ops : List OpD) (x : Int) (a : List Int) (k : Int) : clashK ops x (a ++ [k]) = (clashK ops x a || (decide (k > x) && boundS (opAt ops k) (opAt ops x))) := by simp [clashK]
theorem take_succ {α : Type} {l : List α} {i : Nat} {a : α} (h : l[i]? = some a) : l.take (i + 1) = l.take i ++ [a] := by rw [List.take_add_one, h]; rfl
instance : CallIs Try.prog 9 := .of Try.func9 rfl rfl
end Go.Ideal

-- Tq
set_option linter.unusedSimpArgs false
set_option linter.unusedVariables false
namespace Go.Ideal
open Go Go.Proofs Go.RowKit
/-! ### The reference's order -/
set_option maxHeartbeats 4000000 in
theorem orderRT {c : CircD} {order : List Int} (hw : CircW c) : Fn Try.prog 14 [circT c, .sl 1 (intRows order)] (fun r => r = .tup [circT (orderC c order).1, intT (orderC c order).2]) := by
  refine Fn_of Try.func14 rfl (Nat.le_of_ble_eq_true rfl) (fun X => ?_)
  have hLo : (intRows order).length = order.length := by simp [intRows]
  have hLc : (opRows c.ops).length = c.ops.length := by simp [opRows]
  repeat (first | refine StepC.go ?_ | intro _)
  rename_i p pr
  refine TS_callE (checkRT hw) ?_
  repeat (refine StepC.go ?_)
  refine TV_cond ?_ ?_ <;> intro hc
  · repeat (refine StepC.go ?_)
    refine retT_2c [.agg [intT 0, intT 0, .sl 7 []], intT (checkC c).2] (.inr rfl) ?_
    simp only [tret, orderC]
    rw [if_neg (by simpa using hc)]; rfl
  have hck : (checkC c).2 = 0 := by simpa using hc
  obtain ⟨hlen, hg⟩ := circ_good hw hck
  have hbad : ¬ (order.length = c.ops.length ∧ permK c.ops.length order (List.replicate c.ops.length false) = true ∧ clashS c.ops order order.length = false) → orderC c order = (⟨0, 0, []⟩, 2) := fun h => by
    rw [orderC, if_pos hck, if_neg h]
  have hgood : (order.length = c.ops.length ∧ permK c.ops.length order (List.replicate c.ops.length false) = true ∧ clashS c.ops order order.length = false) → orderC c order = (⟨c.qubits, c.bits, order.map (opAt c.ops)⟩, 0) := fun h => by
    rw [orderC, if_pos hck, if_pos h]
  repeat (refine StepC.go ?_)
  rw [hLo, hLc]
  refine TV_cond ?_ ?_ <;> intro hc2
  · have h1 : ¬ order.length = c.ops.length := by simp at hc2; omega
    repeat (refine StepC.go ?_)
    refine retT_2c [.agg [intT 0, intT 0, .sl 7 []], intT 2] (.inr rfl) ?_
    simp only [tret]
    rw [hbad fun h => h1 h.1]; rfl
  have hol : order.length = c.ops.length := by simp at hc2; omega
  obtain ⟨n, hn⟩ : ∃ n, n = c.ops.length := ⟨_, rfl⟩
  rw [hol]
  rw [← hn] at hbad hgood hlen hol hLc ⊢
  rw [hol] at hLo
  have hL0 : LenT (intRows order) n := ⟨hLo⟩
  repeat (first | refine StepC.go ?_ | (refine TS_makeSlice ?_ (fun _ => ?_); · omega))
  rename_i bs
  rw [replicate_bool]
  refine TV_loop (fun d σ B => ∃ (i : Nat) (seen : List Bool), d = n - i ∧ i ≤ n ∧ TGet σ 10 (intT i) ∧ TGet σ 8 (intT n) ∧ TGet σ 1 (.sl 1 (intRows order)) ∧ TGet σ 2 (.v (.pointer (some (ad p 0)))) ∧ TGet σ 4 (.v (.pointer (some (ad pr 0)))) ∧ TGet σ 5 (intT 0) ∧ TGet σ 9 (.v (.slice (some (ad bs 0)) n n)) ∧
      SubP B [(bs, .arr 1 (boolRows seen) 4 true), (p, .cells (circCs c) 24 true), (pr, .cells [intT 0, intT 0, .v (.slice none 0 0)] 24 true)] ∧ seen.length = n ∧ permK n order (List.replicate n false) = permK n (order.drop i) seen) n
    ⟨0, List.replicate n false, by omega, by omega, inferInstance, inferInstance, inferInstance, inferInstance, inferInstance, inferInstance, inferInstance, inferInstance, by simp, rfl⟩ ?_
  rintro d σ B ⟨i, seen, rfl, hi, g10, g8, g1, g2, g4, g5, g9, hB, hsl, hpk⟩
  refine TV_keep _ (p := hB) ?_
  repeat (refine StepC.go ?_)
  refine TV_cond ?_ ?_ <;> intro hc3
  · have hil : i < n := by simp at hc3; omega
    obtain ⟨k, hk⟩ : ∃ k, order[i]? = some k := ⟨_, List.getElem?_eq_getElem (by omega)⟩
    have ngk : NthG (intRows order) i [intT k] := .map (fun x => [intT x]) hk
    rw [drop_cons hk] at hpk
    simp only [permK] at hpk
    have hLb : LenT (boolRows seen) n := ⟨by simp [boolRows, hsl]⟩
    by_cases hk0 : k < 0
    · have d0 : decide (k < 0) = true := by simpa using hk0
      have hb2 : permK n order (List.replicate n false) = false := by rw [hpk, d0]; simp
      repeat (first | refine StepC.go ?_ | (refine TS_off rfl ?_ ?_; · first | rfl | assumption) | (refine TS_puw (Pu.pick_t ?_) ?_; · first | rfl | assumption) | (refine TV_cond_t ?_ ?_; · first | rfl | assumption))
      refine retT_2c [.agg [intT 0, intT 0, .sl 7 []], intT 2] (.inr rfl) ?_
      simp only [tret]
      rw [hbad fun h => by rw [hb2] at h; simp at h]; rfl
    have d0 : decide (k < 0) = false := by simpa using hk0
    have hkn := asNat_of (z := k) (by omega)
    by_cases hk1 : (n : Int) ≤ k
    · have d1 : decide ((n : Int) ≤ k) = true := by simpa using hk1
      have hb2 : permK n order (List.replicate n false) = false := by rw [hpk, d1]; simp
      have e1 : (if decide (k < 0) = true then true else decide ((n : Int) ≤ k)) = true := by rw [d1]; simp
      repeat (first | refine StepC.go ?_ | (refine TS_on rfl ?_ ?_; · first | rfl | assumption) | (refine TS_off rfl ?_ ?_; · first | rfl | assumption) | (refine TS_puw (Pu.pick_t ?_) ?_; · first | rfl | assumption) | (refine TV_cond_t ?_ ?_; · first | rfl | assumption))
      refine retT_2c [.agg [intT 0, intT 0, .sl 7 []], intT 2] (.inr rfl) ?_
      simp only [tret]
      rw [hbad fun h => by rw [hb2] at h; simp at h]; rfl
    have d1 : decide ((n : Int) ≤ k) = false := by simpa using hk1
    have hk2 : k.toNat < n := by omega
    obtain ⟨sb, hsb⟩ : ∃ sb, seen[k.toNat]? = some sb := ⟨_, List.getElem?_eq_getElem (by omega)⟩
    have ngs : NthG (boolRows seen) k.toNat [boolT sb] := .map (fun x => [boolT x]) hsb
    have hgd : seen.getD k.toNat false = sb := by simp [List.getD, hsb]
    rw [d0, d1, hgd] at hpk
    have e1 : (if decide (k < 0) = true then true else decide ((n : Int) ≤ k)) = false := by rw [d0, d1]; simp
    have e2 : (if (if decide (k < 0) = true then true else decide ((n : Int) ≤ k)) = true then true else sb) = sb := by rw [e1]; simp
    cases sb with
    | true =>
      have hb2 : permK n order (List.replicate n false) = false := by rw [hpk]; simp
      repeat (first | refine StepC.go ?_ | (refine TS_on rfl ?_ ?_; · first | rfl | assumption) | (refine TV_cond_t ?_ ?_; · first | rfl | assumption))
      refine retT_2c [.agg [intT 0, intT 0, .sl 7 []], intT 2] (.inr rfl) ?_
      simp only [tret]
      rw [hbad fun h => by rw [hb2] at h; simp at h]; rfl
    | false =>
      repeat (first | refine StepC.go ?_ | (refine TS_on rfl ?_ ?_; · first | rfl | assumption) | (refine TS_puw (Pu.addi ?_) ?_; · omega) | (refine TV_cond_f ?_ ?_; · first | rfl | assumption))
      refine ⟨_, ?_, i + 1, seen.set k.toNat true, rfl, by omega, inferInstance, inferInstance, inferInstance, inferInstance, inferInstance, inferInstance, inferInstance, inferInstance, by simp [hsl], by rw [hpk]; simp⟩
      omega
  have hil : i = n := by simp at hc3; omega
  have hperm : permK n order (List.replicate n false) = true := by rw [hpk, hil, ← hol, List.drop_length]; rfl
  have hin := permK_in _ _ hperm
  clear hpk hsl hc3 hil hi
  repeat (refine StepC.go ?_)
  refine TV_loop (fun d σ B => ∃ (i : Nat), d = n - i ∧ i ≤ n ∧ TGet σ 12 (intT i) ∧ TGet σ 8 (intT n) ∧ TGet σ 1 (.sl 1 (intRows order)) ∧ TGet σ 2 (.v (.pointer (some (ad p 0)))) ∧ TGet σ 4 (.v (.pointer (some (ad pr 0)))) ∧ TGet σ 5 (intT 0) ∧
      SubP B [(p, .cells (circCs c) 24 true), (pr, .cells [intT 0, intT 0, .v (.slice none 0 0)] 24 true)] ∧ clashS c.ops order i = false) n
    ⟨0, by omega, by omega, inferInstance, inferInstance, inferInstance, inferInstance, inferInstance, inferInstance, inferInstance, rfl⟩ ?_
  clear hB g1 g2 g4 g5 g8 g9 g10
  rintro d σ B ⟨i, rfl, hi, g12, g8, g1, g2, g4, g5, hB, hcl⟩
  refine TV_keep _ (p := hB) ?_
  repeat (refine StepC.go ?_)
  refine TV_cond ?_ ?_ <;> intro hc3
  · have hil : i < n := by simp at hc3; omega
    obtain ⟨x, hx⟩ : ∃ x, order[i]? = some x := ⟨_, List.getElem?_eq_getElem (by omega)⟩
    have ngx : NthG (intRows order) i [intT x] := .map (fun x => [intT x]) hx
    have hxb := hin x (List.mem_of_getElem? hx)
    have hxn := asNat_of hxb.1
    have hox := opAt_get (ops := c.ops) (k := x) (by omega)
    have ngo : NthG (opRows c.ops) x.toNat (opCs (opAt c.ops x)) := .map opCs hox
    have hgo := hg _ (List.mem_of_getElem? hox)
    repeat (refine StepC.go ?_)
    refine TV_loop (fun d σ B => ∃ (j : Nat), d = i - j ∧ j ≤ i ∧ TGet σ 13 (intT j) ∧ TGet σ 12 (intT i) ∧ TGet σ 8 (intT n) ∧ TGet σ 1 (.sl 1 (intRows order)) ∧ TGet σ 2 (.v (.pointer (some (ad p 0)))) ∧ TGet σ 4 (.v (.pointer (some (ad pr 0)))) ∧ TGet σ 5 (intT 0) ∧
      SubP B [(p, .cells (circCs c) 24 true), (pr, .cells [intT 0, intT 0, .v (.slice none 0 0)] 24 true)] ∧ clashK c.ops x ((order.take i).take j) = false) i
      ⟨0, by omega, by omega, inferInstance, inferInstance, inferInstance, inferInstance, inferInstance, inferInstance, inferInstance, inferInstance, by simp [clashK]⟩ ?_
    clear hB g1 g2 g4 g5 g8 g12
    rintro d σ B ⟨j, rfl, hj, g13, g12, g8, g1, g2, g4, g5, hB, hck2⟩
    refine TV_keep _ (p := hB) ?_
    repeat (refine StepC.go ?_)
    refine TV_cond ?_ ?_ <;> intro hc4
    · have hji : j < i := by simp at hc4; omega
      obtain ⟨y, hy⟩ : ∃ y, (order.take i)[j]? = some y := ⟨_, List.getElem?_eq_getElem (by simp; omega)⟩
      have hy2 : order[j]? = some y := by rw [List.getElem?_take_of_lt hji] at hy; exact hy
      have ngy : NthG (intRows order) j [intT y] := .map (fun x => [intT x]) hy2
      have hyb := hin y (List.mem_of_mem_take (List.mem_of_getElem? hy))
      have hyn := asNat_of hyb.1
      have hoy := opAt_get (ops := c.ops) (k := y) (by omega)
      have ngo2 : NthG (opRows c.ops) y.toNat (opCs (opAt c.ops y)) := .map opCs hoy
      have hgy := hg _ (List.mem_of_getElem? hoy)
      have hstep : clashK c.ops x ((order.take i).take (j + 1)) = (decide (y > x) && boundR (opAt c.ops y) (opAt c.ops x)) := by
        rw [take_succ hy, clashK_app, hck2, Bool.false_or, bound_eq hgy hgo]
      have hgt : (decide (y > x)) = decide (x < y) := rfl
      rw [hgt] at hstep
      have hcb : clashK c.ops x ((order.take i).take (j + 1)) = true → orderC c order = (⟨0, 0, []⟩, 2) := fun hcx => hbad fun h => by
        have h1 : clashS c.ops order (i + 1) = true := by
          simp only [clashS]
          have h2 : order.getD i 0 = x := by simp [List.getD, hx]
          rw [h2]
          simp only [Bool.or_eq_true]
          right
          simp only [clashK, List.any_eq_true] at hcx ⊢
          obtain ⟨z, hz, hz2⟩ := hcx
          exact ⟨z, List.mem_of_mem_take hz, hz2⟩
        rw [clash_more h1 order.length (by omega)] at h
        simp at h
      by_cases hxy : x < y
      · have d1 : decide (x < y) = true := by simpa using hxy
        rw [d1, Bool.true_and] at hstep
        repeat (first | refine StepC.go ?_ | (refine TS_on rfl ?_ ?_; · first | rfl | assumption) | refine TD_take rfl rfl ?_ | refine TD_load rfl rfl ?_ | refine TD_one rfl ?_ | refine FiltT_nil ?_ | refine FiltT_keep rfl ?_ | refine TD_take_on rfl rfl (by first | rfl | assumption) rfl ?_ | refine TD_load_on rfl rfl (by first | rfl | assumption) rfl ?_ | refine TV_draw (id := 21) (plan := [.take 0, .take 1, .take 2, .take 3, .take 4, .take 5, .take 6, .take 7, .take 8, .take 9, .take 10, .take 11, .take 12, .take 13, .take 14, .take 15, .take 16, .take 17, .take 18, .take 19, .take 20, .take 21, .take 22, .take 23, .take 24, .take 25, .one 26, .take 27]) (by kernel_rfl) ?_)
        refine TS_callE (boundRT hgy.w hgo.w hgy.bit hgo.bit (by have := hgy.len; omega) (by have := hgo.len; omega)) ?_
        repeat (first | refine StepC.go ?_ | refine TD_take rfl rfl ?_)
        refine TV_cond ?_ ?_ <;> intro hb
        · repeat (refine StepC.go ?_)
          refine retT_2c [.agg [intT 0, intT 0, .sl 7 []], intT 2] (.inr rfl) ?_
          simp only [tret]
          rw [hcb (by rw [hstep]; simpa [d1] using hb)]; rfl
        · repeat (first | refine StepC.go ?_ | (refine TS_puw (Pu.addi ?_) ?_; · omega))
          refine ⟨_, ?_, j + 1, rfl, by omega, inferInstance, inferInstance, inferInstance, inferInstance, inferInstance, inferInstance, inferInstance, inferInstance, by rw [hstep]; simpa [d1] using hb⟩
          omega
      · have d1 : decide (x < y) = false := by simpa using hxy
        rw [d1, Bool.false_and] at hstep
        repeat (first | refine StepC.go ?_ | (refine TS_off rfl ?_ ?_; · first | rfl | assumption) | (refine TS_puw (Pu.addi ?_) ?_; · omega) | refine TD_take rfl rfl ?_ | refine TD_load rfl rfl ?_ | refine TD_one rfl ?_ | refine FiltT_nil ?_ | (refine TD_off rfl rfl ?_ ?_; · first | rfl | assumption) | (refine TD_takew rfl rfl (Pu.pick_f ?_) ?_; · first | rfl | assumption) | refine TV_draw (id := 21) (plan := [.take 0, .take 1, .take 2, .take 3, .take 4, .take 5, .take 6, .take 7, .take 8, .take 9, .take 10, .take 11, .take 12, .take 13, .take 14, .take 15, .take 16, .take 17, .take 18, .take 19, .take 20, .take 21, .take 22, .take 23, .take 24, .take 25, .one 26, .take 27]) (by kernel_rfl) ?_ | (refine TV_cond_f ?_ ?_; · first | rfl | assumption))
        refine ⟨_, ?_, j + 1, rfl, by omega, inferInstance, inferInstance, inferInstance, inferInstance, inferInstance, inferInstance, inferInstance, inferInstance, hstep⟩
        omega
    · have hji : j = i := by simp at hc4; omega
      subst hji
      have hcl2 : clashS c.ops order (j + 1) = false := by
        simp only [clashS, hcl, Bool.false_or]
        rw [show order.getD j 0 = x by simp [List.getD, hx]]
        rw [List.take_take, Nat.min_self] at hck2
        exact hck2
      repeat (first | refine StepC.go ?_ | (refine TS_puw (Pu.addi ?_) ?_; · omega))
      refine ⟨_, ?_, j + 1, rfl, by omega, inferInstance, inferInstance, inferInstance, inferInstance, inferInstance, inferInstance, inferInstance, hcl2⟩
      omega
  have hil : i = n := by simp at hc3; omega
  rw [hil] at hcl
  clear hc3 hil hi
  refine TV_ghost 7 29 ?_
  intro b0
  repeat (refine StepC.go ?_)
  refine TS_call (copyT (fun o ho => by have := (hg o ho).len; omega) (by omega)) ?_
  rintro _ rfl
  repeat (first | refine StepC.go ?_ | intro _)
  rename_i po pd
  refine TV_loop (fun d σ B => ∃ (i b : Nat), d = n - i ∧ i ≤ n ∧ TGet σ 16 (intT i) ∧ TGet σ 8 (intT n) ∧ TGet σ 1 (.sl 1 (intRows order)) ∧ TGet σ 14 (.v (.pointer (some (ad po 0)))) ∧ TGet σ 15 (.v (.pointer (some (ad pd 0)))) ∧ TGet σ 4 (.v (.pointer (some (ad pr 0)))) ∧ TGet σ 5 (intT 0) ∧
      SubP B [(pr, .cells [intT 0, intT 0, .v (.slice none 0 0)] 24 true), (po, .cells (circCs c) 24 true), (pd, .cells [intT c.qubits, intT c.bits, .v (gsv b i)] 24 true), (b, .arr 7 (opRows ((order.take i).map (opAt c.ops))) 29 false)]) n
    ⟨0, b0, by omega, by omega, inferInstance, inferInstance, inferInstance, inferInstance, inferInstance, inferInstance, inferInstance, inferInstanceAs (SubP _ [(pr, .cells [intT 0, intT 0, .v (.slice none 0 0)] 24 true), (po, .cells (circCs c) 24 true), (pd, .cells [intT c.qubits, intT c.bits, .v (.slice none 0 0)] 24 true), (b0, .arr 7 [] 29 false)])⟩ ?_
  clear hB g1 g2 g4 g5 g8 g12
  rintro d σ B ⟨i, b, rfl, hi, g16, g8, g1, g14, g15, g4, g5, hB⟩
  refine TV_keep _ (p := hB) ?_
  have hLn : LenT (opRows ((order.take i).map (opAt c.ops))) i := ⟨by simp [opRows]; omega⟩
  have : Sm63 i := ⟨by omega⟩
  repeat (refine StepC.go ?_)
  refine TV_cond ?_ ?_ <;> intro hc3
  · have hil : i < n := by simp at hc3; omega
    obtain ⟨x, hx⟩ : ∃ x, order[i]? = some x := ⟨_, List.getElem?_eq_getElem (by omega)⟩
    have ngx : NthG (intRows order) i [intT x] := .map (fun x => [intT x]) hx
    have hxb := hin x (List.mem_of_getElem? hx)
    have hxn := asNat_of hxb.1
    have hox := opAt_get (ops := c.ops) (k := x) (by omega)
    have ngo : NthG (opRows c.ops) x.toNat (opCs (opAt c.ops x)) := .map opCs hox
    repeat (first | refine StepC.go ?_ | intro _ | (refine TS_puw (Pu.addi ?_) ?_; · omega) | (refine TS_append ?_ (fun _ => ?_); · omega) | refine TD_take rfl rfl ?_ | refine TD_load rfl rfl ?_ | refine TD_one rfl ?_ | refine FiltT_nil ?_ | refine FiltT_drop rfl ?_ | refine FiltT_keep rfl ?_ | refine TV_draw (id := 28) (plan := [.take 0, .take 1, .take 2, .take 3, .take 4, .take 5, .take 6, .take 7, .take 8, .take 9, .one 10, .one 11, .take 12, .one 13]) (by kernel_rfl) ?_)
    rename_i b2
    refine ⟨_, ?_, i + 1, b2, rfl, by omega, inferInstance, inferInstance, inferInstance, inferInstance, inferInstance, inferInstance, inferInstance, ?_⟩
    · omega
    · rw [take_succ hx, List.map_append, opRows_app]
      exact inferInstanceAs (SubP _ [_, _, _, (b2, .arr 7 (opRows ((order.take i).map (opAt c.ops)) ++ [opCs (opAt c.ops x)]) 29 false)])
  · have hil : i = n := by simp at hc3; omega
    subst hil
    have htl : order.take i = order := List.take_of_length_le (Nat.le_of_eq hol)
    rw [htl] at hLn ⊢
    repeat (refine StepC.go ?_)
    refine retT_2 (.inr rfl) ?_
    simp only [tret]
    rw [hgood ⟨hol, hperm, by rw [hol]; exact hcl⟩]
instance : CallIs Try.prog 14 := .of Try.func14 rfl rfl
end Go.Ideal

-- Tr
set_option linter.unusedSimpArgs false
set_option linter.unusedVariables false
namespace Go.Ideal
open Go Go.Proofs Go.RowKit
theorem orderC_qs {c : CircD} {order : List Int} (hw : CircW c) : ∀ o ∈ (orderC c order).1.ops, o.qs.length < 2 ^ 40 := by
  intro o ho
  unfold orderC at ho
  split at ho
  · rename_i hck
    obtain ⟨_, hg⟩ := circ_good hw hck
    split at ho
    · rename_i h
      simp only [List.mem_map] at ho
      obtain ⟨k, hk, rfl⟩ := ho
      have hb := permK_in _ _ h.2.1 k hk
      have := (hg _ (List.mem_of_getElem? (opAt_get (ops := c.ops) (k := k) hb))).len
      omega
    · cases ho
  · cases ho
end Go.Ideal

-- Ts
set_option linter.unusedSimpArgs false
set_option linter.unusedVariables false
namespace Go.Ideal
open Go Go.Proofs Go.RowKit
/-! ### One circuit behind the other -/
set_option maxHeartbeats 1000000 in
theorem copyO {c : CircD} (hs : ∀ o ∈ c.ops, o.qs.length < 2 ^ 36) (hl : c.ops.length ≤ 2 ^ 20) : FnO Try.prog 6 [circT c] (fun r B => ∃ b, r = .agg [intT c.qubits, intT c.bits, .v (gsv b c.ops.length)] ∧ B = (if c.ops.length = 0 then [] else [(b, .arr 7 (opRows c.ops) 29 false)])) := by
  refine FnO_of Try.func6 rfl (Nat.le_of_ble_eq_true rfl) (fun X => ?_)
  have hL : (opRows c.ops).length = c.ops.length := by simp [opRows]
  repeat (first | refine StepC.go ?_ | intro _)
  rename_i p pr pd
  refine TV_ghost 7 29 ?_
  intro b0
  refine TV_loop (fun d σ B => ∃ (i b : Nat), d = c.ops.length - i ∧ i ≤ c.ops.length ∧ TGet σ 4 (intT i) ∧ TGet σ 1 (.v (.pointer (some (ad p 0)))) ∧ TGet σ 2 (.v (.pointer (some (ad pr 0)))) ∧ TGet σ 3 (.v (.pointer (some (ad pd 0)))) ∧ SubP B [(p, .cells (circCs c) 24 true), (pr, .cells [intT 0, intT 0, .v (.slice none 0 0)] 24 true), (pd, .cells [intT c.qubits, intT c.bits, .v (gsv b i)] 24 true), (b, .arr 7 (opRows (c.ops.take i)) 29 false)]) c.ops.length
    ⟨0, b0, by omega, by omega, inferInstance, inferInstance, inferInstance, inferInstance, inferInstanceAs (SubP _ [(p, .cells (circCs c) 24 true), (pr, .cells [intT 0, intT 0, .v (.slice none 0 0)] 24 true), (pd, .cells [intT c.qubits, intT c.bits, .v (.slice none 0 0)] 24 true), (b0, .arr 7 [] 29 false)])⟩ ?_
  rintro d σ B ⟨i, b, rfl, hi, g4, g1, g2, g3, hB⟩
  refine TV_keep _ (p := hB) ?_
  have hLn : LenT (opRows (c.ops.take i)) i := ⟨by simp [opRows]; omega⟩
  have : Sm63 i := ⟨by omega⟩
  repeat (refine StepC.go ?_)
  rw [hL]
  refine TV_cond ?_ ?_ <;> intro hc
  · have hil : i < c.ops.length := by simp at hc; omega
    obtain ⟨o, ho⟩ : ∃ o, c.ops[i]? = some o := ⟨_, List.getElem?_eq_getElem (by omega)⟩
    have ng : NthG (opRows c.ops) i (opCs o) := .map opCs ho
    have hso := hs o (List.mem_of_getElem? ho)
    have : Sm63 (0 + o.qs.length) := ⟨by omega⟩
    iterate 5 refine StepC.go ?_
    refine TV_cut (fun σ B => ∃ (po : Nat), TGet σ 4 (intT i) ∧ TGet σ 1 (.v (.pointer (some (ad p 0)))) ∧ TGet σ 2 (.v (.pointer (some (ad pr 0)))) ∧ TGet σ 3 (.v (.pointer (some (ad pd 0)))) ∧ TGet σ 5 (.v (.pointer (some (ad po 0)))) ∧ SubP B [(po, .cells (opCs o) 29 true), (p, .cells (circCs c) 24 true), (pr, .cells [intT 0, intT 0, .v (.slice none 0 0)] 24 true), (pd, .cells [intT c.qubits, intT c.bits, .v (gsv b i)] 24 true), (b, .arr 7 (opRows (c.ops.take i)) 29 false)]) ?_ ?_
    · repeat (first | refine StepC.go ?_ | intro _)
      rename_i po
      exact ⟨po, inferInstance, inferInstance, inferInstance, inferInstance, inferInstance, inferInstance⟩
    rintro σ B ⟨po, g4, g1, g2, g3, g5, hB⟩
    refine TV_keep _ (p := hB) ?_
    refine StepC.go ?_
    refine TV_cut (fun σ B => ∃ (po bo : Nat), TGet σ 4 (intT i) ∧ TGet σ 1 (.v (.pointer (some (ad p 0)))) ∧ TGet σ 2 (.v (.pointer (some (ad pr 0)))) ∧ TGet σ 3 (.v (.pointer (some (ad pd 0)))) ∧ TGet σ 5 (.v (.pointer (some (ad po 0)))) ∧ SubP B [(bo, .arr 1 ([] ++ intRows o.qs) 3 ((intRows o.qs).isEmpty && true)), (po, .cells [intT o.kind, strT o.name, .v (.slice (some (ad bo 0)) (0 + o.qs.length) (0 + o.qs.length)), intT o.bit, boolT o.iff, u64T o.mask, u64T o.value] 29 true), (p, .cells (circCs c) 24 true), (pr, .cells [intT 0, intT 0, .v (.slice none 0 0)] 24 true), (pd, .cells [intT c.qubits, intT c.bits, .v (gsv b i)] 24 true), (b, .arr 7 (opRows (c.ops.take i)) 29 false)]) ?_ ?_
    · repeat (first | refine StepC.go ?_ | intro _ | (refine TS_append_own ?_ (fun _ => ?_); · omega))
      rename_i be bo
      exact ⟨po, bo, inferInstance, inferInstance, inferInstance, inferInstance, inferInstance, inferInstance⟩
    rintro σ B ⟨po, bo, g4, g1, g2, g3, g5, hB⟩
    refine TV_keep _ (p := hB) ?_
    have hLq : LenT ([] ++ intRows o.qs) (0 + o.qs.length) := ⟨by simp [intRows]⟩
    refine TV_freezeC po bo ?_
    repeat (first | refine StepC.go ?_ | intro _ | (refine TS_puw (Pu.addi ?_) ?_; · omega) | (refine TS_append ?_ (fun _ => ?_); · omega))
    rename_i b2
    have hd : opRows (c.ops.take (i + 1)) = opRows (c.ops.take i) ++ [opCs o] := by
      rw [List.take_add_one, ho, opRows_app]; rfl
    refine ⟨_, ?_, i + 1, b2, rfl, by omega, inferInstance, inferInstance, inferInstance, inferInstance, ?_⟩
    · omega
    · rw [hd]; simp only [List.nil_append]; infer_instance
  · have hil : i = c.ops.length := by simp at hc; omega
    subst hil
    rw [List.take_length]
    repeat (refine StepC.go ?_)
    by_cases h0 : c.ops.length = 0
    · refine retO_1 [] (.inr rfl) (by simp) ⟨b, rfl, by rw [if_pos h0]⟩
    · refine retO_1 [(b, .arr 7 (opRows c.ops) 29 false)] (.inr rfl) (fun p hp => ?_) ⟨b, rfl, by rw [if_neg h0]⟩
      rw [List.mem_singleton.1 hp]
      intro h1
      exact absurd (by rw [h1] at hL; simpa using hL.symm) h0
end Go.Ideal

-- Tt
set_option linter.unusedSimpArgs false
set_option linter.unusedVariables false
namespace Go.Ideal
open Go Go.Proofs Go.RowKit
theorem growT {n : Nat} (hn : n ≤ 2 ^ 20) : FnO Try.prog 60 [.v (.slice none 0 0), intT n] (fun r B => (n = 0 ∧ r = .v (.slice none 0 0) ∧ B = []) ∨ (n ≠ 0 ∧ ∃ b rows, r = .v (.slice (some (ad b 0)) 0 n) ∧ rows.length = n ∧ B = [(b, .arr 7 rows 29 false)])) := by
  refine FnO_of Try.func60 rfl (Nat.le_of_ble_eq_true rfl) (fun X => ?_)
  have d0 : decide ((n : Int) < 0) = false := by simp
  repeat (first | refine StepC.go ?_ | (refine TS_puw (Pu.subi ?_) ?_; · omega) | (refine TV_cond_f ?_ ?_; · first | rfl | assumption))
  have e0 : (n : Int) - (0 - ((0 : Nat) : Int)) = n := by simp
  rw [e0]
  refine TV_cond ?_ ?_ <;> intro hc
  · have h0 : n ≠ 0 := by simp at hc; omega
    repeat (refine StepC.go ?_)
    refine TS_puw Pu.slice_nil ?_
    repeat (refine StepC.go ?_)
    refine TS_append_make h0 (by omega) (fun b => ?_)
    repeat (refine StepC.go ?_)
    refine TS_puw (Pu.slice_own (Nat.zero_le _)) ?_
    repeat (refine StepC.go ?_)
    refine retO_1 [(b, .arr 7 (List.replicate n [.v (.int .i64 0), .v (.string ByteArray.empty), .v (.slice none 0 0), .v (.int .i64 0), .v (.bool false), .v (.int .u64 0), .v (.int .u64 0)]) 29 false)] (.inr rfl) (fun p hp => ?_) (.inr ⟨h0, b, _, rfl, List.length_replicate, rfl⟩)
    rw [List.mem_singleton.1 hp]
    intro h1
    exact absurd (by have := congrArg List.length h1; simpa using this) h0
  · have h0 : n = 0 := by simp at hc; omega
    repeat (refine StepC.go ?_)
    exact retO_1 [] (.inr rfl) (by simp) (.inl ⟨h0, rfl, rfl⟩)
instance : CallIs Try.prog 60 := .of Try.func60 rfl rfl
def opsLs (ls : List (List OpD)) : List (List Tr) := ls.map fun l => [.sl 7 (opRows l)]
def totS (ls : List (List OpD)) (i : Nat) : Nat := (ls.take i).flatten.length
theorem totS_succ {ls : List (List OpD)} {i : Nat} {l : List OpD} (h : ls[i]? = some l) : totS ls (i + 1) = totS ls i + l.length := by
  unfold totS; rw [take_succ h, List.flatten_append]; simp
theorem totS_le (ls : List (List OpD)) (i : Nat) : totS ls i ≤ ls.flatten.length := by
  unfold totS
  have : ls.flatten = (ls.take i).flatten ++ (ls.drop i).flatten := by rw [← List.flatten_append, List.take_append_drop]
  rw [this, List.length_append]; omega
theorem totS_all (ls : List (List OpD)) : totS ls ls.length = ls.flatten.length := by unfold totS; rw [List.take_length]
set_option maxHeartbeats 1000000 in
theorem concatT {ls : List (List OpD)} (hn : ls.flatten.length ≤ 2 ^ 20) (hl : ls.length ≤ 2 ^ 20) : Fn Try.prog 36 [.sl 1 (opsLs ls)] (fun r => r = .sl 7 (opRows ls.flatten)) := by
  refine Fn_of Try.func36 rfl (Nat.le_of_ble_eq_true rfl) (fun X => ?_)
  have hL : (opsLs ls).length = ls.length := by simp [opsLs]
  repeat (refine StepC.go ?_)
  rw [hL]
  refine TV_loop (fun d σ B => ∃ (i : Nat), d = ls.length - i ∧ i ≤ ls.length ∧ TGet σ 11 (intT i) ∧ TGet σ 10 (intT ls.length) ∧ TGet σ 9 (.sl 1 (opsLs ls)) ∧ TGet σ 0 (.sl 1 (opsLs ls)) ∧ TGet σ 3 (intT (totS ls i))) ls.length
    ⟨0, by omega, by omega, inferInstance, inferInstance, inferInstance, inferInstance, tget_as rfl⟩ ?_
  rintro d σ B ⟨i, rfl, hi, g11, g10, g9, g0, g3⟩
  repeat (refine StepC.go ?_)
  refine TV_cond ?_ ?_ <;> intro hc
  · have hil : i < ls.length := by simp at hc; omega
    obtain ⟨l, hl1⟩ : ∃ l, ls[i]? = some l := ⟨_, List.getElem?_eq_getElem hil⟩
    have ng : NthG (opsLs ls) i [.sl 7 (opRows l)] := .map (fun l => [Tr.sl 7 (opRows l)]) hl1
    have hL2 : (opRows l).length = l.length := by simp [opRows]
    have ht := totS_succ hl1
    have ht2 := totS_le ls (i + 1)
    have d0 : decide (((totS ls i : Nat) : Int) + ((opRows l).length : Nat) < 0) = false := by simp; omega
    repeat (first | refine StepC.go ?_ | (refine TS_puw (Pu.addi ?_) ?_; · omega) | (refine TV_cond_f ?_ ?_; · first | rfl | assumption))
    refine ⟨_, ?_, i + 1, rfl, by omega, inferInstance, inferInstance, inferInstance, inferInstance, tget_as (by rw [ht, hL2]; simp)⟩
    omega
  have hil : i = ls.length := by simp at hc; omega
  subst hil
  rw [totS_all] at g3
  repeat (refine StepC.go ?_)
  refine TS_callO (growT hn) ?_
  rintro r B1 (⟨h0, rfl, rfl⟩ | ⟨h0, b, rows, rfl, hr, rfl⟩)
  · -- there is nothing
    rw [List.nil_append]
    have hz : ∀ l ∈ ls, l = [] := fun l hl => by
      have : l.length ≤ ls.flatten.length := by
        obtain ⟨a, c, rfl⟩ := List.append_of_mem hl
        simp
        omega
      exact List.eq_nil_of_length_eq_zero (by omega)
    have hnil : ls.flatten = [] := List.eq_nil_of_length_eq_zero h0
    repeat (refine StepC.go ?_)
    rw [hL]
    refine TV_ghost 7 29 ?_
    intro b0
    refine TV_loop (fun d σ B => ∃ (i b : Nat), d = ls.length - i ∧ i ≤ ls.length ∧ TGet σ 27 (intT i) ∧ TGet σ 26 (intT ls.length) ∧ TGet σ 25 (.sl 1 (opsLs ls)) ∧ TGet σ 6 (.v (gsv b 0)) ∧ SubP B [(b, .arr 7 [] 29 false)]) ls.length
      ⟨0, b0, by omega, by omega, inferInstance, inferInstance, inferInstance, tget_as rfl, inferInstance⟩ ?_
    rintro d σ B ⟨i, b, rfl, hi, g27, g26, g25, g6, hB⟩
    refine TV_keep _ (p := hB) ?_
    repeat (refine StepC.go ?_)
    refine TV_cond ?_ ?_ <;> intro hc2
    · have hil : i < ls.length := by simp at hc2; omega
      obtain ⟨l, hl1⟩ : ∃ l, ls[i]? = some l := ⟨_, List.getElem?_eq_getElem hil⟩
      have hle := hz l (List.mem_of_getElem? hl1)
      subst hle
      have ng : NthG (opsLs ls) i [.sl 7 []] := .map (fun l => [Tr.sl 7 (opRows l)]) hl1
      repeat (first | refine StepC.go ?_ | (refine TS_puw (Pu.addi ?_) ?_; · omega) | (refine TS_append ?_ (fun _ => ?_); · omega))
      rename_i b2
      refine ⟨_, ?_, i + 1, b2, rfl, by omega, inferInstance, inferInstance, inferInstance, inferInstance, inferInstanceAs (SubP [(b2, Box.arr 7 [] 29 false)] [(b2, Box.arr 7 [] 29 false)])⟩
      omega
    · repeat (refine StepC.go ?_)
      refine retT_1 (.inr rfl) ?_
      rw [hnil]; rfl
  · rw [List.singleton_append]
    repeat (refine StepC.go ?_)
    rw [hL]
    refine TV_loop (fun d σ B => ∃ (i : Nat) (rest : List (List Tr)), d = ls.length - i ∧ i ≤ ls.length ∧ TGet σ 27 (intT i) ∧ TGet σ 26 (intT ls.length) ∧ TGet σ 25 (.sl 1 (opsLs ls)) ∧ TGet σ 6 (.v (.slice (some (ad b 0)) (totS ls i) ls.flatten.length)) ∧ SubP B [(b, .arr 7 (opRows (ls.take i).flatten ++ rest) 29 false)] ∧ totS ls i + rest.length = ls.flatten.length) ls.length
      ⟨0, rows, by omega, by omega, inferInstance, inferInstance, inferInstance, tget_as rfl, inferInstanceAs (SubP _ [(b, .arr 7 rows 29 false)]), by simp [totS, hr]⟩ ?_
    rintro d σ B ⟨i, rest, rfl, hi, g27, g26, g25, g6, hB, hrl⟩
    refine TV_keep _ (p := hB) ?_
    have hrx : RealX (opRows (ls.take i).flatten ++ rest) false := ⟨fun h => by
      have := congrArg List.length h
      simp only [List.length_append, opRows, List.length_map, List.length_nil] at this
      simp only [totS] at hrl
      omega⟩
    have hLt : LenT (opRows (ls.take i).flatten ++ rest) ls.flatten.length := ⟨by
      simp only [List.length_append, opRows, List.length_map]; simp only [totS] at hrl; omega⟩
    have hSm : Sm63 ls.flatten.length := ⟨by omega⟩
    repeat (refine StepC.go ?_)
    refine TV_cond ?_ ?_ <;> intro hc2
    · have hil : i < ls.length := by simp at hc2; omega
      obtain ⟨l, hl1⟩ : ∃ l, ls[i]? = some l := ⟨_, List.getElem?_eq_getElem hil⟩
      have ng : NthG (opsLs ls) i [.sl 7 (opRows l)] := .map (fun l => [Tr.sl 7 (opRows l)]) hl1
      have ht := totS_succ hl1
      have ht2 := totS_le ls (i + 1)
      have hLl : LenO (opRows l) l.length := ⟨by simp [opRows]⟩
      have hrow : (opRows (ls.take i).flatten ++ rest).take (totS ls i) ++ (opRows l ++ (opRows (ls.take i).flatten ++ rest).drop (totS ls i + l.length)) = opRows (ls.take (i + 1)).flatten ++ rest.drop l.length := by
        have e1 : (opRows (ls.take i).flatten).length = totS ls i := by rw [opRows, List.length_map]; rfl
        rw [← e1, List.take_left, List.drop_append, take_succ hl1, List.flatten_append, opRows_app]
        simp
      repeat (refine StepC.go ?_)
      refine TS_append_in (by omega) (by omega) ?_
      rw [hrow]
      repeat (first | refine StepC.go ?_ | (refine TS_puw (Pu.addi ?_) ?_; · omega))
      refine ⟨_, ?_, i + 1, rest.drop l.length, rfl, by omega, inferInstance, inferInstance, inferInstance, tget_as (by rw [ht]), inferInstance, by rw [List.length_drop]; omega⟩
      omega
    · have hil : i = ls.length := by simp at hc2; omega
      subst hil
      have hre : rest = [] := List.eq_nil_of_length_eq_zero (by rw [totS_all] at hrl; omega)
      subst hre
      rw [totS_all] at g6
      rw [List.take_length, List.append_nil] at hrx hLt ⊢
      repeat (refine StepC.go ?_)
      refine retT_1 (.inr rfl) ?_
      rfl
instance : CallIs Try.prog 36 := .of Try.func36 rfl rfl
end Go.Ideal

-- Tu
set_option linter.unusedSimpArgs false
set_option linter.unusedVariables false
namespace Go.Ideal
open Go Go.Proofs Go.RowKit
def thenC (a b : CircD) : CircD × Int :=
  if (checkC a).2 = 0 then
    (if (checkC b).2 = 0 then
      (if a.qubits = b.qubits ∧ a.bits = b.bits then
        (if (checkC ⟨a.qubits, a.bits, a.ops ++ b.ops⟩).2 = 0 then (⟨a.qubits, a.bits, a.ops ++ b.ops⟩, 0) else (⟨0, 0, []⟩, (checkC ⟨a.qubits, a.bits, a.ops ++ b.ops⟩).2))
      else (⟨0, 0, []⟩, 2))
    else (⟨0, 0, []⟩, (checkC b).2))
  else (⟨0, 0, []⟩, (checkC a).2)
theorem catW {a b : CircD} (ha : CircW a) (hb : CircW b) : CircW ⟨a.qubits, a.bits, a.ops ++ b.ops⟩ := fun o ho => by
  rcases List.mem_append.1 ho with h | h
  · exact ha o h
  · exact hb o h
set_option synthInstance.maxSize 4000 in
set_option synthInstance.maxHeartbeats 400000 in
set_option maxHeartbeats 4000000 in
theorem thenRT {a b : CircD} (ha : CircW a) (hb : CircW b) : Fn Try.prog 13 [circT a, circT b] (fun r => r = .tup [circT (thenC a b).1, intT (thenC a b).2]) := by
  refine Fn_of Try.func13 rfl (Nat.le_of_ble_eq_true rfl) (fun X => ?_)
  repeat (first | refine StepC.go ?_ | intro _)
  rename_i pa pb pr
  refine TS_callE (checkRT ha) ?_
  repeat (refine StepC.go ?_)
  refine TV_cond ?_ ?_ <;> intro hc
  · repeat (refine StepC.go ?_)
    refine retT_2c [.agg [intT 0, intT 0, .sl 7 []], intT (checkC a).2] (.inr rfl) ?_
    simp only [tret, thenC]
    rw [if_neg (by simpa using hc)]; rfl
  have hca : (checkC a).2 = 0 := by simpa using hc
  repeat (refine StepC.go ?_)
  refine TS_callE (checkRT hb) ?_
  repeat (refine StepC.go ?_)
  refine TV_cond ?_ ?_ <;> intro hc2
  · repeat (refine StepC.go ?_)
    refine retT_2c [.agg [intT 0, intT 0, .sl 7 []], intT (checkC b).2] (.inr rfl) ?_
    simp only [tret, thenC]
    rw [if_pos hca, if_neg (by simpa using hc2)]; rfl
  have hcb : (checkC b).2 = 0 := by simpa using hc2
  obtain ⟨hla, hga⟩ := circ_good ha hca
  obtain ⟨hlb, hgb⟩ := circ_good hb hcb
  by_cases hq : a.qubits = b.qubits ∧ a.bits = b.bits
  case neg =>
    have d1 : (if (!decide (a.qubits = b.qubits)) = true then true else !decide (a.bits = b.bits)) = true := by
      by_cases h1 : a.qubits = b.qubits
      · have : a.bits ≠ b.bits := fun h => hq ⟨h1, h⟩
        simp [h1, this]
      · simp [h1]
    by_cases h1 : a.qubits = b.qubits
    · have d2 : (!decide (a.qubits = b.qubits)) = false := by simp [h1]
      repeat (first | refine StepC.go ?_ | (refine TS_on rfl ?_ ?_; · first | rfl | assumption) | (refine TV_cond_t ?_ ?_; · first | rfl | assumption))
      refine retT_2c [.agg [intT 0, intT 0, .sl 7 []], intT 2] (.inr rfl) ?_
      simp only [tret, thenC]
      rw [if_pos hca, if_pos hcb, if_neg hq]; rfl
    · have d2 : (!decide (a.qubits = b.qubits)) = true := by simp [h1]
      repeat (first | refine StepC.go ?_ | (refine TS_off rfl ?_ ?_; · first | rfl | assumption) | (refine TS_puw (Pu.pick_t ?_) ?_; · first | rfl | assumption) | (refine TV_cond_t ?_ ?_; · first | rfl | assumption))
      refine retT_2c [.agg [intT 0, intT 0, .sl 7 []], intT 2] (.inr rfl) ?_
      simp only [tret, thenC]
      rw [if_pos hca, if_pos hcb, if_neg hq]; rfl
  have d1 : (if (!decide (a.qubits = b.qubits)) = true then true else !decide (a.bits = b.bits)) = false := by simp [hq.1, hq.2]
  have d2 : (!decide (a.qubits = b.qubits)) = false := by simp [hq.1]
  repeat (first | refine StepC.go ?_ | (refine TS_on rfl ?_ ?_; · first | rfl | assumption) | refine TD_load rfl rfl ?_ | refine TD_one rfl ?_ | refine FiltT_nil ?_ | refine FiltT_drop rfl ?_ | refine FiltT_keep rfl ?_ | refine TD_virt rfl rfl rfl (fun _ => ?_) | refine TV_draw (id := 9) (plan := [.take 0, .take 2, .virt 4, .virt 5, .one 1, .one 3, .one 6, .one 7]) (by kernel_rfl) ?_ | (refine TV_cond_f ?_ ?_; · first | rfl | assumption))
  refine TS_callG (fun v => .agg [intT a.qubits, intT a.bits, .v v]) (copyO (fun o ho => by have := (hga o ho).len; omega) (by omega)) (fun h => by rw [List.eq_nil_of_length_eq_zero h]; rfl) ?_
  intro b1
  repeat (first | refine StepC.go ?_ | refine TD_one rfl ?_ | refine FiltT_nil ?_ | refine FiltT_drop rfl ?_ | refine FiltT_keep rfl ?_)
  refine TS_call (copyT (fun o ho => by have := (hgb o ho).len; omega) (by omega)) ?_
  rintro _ rfl
  have hLa : LenT (opRows a.ops) a.ops.length := ⟨by simp [opRows]⟩
  have hLb : LenO (opRows b.ops) b.ops.length := ⟨by simp [opRows]⟩
  repeat (first | refine StepC.go ?_ | (refine TS_append ?_ (fun _ => ?_); · omega) | refine TD_one rfl ?_ | refine FiltT_nil ?_ | refine FiltT_drop rfl ?_)
  have hLab : LenT (opRows a.ops ++ opRows b.ops) (a.ops.length + b.ops.length) := ⟨by simp [opRows]⟩
  have hSm : Sm63 (a.ops.length + b.ops.length) := ⟨by omega⟩
  have hck := checkRT (catW ha hb)
  rw [circT, circCs, opRows_app] at hck
  refine TS_callE hck ?_
  repeat (refine StepC.go ?_)
  refine TV_cond ?_ ?_ <;> intro hc3
  · repeat (refine StepC.go ?_)
    refine retT_2c [.agg [intT 0, intT 0, .sl 7 []], intT (checkC ⟨a.qubits, a.bits, a.ops ++ b.ops⟩).2] (.inr rfl) ?_
    simp only [tret, thenC]
    rw [if_pos hca, if_pos hcb, if_pos hq, if_neg (by simpa using hc3)]; rfl
  · have hcd : (checkC ⟨a.qubits, a.bits, a.ops ++ b.ops⟩).2 = 0 := by simpa using hc3
    repeat (refine StepC.go ?_)
    refine retT_2 (.inr rfl) ?_
    simp only [tret, thenC]
    rw [if_pos hca, if_pos hcb, if_pos hq, if_pos hcd]
    simp only [circT, circCs, opRows_app]
instance : CallIs Try.prog 13 := .of Try.func13 rfl rfl
end Go.Ideal

-- Tv
set_option linter.unusedSimpArgs false
set_option linter.unusedVariables false
namespace Go.Ideal
open Go Go.Proofs Go.RowKit
instance : CallIs Try.prog 8 := .of Try.func8 rfl rfl
end Go.Ideal

-- Tw
set_option linter.unusedSimpArgs false
set_option linter.unusedVariables false
namespace Go.Ideal
open Go Go.Proofs Go.RowKit
/-! ### The gate that takes it back, as the reference tells -/
theorem EvX_same {P : Program} {n f : Nat} {args : Array Value} {v : Value} {h : IHp} (hr : icall P n (.fn f) args h = some (v, h)) : EvX P f args h (fun w h' => w = v ∧ Ext h h') := by
  unfold EvX
  exact ⟨v, h, ⟨n, hr⟩, rfl, Ext.refl _⟩
theorem refInv_0 (h : IHp) : icall Try.prog 400 (.fn 39) [.string ⟨#[115]⟩].toArray h = some (.tuple [.string ⟨#[115, 100, 103]⟩, .int .i64 0].toArray, h) := by kernel_rfl
theorem refInv_1 (h : IHp) : icall Try.prog 400 (.fn 39) [.string ⟨#[116]⟩].toArray h = some (.tuple [.string ⟨#[116, 100, 103]⟩, .int .i64 0].toArray, h) := by kernel_rfl
theorem refInv_2 (h : IHp) : icall Try.prog 400 (.fn 39) [.string ⟨#[118]⟩].toArray h = some (.tuple [.string ⟨#[118, 100, 103]⟩, .int .i64 0].toArray, h) := by kernel_rfl
theorem refInv_3 (h : IHp) : icall Try.prog 400 (.fn 39) [.string ⟨#[119]⟩].toArray h = some (.tuple [.string ⟨#[119, 100, 103]⟩, .int .i64 0].toArray, h) := by kernel_rfl
theorem refInv_4 (h : IHp) : icall Try.prog 400 (.fn 39) [.string ⟨#[99, 115]⟩].toArray h = some (.tuple [.string ⟨#[99, 115, 100, 103]⟩, .int .i64 0].toArray, h) := by kernel_rfl
theorem refInv_5 (h : IHp) : icall Try.prog 400 (.fn 39) [.string ⟨#[105, 115, 119, 97, 112]⟩].toArray h = some (.tuple [.string ⟨#[105, 115, 119, 97, 112, 100, 103]⟩, .int .i64 0].toArray, h) := by kernel_rfl
theorem refInv_6 (h : IHp) : icall Try.prog 400 (.fn 39) [.string ⟨#[115, 100, 103]⟩].toArray h = some (.tuple [.string ⟨#[115]⟩, .int .i64 0].toArray, h) := by kernel_rfl
theorem refInv_7 (h : IHp) : icall Try.prog 400 (.fn 39) [.string ⟨#[116, 100, 103]⟩].toArray h = some (.tuple [.string ⟨#[116]⟩, .int .i64 0].toArray, h) := by kernel_rfl
theorem refInv_8 (h : IHp) : icall Try.prog 400 (.fn 39) [.string ⟨#[118, 100, 103]⟩].toArray h = some (.tuple [.string ⟨#[118]⟩, .int .i64 0].toArray, h) := by kernel_rfl
theorem refInv_9 (h : IHp) : icall Try.prog 400 (.fn 39) [.string ⟨#[119, 100, 103]⟩].toArray h = some (.tuple [.string ⟨#[119]⟩, .int .i64 0].toArray, h) := by kernel_rfl
theorem refInv_10 (h : IHp) : icall Try.prog 400 (.fn 39) [.string ⟨#[99, 115, 100, 103]⟩].toArray h = some (.tuple [.string ⟨#[99, 115]⟩, .int .i64 0].toArray, h) := by kernel_rfl
theorem refInv_11 (h : IHp) : icall Try.prog 400 (.fn 39) [.string ⟨#[105, 115, 119, 97, 112, 100, 103]⟩].toArray h = some (.tuple [.string ⟨#[105, 115, 119, 97, 112]⟩, .int .i64 0].toArray, h) := by kernel_rfl
set_option maxHeartbeats 2000000 in
theorem refInverse_spec (b : ByteArray) (h : IHp) : EvX Try.prog 39 [.string b].toArray h (fun v h' => v = .tuple [.string (backS b).1, .int .i64 (backS b).2].toArray ∧ Ext h h') := by
  by_cases c0 : beqS b ⟨#[115]⟩ = true
  · have hx := beqS_iff.1 c0; subst hx; exact EvX_same (refInv_0 h)
  have f0 : beqS b ⟨#[115]⟩ = false := by simpa using c0
  clear c0
  by_cases c1 : beqS b ⟨#[116]⟩ = true
  · have hx := beqS_iff.1 c1; subst hx; exact EvX_same (refInv_1 h)
  have f1 : beqS b ⟨#[116]⟩ = false := by simpa using c1
  clear c1
  by_cases c2 : beqS b ⟨#[118]⟩ = true
  · have hx := beqS_iff.1 c2; subst hx; exact EvX_same (refInv_2 h)
  have f2 : beqS b ⟨#[118]⟩ = false := by simpa using c2
  clear c2
  by_cases c3 : beqS b ⟨#[119]⟩ = true
  · have hx := beqS_iff.1 c3; subst hx; exact EvX_same (refInv_3 h)
  have f3 : beqS b ⟨#[119]⟩ = false := by simpa using c3
  clear c3
  by_cases c4 : beqS b ⟨#[99, 115]⟩ = true
  · have hx := beqS_iff.1 c4; subst hx; exact EvX_same (refInv_4 h)
  have f4 : beqS b ⟨#[99, 115]⟩ = false := by simpa using c4
  clear c4
  by_cases c5 : beqS b ⟨#[105, 115, 119, 97, 112]⟩ = true
  · have hx := beqS_iff.1 c5; subst hx; exact EvX_same (refInv_5 h)
  have f5 : beqS b ⟨#[105, 115, 119, 97, 112]⟩ = false := by simpa using c5
  clear c5
  by_cases c6 : beqS b ⟨#[115, 100, 103]⟩ = true
  · have hx := beqS_iff.1 c6; subst hx; exact EvX_same (refInv_6 h)
  have f6 : beqS b ⟨#[115, 100, 103]⟩ = false := by simpa using c6
  clear c6
  by_cases c7 : beqS b ⟨#[116, 100, 103]⟩ = true
  · have hx := beqS_iff.1 c7; subst hx; exact EvX_same (refInv_7 h)
  have f7 : beqS b ⟨#[116, 100, 103]⟩ = false := by simpa using c7
  clear c7
  by_cases c8 : beqS b ⟨#[118, 100, 103]⟩ = true
  · have hx := beqS_iff.1 c8; subst hx; exact EvX_same (refInv_8 h)
  have f8 : beqS b ⟨#[118, 100, 103]⟩ = false := by simpa using c8
  clear c8
  by_cases c9 : beqS b ⟨#[119, 100, 103]⟩ = true
  · have hx := beqS_iff.1 c9; subst hx; exact EvX_same (refInv_9 h)
  have f9 : beqS b ⟨#[119, 100, 103]⟩ = false := by simpa using c9
  clear c9
  by_cases c10 : beqS b ⟨#[99, 115, 100, 103]⟩ = true
  · have hx := beqS_iff.1 c10; subst hx; exact EvX_same (refInv_10 h)
  have f10 : beqS b ⟨#[99, 115, 100, 103]⟩ = false := by simpa using c10
  clear c10
  by_cases c11 : beqS b ⟨#[105, 115, 119, 97, 112, 100, 103]⟩ = true
  · have hx := beqS_iff.1 c11; subst hx; exact EvX_same (refInv_11 h)
  have f11 : beqS b ⟨#[105, 115, 119, 97, 112, 100, 103]⟩ = false := by simpa using c11
  clear c11
  refine EvX_of Try.func39 rfl (by show 1 ≤ 30; decide) ?_
  repeat' (first | refine V_seq ?_ | refine V_region ?_ | refine WS_nil ?_ | refine S_normal ?_ | refine V_block ?_ | refine B_normal ?_ | refine V_skip ?_ | refine WS_move ?_ | refine WS_assign ?_ | refine WS_streq ?_ | refine V_cond_f (by first | rfl | assumption) ?_)
  refine WS_call (refArity_spec b _) ?_
  rintro _ _ ⟨rfl, rfl⟩
  repeat' (first | refine V_seq ?_ | refine V_region ?_ | refine WS_nil ?_ | refine S_normal ?_ | refine V_skip ?_ | refine V_ret ?_ | refine S_ret ?_ | refine WS_move ?_ | refine WS_assign ?_ | refine WS_cmp rfl ?_ | (refine V_cond ?_ ?_ <;> intro hc <;> try (cases hc; done)))
  all_goals refine retK_2 ⟨?_, Ext.refl _⟩ (.inr rfl)
  all_goals
    unfold backS
    unfold arityS at hc
    cases hk : kOf b with
    | none => simp_all
    | some e =>
      obtain ⟨hm, rfl⟩ := kOf_mem hk
      have hall : (KT.all fun e => decide (0 < e.arity) && (beqS e.back e.name || beqS e.name ⟨#[115]⟩ || beqS e.name ⟨#[116]⟩ || beqS e.name ⟨#[118]⟩ || beqS e.name ⟨#[119]⟩ || beqS e.name ⟨#[99, 115]⟩ || beqS e.name ⟨#[105, 115, 119, 97, 112]⟩ || beqS e.name ⟨#[115, 100, 103]⟩ || beqS e.name ⟨#[116, 100, 103]⟩ || beqS e.name ⟨#[118, 100, 103]⟩ || beqS e.name ⟨#[119, 100, 103]⟩ || beqS e.name ⟨#[99, 115, 100, 103]⟩ || beqS e.name ⟨#[105, 115, 119, 97, 112, 100, 103]⟩)) = true := by decide +kernel
      rw [List.all_eq_true] at hall
      have := hall e hm
      simp only [f0, f1, f2, f3, f4, f5, f6, f7, f8, f9, f10, f11, Bool.or_false, Bool.and_eq_true, decide_eq_true_eq] at this
      have h2 := beqS_iff.1 this.2
      rw [hk] at hc
      simp_all
instance : CallIs Try.prog 39 := .of Try.func39 rfl rfl
end Go.Ideal

-- Tx
set_option linter.unusedSimpArgs false
set_option linter.unusedVariables false
namespace Go.Ideal
open Go Go.Proofs Go.RowKit
theorem backRT (b : ByteArray) : Fn Try.prog 39 [strT b] (fun r => r = .tup [strT (backS b).1, intT (backS b).2]) := Fn_vals (ws := [_]) (fun h => refInverse_spec b h) (fun F => rep_pair _ _)
set_option synthInstance.maxSize 4000 in
set_option synthInstance.maxHeartbeats 400000 in
set_option maxHeartbeats 2000000 in
theorem refInverseT {c : CircD} (hw : CircW c) : Fn Try.prog 12 [circT c] (fun r => r = .tup [circT (inverseC c).1, intT (inverseC c).2]) := by
  refine Fn_of Try.func12 rfl (Nat.le_of_ble_eq_true rfl) (fun X => ?_)
  have hL : (opRows c.ops).length = c.ops.length := by simp [opRows]
  repeat (first | refine StepC.go ?_ | intro _)
  rename_i p pr
  refine TS_callE (checkRT hw) ?_
  repeat (refine StepC.go ?_)
  refine TV_cond ?_ ?_ <;> intro hc
  · repeat (refine StepC.go ?_)
    refine retT_2c [.agg [intT 0, intT 0, .sl 7 []], intT (checkC c).2] (.inr rfl) ?_
    simp only [tret, inverseC]
    rw [if_neg (by simpa using hc)]; rfl
  have hck : (checkC c).2 = 0 := by simpa using hc
  obtain ⟨hlen, hg⟩ := circ_good hw hck
  refine TV_ghost 7 29 ?_
  intro b0
  repeat (first | refine StepC.go ?_ | intro _)
  rename_i pd
  refine TS_call (copyT (fun o ho => by have := (hg o ho).len; omega) (by omega)) ?_
  rintro _ rfl
  repeat (first | refine StepC.go ?_ | intro _ | (refine TS_puw (Pu.subi ?_) ?_; · omega))
  rename_i po
  rw [hL]
  obtain ⟨n, hn⟩ : ∃ n, n = c.ops.length := ⟨_, rfl⟩
  rw [← hn]
  refine TV_loop (fun d σ B => ∃ (j b : Nat), d = j ∧ j ≤ n ∧ TGet σ 8 (intT ((j : Int) - 1)) ∧ TGet σ 7 (.v (.pointer (some (ad po 0)))) ∧ TGet σ 6 (.v (.pointer (some (ad pd 0)))) ∧ TGet σ 2 (.v (.pointer (some (ad pr 0)))) ∧ TGet σ 3 (intT 0) ∧
      SubP B [(pr, .cells [intT 0, intT 0, .v (.slice none 0 0)] 24 true), (po, .cells (circCs c) 24 true), (pd, .cells [intT c.qubits, intT c.bits, .v (gsv b (n - j))] 24 true), (b, .arr 7 (opRows ((c.ops.drop j).reverse.map invO)) 29 false)] ∧ (c.ops.drop j).all gateO = true) n
    ⟨n, b0, rfl, by omega, inferInstance, inferInstance, inferInstance, inferInstance, inferInstance, by
      rw [hn, List.drop_length, Nat.sub_self]
      exact inferInstanceAs (SubP _ [(pr, .cells [intT 0, intT 0, .v (.slice none 0 0)] 24 true), (po, .cells (circCs c) 24 true), (pd, .cells [intT c.qubits, intT c.bits, .v (.slice none 0 0)] 24 true), (b0, .arr 7 [] 29 false)]), by rw [hn, List.drop_length]; rfl⟩ ?_
  rintro d σ B ⟨j, b, rfl, hj, g8, g7, g6, g2, g3, hB, hall⟩
  refine TV_keep _ (p := hB) ?_
  cases d with
  | zero =>
    have hLn : LenT (opRows ((c.ops.drop 0).reverse.map invO)) (n - 0) := ⟨by simp [opRows, hn]⟩
    have hSm : Sm63 (n - 0) := ⟨by omega⟩
    repeat (first | refine StepC.go ?_ | (refine TV_cond_f ?_ ?_; · first | rfl | assumption))
    refine retT_2 (.inr rfl) ?_
    simp only [tret, inverseC]
    rw [List.drop_zero] at hall ⊢
    rw [if_pos hck, if_pos hall]
  | succ k =>
    have g8' : TGet σ 8 (intT (k : Int)) := ⟨g8.eq.trans (by congr 2; omega)⟩
    clear g8
    have hkl : k < c.ops.length := by omega
    obtain ⟨o, ho⟩ : ∃ o, c.ops[k]? = some o := ⟨_, List.getElem?_eq_getElem hkl⟩
    have ng : NthG (opRows c.ops) k (opCs o) := .map opCs ho
    have hLn : LenT (opRows ((c.ops.drop (k + 1)).reverse.map invO)) (n - (k + 1)) := ⟨by simp [opRows, hn]⟩
    have hk0 : decide ((0 : Int) ≤ k) = true := by simp
    repeat (first | refine StepC.go ?_ | intro _ | (refine TV_cond_t ?_ ?_; · first | rfl | assumption))
    refine TV_cond ?_ ?_ <;> intro hkd
    · have hk1 : ¬ o.kind = 1 := by simpa using hkd
      repeat (refine StepC.go ?_)
      refine retT_2c [.agg [intT 0, intT 0, .sl 7 []], intT 121] (.inr rfl) ?_
      simp only [tret, inverseC]
      rw [if_pos hck, if_neg]; rfl
      intro h
      rw [List.all_eq_true] at h
      have := h o (List.mem_of_getElem? ho)
      simp [gateO, hk1] at this
    · have hk1 : o.kind = 1 := by simpa using hkd
      repeat (refine StepC.go ?_)
      refine TS_callE (backRT o.name) ?_
      repeat (first | refine StepC.go ?_ | intro _ | (refine TS_puw (Pu.subi ?_) ?_; · omega) | (refine TS_append ?_ (fun _ => ?_); · omega))
      rename_i b2
      refine ⟨k, by omega, k, b2, rfl, by omega, inferInstance, inferInstance, inferInstance, inferInstance, inferInstance, ?_, ?_⟩
      · have hd : opRows ((c.ops.drop k).reverse.map invO) = opRows ((c.ops.drop (k + 1)).reverse.map invO) ++ [opCs (invO o)] := by
          rw [drop_cons ho, List.reverse_cons, List.map_append, opRows_app]; rfl
        have hnk : n - k = n - (k + 1) + 1 := by omega
        rw [hd, hnk]
        exact inferInstanceAs (SubP _ [_, _, _, (b2, .arr 7 (opRows ((c.ops.drop (k + 1)).reverse.map invO) ++ [[intT o.kind, strT (backS o.name).1, .sl 1 (intRows o.qs), intT o.bit, boolT o.iff, u64T o.mask, u64T o.value]]) 29 false)])
      · rw [drop_cons ho, List.all_cons, hall]
        simp [gateO, hk1]
instance : CallIs Try.prog 12 := .of Try.func12 rfl rfl
theorem inverse_qs {c : CircD} (hw : CircW c) : ∀ o ∈ (inverseC c).1.ops, o.qs.length < 2 ^ 40 := by
  intro o ho
  unfold inverseC at ho
  split at ho
  · rename_i h1
    split at ho
    · simp only [List.mem_map, List.mem_reverse] at ho
      obtain ⟨x, hx, rfl⟩ := ho
      have := ((circ_good hw h1).2 x hx).len
      show x.qs.length < _
      omega
    · cases ho
  · cases ho
end Go.Ideal

-- Gj
set_option linter.unusedSimpArgs false
set_option linter.unusedVariables false
namespace Go.Ideal
open Go Go.Proofs Go.RowKit
/-! ### Rows of own memory that may be frozen; copies that are own memory -/
/-- lists of numbers, each in a box of its own -/
def iB (fam : List (Nat × List Int × Bool)) : Boxes := fam.map fun x => (x.1, .arr 1 (intRows x.2.1) 3 x.2.2)
/-- the value of a list of numbers in a box of its own -/
@[reducible] def iV (x : Nat × List Int × Bool) : Value := .slice (some (ad x.1 0)) x.2.1.length x.2.1.length
theorem cloneIntO (xs : List Int) (hl : xs.length < 2 ^ 36) (hne : xs ≠ []) : FnO Try.prog 58 [.sl 1 (intRows xs)] (fun r B => ∃ b, r = .v (iV (b, xs, false)) ∧ B = iB [(b, xs, false)]) := by
  refine FnO_of Try.func58 rfl (Nat.le_of_ble_eq_true rfl) (fun X => ?_)
  have : Sm63 (0 + xs.length) := ⟨by omega⟩
  repeat (refine StepC.go ?_)
  refine TS_isnil ?_
  intro b hb
  repeat' (first | refine StepC.go ?_ | intro _ | (refine TS_append_own ?_ (fun _ => ?_); · omega) | (refine TV_cond ?_ ?_ <;> intro hc <;> try (cases hc; done)))
  · have := hb hc
    exact absurd (by simpa [intRows] using this) hne
  · rename_i be bo
    have e : (intRows xs).isEmpty = false := by
      cases xs with
      | nil => exact absurd rfl hne
      | cons x xs => rfl
    simp only [Nat.zero_add, List.nil_append, e, Bool.false_and]
    refine retO_1 [(bo, .arr 1 (intRows xs) 3 false)] (.inr rfl) (fun p hp => ?_) ⟨bo, rfl, rfl⟩
    rw [List.mem_singleton.1 hp]
    exact fun h => absurd (by simpa [intRows] using h) hne
@[reducible] def opCsV (o : OpD) (b : Nat) : List Tr := [intT o.kind, strT o.name, .v (iV (b, o.qs, false)), intT o.bit, boolT o.iff, u64T o.mask, u64T o.value]
theorem copiedO (o : OpD) (hl : o.qs.length < 2 ^ 36) (hne : o.qs ≠ []) : FnO Try.prog 34 [.agg (opCs o)] (fun r B => ∃ b, r = .agg (opCsV o b) ∧ B = iB [(b, o.qs, false)]) := by
  refine FnO_of Try.func34 rfl (Nat.le_of_ble_eq_true rfl) (fun X => ?_)
  repeat (first | refine StepC.go ?_ | intro _)
  refine TS_callO (cloneIntO o.qs hl hne) ?_
  rintro _ B1 ⟨b, rfl, rfl⟩
  simp only [iB, List.map_cons, List.map_nil, List.singleton_append, List.nil_append]
  repeat (refine StepC.go ?_)
  refine retO_1 [(b, .arr 1 (intRows o.qs) 3 false)] (.inr rfl) (fun p hp => ?_) ⟨b, rfl, rfl⟩
  rw [List.mem_singleton.1 hp]
  exact fun h => absurd (by simpa [intRows] using h) hne
end Go.Ideal

-- Gk
set_option linter.unusedSimpArgs false
set_option linter.unusedVariables false
namespace Go.Ideal
open Go Go.Proofs Go.RowKit
/-! ### Circuits in own memory -/
def ocRows (dq : List (Nat × OpD)) : List (List Tr) := dq.map fun d => opCsV d.2 d.1
def ocB (dq : List (Nat × OpD)) : Boxes := iB (dq.map fun d => (d.1, d.2.qs, false))
def ocA (b : Nat) (dq : List (Nat × OpD)) : Boxes := (if dq.length = 0 then [] else [(b, .arr 7 (ocRows dq) 29 false)]) ++ ocB dq
instance {dq : List (Nat × OpD)} : LenT (ocRows dq) dq.length := ⟨by simp [ocRows]⟩
theorem ocRows_app (a b : List (Nat × OpD)) : ocRows (a ++ b) = ocRows a ++ ocRows b := by simp [ocRows]
theorem ocB_app (a b : List (Nat × OpD)) : ocB (a ++ b) = ocB a ++ ocB b := by simp [ocB, iB]
theorem qs_ne {o : OpD} {q b : Int} (h : faultS o q b = 0) : o.qs ≠ [] := by
  obtain ⟨_, h2, h3, _⟩ := fault_ok h
  intro h0
  rw [h0] at h3
  unfold nS at h3
  split at h3
  · rename_i hk
    exact h2 ⟨hk, by simpa using h3.symm⟩
  · simp at h3
theorem ocA_real {b : Nat} {dq : List (Nat × OpD)} (hne : ∀ d ∈ dq, d.2.qs ≠ []) : ∀ p ∈ ocA b dq, BoxReal p.2 := by
  intro p hp
  unfold ocA at hp
  rcases List.mem_append.1 hp with h5 | h5
  · split at h5
    · cases h5
    · rename_i h0
      rw [List.mem_singleton.1 h5]
      intro h1
      exact absurd (by have := congrArg List.length h1; simpa [ocRows] using this) h0
  · obtain ⟨x, hx, rfl⟩ := List.mem_map.1 h5
    obtain ⟨d, hd, rfl⟩ := List.mem_map.1 hx
    intro h1
    exact absurd (by simpa [intRows] using h1) (hne d hd)
@[reducible] def ocT (c : CircD) (e : Int) (b n : Nat) : Tr := .tup [.agg [intT c.qubits, intT c.bits, .v (gsv b n)], intT e]
def OcO (c : CircD) (e : Int) (r : Tr) (B : Boxes) : Prop := ∃ b dq, dq.map Prod.snd = c.ops ∧ r = ocT c e b dq.length ∧ B = ocA b dq
theorem SubP.oc {B : Boxes} {x y : Nat × Box} {bl : Nat} {e : Box} {dq : List (Nat × OpD)} {b : Nat} {o : OpD} (h : SubP B ((b, .arr 1 (intRows o.qs) 3 false) :: x :: y :: (bl, e) :: ocB dq)) : SubP B (x :: y :: (bl, e) :: ocB (dq ++ [(b, o)])) := by
  rw [ocB_app]
  exact SubP.last h
set_option synthInstance.maxSize 4000 in
set_option synthInstance.maxHeartbeats 400000 in
set_option maxHeartbeats 4000000 in
theorem circInverseO {c : CircD} (hw : CircW c) : FnO Try.prog 7 [circT c] (OcO (inverseC c).1 (inverseC c).2) := by
  refine FnO_of_range Try.func7 rfl rfl (Nat.le_of_ble_eq_true rfl) (fun X => ?_)
  skip -- Fn_of Try.func7
  dsimp only
  repeat (first | refine StepC.go ?_ | intro _)
  rename_i p pr
  refine TS_callE (allT hw (p := gateO) fun o _ => inverse1T o) ?_
  repeat (refine StepC.go ?_)
  refine TV_cond ?_ ?_ <;> intro hc
  · repeat (refine StepC.go ?_)
    refine rangeTO_ret (retO_2 [] (.inr rfl) (by simp) ?_)
    simp only [tret, inverseC]
    rw [if_neg (by simpa using hc)]; exact ⟨0, [], rfl, rfl, rfl⟩
  have hck : (checkC c).2 = 0 := by simpa using hc
  obtain ⟨hr, hlen, hfl⟩ := checkC_ok hck
  rw [if_pos hck]
  repeat (refine StepC.go ?_)
  refine TV_cond ?_ ?_ <;> intro hg
  · repeat (refine StepC.go ?_)
    refine rangeTO_ret (retO_2 [] (.inr rfl) (by simp) ?_)
    simp only [tret, inverseC]
    rw [if_pos hck, if_neg (by simpa using hg)]; exact ⟨0, [], rfl, rfl, rfl⟩
  have hga : c.ops.all gateO = true := by simpa using hg
  refine TV_ghost 7 29 ?_
  intro bl0
  repeat (first | refine StepC.go ?_ | intro _)
  rename_i pd
  refine TS_call (backwardT _) ?_
  rintro _ rfl
  repeat (refine StepC.go ?_)
  have hlo : (opRows c.ops).length = c.ops.length := by simp [opRows]
  refine rangeTO_back backOps (fun i B => ∃ bl dq, dq.map Prod.snd = (c.ops.drop i).reverse.map invO ∧ SubP B ((pr, .cells [intT 0, intT 0, .v (.slice none 0 0)] 24 true) :: (pd, .cells [intT c.qubits, intT c.bits, .v (gsv bl (c.ops.length - i))] 24 true) :: (bl, .arr 7 (ocRows dq) 29 false) :: ocB dq)) (by rw [hlo]; omega) ?_ ?_ ?_
  · rw [hlo, Nat.sub_self, List.drop_length]
    exact ⟨bl0, [], rfl, inferInstanceAs (SubP _ [(pr, .cells [intT 0, intT 0, .v (.slice none 0 0)] 24 true), (pd, .cells [intT c.qubits, intT c.bits, .v (.slice none 0 0)] 24 true), (bl0, .arr 7 [] 29 false)])⟩
  · rintro X1 X2 i row B hrow ⟨bl, dq, hdq, hB⟩
    refine TV_keep _ (p := hB) ?_
    simp only [opRows, List.getElem?_map, Option.map_eq_some_iff] at hrow
    obtain ⟨o, ho, rfl⟩ := hrow
    have hil := (List.getElem?_eq_some_iff.1 ho).1
    have hfo := hfl o (List.mem_of_getElem? ho)
    have hql := qs_len hfo
    have hdl : dq.length = c.ops.length - (i + 1) := by have := congrArg List.length hdq; simpa using this
    repeat (first | refine StepC.go ?_ | intro _)
    refine ⟨rfl, ?_⟩
    repeat (refine StepC.go ?_)
    refine TS_callO (copiedO o (by omega) (qs_ne hfo)) ?_
    rintro _ B1 ⟨bq, rfl, rfl⟩
    simp only [iB, List.map_cons, List.map_nil, List.singleton_append, List.nil_append, List.cons_append]
    repeat (first | refine StepC.go ?_ | intro _)
    refine TS_callE (backT o.name) ?_
    have hL : LenT (ocRows dq) (c.ops.length - (i + 1)) := ⟨by simp [ocRows, hdl]⟩
    repeat (first | refine StepC.go ?_ | intro _ | (refine TS_append ?_ (fun _ => ?_); · omega))
    rename_i bl2
    refine ⟨rfl, bl2, dq ++ [(bq, invO o)], ?_, ?_⟩
    · rw [List.map_append, hdq, drop_cons ho, List.reverse_cons, List.map_append]; rfl
    have hn : c.ops.length - i = c.ops.length - (i + 1) + 1 := by omega
    rw [hn, ocRows_app]
    refine SubP.oc ?_
    exact inferInstanceAs (SubP _ ((bq, .arr 1 (intRows o.qs) 3 false) :: _ :: _ :: (bl2, .arr 7 (ocRows dq ++ [[intT o.kind, strT (backS o.name).1, .v (iV (bq, o.qs, false)), intT o.bit, boolT o.iff, u64T o.mask, u64T o.value]]) 29 false) :: ocB dq))
  · rintro B mk ⟨bl, dq, hdq, hB⟩ X2
    refine TV_keep _ (p := hB) ?_
    have hdl : dq.length = c.ops.length := by have := congrArg List.length hdq; simpa using this
    rw [Nat.sub_zero, ← hdl]
    rw [List.drop_zero] at hdq
    have hne : ∀ d ∈ dq, d.2.qs ≠ [] := fun d hd => by
      have h1 : d.2 ∈ c.ops.reverse.map invO := by rw [← hdq]; exact List.mem_map.2 ⟨d, hd, rfl⟩
      obtain ⟨o, ho, h2⟩ := List.mem_map.1 h1
      rw [← h2]
      have h3 : o.qs ≠ [] := qs_ne (hfl o (by simpa using ho))
      exact h3
    repeat (refine StepC.go ?_)
    have hR : inverseC c = (⟨c.qubits, c.bits, c.ops.reverse.map invO⟩, 0) := by simp only [inverseC]; rw [if_pos hck, if_pos hga]
    rw [hR]
    by_cases h0 : dq.length = 0
    · have : dq = [] := List.eq_nil_of_length_eq_zero h0
      subst this
      exact retO_2 [] (.inr rfl) (by simp) ⟨bl, [], hdq, rfl, rfl⟩
    · refine retO_2 ((bl, .arr 7 (ocRows dq) 29 false) :: ocB dq) (.inr rfl) (fun p hp => ocA_real (b := bl) hne p (by unfold ocA; rw [if_neg h0]; exact hp)) ⟨bl, dq, hdq, rfl, by unfold ocA; rw [if_neg h0]; rfl⟩
end Go.Ideal

-- Gl
set_option linter.unusedSimpArgs false
set_option linter.unusedVariables false
namespace Go.Ideal
open Go Go.Proofs Go.RowKit
/-! ### From own circuits to frozen ones -/
def FrzN (t : Tr) (r : Tr) (B : Boxes) : Prop := FlatT r ∧ (∀ p ∈ B, FlatB p.2) ∧ ∀ F G h, ThawOk F G B h → ∀ v, Rep F r v → Rep G t v
theorem rep_nil {F : Mem} {m : Nat} : Rep F (.sl m []) (.slice none 0 0) := by
  rw [Rep]
  exact ⟨none, 0, 0, rfl, rfl, Nat.le_refl _, by decide, (fun d hd => by cases hd), rfl⟩
theorem intRows_flat : ∀ (xs : List Int), FlatL (intRows xs).flatten := by
  intro xs
  induction xs with
  | nil => exact FlatL.nil
  | cons x xs ih => exact FlatL.cons (b := ih)
theorem ocA_flat {b : Nat} {dq : List (Nat × OpD)} : ∀ p ∈ ocA b dq, FlatB p.2 := by
  intro p hp
  unfold ocA at hp
  rcases List.mem_append.1 hp with h5 | h5
  · split at h5
    · cases h5
    · rw [List.mem_singleton.1 h5]
      refine FlatL.rows fun row hr => ?_
      obtain ⟨d, _, rfl⟩ := List.mem_map.1 hr
      exact inferInstance
  · obtain ⟨x, _, rfl⟩ := List.mem_map.1 h5
    exact intRows_flat _
theorem ocRows_frz {B : Boxes} {dq : List (Nat × OpD)} (hb : ∀ d ∈ dq, BoxIs B d.1 (.arr 1 (intRows d.2.qs) 3 false)) (hs : ∀ d ∈ dq, d.2.qs.length < 2 ^ 62 ∧ d.2.qs ≠ []) : FrzR B (ocRows dq) (opRows (dq.map Prod.snd)) := ⟨by simp [ocRows, opRows], fun i row hr => by
  simp only [ocRows, List.getElem?_map, Option.map_eq_some_iff] at hr
  obtain ⟨d, hd, rfl⟩ := hr
  have hm := List.mem_of_getElem? hd
  have := hb d hm
  obtain ⟨h1, h2⟩ := hs d hm
  have : Sm63 d.2.qs.length := ⟨by omega⟩
  have : RealX (intRows d.2.qs) false := ⟨fun h => absurd (by simpa [intRows] using h) h2⟩
  refine ⟨opCs d.2, by simp [opRows, hd], ?_⟩
  have : FrzL B (opCsV d.2 d.1) (opCs d.2) := inferInstance
  exact this.eq⟩
theorem ocO_frz {c : CircD} {e : Int} (hl : c.ops.length < 2 ^ 62) (hs : ∀ o ∈ c.ops, o.qs.length < 2 ^ 62 ∧ o.qs ≠ []) (r : Tr) (B : Boxes) (h : OcO c e r B) : FrzN (.tup [circT c, intT e]) r B := by
  obtain ⟨b, dq, hdq, rfl, rfl⟩ := h
  obtain ⟨q, bits, ops⟩ := c
  simp only at hdq hl hs
  subst hdq
  rw [List.length_map] at hl
  refine ⟨inferInstance, ocA_flat, ?_⟩
  by_cases h0 : dq.length = 0
  · have : dq = [] := List.eq_nil_of_length_eq_zero h0
    subst this
    intro F G h o v hv
    simp only [Rep, RepL] at hv
    obtain ⟨_, rfl, _, _, rfl, ⟨_, rfl, _, _, rfl, rfl, _, _, rfl, rfl, _, _, rfl, rfl, rfl⟩, _, _, rfl, rfl, rfl⟩ := hv
    rw [Rep]
    refine ⟨_, rfl, RepL.cons ?_ (RepL.cons (rep_v _) RepL.nil)⟩
    rw [Rep]
    exact ⟨_, rfl, RepL.cons (rep_v _) (RepL.cons (rep_v _) (RepL.cons rep_nil RepL.nil))⟩
  · have e1 : BoxIs (ocA b dq) b (.arr 7 (ocRows dq) 29 false) := ⟨by unfold ocA; rw [if_neg h0]; simp⟩
    have e2 : FrzR (ocA b dq) (ocRows dq) (opRows (dq.map Prod.snd)) := ocRows_frz (fun d hd => ⟨by
      unfold ocA
      refine List.mem_append_right _ ?_
      exact List.mem_map.2 ⟨(d.1, d.2.qs, false), List.mem_map.2 ⟨d, hd, rfl⟩, rfl⟩⟩) (fun d hd => hs d.2 (List.mem_map.2 ⟨d, hd, rfl⟩))
    have e4 : Sm63 dq.length := ⟨by omega⟩
    exact (inferInstance : Frz (ocA b dq) (.tup [.agg [intT q, intT bits, .v (gsv b dq.length)], intT e]) _).eq
end Go.Ideal

-- Gm
set_option linter.unusedSimpArgs false
set_option linter.unusedVariables false
namespace Go.Ideal
open Go Go.Proofs Go.RowKit
/-! ### circuit.Order as own memory -/
theorem SubP.oc3 {B : Boxes} {x y z : Nat × Box} {bl : Nat} {e : Box} {dq : List (Nat × OpD)} {b : Nat} {o : OpD} (h : SubP B ((b, .arr 1 (intRows o.qs) 3 false) :: x :: y :: z :: (bl, e) :: ocB dq)) : SubP B (x :: y :: z :: (bl, e) :: ocB (dq ++ [(b, o)])) := by
  rw [ocB_app]
  exact SubP.last h
set_option maxHeartbeats 4000000 in
theorem circOrderO {c : CircD} {order : List Int} (hw : CircW c) : FnO Try.prog 9 [circT c, .sl 1 (intRows order)] (OcO (orderC c order).1 (orderC c order).2) := by
  refine FnO_of Try.func9 rfl (Nat.le_of_ble_eq_true rfl) (fun X => ?_)
  have hLo : (intRows order).length = order.length := by simp [intRows]
  have hLc : (opRows c.ops).length = c.ops.length := by simp [opRows]
  repeat (first | refine StepC.go ?_ | intro _)
  rename_i p pr
  refine TS_callE (checkT hw) ?_
  repeat (refine StepC.go ?_)
  refine TV_cond ?_ ?_ <;> intro hc
  · repeat (refine StepC.go ?_)
    refine retO_2 [] (.inr rfl) (by simp) ?_
    simp only [tret, orderC]
    rw [if_neg (by simpa using hc)]; exact ⟨0, [], rfl, rfl, rfl⟩
  have hck : (checkC c).2 = 0 := by simpa using hc
  obtain ⟨hlen, hg⟩ := circ_good hw hck
  obtain ⟨_, _, hfl⟩ := checkC_ok hck
  have hbad : ¬ (order.length = c.ops.length ∧ permK c.ops.length order (List.replicate c.ops.length false) = true ∧ clashS c.ops order order.length = false) → orderC c order = (⟨0, 0, []⟩, 2) := fun h => by
    rw [orderC, if_pos hck, if_neg h]
  have hgood : (order.length = c.ops.length ∧ permK c.ops.length order (List.replicate c.ops.length false) = true ∧ clashS c.ops order order.length = false) → orderC c order = (⟨c.qubits, c.bits, order.map (opAt c.ops)⟩, 0) := fun h => by
    rw [orderC, if_pos hck, if_pos h]
  repeat (refine StepC.go ?_)
  rw [hLo, hLc]
  refine TV_cond ?_ ?_ <;> intro hc2
  · have h1 : ¬ order.length = c.ops.length := by simp at hc2; omega
    repeat (refine StepC.go ?_)
    refine retO_2 [] (.inr rfl) (by simp) ?_
    simp only [tret]
    rw [hbad fun h => h1 h.1]; exact ⟨0, [], rfl, rfl, rfl⟩
  have hol : order.length = c.ops.length := by simp at hc2; omega
  obtain ⟨n, hn⟩ : ∃ n, n = c.ops.length := ⟨_, rfl⟩
  rw [← hn] at hbad hgood hlen hol hLc
  rw [hol] at hLo
  have hL0 : LenT (intRows order) n := ⟨hLo⟩
  rw [hol]
  repeat (first | refine StepC.go ?_ | (refine TS_makeSlice ?_ (fun _ => ?_); · omega))
  rename_i bs
  rw [hLo, replicate_bool]
  refine TV_loop (fun d σ B => ∃ (i : Nat) (seen : List Bool), d = n - i ∧ i ≤ n ∧ TGet σ 37 (intT i) ∧ TGet σ 36 (intT n) ∧ TGet σ 35 (.sl 1 (intRows order)) ∧ TGet σ 1 (.sl 1 (intRows order)) ∧ TGet σ 2 (.v (.pointer (some (ad p 0)))) ∧ TGet σ 4 (.v (.pointer (some (ad pr 0)))) ∧ TGet σ 5 (intT 0) ∧ TGet σ 8 (.v (.slice (some (ad bs 0)) n n)) ∧
      SubP B [(bs, .arr 1 (boolRows seen) 4 true), (p, .cells (circCs c) 24 true), (pr, .cells [intT 0, intT 0, .v (.slice none 0 0)] 24 true)] ∧ seen.length = n ∧ permK n order (List.replicate n false) = permK n (order.drop i) seen) n
    ⟨0, List.replicate n false, by omega, by omega, inferInstance, inferInstance, inferInstance, inferInstance, inferInstance, inferInstance, inferInstance, inferInstance, inferInstance, by simp, rfl⟩ ?_
  rintro d σ B ⟨i, seen, rfl, hi, g37, g36, g35, g1, g2, g4, g5, g8, hB, hsl, hpk⟩
  refine TV_keep _ (p := hB) ?_
  repeat (refine StepC.go ?_)
  refine TV_cond ?_ ?_ <;> intro hc3
  · have hil : i < n := by simp at hc3; omega
    obtain ⟨k, hk⟩ : ∃ k, order[i]? = some k := ⟨_, List.getElem?_eq_getElem (by omega)⟩
    have ngk : NthG (intRows order) i [intT k] := .map (fun x => [intT x]) hk
    rw [drop_cons hk] at hpk
    simp only [permK] at hpk
    by_cases hk0 : k < 0
    · have d0 : decide (k < 0) = true := by simpa using hk0
      have hb2 : permK n order (List.replicate n false) = false := by rw [hpk, d0]; simp
      repeat (first | refine StepC.go ?_ | (refine TS_off rfl ?_ ?_; · first | rfl | assumption) | (refine TS_puw (Pu.pick_t ?_) ?_; · first | rfl | assumption) | (refine TV_cond_t ?_ ?_; · first | rfl | assumption))
      refine retO_2 [] (.inr rfl) (by simp) ?_
      simp only [tret]
      rw [hbad fun h => by rw [hb2] at h; simp at h]; exact ⟨0, [], rfl, rfl, rfl⟩
    have d0 : decide (k < 0) = false := by simpa using hk0
    have hkn := asNat_of (z := k) (by omega)
    by_cases hk1 : (n : Int) ≤ k
    · have d1 : decide ((n : Int) ≤ k) = true := by simpa using hk1
      have hb2 : permK n order (List.replicate n false) = false := by rw [hpk, d1]; simp
      have e1 : (if decide (k < 0) = true then true else decide ((n : Int) ≤ k)) = true := by rw [d1]; simp
      have hLb : LenT (boolRows seen) n := ⟨by simp [boolRows, hsl]⟩
      repeat (first | refine StepC.go ?_ | (refine TS_on rfl ?_ ?_; · first | rfl | assumption) | (refine TS_off rfl ?_ ?_; · first | rfl | assumption) | (refine TS_puw (Pu.pick_t ?_) ?_; · first | rfl | assumption) | (refine TV_cond_t ?_ ?_; · first | rfl | assumption))
      refine retO_2 [] (.inr rfl) (by simp) ?_
      simp only [tret]
      rw [hbad fun h => by rw [hb2] at h; simp at h]; exact ⟨0, [], rfl, rfl, rfl⟩
    have d1 : decide ((n : Int) ≤ k) = false := by simpa using hk1
    have hLb : LenT (boolRows seen) n := ⟨by simp [boolRows, hsl]⟩
    have hk2 : k.toNat < n := by omega
    obtain ⟨sb, hsb⟩ : ∃ sb, seen[k.toNat]? = some sb := ⟨_, List.getElem?_eq_getElem (by omega)⟩
    have ngs : NthG (boolRows seen) k.toNat [boolT sb] := .map (fun x => [boolT x]) hsb
    have hgd : seen.getD k.toNat false = sb := by simp [List.getD, hsb]
    rw [d0, d1, hgd] at hpk
    have e1 : (if decide (k < 0) = true then true else decide ((n : Int) ≤ k)) = false := by rw [d0, d1]; simp
    have e2 : (if (if decide (k < 0) = true then true else decide ((n : Int) ≤ k)) = true then true else sb) = sb := by rw [e1]; simp
    cases sb with
    | true =>
      have hb2 : permK n order (List.replicate n false) = false := by rw [hpk]; simp
      repeat (first | refine StepC.go ?_ | (refine TS_on rfl ?_ ?_; · first | rfl | assumption) | (refine TV_cond_t ?_ ?_; · first | rfl | assumption))
      refine retO_2 [] (.inr rfl) (by simp) ?_
      simp only [tret]
      rw [hbad fun h => by rw [hb2] at h; simp at h]; exact ⟨0, [], rfl, rfl, rfl⟩
    | false =>
      repeat (first | refine StepC.go ?_ | (refine TS_on rfl ?_ ?_; · first | rfl | assumption) | (refine TS_puw (Pu.addi ?_) ?_; · omega) | (refine TV_cond_f ?_ ?_; · first | rfl | assumption))
      refine ⟨_, ?_, i + 1, seen.set k.toNat true, rfl, by omega, inferInstance, inferInstance, inferInstance, inferInstance, inferInstance, inferInstance, inferInstance, inferInstance, inferInstance, by simp [hsl], by rw [hpk]; simp⟩
      omega
  have hil : i = n := by simp at hc3; omega
  have hperm : permK n order (List.replicate n false) = true := by rw [hpk, hil, ← hol, List.drop_length]; rfl
  have hin := permK_in _ _ hperm
  clear hpk hsl g37 g36 g35 hc3 hil hi
  refine TV_ghost 7 29 ?_
  intro b0
  repeat (first | refine StepC.go ?_ | intro _)
  rename_i pd
  rw [hLo]
  refine TV_loop (fun d σ B => ∃ (i b : Nat) (dq : List (Nat × OpD)), d = n - i ∧ i ≤ n ∧ TGet σ 67 (intT i) ∧ TGet σ 66 (intT n) ∧ TGet σ 65 (.sl 1 (intRows order)) ∧ TGet σ 1 (.sl 1 (intRows order)) ∧ TGet σ 2 (.v (.pointer (some (ad p 0)))) ∧ TGet σ 4 (.v (.pointer (some (ad pr 0)))) ∧ TGet σ 5 (intT 0) ∧ TGet σ 11 (.v (.pointer (some (ad pd 0)))) ∧
      SubP B ((p, .cells (circCs c) 24 true) :: (pr, .cells [intT 0, intT 0, .v (.slice none 0 0)] 24 true) :: (pd, .cells [intT c.qubits, intT c.bits, .v (gsv b i)] 24 true) :: (b, .arr 7 (ocRows dq) 29 false) :: ocB dq) ∧ clashS c.ops order i = false ∧ dq.map Prod.snd = (order.take i).map (opAt c.ops)) n
    ⟨0, b0, [], by omega, by omega, inferInstance, inferInstance, inferInstance, inferInstance, inferInstance, inferInstance, inferInstance, inferInstance, inferInstanceAs (SubP _ [(p, .cells (circCs c) 24 true), (pr, .cells [intT 0, intT 0, .v (.slice none 0 0)] 24 true), (pd, .cells [intT c.qubits, intT c.bits, .v (.slice none 0 0)] 24 true), (b0, .arr 7 [] 29 false)]), rfl, rfl⟩ ?_
  clear hB g1 g2 g4 g5 g8
  rintro d σ B ⟨i, b, dq, rfl, hi, g67, g66, g65, g1, g2, g4, g5, g11, hB, hcl, hdq⟩
  refine TV_keep _ (p := hB) ?_
  have hdl : dq.length = i := by have := congrArg List.length hdq; simp at this; omega
  have hLn : LenT (ocRows dq) i := ⟨by simp [ocRows, hdl]⟩
  have : Sm63 i := ⟨by omega⟩
  repeat (refine StepC.go ?_)
  refine TV_cond ?_ ?_ <;> intro hc3
  · have hil : i < n := by simp at hc3; omega
    obtain ⟨x, hx⟩ : ∃ x, order[i]? = some x := ⟨_, List.getElem?_eq_getElem (by omega)⟩
    have ngx : NthG (intRows order) i [intT x] := .map (fun x => [intT x]) hx
    have hxb := hin x (List.mem_of_getElem? hx)
    have hxn := asNat_of hxb.1
    have hox := opAt_get (ops := c.ops) (k := x) (by omega)
    have ngo : NthG (opRows c.ops) x.toNat (opCs (opAt c.ops x)) := .map opCs hox
    have hgo := hg _ (List.mem_of_getElem? hox)
    have hne : intRows order ≠ [] := by intro h0; rw [h0] at hLo; simp at hLo; omega
    have hile : i ≤ (intRows order).length := by omega
    have htk : (intRows order).take i = intRows (order.take i) := by simp [intRows, List.map_take]
    have hLt : (intRows (order.take i)).length = i := by simp [intRows]; omega
    repeat (refine StepC.go ?_)
    refine TS_puw (Pu.slice_hi hne hile) ?_
    rw [htk]
    repeat (refine StepC.go ?_)
    rw [hLt]
    refine TV_loop (fun d σ B => ∃ (j : Nat), d = i - j ∧ j ≤ i ∧ TGet σ 76 (intT j) ∧ TGet σ 75 (intT i) ∧ TGet σ 74 (.sl 1 (intRows (order.take i))) ∧ TGet σ 13 (intT x) ∧ TGet σ 67 (intT i) ∧ TGet σ 66 (intT n) ∧ TGet σ 65 (.sl 1 (intRows order)) ∧ TGet σ 1 (.sl 1 (intRows order)) ∧ TGet σ 2 (.v (.pointer (some (ad p 0)))) ∧ TGet σ 4 (.v (.pointer (some (ad pr 0)))) ∧ TGet σ 5 (intT 0) ∧ TGet σ 11 (.v (.pointer (some (ad pd 0)))) ∧
      SubP B ((p, .cells (circCs c) 24 true) :: (pr, .cells [intT 0, intT 0, .v (.slice none 0 0)] 24 true) :: (pd, .cells [intT c.qubits, intT c.bits, .v (gsv b i)] 24 true) :: (b, .arr 7 (ocRows dq) 29 false) :: ocB dq) ∧ clashK c.ops x ((order.take i).take j) = false) i
      ⟨0, by omega, by omega, inferInstance, inferInstance, inferInstance, inferInstance, inferInstance, inferInstance, inferInstance, inferInstance, inferInstance, inferInstance, inferInstance, inferInstance, inferInstance, by simp [clashK]⟩ ?_
    clear hB g1 g2 g4 g5 g11 g65 g66 g67
    rintro d σ B ⟨j, rfl, hj, g76, g75, g74, g13, g67, g66, g65, g1, g2, g4, g5, g11, hB, hck2⟩
    refine TV_keep _ (p := hB) ?_
    repeat (refine StepC.go ?_)
    refine TV_cond ?_ ?_ <;> intro hc4
    · have hji : j < i := by simp at hc4; omega
      obtain ⟨y, hy⟩ : ∃ y, (order.take i)[j]? = some y := ⟨_, List.getElem?_eq_getElem (by simp; omega)⟩
      have ngy : NthG (intRows (order.take i)) j [intT y] := .map (fun x => [intT x]) hy
      have hyb := hin y (List.mem_of_mem_take (List.mem_of_getElem? hy))
      have hyn := asNat_of hyb.1
      have hoy := opAt_get (ops := c.ops) (k := y) (by omega)
      have ngo2 : NthG (opRows c.ops) y.toNat (opCs (opAt c.ops y)) := .map opCs hoy
      have hgy := hg _ (List.mem_of_getElem? hoy)
      have hstep : clashK c.ops x ((order.take i).take (j + 1)) = (decide (y > x) && boundS (opAt c.ops x) (opAt c.ops y)) := by
        rw [take_succ hy, clashK_app, hck2, Bool.false_or, bound_symm]
      have hgt : (decide (y > x)) = decide (x < y) := rfl
      rw [hgt] at hstep
      have hcb : clashK c.ops x ((order.take i).take (j + 1)) = true → orderC c order = (⟨0, 0, []⟩, 2) := fun hcx => hbad fun h => by
        have h1 : clashS c.ops order (i + 1) = true := by
          simp only [clashS]
          have h2 : order.getD i 0 = x := by simp [List.getD, hx]
          rw [h2]
          simp only [Bool.or_eq_true]
          right
          simp only [clashK, List.any_eq_true] at hcx ⊢
          obtain ⟨z, hz, hz2⟩ := hcx
          exact ⟨z, List.mem_of_mem_take hz, hz2⟩
        rw [clash_more h1 order.length (by omega)] at h
        simp at h
      by_cases hxy : x < y
      · have d1 : decide (x < y) = true := by simpa using hxy
        rw [d1, Bool.true_and] at hstep
        repeat (first | refine StepC.go ?_ | (refine TS_on rfl ?_ ?_; · first | rfl | assumption) | refine TD_take rfl rfl ?_ | refine TD_one rfl ?_ | refine FiltT_nil ?_ | refine FiltT_keep rfl ?_ | refine TD_take_on rfl rfl (by first | rfl | assumption) rfl ?_ | refine TD_load_on rfl rfl (by first | rfl | assumption) rfl ?_ | refine TV_draw (id := 21) (plan := [.take 0, .take 1, .take 2, .take 3, .take 4, .take 5, .take 6, .take 7, .take 8, .take 9, .take 10, .take 11, .take 12, .take 13, .one 14, .take 15]) (by kernel_rfl) ?_)
        refine TS_callE (boundT hgo.p hgy.p) ?_
        repeat (first | refine StepC.go ?_ | refine TD_take rfl rfl ?_)
        refine TV_cond ?_ ?_ <;> intro hb
        · repeat (refine StepC.go ?_)
          refine retO_2 [] (.inr rfl) (by simp) ?_
          simp only [tret]
          rw [hcb (by rw [hstep]; simpa [d1] using hb)]; exact ⟨0, [], rfl, rfl, rfl⟩
        · repeat (first | refine StepC.go ?_ | (refine TS_puw (Pu.addi ?_) ?_; · omega))
          refine ⟨_, ?_, j + 1, rfl, by omega, inferInstance, inferInstance, inferInstance, inferInstance, inferInstance, inferInstance, inferInstance, inferInstance, inferInstance, inferInstance, inferInstance, inferInstance, inferInstance, by rw [hstep]; simpa [d1] using hb⟩
          omega
      · have d1 : decide (x < y) = false := by simpa using hxy
        rw [d1, Bool.false_and] at hstep
        repeat (first | refine StepC.go ?_ | (refine TS_off rfl ?_ ?_; · first | rfl | assumption) | (refine TS_puw (Pu.addi ?_) ?_; · omega) | refine TD_take rfl rfl ?_ | refine TD_one rfl ?_ | refine FiltT_nil ?_ | (refine TD_off rfl rfl ?_ ?_; · first | rfl | assumption) | (refine TD_takew rfl rfl (Pu.pick_f ?_) ?_; · first | rfl | assumption) | refine TV_draw (id := 21) (plan := [.take 0, .take 1, .take 2, .take 3, .take 4, .take 5, .take 6, .take 7, .take 8, .take 9, .take 10, .take 11, .take 12, .take 13, .one 14, .take 15]) (by kernel_rfl) ?_ | (refine TV_cond_f ?_ ?_; · first | rfl | assumption))
        refine ⟨_, ?_, j + 1, rfl, by omega, inferInstance, inferInstance, inferInstance, inferInstance, inferInstance, inferInstance, inferInstance, inferInstance, inferInstance, inferInstance, inferInstance, inferInstance, inferInstance, hstep⟩
        omega
    · have hji : j = i := by simp at hc4; omega
      subst hji
      have hcl2 : clashS c.ops order (j + 1) = false := by
        simp only [clashS, hcl, Bool.false_or]
        rw [show order.getD j 0 = x by simp [List.getD, hx]]
        rw [List.take_take, Nat.min_self] at hck2
        exact hck2
      repeat (first | refine StepC.go ?_ | refine TD_take rfl rfl ?_ | refine TD_load rfl rfl ?_ | refine TD_one rfl ?_ | refine FiltT_nil ?_ | refine FiltT_keep rfl ?_ | refine TV_draw (id := 24) (plan := [.take 0, .take 1, .take 2, .take 3, .take 4, .take 5, .take 6, .one 7, .one 8, .one 9, .take 10, .one 11]) (by kernel_rfl) ?_)
      refine TS_callO (copiedO _ (by have := hgo.len; omega) (qs_ne (hfl _ (List.mem_of_getElem? hox)))) ?_
      rintro _ B1 ⟨bq, rfl, rfl⟩
      simp only [iB, List.map_cons, List.map_nil, List.singleton_append, List.nil_append, List.cons_append]
      repeat (first | refine StepC.go ?_ | intro _ | (refine TS_puw (Pu.addi ?_) ?_; · omega) | (refine TS_append ?_ (fun _ => ?_); · omega) | refine TD_take rfl rfl ?_ | refine TD_one rfl ?_ | refine FiltT_nil ?_ | refine FiltT_drop rfl ?_ | refine FiltT_keep rfl ?_)
      rename_i b2
      refine ⟨_, ?_, j + 1, b2, dq ++ [(bq, opAt c.ops x)], rfl, by omega, inferInstance, inferInstance, inferInstance, inferInstance, inferInstance, inferInstance, inferInstance, inferInstance, ?_, hcl2, ?_⟩
      · omega
      · rw [ocRows_app]
        refine SubP.oc3 ?_
        exact inferInstanceAs (SubP _ ((bq, .arr 1 (intRows (opAt c.ops x).qs) 3 false) :: _ :: _ :: _ :: (b2, .arr 7 (ocRows dq ++ [opCsV (opAt c.ops x) bq]) 29 false) :: ocB dq))
      · rw [List.map_append, hdq, take_succ hx, List.map_append]; rfl
  · have hil : i = n := by simp at hc3; omega
    have htl : order.take i = order := List.take_of_length_le (by omega)
    rw [htl] at hdq
    have hR : orderC c order = (⟨c.qubits, c.bits, order.map (opAt c.ops)⟩, 0) := hgood ⟨hol, hperm, by rw [hol, ← hil]; exact hcl⟩
    have hne2 : ∀ d ∈ dq, d.2.qs ≠ [] := fun d hd => by
      have h1 : d.2 ∈ order.map (opAt c.ops) := by rw [← hdq]; exact List.mem_map.2 ⟨d, hd, rfl⟩
      obtain ⟨z, hz, h2⟩ := List.mem_map.1 h1
      have hzb := hin z hz
      rw [← h2]
      exact qs_ne (hfl _ (List.mem_of_getElem? (opAt_get (ops := c.ops) (k := z) (by omega))))
    subst hdl
    repeat (refine StepC.go ?_)
    rw [hR]
    by_cases h0 : dq.length = 0
    · have : dq = [] := List.eq_nil_of_length_eq_zero h0
      subst this
      exact retO_2 [] (.inr rfl) (by simp) ⟨b, [], hdq, rfl, rfl⟩
    · refine retO_2 ((b, .arr 7 (ocRows dq) 29 false) :: ocB dq) (.inr rfl) (fun p hp => ocA_real (b := b) hne2 p (by unfold ocA; rw [if_neg h0]; exact hp)) ⟨b, dq, hdq, rfl, by unfold ocA; rw [if_neg h0]; rfl⟩
end Go.Ideal

-- Gn
set_option linter.unusedSimpArgs false
set_option linter.unusedVariables false
namespace Go.Ideal
open Go Go.Proofs Go.RowKit
/-! ### circuit.Then as own memory -/
set_option synthInstance.maxSize 4000 in
set_option synthInstance.maxHeartbeats 400000 in
set_option maxHeartbeats 4000000 in
theorem circThenO {a b : CircD} (ha : CircW a) (hb : CircW b) : FnO Try.prog 8 [circT a, circT b] (OcO (thenC a b).1 (thenC a b).2) := by
  refine FnO_of Try.func8 rfl (Nat.le_of_ble_eq_true rfl) (fun X => ?_)
  repeat (first | refine StepC.go ?_ | intro _)
  rename_i pa pb pr bs
  refine TV_loop (fun d σ B => ∃ (i : Nat), d = 2 - i ∧ i ≤ 2 ∧ TGet σ 19 (intT i) ∧ TGet σ 18 (intT 2) ∧ TGet σ 17 (.v (.slice (some (ad bs 0)) 2 2)) ∧ TGet σ 2 (.v (.pointer (some (ad pa 0)))) ∧ TGet σ 3 (.v (.pointer (some (ad pb 0)))) ∧ TGet σ 4 (.v (.pointer (some (ad pr 0)))) ∧ TGet σ 5 (intT 0) ∧
      SubP B [(bs, .arr 3 [circCs a, circCs b] 24 true), (pa, .cells (circCs a) 24 true), (pb, .cells (circCs b) 24 true), (pr, .cells [intT 0, intT 0, .v (.slice none 0 0)] 24 true)] ∧ (1 ≤ i → (checkC a).2 = 0) ∧ (2 ≤ i → (checkC b).2 = 0)) 2
    ⟨0, by omega, by omega, inferInstance, inferInstance, inferInstance, inferInstance, inferInstance, inferInstance, inferInstance, inferInstance, by omega, by omega⟩ ?_
  rintro d σ B ⟨i, rfl, hi, g19, g18, g17, g2, g3, g4, g5, hB, hi1, hi2⟩
  refine TV_keep _ (p := hB) ?_
  repeat (refine StepC.go ?_)
  refine TV_cond ?_ ?_ <;> intro hc
  · have hil : i = 0 ∨ i = 1 := by simp at hc; omega
    rcases hil with rfl | rfl
    · repeat (first | refine StepC.go ?_ | intro _)
      refine TS_callE (checkT ha) ?_
      repeat (refine StepC.go ?_)
      refine TV_cond ?_ ?_ <;> intro hc2
      · repeat (refine StepC.go ?_)
        refine retO_2 [] (.inr rfl) (by simp) ?_
        simp only [tret, thenC]
        rw [if_neg (by simpa using hc2)]; exact ⟨0, [], rfl, rfl, rfl⟩
      · have hca : (checkC a).2 = 0 := by simpa using hc2
        repeat (first | refine StepC.go ?_ | (refine TS_puw (Pu.addi ?_) ?_; · omega))
        refine ⟨_, ?_, 1, rfl, by omega, inferInstance, inferInstance, inferInstance, inferInstance, inferInstance, inferInstance, inferInstance, inferInstance, fun _ => hca, by omega⟩
        omega
    · have hca := hi1 (by omega)
      repeat (first | refine StepC.go ?_ | intro _)
      refine TS_callE (checkT hb) ?_
      repeat (refine StepC.go ?_)
      refine TV_cond ?_ ?_ <;> intro hc2
      · repeat (refine StepC.go ?_)
        refine retO_2 [] (.inr rfl) (by simp) ?_
        simp only [tret, thenC]
        rw [if_pos hca, if_neg (by simpa using hc2)]; exact ⟨0, [], rfl, rfl, rfl⟩
      · have hcb : (checkC b).2 = 0 := by simpa using hc2
        repeat (first | refine StepC.go ?_ | (refine TS_puw (Pu.addi ?_) ?_; · omega))
        refine ⟨_, ?_, 2, rfl, by omega, inferInstance, inferInstance, inferInstance, inferInstance, inferInstance, inferInstance, inferInstance, inferInstance, fun _ => hca, fun _ => hcb⟩
        omega
  have hil : i = 2 := by simp at hc; omega
  have hca := hi1 (by omega)
  have hcb := hi2 (by omega)
  clear hil hi hc hi1 hi2
  obtain ⟨hla, hga⟩ := circ_good ha hca
  obtain ⟨hlb, hgb⟩ := circ_good hb hcb
  by_cases hq : a.qubits = b.qubits ∧ a.bits = b.bits
  case neg =>
    have d1 : (if (!decide (a.qubits = b.qubits)) = true then true else !decide (a.bits = b.bits)) = true := by
      by_cases h1 : a.qubits = b.qubits
      · have : a.bits ≠ b.bits := fun h => hq ⟨h1, h⟩
        simp [h1, this]
      · simp [h1]
    by_cases h1 : a.qubits = b.qubits
    · have d2 : (!decide (a.qubits = b.qubits)) = false := by simp [h1]
      repeat (first | refine StepC.go ?_ | (refine TS_on rfl ?_ ?_; · first | rfl | assumption) | (refine TV_cond_t ?_ ?_; · first | rfl | assumption))
      refine retO_2 [] (.inr rfl) (by simp) ?_
      simp only [tret, thenC]
      rw [if_pos hca, if_pos hcb, if_neg hq]; exact ⟨0, [], rfl, rfl, rfl⟩
    · have d2 : (!decide (a.qubits = b.qubits)) = true := by simp [h1]
      repeat (first | refine StepC.go ?_ | (refine TS_off rfl ?_ ?_; · first | rfl | assumption) | (refine TS_puw (Pu.pick_t ?_) ?_; · first | rfl | assumption) | (refine TV_cond_t ?_ ?_; · first | rfl | assumption))
      refine retO_2 [] (.inr rfl) (by simp) ?_
      simp only [tret, thenC]
      rw [if_pos hca, if_pos hcb, if_neg hq]; exact ⟨0, [], rfl, rfl, rfl⟩
  have d1 : (if (!decide (a.qubits = b.qubits)) = true then true else !decide (a.bits = b.bits)) = false := by simp [hq.1, hq.2]
  have d2 : (!decide (a.qubits = b.qubits)) = false := by simp [hq.1]
  obtain ⟨ab, hab⟩ : ∃ ab, ab = a.ops ++ b.ops := ⟨_, rfl⟩
  have hcat : Fn Try.prog 36 [.sl 1 [[.sl 7 (opRows a.ops)], [.sl 7 (opRows b.ops)]]] (fun r => r = .sl 7 (opRows ab)) := by
    have h1 := concatT (ls := [a.ops, b.ops]) (by simp; omega) (by simp)
    simp only [opsLs, List.map_cons, List.map_nil, List.flatten_cons, List.flatten_nil, List.append_nil, ← hab] at h1
    exact h1
  have hnab : ab.length ≤ 8192 := by rw [hab, List.length_append]; omega
  obtain ⟨_, _, hfla⟩ := checkC_ok hca
  obtain ⟨_, _, hflb⟩ := checkC_ok hcb
  have hnab2 : ∀ o ∈ ab, o.qs ≠ [] := fun o ho => by
    rw [hab] at ho
    rcases List.mem_append.1 ho with h | h
    · exact qs_ne (hfla o h)
    · exact qs_ne (hflb o h)
  have hgab : ∀ o ∈ ab, OpG o := fun o ho => by
    rw [hab] at ho
    rcases List.mem_append.1 ho with h | h
    · exact hga o h
    · exact hgb o h
  have hLab : (opRows ab).length = ab.length := by simp [opRows]
  refine TV_ghost 7 29 ?_
  intro b0
  repeat (first | refine StepC.go ?_ | intro _ | (refine TS_on rfl ?_ ?_; · first | rfl | assumption) | (refine TV_cond_f ?_ ?_; · first | rfl | assumption))
  rename_i pd bl
  refine TS_freeze 55 bl ?_
  refine TS_call hcat ?_
  rintro _ rfl
  repeat (refine StepC.go ?_)
  rw [hLab]
  refine TV_loop (fun d σ B => ∃ (i bk : Nat) (dq : List (Nat × OpD)), d = ab.length - i ∧ i ≤ ab.length ∧ TGet σ 58 (intT i) ∧ TGet σ 57 (intT ab.length) ∧ TGet σ 56 (.sl 7 (opRows ab)) ∧ TGet σ 10 (.v (.pointer (some (ad pd 0)))) ∧ TGet σ 4 (.v (.pointer (some (ad pr 0)))) ∧ TGet σ 5 (intT 0) ∧
      SubP B ((pr, .cells [intT 0, intT 0, .v (.slice none 0 0)] 24 true) :: (pd, .cells [intT a.qubits, intT a.bits, .v (gsv bk i)] 24 true) :: (bk, .arr 7 (ocRows dq) 29 false) :: ocB dq) ∧ dq.map Prod.snd = ab.take i) ab.length
    ⟨0, b0, [], by omega, by omega, inferInstance, inferInstance, inferInstance, inferInstance, inferInstance, inferInstance, inferInstanceAs (SubP _ [(pr, .cells [intT 0, intT 0, .v (.slice none 0 0)] 24 true), (pd, .cells [intT a.qubits, intT a.bits, .v (.slice none 0 0)] 24 true), (b0, .arr 7 [] 29 false)]), rfl⟩ ?_
  clear hB g2 g3 g4 g5 g17 g18 g19
  rintro d σ B ⟨i, bk, dq, rfl, hi, g58, g57, g56, g10, g4, g5, hB, hdq⟩
  refine TV_keep _ (p := hB) ?_
  have hdl : dq.length = i := by have := congrArg List.length hdq; simp at this; omega
  have hLn : LenT (ocRows dq) i := ⟨by simp [ocRows, hdl]⟩
  have hSm : Sm63 i := ⟨by omega⟩
  repeat (refine StepC.go ?_)
  refine TV_cond ?_ ?_ <;> intro hc3
  · have hil : i < ab.length := by simp at hc3; omega
    obtain ⟨o, ho⟩ : ∃ o, ab[i]? = some o := ⟨_, List.getElem?_eq_getElem hil⟩
    have ng : NthG (opRows ab) i (opCs o) := .map opCs ho
    have hgo := (hgab o (List.mem_of_getElem? ho)).len
    repeat (first | refine StepC.go ?_ | intro _ | refine TD_take rfl rfl ?_ | refine TD_load rfl rfl ?_ | refine TD_one rfl ?_ | refine FiltT_nil ?_ | refine FiltT_drop rfl ?_ | refine FiltT_keep rfl ?_ | refine TV_draw (id := 14) (plan := [.take 0, .take 1, .take 2, .one 3, .one 4, .one 5, .take 6, .one 7]) (by kernel_rfl) ?_)
    refine TS_callO (copiedO o (by omega) (hnab2 o (List.mem_of_getElem? ho))) ?_
    rintro _ B1 ⟨bq, rfl, rfl⟩
    simp only [iB, List.map_cons, List.map_nil, List.singleton_append, List.nil_append, List.cons_append]
    repeat (first | refine StepC.go ?_ | intro _ | (refine TS_puw (Pu.addi ?_) ?_; · omega) | (refine TS_append ?_ (fun _ => ?_); · omega) | refine TD_take rfl rfl ?_ | refine TD_one rfl ?_ | refine FiltT_nil ?_ | refine FiltT_drop rfl ?_ | refine FiltT_keep rfl ?_)
    rename_i b2
    refine ⟨_, ?_, i + 1, b2, dq ++ [(bq, o)], rfl, by omega, inferInstance, inferInstance, inferInstance, inferInstance, inferInstance, inferInstance, ?_, ?_⟩
    · omega
    · rw [ocRows_app]
      refine SubP.oc ?_
      exact inferInstanceAs (SubP _ ((bq, .arr 1 (intRows o.qs) 3 false) :: _ :: _ :: (b2, .arr 7 (ocRows dq ++ [opCsV o bq]) 29 false) :: ocB dq))
    · rw [List.map_append, hdq, take_succ ho]; rfl
  have hil : i = ab.length := by simp at hc3; omega
  rw [hil, List.take_length] at hdq
  clear hgab hcat
  have hne2 : ∀ d ∈ dq, d.2.qs ≠ [] := fun d hd => hnab2 _ (by rw [← hdq]; exact List.mem_map.2 ⟨d, hd, rfl⟩)
  have hql2 : ∀ d ∈ dq, d.2.qs.length < 2 ^ 62 ∧ d.2.qs ≠ [] := fun d hd => ⟨by
    have h1 : d.2 ∈ ab := by rw [← hdq]; exact List.mem_map.2 ⟨d, hd, rfl⟩
    rw [hab] at h1
    rcases List.mem_append.1 h1 with h | h
    · have := qs_len (hfla _ h); omega
    · have := qs_len (hflb _ h); omega, hne2 d hd⟩
  have hfz : FrzR ((pr, .cells [intT 0, intT 0, .v (.slice none 0 0)] 24 true) :: (pd, .cells [intT a.qubits, intT a.bits, .v (gsv bk i)] 24 true) :: (bk, .arr 7 (ocRows dq) 29 false) :: ocB dq) (ocRows dq) (opRows ab) := by
    have := ocRows_frz (B := (pr, .cells [intT 0, intT 0, .v (.slice none 0 0)] 24 true) :: (pd, .cells [intT a.qubits, intT a.bits, .v (gsv bk i)] 24 true) :: (bk, .arr 7 (ocRows dq) 29 false) :: ocB dq) (dq := dq) (fun d hd => ⟨by
      refine List.mem_cons_of_mem _ (List.mem_cons_of_mem _ (List.mem_cons_of_mem _ ?_))
      exact List.mem_map.2 ⟨(d.1, d.2.qs, false), List.mem_map.2 ⟨d, hd, rfl⟩, rfl⟩⟩) hql2
    rw [hdq] at this
    exact this
  have hck := checkT (catW ha hb)
  rw [← hab] at hck
  repeat (refine StepC.go ?_)
  refine TS_callE hck ?_
  repeat (refine StepC.go ?_)
  refine TV_cond ?_ ?_ <;> intro hc4
  · repeat (refine StepC.go ?_)
    refine retO_2 [] (.inr rfl) (by simp) ?_
    simp only [tret, thenC]
    rw [if_pos hca, if_pos hcb, if_pos hq, ← hab, if_neg (by simpa using hc4)]; exact ⟨0, [], rfl, rfl, rfl⟩
  · have hcd : (checkC ⟨a.qubits, a.bits, ab⟩).2 = 0 := by simpa using hc4
    have hR : thenC a b = (⟨a.qubits, a.bits, ab⟩, 0) := by simp only [thenC]; rw [if_pos hca, if_pos hcb, if_pos hq, ← hab, if_pos hcd]
    clear hfz
    subst hdl
    repeat (refine StepC.go ?_)
    rw [hR]
    by_cases h0 : dq.length = 0
    · have : dq = [] := List.eq_nil_of_length_eq_zero h0
      subst this
      exact retO_2 [] (.inr rfl) (by simp) ⟨bk, [], hdq, rfl, rfl⟩
    · refine retO_2 ((bk, .arr 7 (ocRows dq) 29 false) :: ocB dq) (.inr rfl) (fun p hp => ocA_real (b := bk) hne2 p (by unfold ocA; rw [if_neg h0]; exact hp)) ⟨bk, dq, hdq, rfl, by unfold ocA; rw [if_neg h0]; rfl⟩
end Go.Ideal

-- Go
set_option linter.unusedSimpArgs false
set_option linter.unusedVariables false
namespace Go.Ideal
open Go Go.Proofs Go.RowKit
/-! ### The reference's Copy as own memory -/
def oxB (dq : List (Nat × OpD)) : Boxes := iB (dq.map fun d => (d.1, d.2.qs, (intRows d.2.qs).isEmpty))
theorem SubP.ox {B : Boxes} {x y z : Nat × Box} {bl : Nat} {e : Box} {dq : List (Nat × OpD)} {b : Nat} {o : OpD} (h : SubP B ((b, .arr 1 (intRows o.qs) 3 (intRows o.qs).isEmpty) :: x :: y :: z :: (bl, e) :: oxB dq)) : SubP B (x :: y :: z :: (bl, e) :: oxB (dq ++ [(b, o)])) := by
  have : oxB (dq ++ [(b, o)]) = oxB dq ++ [(b, .arr 1 (intRows o.qs) 3 (intRows o.qs).isEmpty)] := by simp [oxB, iB]
  rw [this]
  exact SubP.last h
set_option maxHeartbeats 2000000 in
theorem copyOO {c : CircD} (hs : ∀ o ∈ c.ops, o.qs.length < 2 ^ 36) (hl : c.ops.length ≤ 2 ^ 20) : FnO Try.prog 6 [circT c] (fun r B => ∃ b dq, dq.map Prod.snd = c.ops ∧ r = .agg [intT c.qubits, intT c.bits, .v (gsv b dq.length)] ∧ B = (if dq.length = 0 then [] else [(b, .arr 7 (ocRows dq) 29 false)]) ++ oxB dq) := by
  refine FnO_of Try.func6 rfl (Nat.le_of_ble_eq_true rfl) (fun X => ?_)
  have hL : (opRows c.ops).length = c.ops.length := by simp [opRows]
  repeat (first | refine StepC.go ?_ | intro _)
  rename_i p pr pd
  refine TV_ghost 7 29 ?_
  intro b0
  refine TV_loop (fun d σ B => ∃ (i b : Nat) (dq : List (Nat × OpD)), d = c.ops.length - i ∧ i ≤ c.ops.length ∧ TGet σ 4 (intT i) ∧ TGet σ 1 (.v (.pointer (some (ad p 0)))) ∧ TGet σ 2 (.v (.pointer (some (ad pr 0)))) ∧ TGet σ 3 (.v (.pointer (some (ad pd 0)))) ∧ SubP B ((p, .cells (circCs c) 24 true) :: (pr, .cells [intT 0, intT 0, .v (.slice none 0 0)] 24 true) :: (pd, .cells [intT c.qubits, intT c.bits, .v (gsv b i)] 24 true) :: (b, .arr 7 (ocRows dq) 29 false) :: oxB dq) ∧ dq.map Prod.snd = c.ops.take i) c.ops.length
    ⟨0, b0, [], by omega, by omega, inferInstance, inferInstance, inferInstance, inferInstance, inferInstanceAs (SubP _ [(p, .cells (circCs c) 24 true), (pr, .cells [intT 0, intT 0, .v (.slice none 0 0)] 24 true), (pd, .cells [intT c.qubits, intT c.bits, .v (.slice none 0 0)] 24 true), (b0, .arr 7 [] 29 false)]), rfl⟩ ?_
  rintro d σ B ⟨i, b, dq, rfl, hi, g4, g1, g2, g3, hB, hdq⟩
  refine TV_keep _ (p := hB) ?_
  have hdl : dq.length = i := by have := congrArg List.length hdq; simp at this; omega
  have hLn : LenT (ocRows dq) i := ⟨by simp [ocRows, hdl]⟩
  have : Sm63 i := ⟨by omega⟩
  repeat (refine StepC.go ?_)
  rw [hL]
  refine TV_cond ?_ ?_ <;> intro hc
  · have hil : i < c.ops.length := by simp at hc; omega
    obtain ⟨o, ho⟩ : ∃ o, c.ops[i]? = some o := ⟨_, List.getElem?_eq_getElem (by omega)⟩
    have ng : NthG (opRows c.ops) i (opCs o) := .map opCs ho
    have hso := hs o (List.mem_of_getElem? ho)
    have : Sm63 (0 + o.qs.length) := ⟨by omega⟩
    iterate 5 refine StepC.go ?_
    refine TV_cut (fun σ B => ∃ (po : Nat), TGet σ 4 (intT i) ∧ TGet σ 1 (.v (.pointer (some (ad p 0)))) ∧ TGet σ 2 (.v (.pointer (some (ad pr 0)))) ∧ TGet σ 3 (.v (.pointer (some (ad pd 0)))) ∧ TGet σ 5 (.v (.pointer (some (ad po 0)))) ∧ SubP B ((po, .cells (opCs o) 29 true) :: (p, .cells (circCs c) 24 true) :: (pr, .cells [intT 0, intT 0, .v (.slice none 0 0)] 24 true) :: (pd, .cells [intT c.qubits, intT c.bits, .v (gsv b i)] 24 true) :: (b, .arr 7 (ocRows dq) 29 false) :: oxB dq)) ?_ ?_
    · repeat (first | refine StepC.go ?_ | intro _)
      rename_i po
      exact ⟨po, inferInstance, inferInstance, inferInstance, inferInstance, inferInstance, inferInstance⟩
    rintro σ B ⟨po, g4, g1, g2, g3, g5, hB⟩
    refine TV_keep _ (p := hB) ?_
    refine StepC.go ?_
    refine TV_cut (fun σ B => ∃ (po bo : Nat), TGet σ 4 (intT i) ∧ TGet σ 1 (.v (.pointer (some (ad p 0)))) ∧ TGet σ 2 (.v (.pointer (some (ad pr 0)))) ∧ TGet σ 3 (.v (.pointer (some (ad pd 0)))) ∧ TGet σ 5 (.v (.pointer (some (ad po 0)))) ∧ SubP B ((bo, .arr 1 ([] ++ intRows o.qs) 3 ((intRows o.qs).isEmpty && true)) :: (po, .cells [intT o.kind, strT o.name, .v (.slice (some (ad bo 0)) (0 + o.qs.length) (0 + o.qs.length)), intT o.bit, boolT o.iff, u64T o.mask, u64T o.value] 29 true) :: (p, .cells (circCs c) 24 true) :: (pr, .cells [intT 0, intT 0, .v (.slice none 0 0)] 24 true) :: (pd, .cells [intT c.qubits, intT c.bits, .v (gsv b i)] 24 true) :: (b, .arr 7 (ocRows dq) 29 false) :: oxB dq)) ?_ ?_
    · repeat (first | refine StepC.go ?_ | intro _ | (refine TS_append_own ?_ (fun _ => ?_); · omega))
      rename_i be bo
      exact ⟨po, bo, inferInstance, inferInstance, inferInstance, inferInstance, inferInstance, inferInstance⟩
    rintro σ B ⟨po, bo, g4, g1, g2, g3, g5, hB⟩
    refine TV_keep _ (p := hB) ?_
    have hLq : LenT ([] ++ intRows o.qs) (0 + o.qs.length) := ⟨by simp [intRows]⟩
    simp only [List.nil_append, Nat.zero_add, Bool.and_true] at g5 ⊢
    have hLq2 : LenT (intRows o.qs) o.qs.length := ⟨by simp [intRows]⟩
    repeat (first | refine StepC.go ?_ | intro _ | (refine TS_puw (Pu.addi ?_) ?_; · omega) | (refine TS_append ?_ (fun _ => ?_); · omega))
    rename_i b2
    refine ⟨_, ?_, i + 1, b2, dq ++ [(bo, o)], rfl, by omega, inferInstance, inferInstance, inferInstance, inferInstance, ?_, ?_⟩
    · omega
    · rw [ocRows_app]
      refine SubP.ox ?_
      exact inferInstanceAs (SubP _ ((bo, .arr 1 (intRows o.qs) 3 (intRows o.qs).isEmpty) :: _ :: _ :: _ :: (b2, .arr 7 (ocRows dq ++ [opCsV o bo]) 29 false) :: oxB dq))
    · rw [List.map_append, hdq, List.take_add_one, ho]; rfl
  · have hil : i = c.ops.length := by simp at hc; omega
    rw [hil, List.take_length] at hdq
    subst hdl
    repeat (refine StepC.go ?_)
    by_cases h0 : dq.length = 0
    · have : dq = [] := List.eq_nil_of_length_eq_zero h0
      subst this
      exact retO_1 [] (.inr rfl) (by simp) ⟨b, [], hdq, rfl, rfl⟩
    · refine retO_1 ((b, .arr 7 (ocRows dq) 29 false) :: oxB dq) (.inr rfl) (fun p hp => ?_) ⟨b, dq, hdq, rfl, by rw [if_neg h0]; rfl⟩
      rcases List.mem_cons.1 hp with rfl | hp
      · intro h1
        exact absurd (by have := congrArg List.length h1; simpa [ocRows] using this) h0
      · obtain ⟨x, hx, rfl⟩ := List.mem_map.1 hp
        obtain ⟨d, hd, rfl⟩ := List.mem_map.1 hx
        intro h1
        show (intRows d.2.qs).isEmpty = true
        rw [h1]; rfl
end Go.Ideal

-- Gp
set_option linter.unusedSimpArgs false
set_option linter.unusedVariables false
namespace Go.Ideal
open Go Go.Proofs Go.RowKit
/-! ### circuit.Layers as own memory -/
def laB (b : Nat) (fam : List (Nat × List Int)) : Boxes := (if fam.length = 0 then [] else [(b, .arr 1 (famR fam) 25 false)]) ++ famB 3 fam
def LaO (ls : List (List Int)) (e : Int) (r : Tr) (B : Boxes) : Prop := ∃ b fam, fam.map Prod.snd = ls ∧ r = .tup [.v (gsv b fam.length), intT e] ∧ B = laB b fam
theorem laB_real {b : Nat} {fam : List (Nat × List Int)} (hne : ∀ x ∈ fam, x.2 ≠ []) : ∀ p ∈ laB b fam, BoxReal p.2 := by
  intro p hp
  unfold laB at hp
  rcases List.mem_append.1 hp with h5 | h5
  · split at h5
    · cases h5
    · rename_i h0
      rw [List.mem_singleton.1 h5]
      intro h1
      exact absurd (by have := congrArg List.length h1; simpa [famR] using this) h0
  · obtain ⟨x, hx, rfl⟩ := List.mem_map.1 h5
    intro h1
    exact absurd (by simpa [intRows] using h1) (hne x hx)
theorem famB_flat (e : Nat) (fam : List (Nat × List Int)) : ∀ p ∈ famB e fam, FlatB p.2 := by
  intro p hp
  obtain ⟨x, _, rfl⟩ := List.mem_map.1 hp
  exact intRows_flat _
theorem laB_flat {b : Nat} {fam : List (Nat × List Int)} : ∀ p ∈ laB b fam, FlatB p.2 := by
  intro p hp
  unfold laB at hp
  rcases List.mem_append.1 hp with h5 | h5
  · split at h5
    · cases h5
    · rw [List.mem_singleton.1 h5]
      refine FlatL.rows fun row hr => ?_
      obtain ⟨d, _, rfl⟩ := List.mem_map.1 hr
      exact inferInstance
  · exact famB_flat _ _ p h5
theorem laO_frz {ls : List (List Int)} {e : Int} (hl : ls.length < 2 ^ 62) (hs : ∀ l ∈ ls, l.length < 2 ^ 62) (r : Tr) (B : Boxes) (h : LaO ls e r B) : FrzN (.tup [layT ls, intT e]) r B := by
  obtain ⟨b, fam, hf, rfl, rfl⟩ := h
  subst hf
  rw [List.length_map] at hl
  refine ⟨inferInstance, laB_flat, ?_⟩
  by_cases h0 : fam.length = 0
  · have : fam = [] := List.eq_nil_of_length_eq_zero h0
    subst this
    intro F G h o v hv
    simp only [Rep, RepL] at hv
    obtain ⟨_, rfl, _, _, rfl, rfl, _, _, rfl, rfl, rfl⟩ := hv
    rw [Rep]
    exact ⟨_, rfl, RepL.cons rep_nil (RepL.cons (rep_v _) RepL.nil)⟩
  · have e1 : BoxIs (laB b fam) b (.arr 1 (famR fam) 25 false) := ⟨by unfold laB; rw [if_neg h0]; simp⟩
    have e2 : FrzR (laB b fam) (famR fam) (layRowsT (fam.map Prod.snd)) := famR_frz (e := 3) (fun x hx => ⟨by
      unfold laB
      refine List.mem_append_right _ ?_
      exact List.mem_map.2 ⟨x, hx, rfl⟩⟩) (fun x hx => by have := hs x.2 (List.mem_map.2 ⟨x, hx, rfl⟩); omega)
    have e4 : Sm63 fam.length := ⟨by omega⟩
    exact (inferInstance : Frz (laB b fam) (.tup [.v (gsv b fam.length), intT e]) _).eq
set_option maxHeartbeats 2000000 in
theorem layersO {c : CircD} (hw : CircW c) : FnO Try.prog 10 [circT c] (LaO (layersC c).1 (layersC c).2) := by
  refine FnO_of Try.func10 rfl (Nat.le_of_ble_eq_true rfl) (fun X => ?_)
  repeat (first | refine StepC.go ?_ | intro _)
  rename_i p
  refine TS_callE (checkT hw) ?_
  repeat (refine StepC.go ?_)
  refine TV_cond ?_ ?_ <;> intro hc
  · repeat (refine StepC.go ?_)
    refine retO_2 [] (.inr rfl) (by simp) ?_
    simp only [tret, layersC]
    rw [if_neg (by simpa using hc)]; exact ⟨0, [], rfl, rfl, rfl⟩
  have hck : (checkC c).2 = 0 := by simpa using hc
  obtain ⟨hr, hlen, hfl⟩ := checkC_ok hck
  obtain ⟨_, hq64, _, hb64⟩ := rangeBad_no hr
  have hop : ∀ o ∈ c.ops, OpP o := fun o ho => qs_range (hfl o ho) hq64 hb64 (hw o ho)
  have hl1 : LenT (opRows c.ops) c.ops.length := inferInstance
  have hl2 := hl1.eq
  repeat (first | refine StepC.go ?_ | (refine TS_makeSlice ?_ (fun _ => ?_); · omega))
  rename_i bs
  rw [hl2, replicate_int]
  obtain ⟨n, hn⟩ : ∃ n, n = c.ops.length := ⟨_, rfl⟩
  rw [← hn]
  refine TV_ghost 1 25 ?_
  intro bl
  have hstep0 : stepsS boundS c.ops 0 = [] := rfl
  refine TV_loop (fun d σ B => ∃ (i : Nat) (bl : Nat) (fam : List (Nat × List Int)), d = n - i ∧ i ≤ n ∧ TGet σ 26 (intT i) ∧ TGet σ 25 (intT n) ∧ TGet σ 24 (.sl 7 (opRows c.ops)) ∧ TGet σ 1 (.v (.pointer (some (ad p 0)))) ∧ TGet σ 7 (.v (.slice (some (ad bs 0)) n n)) ∧ TGet σ 6 (.v (gsv bl fam.length)) ∧
      SubP B ((p, .cells (circCs c) 24 true) :: (bs, .arr 1 (intRows (stepsS boundS c.ops i ++ List.replicate (n - i) 0)) 3 true) :: (bl, .arr 1 (famR fam) 25 false) :: famB 3 fam) ∧
      fam.map Prod.snd = laysS (stepsS boundS c.ops i) ∧ (∀ x ∈ stepsS boundS c.ops i, 0 ≤ x ∧ x < fam.length) ∧ fam.length ≤ i ∧ (∀ x ∈ fam, x.2.length ≤ i) ∧ ∀ x ∈ fam, x.2 ≠ []) n
    ⟨0, bl, [], by omega, by omega, inferInstance, inferInstance, inferInstance, inferInstance, tget_as (by rw [hn]), tget_as rfl, by
      rw [hstep0, List.nil_append, Nat.sub_zero]
      show SubP _ [_, _, (bl, .arr 1 [] 25 false)]
      infer_instance, rfl, by simp [hstep0], by simp, by simp, by simp⟩ ?_
  rintro d σ B ⟨i, bl, fam, rfl, hi, g26, g25, g24, g1, g7, g6, hB, hfam, hst, hfl1, hfl2, hne⟩
  refine TV_keep _ (p := hB) ?_
  repeat (refine StepC.go ?_)
  refine TV_cond ?_ ?_ <;> intro hc2
  · have hil : i < n := by simp at hc2; omega
    obtain ⟨o, ho⟩ : ∃ o, c.ops[i]? = some o := ⟨_, List.getElem?_eq_getElem (by omega)⟩
    have ng : NthG (opRows c.ops) i (opCs o) := .map opCs ho
    have hpo := hop o (List.mem_of_getElem? ho)
    have hsl := stepsS_len boundS c.ops i
    have hrep : List.replicate (n - i) (0 : Int) = 0 :: List.replicate (n - i - 1) 0 := by rw [← List.replicate_succ]; congr 1; omega
    rw [hrep]
    repeat (first | refine StepC.go ?_ | intro _)
    rename_i q
    have hLn : ∀ s : Int, LenT (intRows (stepsS boundS c.ops i ++ s :: List.replicate (n - i - 1) 0)) n := fun s => ⟨by simp [intRows, hsl]; omega⟩
    have hAi : ∀ s : Int, NthG (intRows (stepsS boundS c.ops i ++ s :: List.replicate (n - i - 1) 0)) i [intT s] := fun s => .map (fun x => [intT x]) (by simp [hsl])
    have hSi : ∀ s z : Int, SetR (intRows (stepsS boundS c.ops i ++ s :: List.replicate (n - i - 1) 0)) i [intT z] (intRows (stepsS boundS c.ops i ++ z :: List.replicate (n - i - 1) 0)) := fun s z => ⟨by
      rw [← set_mid (stepsS boundS c.ops i) s z _ hsl]; simp [intRows, List.map_set]⟩
    refine TV_loop (fun d σ B => ∃ (j : Nat) (s : Int), d = i - j ∧ j ≤ i ∧ TGet σ 32 (intT j) ∧ TGet σ 31 (intT i) ∧ TGet σ 8 (intT i) ∧ TGet σ 9 (.v (.pointer (some (ad q 0)))) ∧ TGet σ 26 (intT i) ∧ TGet σ 25 (intT n) ∧ TGet σ 24 (.sl 7 (opRows c.ops)) ∧ TGet σ 1 (.v (.pointer (some (ad p 0)))) ∧ TGet σ 7 (.v (.slice (some (ad bs 0)) n n)) ∧ TGet σ 6 (.v (gsv bl fam.length)) ∧
      SubP B ((q, .cells (opCs o) 29 true) :: (p, .cells (circCs c) 24 true) :: (bs, .arr 1 (intRows (stepsS boundS c.ops i ++ s :: List.replicate (n - i - 1) 0)) 3 true) :: (bl, .arr 1 (famR fam) 25 false) :: famB 3 fam) ∧
      s = stepK boundS o (c.ops.take j) ((stepsS boundS c.ops i).take j) 0) i
      ⟨0, 0, by omega, by omega, inferInstance, inferInstance, inferInstance, inferInstance, inferInstance, inferInstance, inferInstance, inferInstance, inferInstance, inferInstance, inferInstance, by simp [stepK]⟩ ?_
    rintro d σ B ⟨j, s, rfl, hj, g32, g31, g8, g9, g26, g25, g24, g1, g7, g6, hB, hs⟩
    have hsb := stepK_bounds boundS o fam.length (c.ops.take j) ((stepsS boundS c.ops i).take j) 0 (by omega) (by omega) (fun x hx => hst x (List.mem_of_mem_take hx))
    rw [← hs] at hsb
    refine TV_keep _ (p := hB) ?_
    repeat (refine StepC.go ?_)
    refine TV_cond ?_ ?_ <;> intro hc3
    · have hji : j < i := by simp at hc3; omega
      obtain ⟨a, ha⟩ : ∃ a, c.ops[j]? = some a := ⟨_, List.getElem?_eq_getElem (by omega)⟩
      obtain ⟨x, hx⟩ : ∃ x, (stepsS boundS c.ops i)[j]? = some x := ⟨_, List.getElem?_eq_getElem (by omega)⟩
      have hxb := hst x (List.mem_of_getElem? hx)
      have nga : NthG (opRows c.ops) j (opCs a) := .map opCs ha
      have hAj : NthG (intRows (stepsS boundS c.ops i ++ s :: List.replicate (n - i - 1) 0)) j [intT x] := .map (fun x => [intT x]) (by rw [List.getElem?_append_left (by omega)]; exact hx)
      have hstep := stepK_take boundS o ha hx
      rw [← hs] at hstep
      iterate 3 refine StepC.go ?_
      refine TV_cut (fun σ B => ∃ s', TGet σ 32 (intT j) ∧ TGet σ 31 (intT i) ∧ TGet σ 8 (intT i) ∧ TGet σ 9 (.v (.pointer (some (ad q 0)))) ∧ TGet σ 26 (intT i) ∧ TGet σ 25 (intT n) ∧ TGet σ 24 (.sl 7 (opRows c.ops)) ∧ TGet σ 1 (.v (.pointer (some (ad p 0)))) ∧ TGet σ 7 (.v (.slice (some (ad bs 0)) n n)) ∧ TGet σ 6 (.v (gsv bl fam.length)) ∧
        SubP B ((q, .cells (opCs o) 29 true) :: (p, .cells (circCs c) 24 true) :: (bs, .arr 1 (intRows (stepsS boundS c.ops i ++ s' :: List.replicate (n - i - 1) 0)) 3 true) :: (bl, .arr 1 (famR fam) 25 false) :: famB 3 fam) ∧
        s' = if s ≤ x ∧ boundS a o = true then x + 1 else s) ?_ ?_
      · have h0 : -9223372036854775808 ≤ x + 1 ∧ x + 1 ≤ 9223372036854775807 := by omega
        repeat (first | refine StepC.go ?_ | refine TD_take rfl rfl ?_ | refine TD_load rfl rfl ?_ | refine TV_draw (id := 12) (plan := [.take 0, .take 1, .take 2, .take 3, .take 4, .take 5, .take 6, .take 7, .take 8, .take 9, .take 10, .take 11, .take 12, .take 13, .take 14, .take 15, .one 16, .take 17]) (by kernel_rfl) ?_)
        refine TD_guard rfl rfl ?_ ?_ <;> intro hg
        · have hsx : s ≤ x := by simpa using hg
          repeat (first | (refine TS_on rfl ?_ ?_; · first | rfl | assumption) | refine TD_one rfl ?_ | refine FiltT_nil ?_ | refine FiltT_drop rfl ?_ | refine FiltT_keep rfl ?_ | refine TD_take_on rfl rfl (by first | rfl | assumption) rfl ?_ | refine TD_load_on rfl rfl (by first | rfl | assumption) rfl ?_)
          refine TS_callE (boundT (hop a (List.mem_of_getElem? ha)) hpo) ?_
          repeat (first | refine StepC.go ?_ | refine TD_take rfl rfl ?_)
          refine TV_cond ?_ ?_ <;> intro hb
          · have hbd : boundS a o = true := by simpa [hsx] using hb
            repeat (first | refine StepC.go ?_ | (refine TS_puw (Pu.addi ?_) ?_; · omega))
            exact ⟨x + 1, inferInstance, inferInstance, inferInstance, inferInstance, inferInstance, inferInstance, inferInstance, inferInstance, inferInstance, inferInstance, inferInstance, by rw [if_pos ⟨hsx, hbd⟩]⟩
          · have hbd : ¬ boundS a o = true := by simpa [hsx] using hb
            repeat (refine StepC.go ?_)
            exact ⟨s, inferInstance, inferInstance, inferInstance, inferInstance, inferInstance, inferInstance, inferInstance, inferInstance, inferInstance, inferInstance, inferInstance, by rw [if_neg fun h => hbd h.2]⟩
        · have hsx : ¬ s ≤ x := by simpa using hg
          repeat (first | refine StepC.go ?_ | (refine TS_off rfl ?_ ?_; · first | rfl | assumption) | refine TD_one rfl ?_ | refine FiltT_nil ?_ | refine FiltT_keep rfl ?_ | (refine TD_off rfl rfl ?_ ?_; · first | rfl | assumption) | (refine TD_takew rfl rfl (Pu.pick_f ?_) ?_; · first | rfl | assumption) | (refine TV_cond_f ?_ ?_; · first | rfl | assumption))
          exact ⟨s, inferInstance, inferInstance, inferInstance, inferInstance, inferInstance, inferInstance, inferInstance, inferInstance, inferInstance, inferInstance, inferInstance, by rw [if_neg fun h => hsx h.1]⟩
      · rintro σ B ⟨s', g32, g31, g8, g9, g26, g25, g24, g1, g7, g6, hB, hs'⟩
        repeat (first | refine StepC.go ?_ | (refine TS_puw (Pu.addi ?_) ?_; · omega))
        refine ⟨_, ?_, j + 1, s', rfl, by omega, inferInstance, inferInstance, inferInstance, inferInstance, inferInstance, inferInstance, inferInstance, inferInstance, inferInstance, inferInstance, hB, by rw [hs', hstep]⟩
        omega
    · have hji : j = i := by simp at hc3; omega
      subst hji
      rw [List.take_of_length_le (Nat.le_of_eq hsl)] at hs
      have hgd : c.ops.getD j ⟨0, .empty, [], 0, false, 0, 0⟩ = o := by simp [List.getD, ho]
      have hSs : stepsS boundS c.ops (j + 1) = stepsS boundS c.ops j ++ [s] := by
        rw [stepsS, hgd, stepK_short, hsl, ← hs]
      have hss := asNat_of hsb.1
      repeat (refine StepC.go ?_)
      refine TV_cut (fun σ B => ∃ (bl : Nat) (fam' : List (Nat × List Int)), TGet σ 8 (intT j) ∧ TGet σ 26 (intT j) ∧ TGet σ 25 (intT n) ∧ TGet σ 24 (.sl 7 (opRows c.ops)) ∧ TGet σ 1 (.v (.pointer (some (ad p 0)))) ∧ TGet σ 7 (.v (.slice (some (ad bs 0)) n n)) ∧ TGet σ 6 (.v (gsv bl fam'.length)) ∧
        SubP B ((p, .cells (circCs c) 24 true) :: (bs, .arr 1 (intRows (stepsS boundS c.ops j ++ s :: List.replicate (n - j - 1) 0)) 3 true) :: (bl, .arr 1 (famR fam') 25 false) :: famB 3 fam') ∧
        fam'.map Prod.snd = (if s.toNat = fam.length then fam.map Prod.snd ++ [[]] else fam.map Prod.snd) ∧ s.toNat < fam'.length ∧ fam.length ≤ fam'.length ∧ fam'.length ≤ j + 1 ∧ (∀ x ∈ fam', x.2.length ≤ j) ∧ ∀ k x, fam'[k]? = some x → k ≠ s.toNat → x.2 ≠ []) ?_ ?_
      · refine TV_cond ?_ ?_ <;> intro hs2
        · have hsL : s.toNat = fam.length := by simp at hs2; omega
          refine TV_ghost 1 3 ?_
          intro bg
          repeat (first | refine StepC.go ?_ | intro _ | (refine TS_append ?_ (fun _ => ?_); · omega))
          have hR : famR fam ++ [[.v (.slice none 0 0)]] = famR (fam ++ [(bg, [])]) := by simp [famR, gsv]
          rw [hR]
          rename_i bl2
          have hF : famB 3 (fam ++ [(bg, [])]) = famB 3 fam ++ [(bg, .arr 1 [] 3 false)] := by simp [famB, intRows]
          refine ⟨bl2, fam ++ [(bg, [])], inferInstance, inferInstance, inferInstance, inferInstance, inferInstance, inferInstance, tget_as (by rw [List.length_append]; rfl), ?_, by rw [if_pos hsL]; simp, by simp; omega, by simp, by simp; omega, ?_, ?_⟩
          · rw [hF]
            refine SubP.last (k := (bg, .arr 1 [] 3 false)) (L := (p, .cells (circCs c) 24 true) :: (bs, .arr 1 (intRows (stepsS boundS c.ops j ++ s :: List.replicate (n - j - 1) 0)) 3 true) :: (bl2, .arr 1 (famR (fam ++ [(bg, [])])) 25 false) :: famB 3 fam) ?_
            infer_instance
          · intro x hx
            rcases List.mem_append.1 hx with h1 | h1
            · exact hfl2 x h1
            · simp at h1; subst h1; simp
          · intro k x hk hks
            rw [List.getElem?_append] at hk
            split at hk
            · exact hne x (List.mem_of_getElem? hk)
            · rename_i hkl
              have := (List.getElem?_eq_some_iff.1 hk).1
              simp at this
              omega
        · have hsL : ¬ s.toNat = fam.length := by simp at hs2; omega
          repeat (refine StepC.go ?_)
          exact ⟨bl, fam, inferInstance, inferInstance, inferInstance, inferInstance, inferInstance, inferInstance, inferInstance, inferInstance, by rw [if_neg hsL], by omega, Nat.le_refl _, by omega, hfl2, fun k x hk _ => hne x (List.mem_of_getElem? hk)⟩
      · clear hfl2 hne
        rintro σ B ⟨bl, fam', g8, g26, g25, g24, g1, g7, g6, hB, hf1, hf2, hf3, hf4, hfl2, hne⟩
        refine TV_keep _ (p := hB) ?_
        obtain ⟨x, hx⟩ : ∃ x, fam'[s.toNat]? = some x := ⟨_, List.getElem?_eq_getElem hf2⟩
        obtain ⟨bk, lk⟩ := x
        have hlk := hfl2 _ (List.mem_of_getElem? hx)
        simp only at hlk
        have q1 := famB_is (e := 3) hx
        have q2 := famB_in (e := 3) hx
        have q3 : ∀ b', BoxPut (famB 3 fam') bk b' (.arr 1 (intRows lk ++ [[intT (j : Int)]]) 3 false) (famB 3 (fam'.set s.toNat (b', lk ++ [(j : Int)]))) := fun b' => famB_put (l2 := [(j : Int)]) hx b'
        have q4 := famR_at hx
        have q5 : ∀ b', SetR (famR fam') s.toNat [.v (gsv b' (lk.length + 1))] (famR (fam'.set s.toNat (b', lk ++ [(j : Int)]))) := fun b' => ⟨by simp [famR, List.map_set]⟩
        repeat (first | refine StepC.go ?_ | intro _ | (refine TS_puw (Pu.addi ?_) ?_; · omega) | (refine TS_append ?_ (fun _ => ?_); · omega) | refine TD_take rfl rfl ?_ | refine TD_load rfl rfl ?_ | refine TD_one rfl ?_ | refine FiltT_nil ?_ | refine FiltT_drop rfl ?_ | refine FiltT_keep rfl ?_ | refine TV_draw (id := 17) (plan := [.take 0, .take 1, .take 2, .take 3, .take 4, .take 5, .take 6, .take 7, .take 8, .take 9, .take 10, .take 11, .take 12, .one 13, .one 14, .take 15, .one 16]) (by kernel_rfl) ?_)
        have hr2 : List.replicate (n - (j + 1)) (0 : Int) = List.replicate (n - j - 1) 0 := by congr 1
        rename_i bk2
        refine ⟨_, ?_, j + 1, bl, fam'.set s.toNat (bk2, lk ++ [(j : Int)]), rfl, by omega, inferInstance, inferInstance, inferInstance, inferInstance, inferInstance, tget_as (by rw [List.length_set]), ?_, ?_, ?_, ?_, ?_, ?_⟩
        · omega
        · rw [hSs, hr2, List.append_assoc]
          show SubP _ (_ :: (bs, .arr 1 (intRows (stepsS boundS c.ops j ++ s :: List.replicate (n - j - 1) 0)) 3 true) :: _)
          infer_instance
        · rw [hSs, laysS, laysK_app, ← laysS, ← hfam]
          simp only [laysK, layS, hsl, Int.zero_add, List.length_map]
          rw [List.map_set, ← hf1]
          congr 1
          simp [List.getD, hx]
        · rw [hSs, List.length_set]
          intro y hy
          rcases List.mem_append.1 hy with h1 | h1
          · have := hst y h1; omega
          · simp at h1; subst h1; omega
        · rw [List.length_set]; omega
        · intro y hy
          rcases List.mem_or_eq_of_mem_set hy with h1 | rfl
          · have := hfl2 y h1; omega
          · simp; omega
        · intro y hy
          obtain ⟨k, hk⟩ := List.getElem?_of_mem hy
          by_cases hks : k = s.toNat
          · subst hks
            rw [List.getElem?_set_self hf2, Option.some.injEq] at hk
            subst hk
            simp
          · rw [List.getElem?_set_ne (fun h => hks h.symm)] at hk
            exact hne k y hk hks
  · have hil : i = n := by simp at hc2; omega
    subst hil
    have : Sm63 fam.length := ⟨by omega⟩
    have hb0 : fam.length = 0 → fam = [] := List.eq_nil_of_length_eq_zero
    repeat (refine StepC.go ?_)
    have hL : layersC c = (laysS (stepsS boundS c.ops c.ops.length), 0) := by rw [layersC, if_pos hck]
    rw [hL]
    rw [hn] at hfam
    by_cases h0 : fam.length = 0
    · have := hb0 h0
      subst this
      exact retO_2 [] (.inr rfl) (by simp) ⟨bl, [], hfam, rfl, rfl⟩
    · refine retO_2 ((bl, .arr 1 (famR fam) 25 false) :: famB 3 fam) (.inr rfl) (fun p hp => laB_real (b := bl) hne p (by unfold laB; rw [if_neg h0]; exact hp)) ⟨bl, fam, hfam, rfl, by unfold laB; rw [if_neg h0]; rfl⟩
end Go.Ideal

-- Gq
set_option linter.unusedSimpArgs false
set_option linter.unusedVariables false
namespace Go.Ideal
open Go Go.Proofs Go.RowKit
/-! ### Families of own boxes among others -/
class FamIn (fam B : Boxes) : Prop where eq : ∀ p ∈ fam, p ∈ B
instance (priority := 1000) FamIn.same {fam : Boxes} : FamIn fam fam := ⟨fun _ h => h⟩
instance (priority := 900) FamIn.tail {fam B : Boxes} {p : Nat × Box} [i : FamIn fam B] : FamIn fam (p :: B) := ⟨fun q h => List.mem_cons_of_mem _ (i.eq q h)⟩
instance (priority := 800) FamIn.left {fam A B : Boxes} [i : FamIn fam A] : FamIn fam (A ++ B) := ⟨fun q h => List.mem_append_left _ (i.eq q h)⟩
instance (priority := 700) FamIn.right {fam A B : Boxes} [i : FamIn fam B] : FamIn fam (A ++ B) := ⟨fun q h => List.mem_append_right _ (i.eq q h)⟩
theorem drop_consA {α : Type} {l : List α} {k : Nat} {a : α} (h : l[k]? = some a) : l.drop k = a :: l.drop (k + 1) := by
  obtain ⟨hk, rfl⟩ := List.getElem?_eq_some_iff.1 h
  exact List.drop_eq_getElem_cons hk
theorem map_put {α : Type} {f : α → Nat × Box} {l : List α} {k : Nat} {a : α} (h : l[k]? = some a) (a' : α) (T : Boxes) : BoxPut (l.map f ++ T) (f a).1 (f a').1 (f a').2 ((l.set k a').map f ++ T) := ⟨by
  have hk := (List.getElem?_eq_some_iff.1 h).1
  have hd := drop_consA h
  refine ⟨(l.take k).map f, (f a).2, (l.drop (k + 1)).map f ++ T, ?_, ?_⟩
  · conv => lhs; rw [← List.take_append_drop k l, hd]
    simp
  · rw [List.set_eq_take_append_cons_drop, if_pos hk]
    simp⟩
theorem map_is {α : Type} {f : α → Nat × Box} {l : List α} {k : Nat} {a : α} (h : l[k]? = some a) (T : Boxes) : BoxIs (l.map f ++ T) (f a).1 (f a).2 := ⟨List.mem_append_left _ (List.mem_map.2 ⟨a, List.mem_of_getElem? h, rfl⟩)⟩
theorem map_in {α : Type} {f : α → Nat × Box} {l : List α} {k : Nat} {a : α} (h : l[k]? = some a) (T : Boxes) : InKeys (l.map f ++ T) (f a).1 := ⟨List.mem_map.2 ⟨f a, (map_is h T).mem, rfl⟩⟩
/-- the box of an operation's qubits, as Copy makes it, and as the program makes it -/
def oxBox (d : Nat × OpD) : Nat × Box := (d.1, .arr 1 (intRows d.2.qs) 3 (intRows d.2.qs).isEmpty)
def ocBox (d : Nat × OpD) : Nat × Box := (d.1, .arr 1 (intRows d.2.qs) 3 false)
theorem oxB_map (dq : List (Nat × OpD)) : oxB dq = dq.map oxBox := by simp [oxB, iB, oxBox, Function.comp_def]
theorem ocB_map (dq : List (Nat × OpD)) : ocB dq = dq.map ocBox := by simp [ocB, iB, ocBox, Function.comp_def]
theorem oxRows_frz {B : Boxes} {dq : List (Nat × OpD)} (hs : ∀ d ∈ dq, d.2.qs.length < 2 ^ 62) [f : FamIn (dq.map oxBox) B] : FrzR B (ocRows dq) (opRows (dq.map Prod.snd)) := ⟨by simp [ocRows, opRows], fun i row hr => by
  simp only [ocRows, List.getElem?_map, Option.map_eq_some_iff] at hr
  obtain ⟨d, hd, rfl⟩ := hr
  have hm := List.mem_of_getElem? hd
  have : BoxIs B d.1 (.arr 1 (intRows d.2.qs) 3 (intRows d.2.qs).isEmpty) := ⟨f.eq _ (List.mem_map.2 ⟨d, hm, rfl⟩)⟩
  have h1 := hs d hm
  have : Sm63 d.2.qs.length := ⟨by omega⟩
  refine ⟨opCs d.2, by simp [opRows, hd], ?_⟩
  have : FrzL B (opCsV d.2 d.1) (opCs d.2) := inferInstance
  exact this.eq⟩
@[reducible] def setQ (o : OpD) (qs : List Int) : OpD := { o with qs := qs }
theorem ocRows_setQ {dq : List (Nat × OpD)} {i b : Nat} {o : OpD} (h : dq[i]? = some (b, o)) {qs : List Int} (hl : qs.length = o.qs.length) : ocRows (dq.set i (b, setQ o qs)) = ocRows dq := by
  have h1 : opCsV (setQ o qs) b = opCsV o b := by simp [opCsV, iV, hl]
  unfold ocRows
  rw [List.map_set]
  simp only
  rw [h1]
  refine List.ext_getElem? fun k => ?_
  by_cases hk : i = k
  · subst hk
    have := (List.getElem?_eq_some_iff.1 h).1
    rw [List.getElem?_set_self (by simpa using this)]
    simp [h]
  · rw [List.getElem?_set_ne hk]
theorem ocRows_set {dq : List (Nat × OpD)} {i : Nat} {d : Nat × OpD} : SetR (ocRows dq) i (opCsV d.2 d.1) (ocRows (dq.set i d)) := ⟨by simp [ocRows, List.map_set]⟩
theorem ox_set {dq : List (Nat × OpD)} {i b : Nat} {o : OpD} (h : dq[i]? = some (b, o)) (k : Nat) (z : Int) (T : Boxes) : BoxPut (dq.map oxBox ++ T) b b (.arr 1 (intRows (o.qs.set k z)) 3 (intRows o.qs).isEmpty) ((dq.set i (b, setQ o (o.qs.set k z))).map oxBox ++ T) := by
  have h1 := map_put (f := oxBox) h (b, setQ o (o.qs.set k z)) T
  have h2 : (intRows (o.qs.set k z)).isEmpty = (intRows o.qs).isEmpty := by cases o.qs <;> cases k <;> rfl
  have h3 : oxBox (b, setQ o (o.qs.set k z)) = (b, .arr 1 (intRows (o.qs.set k z)) 3 (intRows o.qs).isEmpty) := by unfold oxBox; rw [← h2]
  rw [h3] at h1
  exact h1
theorem oc_set {dq : List (Nat × OpD)} {i b : Nat} {o : OpD} (h : dq[i]? = some (b, o)) (k : Nat) (z : Int) (T : Boxes) : BoxPut (dq.map ocBox ++ T) b b (.arr 1 (intRows (o.qs.set k z)) 3 false) ((dq.set i (b, setQ o (o.qs.set k z))).map ocBox ++ T) :=
  map_put (f := ocBox) h (b, setQ o (o.qs.set k z)) T
theorem oc_app {dq : List (Nat × OpD)} {i b : Nat} {o : OpD} (h : dq[i]? = some (b, o)) (z : Int) (T : Boxes) (b' : Nat) : BoxPut (dq.map ocBox ++ T) b b' (.arr 1 (intRows o.qs ++ [[intT z]]) 3 false) ((dq.set i (b', setQ o (o.qs ++ [z]))).map ocBox ++ T) := by
  have h1 := map_put (f := ocBox) h (b', setQ o (o.qs ++ [z])) T
  have h3 : ocBox (b', setQ o (o.qs ++ [z])) = (b', .arr 1 (intRows o.qs ++ [[intT z]]) 3 false) := by unfold ocBox; rw [intRows_app]; rfl
  rw [h3] at h1
  exact h1
def laBox (x : Nat × List Int) : Nat × Box := (x.1, .arr 1 (intRows x.2) 3 false)
theorem la_set {fam : List (Nat × List Int)} {i b : Nat} {l : List Int} (h : fam[i]? = some (b, l)) (k : Nat) (z : Int) (T : Boxes) : BoxPut (fam.map laBox ++ T) b b (.arr 1 (intRows (l.set k z)) 3 false) ((fam.set i (b, l.set k z)).map laBox ++ T) :=
  map_put (f := laBox) h (b, l.set k z) T
theorem la_app {fam : List (Nat × List Int)} {i b : Nat} {l : List Int} (h : fam[i]? = some (b, l)) (z : Int) (T : Boxes) (b' : Nat) : BoxPut (fam.map laBox ++ T) b b' (.arr 1 (intRows l ++ [[intT z]]) 3 false) ((fam.set i (b', l ++ [z])).map laBox ++ T) := by
  have h1 := map_put (f := laBox) h (b', l ++ [z]) T
  have h3 : laBox (b', l ++ [z]) = (b', .arr 1 (intRows l ++ [[intT z]]) 3 false) := by unfold laBox; rw [intRows_app]; rfl
  rw [h3] at h1
  exact h1
theorem famR_set {fam : List (Nat × List Int)} {i b : Nat} {l l' : List Int} (h : fam[i]? = some (b, l)) (hl : l'.length = l.length) : famR (fam.set i (b, l')) = famR fam := by
  unfold famR
  rw [List.map_set]
  simp only [hl]
  refine List.ext_getElem? fun k => ?_
  by_cases hk : i = k
  · subst hk
    have := (List.getElem?_eq_some_iff.1 h).1
    rw [List.getElem?_set_self (by simpa using this)]
    simp [h]
  · rw [List.getElem?_set_ne hk]
section
variable {P : Program} {X : Cx} {E : Env} {σ : Nat → Tr} {B B' : Boxes} {ops : Array Oper} {K : TK} {l : List Oper} {d : Option Tmp} {ty : TypeId} {pos : String} {af : Array Edge} {H : List (Nat × Nat)}
theorem TS_permA (p : B.Perm B') (k : TS X P E ops K l H σ B') : TS X P E ops K l H σ B := by
  unfold TS at *
  intro F s h held r hh
  exact k F s h held (r.perm p) (hh.keys (fun b off v hc => hc) (Sub.refl F) (fun b hb => (p.map Prod.fst).mem_iff.1 hb))
/-- a call that answers a slice of rows with boxes of their own behind them -/
theorem TS_callFam {α : Type} {f : FuncId} {ps : List Operand} {ts ts' : List Tr} {at_ : Array TypeId} {m e : Nat} {Q : List α → Prop} {rows : List α → List (List Tr)} {fam : List α → Boxes} (g : Value → Tr) [c : CallIs P f] [ev : TEvals σ ps ts] [fz : FrzL B ts ts'] (hc : FnO P f ts' (fun r B => ∃ b dq, Q dq ∧ r = g (gsv b dq.length) ∧ B = (if dq.length = 0 then [] else [(b, .arr m (rows dq) e false)]) ++ fam dq)) (h0 : rows [] = []) (f0 : fam [] = []) (fg : ∀ v, FlatT (g v))
    (fr : ∀ dq, ∀ row ∈ rows dq, FlatL row) (ff : ∀ dq, ∀ p ∈ fam dq, FlatB p.2) (k : ∀ b dq, Q dq → TS X P E ops K l H (putT σ d (g (gsv b dq.length))) ((b, .arr m (rows dq) e false) :: (B ++ fam dq))) : TS X P E ops K (⟨d, .call ⟨.value (.func f), ps.toArray, at_⟩, ty, pos, af, none⟩ :: l) H σ B := by
  refine TS_callOE hc ?_ ?_
  · rintro _ B1 ⟨b, dq, _, rfl, rfl⟩
    refine ⟨fg _, fun p hp => ?_⟩
    rcases List.mem_append.1 hp with h5 | h5
    · split at h5
      · cases h5
      · rw [List.mem_singleton.1 h5]; exact FlatL.rows (fr dq)
    · exact ff dq p h5
  · rintro _ B1 ⟨b, dq, hdq, rfl, rfl⟩
    by_cases hn : dq.length = 0
    · have : dq = [] := List.eq_nil_of_length_eq_zero hn
      subst this
      rw [if_pos hn, List.nil_append, f0]
      refine TS_ghost m e fun b' => ?_
      have h1 : gsv b ([] : List α).length = gsv b' ([] : List α).length := by simp [gsv]
      have := k b' [] hdq
      rw [h0, f0, List.append_nil] at this
      rw [h1]
      exact this
    · rw [if_neg hn, List.singleton_append, List.cons_append]
      exact TS_permA (List.Perm.cons _ List.perm_append_comm) (k b dq hdq)
end
theorem ocRow_flat (dq : List (Nat × OpD)) : ∀ row ∈ ocRows dq, FlatL row := by
  intro row hr
  obtain ⟨d, _, rfl⟩ := List.mem_map.1 hr
  exact inferInstance
theorem famR_flat (fam : List (Nat × List Int)) : ∀ row ∈ famR fam, FlatL row := by
  intro row hr
  obtain ⟨d, _, rfl⟩ := List.mem_map.1 hr
  exact inferInstance
theorem oxBox_flat (dq : List (Nat × OpD)) : ∀ p ∈ dq.map oxBox, FlatB p.2 := by
  intro p hp
  obtain ⟨x, _, rfl⟩ := List.mem_map.1 hp
  exact intRows_flat _
theorem ocBox_flat (dq : List (Nat × OpD)) : ∀ p ∈ dq.map ocBox, FlatB p.2 := by
  intro p hp
  obtain ⟨x, _, rfl⟩ := List.mem_map.1 hp
  exact intRows_flat _
theorem laBox_flat (dq : List (Nat × List Int)) : ∀ p ∈ dq.map laBox, FlatB p.2 := by
  intro p hp
  obtain ⟨x, _, rfl⟩ := List.mem_map.1 hp
  exact intRows_flat _
theorem copyF {c : CircD} (hs : ∀ o ∈ c.ops, o.qs.length < 2 ^ 36) (hl : c.ops.length ≤ 2 ^ 20) : FnO Try.prog 6 [circT c] (fun r B => ∃ b dq, dq.map Prod.snd = c.ops ∧ r = (fun v => Tr.agg [intT c.qubits, intT c.bits, .v v]) (gsv b dq.length) ∧ B = (if dq.length = 0 then [] else [(b, .arr 7 (ocRows dq) 29 false)]) ++ dq.map oxBox) :=
  (copyOO hs hl).mono fun r B ⟨b, dq, h1, h2, h3⟩ => ⟨b, dq, h1, h2, by rw [h3, oxB_map]⟩
theorem thenF {a b : CircD} (ha : CircW a) (hb : CircW b) : FnO Try.prog 8 [circT a, circT b] (fun r B => ∃ b' dq, (dq.map Prod.snd = (thenC a b).1.ops) ∧ r = (fun v => Tr.tup [.agg [intT (thenC a b).1.qubits, intT (thenC a b).1.bits, .v v], intT (thenC a b).2]) (gsv b' dq.length) ∧ B = (if dq.length = 0 then [] else [(b', .arr 7 (ocRows dq) 29 false)]) ++ dq.map ocBox) :=
  (circThenO ha hb).mono fun r B ⟨b, dq, h1, h2, h3⟩ => ⟨b, dq, h1, h2, by rw [h3, ocA, ocB_map]⟩
theorem layersF {c : CircD} (hw : CircW c) : FnO Try.prog 10 [circT c] (fun r B => ∃ b' dq, (dq.map Prod.snd = (layersC c).1) ∧ r = (fun v => Tr.tup [.v v, intT (layersC c).2]) (gsv b' dq.length) ∧ B = (if dq.length = 0 then [] else [(b', .arr 1 (famR dq) 25 false)]) ++ dq.map laBox) :=
  (layersO hw).mono fun r B ⟨b, dq, h1, h2, h3⟩ => ⟨b, dq, h1, h2, by rw [h3]; rfl⟩
end Go.Ideal

-- Gr
set_option linter.unusedSimpArgs false
set_option linter.unusedVariables false
namespace Go.Ideal
open Go Go.Proofs Go.RowKit
/-! ### The law CircuitKeeps -/
instance {A T : Boxes} : SubP (A ++ T) T := ⟨A, List.perm_append_comm⟩
theorem map_set_same {α β : Type} {f : α → β} {l : List α} {i : Nat} {a a' : α} (h : l[i]? = some a) (e : f a' = f a) : (l.set i a').map f = l.map f := by
  rw [List.map_set, e]
  refine List.ext_getElem? fun k => ?_
  by_cases hk : i = k
  · subst hk
    have := (List.getElem?_eq_some_iff.1 h).1
    rw [List.getElem?_set_self (by simpa using this)]
    simp [h]
  · rw [List.getElem?_set_ne hk]
theorem inverse_good {c : CircD} (hw : CircW c) : (inverseC c).1.ops.length ≤ 4096 ∧ ∀ o ∈ (inverseC c).1.ops, o.qs.length < 2 ^ 62 ∧ o.qs ≠ [] := by
  unfold inverseC
  split
  · rename_i h1
    obtain ⟨h2, h3⟩ := circ_good hw h1
    obtain ⟨_, _, hfl⟩ := checkC_ok h1
    split
    · refine ⟨by simpa using h2, fun o ho => ?_⟩
      simp only [List.mem_map, List.mem_reverse] at ho
      obtain ⟨x, hx, rfl⟩ := ho
      have h4 := (h3 x hx).len
      have h5 := qs_ne (hfl x hx)
      exact ⟨by show x.qs.length < _; omega, h5⟩
    · exact ⟨by simp, fun o ho => by cases ho⟩
  · exact ⟨by simp, fun o ho => by cases ho⟩
theorem then_good {a b : CircD} (ha : CircW a) (hb : CircW b) : (thenC a b).1.ops.length ≤ 8192 ∧ ∀ o ∈ (thenC a b).1.ops, o.qs.length < 2 ^ 40 ∧ o.qs ≠ [] := by
  have h0 : ∀ e : Int, ((⟨0, 0, []⟩, e) : CircD × Int).1.ops.length ≤ 8192 ∧ ∀ o ∈ ((⟨0, 0, []⟩, e) : CircD × Int).1.ops, o.qs.length < 2 ^ 40 ∧ o.qs ≠ [] := fun e => ⟨by simp, fun o ho => by cases ho⟩
  unfold thenC
  split
  · rename_i h1
    obtain ⟨h2, h3⟩ := circ_good ha h1
    obtain ⟨_, _, hfl⟩ := checkC_ok h1
    split
    · rename_i h4
      obtain ⟨h5, h6⟩ := circ_good hb h4
      obtain ⟨_, _, hfl2⟩ := checkC_ok h4
      split
      · split
        · refine ⟨by simp; omega, fun o ho => ?_⟩
          rcases List.mem_append.1 ho with h | h
          · have := (h3 o h).len; exact ⟨by omega, qs_ne (hfl o h)⟩
          · have := (h6 o h).len; exact ⟨by omega, qs_ne (hfl2 o h)⟩
        · exact h0 _
      · exact h0 _
    · exact h0 _
  · exact h0 _
theorem order_good {c : CircD} {order : List Int} (hw : CircW c) : (orderC c order).1.ops.length ≤ 4096 ∧ ∀ o ∈ (orderC c order).1.ops, o.qs.length < 2 ^ 62 ∧ o.qs ≠ [] := by
  unfold orderC
  split
  · rename_i hck
    obtain ⟨h2, hg⟩ := circ_good hw hck
    obtain ⟨_, _, hfl⟩ := checkC_ok hck
    split
    · rename_i h
      refine ⟨by simp only [List.length_map]; omega, fun o ho => ?_⟩
      simp only [List.mem_map] at ho
      obtain ⟨k, hk, rfl⟩ := ho
      have hb := permK_in _ _ h.2.1 k hk
      have hm := List.mem_of_getElem? (opAt_get (ops := c.ops) (k := k) hb)
      have := (hg _ hm).len
      exact ⟨by omega, qs_ne (hfl _ hm)⟩
    · exact ⟨by simp, fun o ho => by cases ho⟩
  · exact ⟨by simp, fun o ho => by cases ho⟩
theorem layers_good {c : CircD} (hw : CircW c) : (layersC c).1.length < 2 ^ 40 := by
  unfold layersC
  split
  · rename_i h
    have h1 := (checkC_ok h).2.1
    have h2 : ∀ (ss : List Int) (i : Int) (ls : List (List Int)), (laysK ss i ls).length ≤ ls.length + ss.length := by
      intro ss
      induction ss with
      | nil => intro i ls; exact Nat.le_refl _
      | cons s ss ih =>
        intro i ls
        have h3 := ih (i + 1) (layS ls s i)
        have h4 := layS_len ls s i
        simp only [laysK, List.length_cons]
        split at h4 <;> omega
    have h3 := h2 (stepsS boundS c.ops c.ops.length) 0 []
    rw [stepsS_len] at h3
    simp only [laysS, List.length_nil] at h3 ⊢
    omega
  · simp
set_option synthInstance.maxSize 4000 in
set_option synthInstance.maxHeartbeats 400000 in
set_option maxHeartbeats 4000000 in
theorem circuitKeepsT {c : CircD} {order : List Int} (hw : CircW c) : Fn Try.prog 3 [circT c, .sl 1 (intRows order)] (fun r => r = boolT true) := by
  refine Fn_of Try.func3 rfl (Nat.le_of_ble_eq_true rfl) (fun X => ?_)
  have hLc : (opRows c.ops).length = c.ops.length := by simp [opRows]
  have hLo : (intRows order).length = order.length := by simp [intRows]
  repeat (first | refine StepC.go ?_ | intro _)
  rename_i pa
  refine TS_callE awake11T ?_
  repeat (first | refine StepC.go ?_ | (refine TV_cond_f ?_ ?_; · first | rfl | assumption))
  rw [hLc]
  by_cases h1 : (1000 : Int) < c.ops.length
  · have d1 : decide ((1000 : Int) < c.ops.length) = true := by simpa using h1
    repeat (first | refine StepC.go ?_ | (refine TS_off rfl ?_ ?_; · first | rfl | assumption) | (refine TS_puw (Pu.pick_t ?_) ?_; · first | rfl | assumption) | (refine TV_cond_t ?_ ?_; · first | rfl | assumption))
    exact retT_1 (.inr rfl) rfl
  have d1 : decide ((1000 : Int) < c.ops.length) = false := by simpa using h1
  repeat (first | refine StepC.go ?_ | (refine TS_on rfl ?_ ?_; · first | rfl | assumption))
  rw [hLo]
  refine TV_cond ?_ ?_ <;> intro hc
  · repeat (refine StepC.go ?_)
    exact retT_1 (.inr rfl) rfl
  have h1 : c.ops.length ≤ 1000 := by omega
  have h2 : order.length ≤ 2000 := by
    by_cases h : (2000 : Int) < order.length
    · simp [h, d1] at hc
    · omega
  clear hc
  repeat (refine StepC.go ?_)
  refine TV_loop (fun d σ B => ∃ (i : Nat), d = c.ops.length - i ∧ i ≤ c.ops.length ∧ TGet σ 5 (intT i) ∧ TGet σ 1 (.sl 1 (intRows order)) ∧ TGet σ 2 (.v (.pointer (some (ad pa 0)))) ∧ SubP B [(pa, .cells (circCs c) 24 true)] ∧ ∀ k o, k < i → c.ops[k]? = some o → o.qs.length ≤ 100) c.ops.length
    ⟨0, by omega, by omega, inferInstance, inferInstance, inferInstance, inferInstance, by omega⟩ ?_
  rintro d σ B ⟨i, rfl, hi, g5, g1, g2, hB, hq⟩
  refine TV_keep _ (p := hB) ?_
  clear hB
  repeat (refine StepC.go ?_)
  rw [hLc]
  refine TV_cond ?_ ?_ <;> intro hc
  · have hil : i < c.ops.length := by have := of_decide_eq_true hc; omega
    obtain ⟨o, ho⟩ : ∃ o, c.ops[i]? = some o := ⟨_, List.getElem?_eq_getElem (by omega)⟩
    have ng : NthG (opRows c.ops) i (opCs o) := .map opCs ho
    have hL2 : (intRows o.qs).length = o.qs.length := by simp [intRows]
    repeat (refine StepC.go ?_)
    rw [hL2]
    refine TV_cond ?_ ?_ <;> intro hc2
    · repeat (refine StepC.go ?_)
      exact retT_1 (.inr rfl) rfl
    repeat (first | refine StepC.go ?_ | (refine TS_puw (Pu.addi ?_) ?_; · omega))
    refine ⟨_, ?_, i + 1, rfl, by omega, inferInstance, inferInstance, inferInstance, inferInstance, fun k o' hk ho' => ?_⟩
    · omega
    · by_cases hki : k = i
      · subst hki
        rw [ho] at ho'
        cases ho'
        have := of_decide_eq_false hc2
        omega
      · exact hq k o' (by omega) ho'
  have hqs : ∀ o ∈ c.ops, o.qs.length ≤ 100 := fun o ho => by
    obtain ⟨k, hk⟩ := List.getElem?_of_mem ho
    have := (List.getElem?_eq_some_iff.1 hk).1
    have := of_decide_eq_false hc
    exact hq k o (by omega) hk
  clear hq hi hc
  repeat (refine StepC.go ?_)
  refine TS_callFam (fun v => .agg [intT c.qubits, intT c.bits, .v v]) (copyF (fun o ho => by have := hqs o ho; omega) (by omega)) rfl rfl (fun v => inferInstance) ocRow_flat oxBox_flat ?_
  intro bi dq hdq
  simp only [List.cons_append, List.nil_append]
  have hdl : dq.length ≤ 1000 := by have := congrArg List.length hdq; simp at this; omega
  have hdq2 : ∀ d ∈ dq, d.2.qs.length ≤ 100 := fun d hd => hqs d.2 (by rw [← hdq]; exact List.mem_map.2 ⟨d, hd, rfl⟩)
  have hfz : ∀ B, [FamIn (dq.map oxBox) B] → FrzR B (ocRows dq) (opRows c.ops) := fun B _ => by rw [← hdq]; exact oxRows_frz fun d hd => by have := hdq2 d hd; omega
  refine TS_cut (fun σ B => ∃ pi, TGet σ 1 (.sl 1 (intRows order)) ∧ TGet σ 2 (.v (.pointer (some (ad pa 0)))) ∧ TGet σ 6 (.v (.pointer (some (ad pi 0)))) ∧
      SubP B ((pa, .cells (circCs c) 24 true) :: (pi, .cells [intT c.qubits, intT c.bits, .v (gsv bi dq.length)] 24 true) :: (bi, .arr 7 (ocRows dq) 29 false) :: dq.map oxBox)) ?_ ?_
  · repeat (first | refine StepC.go ?_ | intro _)
    exact ⟨_, inferInstance, inferInstance, inferInstance, inferInstance⟩
  rintro σ B ⟨pi, t1, t2, t6, hB⟩
  refine TV_keep _ (p := hB) ?_
  clear hB g1 g2 g5
  refine StepC.go ?_
  refine TV_cutN (fun σ B => ∃ bf, TGet σ 1 (.sl 1 (intRows order)) ∧ TGet σ 2 (.v (.pointer (some (ad pa 0)))) ∧ TGet σ 6 (.v (.pointer (some (ad pi 0)))) ∧ TGet σ 7 (.v (.slice (some (ad bf 0)) (order.length + 2) (order.length + 2))) ∧
      SubP B ((pa, .cells (circCs c) 24 true) :: (pi, .cells [intT c.qubits, intT c.bits, .v (gsv bi dq.length)] 24 true) :: (bi, .arr 7 (ocRows dq) 29 false) :: (bf, .arr 1 (intRows (order ++ [77, 78])) 3 false) :: dq.map oxBox)) ?_ ?_
  · repeat (first | refine StepC.go ?_ | intro _ | (refine TS_append_own ?_ (fun _ => ?_); · omega))
    rename_i b1 b2 b3 bf
    have e1 : ([] ++ intRows order ++ [[.v (.int .i64 77)], [.v (.int .i64 78)]] : List (List Tr)) = intRows (order ++ [77, 78]) := by simp [intRows]
    simp only [Nat.zero_add, List.isEmpty_cons, Bool.false_and]
    rw [e1]
    exact ⟨bf, inferInstance, inferInstance, inferInstance, inferInstance, inferInstance⟩
  rintro σ B ⟨bf, t1, t2, t6, t7, hB⟩
  refine TV_keep _ (p := hB) ?_
  clear hB
  have hsd : Sm63 dq.length := ⟨by omega⟩
  have hpre : PreR (intRows (order ++ [77, 78])) order.length (order.length + 2) (intRows order) := ⟨by rw [intRows_app, List.take_left' (by simp [intRows])], by simp [intRows], by omega⟩
  have hsm : Sm63 (order.length + 2) := ⟨by omega⟩
  have hrx : RealX (intRows (order ++ [77, 78])) false := ⟨fun h => by simp [intRows] at h⟩
  have hL2 : LenT (intRows (order ++ [77, 78])) (order.length + 2) := ⟨by simp [intRows]⟩
  have hA3 : AsNat (((intRows order).length : Nat) : Int) order.length := ⟨by simp [intRows]⟩
  have hle : order.length ≤ order.length + 2 := by omega
  have cI := (circInverseO hw).mono (ocO_frz (c := (inverseC c).1) (e := (inverseC c).2) (by have := (inverse_good hw).1; omega) (inverse_good hw).2)
  have cI2 := refInverseT hw
  have gI := inverse_qs hw
  have cT := thenF hw hw
  have cT3 := (circThenO hw hw).mono (ocO_frz (c := (thenC c c).1) (e := (thenC c c).2) (by have := (then_good hw hw).1; omega) (fun o ho => by have := (then_good hw hw).2 o ho; exact ⟨by omega, this.2⟩))
  have cT2 := thenRT hw hw
  have gT := then_good hw hw
  have cO := (circOrderO (order := order) hw).mono (ocO_frz (c := (orderC c order).1) (e := (orderC c order).2) (by have := (order_good (order := order) hw).1; omega) (order_good hw).2)
  have cO2 := orderRT (order := order) hw
  have gO := orderC_qs (order := order) hw
  have cL := layersF hw
  have cL3 := (layersO hw).mono (laO_frz (ls := (layersC c).1) (e := (layersC c).2) (by have := layers_good hw; omega) (fun l hl => by have := layersC_mem c l hl; omega))
  have cL2 := layersRT hw
  have gL := layersC_mem c
  have gL2 := layers_good hw
  generalize inverseC c = kI at cI cI2 gI
  generalize thenC c c = kT at cT cT3 cT2 gT
  generalize orderC c order = kO at cO cO2 gO
  generalize layersC c = kL at cL cL3 cL2 gL gL2
  repeat (refine StepC.go ?_)
  refine TS_callN (Ψ := fun t => t = .tup [circT kI.1, intT kI.2]) cI (fun r B h => ⟨h.1, h.2.1⟩) (fun r B h => ⟨_, h.2.2, rfl⟩) ?_
  rintro _ rfl
  repeat (first | refine StepC.go ?_ | intro _)
  rename_i px
  refine TS_callFam (fun v => .tup [.agg [intT kT.1.qubits, intT kT.1.bits, .v v], intT kT.2]) cT rfl rfl (fun v => inferInstance) ocRow_flat ocBox_flat ?_
  intro by_ dy hdy
  simp only [List.cons_append, List.nil_append]
  repeat (first | refine StepC.go ?_ | intro _ | refine TD_take rfl rfl ?_ | refine TD_load rfl rfl ?_ | refine TV_draw (id := 14) (plan := [.take 0, .take 1, .take 2, .take 3, .take 4, .virt 9, .one 5, .take 6, .take 7, .take 8, .one 10, .take 11]) (by kernel_rfl) ?_)
  rename_i py
  refine TD_takew rfl rfl (Pu.slice_own (j := order.length) hle) ?_
  repeat (first | refine TD_one rfl ?_ | refine FiltT_nil ?_ | refine FiltT_drop rfl ?_ | refine FiltT_keep rfl ?_ | refine TD_virt rfl rfl rfl (fun _ => ?_))
  refine TS_callN (Ψ := fun t => t = .tup [circT kO.1, intT kO.2]) cO (fun r B h => ⟨h.1, h.2.1⟩) (fun r B h => ⟨_, h.2.2, rfl⟩) ?_
  rintro _ rfl
  repeat (first | refine StepC.go ?_ | refine TD_take rfl rfl ?_ | refine TD_one rfl ?_ | refine FiltT_nil ?_ | refine FiltT_drop rfl ?_)
  rename_i pz
  refine TS_callFam (fun v => .tup [.v v, intT kL.2]) cL rfl rfl (fun v => inferInstance) famR_flat laBox_flat ?_
  intro bl dl hdl2
  simp only [List.cons_append, List.nil_append]
  repeat (refine StepC.go ?_)
  refine TS_callN (Ψ := fun t => t = .tup [layT kL.1, intT kL.2]) cL3 (fun r B h => ⟨h.1, h.2.1⟩) (fun r B h => ⟨_, h.2.2, rfl⟩) ?_
  rintro _ rfl
  repeat (refine StepC.go ?_)
  refine TS_callN (Ψ := fun t => t = .tup [circT kT.1, intT kT.2]) cT3 (fun r B h => ⟨h.1, h.2.1⟩) (fun r B h => ⟨_, h.2.2, rfl⟩) ?_
  rintro _ rfl
  repeat (first | refine StepC.go ?_ | intro _)
  rename_i pu
  have ng1 : NthG (intRows (order ++ [77, 78])) order.length [intT 77] := ⟨by simp [intRows]⟩
  have ng2 : NthG (intRows (order ++ [77, 78])) (order.length + 1) [intT 78] := ⟨by simp [intRows, List.getElem?_append_right]⟩
  have hA4 : AsNat (((intRows order).length : Nat) + (1 : Int)) (order.length + 1) := ⟨by simp [intRows]⟩
  refine TS_callE (sameT (fun o ho => by have := hqs o ho; omega)) ?_
  repeat (first | refine StepC.go ?_ | (refine TS_on rfl ?_ ?_; · first | rfl | assumption) | (refine TS_puw (Pu.addi ?_) ?_; · omega) | (refine TV_cond_f ?_ ?_; · first | rfl | assumption))
  rw [List.append_assoc]
  have hLr : (intRows (order ++ [77, 78])).length = order.length + 2 := by simp [intRows]
  refine TV_loop (fun d σ B => ∃ (i : Nat), d = order.length - i ∧ i ≤ order.length ∧ TGet σ 20 (intT i) ∧ TGet σ 1 (.sl 1 (intRows order)) ∧ TGet σ 2 (.v (.pointer (some (ad pa 0)))) ∧ TGet σ 6 (.v (.pointer (some (ad pi 0)))) ∧ TGet σ 7 (.v (.slice (some (ad bf 0)) (order.length + 2) (order.length + 2))) ∧ TGet σ 8 (.v (.pointer (some (ad px 0)))) ∧ TGet σ 9 (intT kI.2) ∧ TGet σ 10 (.v (.pointer (some (ad py 0)))) ∧ TGet σ 11 (intT kT.2) ∧ TGet σ 12 (.v (.pointer (some (ad pz 0)))) ∧ TGet σ 13 (intT kO.2) ∧ TGet σ 14 (.v (gsv bl dl.length)) ∧ TGet σ 15 (intT kL.2) ∧ TGet σ 16 (layT kL.1) ∧ TGet σ 18 (.v (.pointer (some (ad pu 0)))) ∧ SubP B ((pu, .cells (circCs kT.1) 24 true) :: (pz, .cells (circCs kO.1) 24 true) :: (px, .cells (circCs kI.1) 24 true) :: (pa, .cells (circCs c) 24 true) :: (py, .cells [intT kT.1.qubits, intT kT.1.bits, .v (gsv by_ dy.length)] 24 true) :: (by_, .arr 7 (ocRows dy) 29 false) :: (bl, .arr 1 (famR dl) 25 false) :: (pi, .cells [intT c.qubits, intT c.bits, .v (gsv bi dq.length)] 24 true) :: (bi, .arr 7 (ocRows dq) 29 false) :: (bf, .arr 1 (intRows (order ++ [77, 78])) 3 false) :: (dq.map oxBox ++ (dy.map ocBox ++ dl.map laBox)))) order.length
    ⟨0, by omega, by omega, inferInstance, inferInstance, inferInstance, inferInstance, inferInstance, inferInstance, inferInstance, inferInstance, inferInstance, inferInstance, inferInstance, inferInstance, inferInstance, inferInstance, inferInstance, inferInstance⟩ ?_
  clear t1 t2 t6 t7
  rintro d σ B ⟨i, rfl, hi, t20, t1, t2, t6, t7, t8, t9, t10, t11, t12, t13, t14, t15, t16, t18, hB⟩
  refine TV_keep _ (p := hB) ?_
  clear hB
  repeat (refine StepC.go ?_)
  rw [hLo]
  refine TV_cond ?_ ?_ <;> intro hc
  · have hil : i < order.length := by have := of_decide_eq_true hc; omega
    obtain ⟨z, hz⟩ : ∃ z, order[i]? = some z := ⟨_, List.getElem?_eq_getElem (by omega)⟩
    have ngz : NthG (intRows order) i [intT z] := .map (fun x => [intT x]) hz
    have ngz2 : NthG (intRows (order ++ [77, 78])) i [intT z] := .map (fun x => [intT x]) (by rw [List.getElem?_append_left (by omega)]; exact hz)
    repeat (first | refine StepC.go ?_ | (refine TS_puw (Pu.addi ?_) ?_; · omega) | refine TD_take rfl rfl ?_ | refine TD_load rfl rfl ?_ | refine TV_draw (id := 23) (plan := [.take 0, .take 1, .take 2, .take 3, .take 4, .take 5, .take 6, .take 7, .take 8]) (by kernel_rfl) ?_ | (refine TV_cond_f ?_ ?_; · first | rfl | assumption))
    exact ⟨_, by omega, i + 1, rfl, by omega, tget_as rfl, inferInstance, inferInstance, inferInstance, inferInstance, inferInstance, inferInstance, inferInstance, inferInstance, inferInstance, inferInstance, inferInstance, inferInstance, inferInstance, inferInstance, inferInstance⟩
  clear hc hi t7 t20 hL2 hpre hsm hrx ng1 ng2 hA4 hA3 hle hLr
  repeat (refine StepC.go ?_)
  obtain ⟨T, hT⟩ : ∃ T, T = dy.map ocBox ++ dl.map laBox := ⟨_, rfl⟩
  rw [← hT]
  refine TV_loop (fun d σ B => ∃ (i : Nat) (eq : List (Nat × OpD)), d = dq.length - i ∧ i ≤ dq.length ∧ eq.length = dq.length ∧ (∀ x ∈ eq, x.2.qs.length ≤ 100) ∧ TGet σ 21 (intT i) ∧ TGet σ 1 (.sl 1 (intRows order)) ∧ TGet σ 2 (.v (.pointer (some (ad pa 0)))) ∧ TGet σ 6 (.v (.pointer (some (ad pi 0)))) ∧ TGet σ 8 (.v (.pointer (some (ad px 0)))) ∧ TGet σ 9 (intT kI.2) ∧ TGet σ 10 (.v (.pointer (some (ad py 0)))) ∧ TGet σ 11 (intT kT.2) ∧ TGet σ 12 (.v (.pointer (some (ad pz 0)))) ∧ TGet σ 13 (intT kO.2) ∧ TGet σ 14 (.v (gsv bl dl.length)) ∧ TGet σ 15 (intT kL.2) ∧ TGet σ 16 (layT kL.1) ∧ TGet σ 18 (.v (.pointer (some (ad pu 0)))) ∧ SubP B ((pu, .cells (circCs kT.1) 24 true) :: (pz, .cells (circCs kO.1) 24 true) :: (px, .cells (circCs kI.1) 24 true) :: (pa, .cells (circCs c) 24 true) :: (py, .cells [intT kT.1.qubits, intT kT.1.bits, .v (gsv by_ dy.length)] 24 true) :: (by_, .arr 7 (ocRows dy) 29 false) :: (bl, .arr 1 (famR dl) 25 false) :: (pi, .cells [intT c.qubits, intT c.bits, .v (gsv bi dq.length)] 24 true) :: (bi, .arr 7 (ocRows eq) 29 false) :: (eq.map oxBox ++ T))) dq.length
    ⟨0, dq, by omega, by omega, rfl, hdq2, inferInstance, inferInstance, inferInstance, inferInstance, inferInstance, inferInstance, inferInstance, inferInstance, inferInstance, inferInstance, inferInstance, inferInstance, inferInstance, inferInstance, inferInstance⟩ ?_
  clear t1 t2 t6 t8 t9 t10 t11 t12 t13 t14 t15 t16 t18
  rintro d σ B ⟨i, eq, rfl, hi, hel, heq, t21, t1, t2, t6, t8, t9, t10, t11, t12, t13, t14, t15, t16, t18, hB⟩
  refine TV_keep _ (p := hB) ?_
  clear hB
  have hle : LenT (ocRows eq) dq.length := ⟨by simp [ocRows, hel]⟩
  repeat (refine StepC.go ?_)
  refine TV_cond ?_ ?_ <;> intro hc
  · have hil : i < dq.length := by have := of_decide_eq_true hc; omega
    obtain ⟨⟨b, o⟩, ho⟩ : ∃ x, eq[i]? = some x := ⟨_, List.getElem?_eq_getElem (by omega)⟩
    have hL := heq _ (List.mem_of_getElem? ho)
    obtain ⟨L, hLe⟩ : ∃ L, L = o.qs.length := ⟨_, rfl⟩
    simp only at hL
    rw [← hLe] at hL
    repeat (refine StepC.go ?_)
    refine TV_loop (fun d σ B => ∃ (j : Nat) (eq : List (Nat × OpD)) (o : OpD), d = L - j ∧ j ≤ L ∧ eq.length = dq.length ∧ (∀ x ∈ eq, x.2.qs.length ≤ 100) ∧ eq[i]? = some (b, o) ∧ o.qs.length = L ∧ TGet σ 22 (intT j) ∧ TGet σ 21 (intT i) ∧ TGet σ 1 (.sl 1 (intRows order)) ∧ TGet σ 2 (.v (.pointer (some (ad pa 0)))) ∧ TGet σ 6 (.v (.pointer (some (ad pi 0)))) ∧ TGet σ 8 (.v (.pointer (some (ad px 0)))) ∧ TGet σ 9 (intT kI.2) ∧ TGet σ 10 (.v (.pointer (some (ad py 0)))) ∧ TGet σ 11 (intT kT.2) ∧ TGet σ 12 (.v (.pointer (some (ad pz 0)))) ∧ TGet σ 13 (intT kO.2) ∧ TGet σ 14 (.v (gsv bl dl.length)) ∧ TGet σ 15 (intT kL.2) ∧ TGet σ 16 (layT kL.1) ∧ TGet σ 18 (.v (.pointer (some (ad pu 0)))) ∧ SubP B ((pu, .cells (circCs kT.1) 24 true) :: (pz, .cells (circCs kO.1) 24 true) :: (px, .cells (circCs kI.1) 24 true) :: (pa, .cells (circCs c) 24 true) :: (py, .cells [intT kT.1.qubits, intT kT.1.bits, .v (gsv by_ dy.length)] 24 true) :: (by_, .arr 7 (ocRows dy) 29 false) :: (bl, .arr 1 (famR dl) 25 false) :: (pi, .cells [intT c.qubits, intT c.bits, .v (gsv bi dq.length)] 24 true) :: (bi, .arr 7 (ocRows eq) 29 false) :: (eq.map oxBox ++ T))) L
      ⟨0, eq, o, by omega, by omega, hel, heq, ho, hLe.symm, inferInstance, inferInstance, inferInstance, inferInstance, inferInstance, inferInstance, inferInstance, inferInstance, inferInstance, inferInstance, inferInstance, inferInstance, inferInstance, inferInstance, inferInstance, inferInstance⟩ ?_
    clear t21 t1 t2 t6 t8 t9 t10 t11 t12 t13 t14 t15 t16 t18 hel heq hle ho hLe
    rintro d σ B ⟨j, eq, o, rfl, hj, hel, heq, ho, hLe, t22, t21, t1, t2, t6, t8, t9, t10, t11, t12, t13, t14, t15, t16, t18, hB⟩
    refine TV_keep _ (p := hB) ?_
    clear hB
    have hle : LenT (ocRows eq) dq.length := ⟨by simp [ocRows, hel]⟩
    have ngo : NthG (ocRows eq) i (opCsV o b) := ⟨by simp [ocRows, ho]⟩
    have q1 : BoxIs (eq.map oxBox ++ T) b (.arr 1 (intRows o.qs) 3 (intRows o.qs).isEmpty) := map_is (f := oxBox) ho T
    have q2 : InKeys (eq.map oxBox ++ T) b := map_in (f := oxBox) ho T
    have q5 : LenT (intRows o.qs) L := ⟨by simp [intRows, hLe]⟩
    repeat (refine StepC.go ?_)
    rw [hLe]
    refine TV_cond ?_ ?_ <;> intro hc2
    · have hjl : j < L := by have := of_decide_eq_true hc2; omega
      obtain ⟨z, hz⟩ : ∃ z, o.qs[j]? = some z := ⟨_, List.getElem?_eq_getElem (by omega)⟩
      have ngz : NthG (intRows o.qs) j [intT z] := .map (fun x => [intT x]) hz
      have q3 := ox_set ho j (-5) T
      repeat (first | refine StepC.go ?_ | (refine TS_puw (Pu.addi ?_) ?_; · omega))
      refine ⟨_, by omega, j + 1, eq.set i (b, setQ o (o.qs.set j (-5))), setQ o (o.qs.set j (-5)), rfl, by omega, by simpa using hel, ?_, by rw [List.getElem?_set_self (by omega)], by simpa using hLe, tget_as rfl, inferInstance, inferInstance, inferInstance, inferInstance, inferInstance, inferInstance, inferInstance, inferInstance, inferInstance, inferInstance, inferInstance, inferInstance, inferInstance, inferInstance, ?_⟩
      · intro x hx
        rcases List.mem_or_eq_of_mem_set hx with h | rfl
        · exact heq x h
        · show (o.qs.set j (-5)).length ≤ 100
          rw [List.length_set]; omega
      · rw [ocRows_setQ ho (by simp)]
        infer_instance
    have sr : SetR (ocRows eq) i [intT o.kind, strT ⟨#[115, 112, 111, 105, 108, 116]⟩, .v (iV (b, o.qs, false)), intT o.bit, boolT o.iff, u64T o.mask, u64T o.value] (ocRows (eq.set i (b, { o with name := ⟨#[115, 112, 111, 105, 108, 116]⟩ }))) := ocRows_set (d := (b, { o with name := ⟨#[115, 112, 111, 105, 108, 116]⟩ }))
    repeat (first | refine StepC.go ?_ | (refine TS_puw (Pu.addi ?_) ?_; · omega))
    refine ⟨_, ?_, i + 1, eq.set i (b, { o with name := ⟨#[115, 112, 111, 105, 108, 116]⟩ }), rfl, by omega, by simpa using hel, ?_, tget_as rfl, inferInstance, inferInstance, inferInstance, inferInstance, inferInstance, inferInstance, inferInstance, inferInstance, inferInstance, inferInstance, inferInstance, inferInstance, inferInstance, ?_⟩
    · omega
    · intro x hx
      rcases List.mem_or_eq_of_mem_set hx with h | rfl
      · exact heq x h
      · exact (show o.qs.length ≤ 100 from heq (b, o) (List.mem_of_getElem? ho))
    · rw [map_set_same (f := oxBox) ho (by rfl)]
      infer_instance
  clear hc hi t21 t6 hle
  repeat (refine StepC.go ?_)
  rw [hT]
  clear hT T
  obtain ⟨T, hT⟩ : ∃ T, T = dl.map laBox := ⟨_, rfl⟩
  rw [← hT]
  have hdyl : dy.length ≤ 8192 := by have := congrArg List.length hdy; simp only [List.length_map] at this; have := gT.1; omega
  refine TV_loop (fun d σ B => ∃ (i : Nat) (eq : List (Nat × OpD)), d = dy.length - i ∧ i ≤ dy.length ∧ eq.length = dy.length ∧ (∀ k x, i ≤ k → eq[k]? = some x → x.2.qs.length < 2 ^ 40 ∧ x.2.qs ≠ []) ∧ TGet σ 23 (intT i) ∧ TGet σ 1 (.sl 1 (intRows order)) ∧ TGet σ 2 (.v (.pointer (some (ad pa 0)))) ∧ TGet σ 8 (.v (.pointer (some (ad px 0)))) ∧ TGet σ 9 (intT kI.2) ∧ TGet σ 10 (.v (.pointer (some (ad py 0)))) ∧ TGet σ 11 (intT kT.2) ∧ TGet σ 12 (.v (.pointer (some (ad pz 0)))) ∧ TGet σ 13 (intT kO.2) ∧ TGet σ 14 (.v (gsv bl dl.length)) ∧ TGet σ 15 (intT kL.2) ∧ TGet σ 16 (layT kL.1) ∧ TGet σ 18 (.v (.pointer (some (ad pu 0)))) ∧ SubP B ((pu, .cells (circCs kT.1) 24 true) :: (pz, .cells (circCs kO.1) 24 true) :: (px, .cells (circCs kI.1) 24 true) :: (pa, .cells (circCs c) 24 true) :: (py, .cells [intT kT.1.qubits, intT kT.1.bits, .v (gsv by_ dy.length)] 24 true) :: (by_, .arr 7 (ocRows eq) 29 false) :: (bl, .arr 1 (famR dl) 25 false) :: (eq.map ocBox ++ T))) dy.length
    ⟨0, dy, by omega, by omega, rfl, fun k x _ hx => gT.2 x.2 (by rw [← hdy]; exact List.mem_map.2 ⟨x, List.mem_of_getElem? hx, rfl⟩), tget_as rfl, inferInstance, inferInstance, inferInstance, inferInstance, inferInstance, inferInstance, inferInstance, inferInstance, inferInstance, inferInstance, inferInstance, inferInstance, inferInstance⟩ ?_
  clear t1 t2 t8 t9 t10 t11 t12 t13 t14 t15 t16 t18 hel heq eq
  rintro d σ B ⟨i, eq, rfl, hi, hel, heq, t23, t1, t2, t8, t9, t10, t11, t12, t13, t14, t15, t16, t18, hB⟩
  refine TV_keep _ (p := hB) ?_
  clear hB
  have hle : LenT (ocRows eq) dy.length := ⟨by simp [ocRows, hel]⟩
  repeat (refine StepC.go ?_)
  refine TV_cond ?_ ?_ <;> intro hc
  · have hil : i < dy.length := by have := of_decide_eq_true hc; omega
    obtain ⟨⟨b, o⟩, ho⟩ : ∃ x, eq[i]? = some x := ⟨_, List.getElem?_eq_getElem (by omega)⟩
    obtain ⟨hL, hne⟩ := heq _ _ (Nat.le_refl _) ho
    have heq2 : ∀ k x, i + 1 ≤ k → eq[k]? = some x → x.2.qs.length < 2 ^ 40 ∧ x.2.qs ≠ [] := fun k x hk hx => heq k x (by omega) hx
    obtain ⟨L, hLe⟩ : ∃ L, L = o.qs.length := ⟨_, rfl⟩
    have hL0 : L ≠ 0 := fun h => hne (List.eq_nil_of_length_eq_zero (show o.qs.length = 0 by omega))
    simp only at hL
    rw [← hLe] at hL
    clear hne heq
    repeat (refine StepC.go ?_)
    refine TV_loop (fun d σ B => ∃ (j : Nat) (eq : List (Nat × OpD)) (o : OpD), d = L - j ∧ j ≤ L ∧ eq.length = dy.length ∧ (∀ k x, i + 1 ≤ k → eq[k]? = some x → x.2.qs.length < 2 ^ 40 ∧ x.2.qs ≠ []) ∧ eq[i]? = some (b, o) ∧ o.qs.length = L ∧ TGet σ 24 (intT j) ∧ TGet σ 23 (intT i) ∧ TGet σ 1 (.sl 1 (intRows order)) ∧ TGet σ 2 (.v (.pointer (some (ad pa 0)))) ∧ TGet σ 8 (.v (.pointer (some (ad px 0)))) ∧ TGet σ 9 (intT kI.2) ∧ TGet σ 10 (.v (.pointer (some (ad py 0)))) ∧ TGet σ 11 (intT kT.2) ∧ TGet σ 12 (.v (.pointer (some (ad pz 0)))) ∧ TGet σ 13 (intT kO.2) ∧ TGet σ 14 (.v (gsv bl dl.length)) ∧ TGet σ 15 (intT kL.2) ∧ TGet σ 16 (layT kL.1) ∧ TGet σ 18 (.v (.pointer (some (ad pu 0)))) ∧ SubP B ((pu, .cells (circCs kT.1) 24 true) :: (pz, .cells (circCs kO.1) 24 true) :: (px, .cells (circCs kI.1) 24 true) :: (pa, .cells (circCs c) 24 true) :: (py, .cells [intT kT.1.qubits, intT kT.1.bits, .v (gsv by_ dy.length)] 24 true) :: (by_, .arr 7 (ocRows eq) 29 false) :: (bl, .arr 1 (famR dl) 25 false) :: (eq.map ocBox ++ T))) L
      ⟨0, eq, o, by omega, by omega, hel, heq2, ho, hLe.symm, inferInstance, inferInstance, inferInstance, inferInstance, inferInstance, inferInstance, inferInstance, inferInstance, inferInstance, inferInstance, inferInstance, inferInstance, inferInstance, inferInstance, inferInstance⟩ ?_
    clear t23 t1 t2 t8 t9 t10 t11 t12 t13 t14 t15 t16 t18 hel heq2 hle ho hLe
    rintro d σ B ⟨j, eq, o, rfl, hj, hel, heq, ho, hLe, t24, t23, t1, t2, t8, t9, t10, t11, t12, t13, t14, t15, t16, t18, hB⟩
    refine TV_keep _ (p := hB) ?_
    clear hB
    have hle : LenT (ocRows eq) dy.length := ⟨by simp [ocRows, hel]⟩
    have ngo : NthG (ocRows eq) i (opCsV o b) := ⟨by simp [ocRows, ho]⟩
    have q1 : BoxIs (eq.map ocBox ++ T) b (.arr 1 (intRows o.qs) 3 false) := map_is (f := ocBox) ho T
    have q2 : InKeys (eq.map ocBox ++ T) b := map_in (f := ocBox) ho T
    have q5 : LenT (intRows o.qs) L := ⟨by simp [intRows, hLe]⟩
    have q6 : RealX (intRows o.qs) false := ⟨fun h => by have := congrArg List.length h; simp [intRows, hLe, hL0] at this⟩
    repeat (refine StepC.go ?_)
    rw [hLe]
    refine TV_cond ?_ ?_ <;> intro hc2
    · have hjl : j < L := by have := of_decide_eq_true hc2; omega
      obtain ⟨z, hz⟩ : ∃ z, o.qs[j]? = some z := ⟨_, List.getElem?_eq_getElem (by omega)⟩
      have ngz : NthG (intRows o.qs) j [intT z] := .map (fun x => [intT x]) hz
      have q3 := oc_set ho j (-6) T
      repeat (first | refine StepC.go ?_ | (refine TS_puw (Pu.addi ?_) ?_; · omega))
      refine ⟨_, by omega, j + 1, eq.set i (b, setQ o (o.qs.set j (-6))), setQ o (o.qs.set j (-6)), rfl, by omega, by simpa using hel, ?_, by rw [List.getElem?_set_self (by omega)], by simpa using hLe, tget_as rfl, inferInstance, inferInstance, inferInstance, inferInstance, inferInstance, inferInstance, inferInstance, inferInstance, inferInstance, inferInstance, inferInstance, inferInstance, inferInstance, ?_⟩
      · intro k x hk hx
        rw [List.getElem?_set_ne (by omega)] at hx
        exact heq k x hk hx
      · rw [ocRows_setQ ho (by simp)]
        infer_instance
    clear t24 hc2 hj q1 q2 q5 q6 ngo hle
    repeat (refine StepC.go ?_)
    refine TV_loop (fun d σ B => ∃ (j b : Nat) (eq : List (Nat × OpD)) (o : OpD), d = 8 - j ∧ j ≤ 8 ∧ eq.length = dy.length ∧ (∀ k x, i + 1 ≤ k → eq[k]? = some x → x.2.qs.length < 2 ^ 40 ∧ x.2.qs ≠ []) ∧ eq[i]? = some (b, o) ∧ o.qs.length = L + j ∧ TGet σ 25 (intT j) ∧ TGet σ 23 (intT i) ∧ TGet σ 1 (.sl 1 (intRows order)) ∧ TGet σ 2 (.v (.pointer (some (ad pa 0)))) ∧ TGet σ 8 (.v (.pointer (some (ad px 0)))) ∧ TGet σ 9 (intT kI.2) ∧ TGet σ 10 (.v (.pointer (some (ad py 0)))) ∧ TGet σ 11 (intT kT.2) ∧ TGet σ 12 (.v (.pointer (some (ad pz 0)))) ∧ TGet σ 13 (intT kO.2) ∧ TGet σ 14 (.v (gsv bl dl.length)) ∧ TGet σ 15 (intT kL.2) ∧ TGet σ 16 (layT kL.1) ∧ TGet σ 18 (.v (.pointer (some (ad pu 0)))) ∧ SubP B ((pu, .cells (circCs kT.1) 24 true) :: (pz, .cells (circCs kO.1) 24 true) :: (px, .cells (circCs kI.1) 24 true) :: (pa, .cells (circCs c) 24 true) :: (py, .cells [intT kT.1.qubits, intT kT.1.bits, .v (gsv by_ dy.length)] 24 true) :: (by_, .arr 7 (ocRows eq) 29 false) :: (bl, .arr 1 (famR dl) 25 false) :: (eq.map ocBox ++ T))) 8
      ⟨0, b, eq, o, by omega, by omega, hel, heq, ho, hLe, inferInstance, inferInstance, inferInstance, inferInstance, inferInstance, inferInstance, inferInstance, inferInstance, inferInstance, inferInstance, inferInstance, inferInstance, inferInstance, inferInstance, inferInstance⟩ ?_
    clear t23 t1 t2 t8 t9 t10 t11 t12 t13 t14 t15 t16 t18 hel heq ho hLe o eq b
    rintro d σ B ⟨j, b, eq, o, rfl, hj, hel, heq, ho, hLe, t25, t23, t1, t2, t8, t9, t10, t11, t12, t13, t14, t15, t16, t18, hB⟩
    refine TV_keep _ (p := hB) ?_
    clear hB
    have hle : LenT (ocRows eq) dy.length := ⟨by simp [ocRows, hel]⟩
    have ngo : NthG (ocRows eq) i (opCsV o b) := ⟨by simp [ocRows, ho]⟩
    have q1 : BoxIs (eq.map ocBox ++ T) b (.arr 1 (intRows o.qs) 3 false) := map_is (f := ocBox) ho T
    have q2 : InKeys (eq.map ocBox ++ T) b := map_in (f := ocBox) ho T
    have q5 : LenT (intRows o.qs) o.qs.length := ⟨by simp [intRows]⟩
    have q6 : RealX (intRows o.qs) false := ⟨fun h => by have := congrArg List.length h; simp [intRows, hLe, hL0] at this⟩
    have q3 : ∀ b2, BoxPut (eq.map ocBox ++ T) b b2 (.arr 1 (intRows o.qs ++ [[.v (.int .i64 (-7))]]) 3 ((([[.v (.int .i64 (-7))]] : List (List Tr))).isEmpty && false)) ((eq.set i (b2, setQ o (o.qs ++ [-7]))).map ocBox ++ T) := fun b2 => oc_app ho (-7) T b2
    have sr : ∀ b2, SetR (ocRows eq) i [intT o.kind, strT o.name, .v (.slice (some (ad b2 0)) (o.qs.length + 1) (o.qs.length + 1)), intT o.bit, boolT o.iff, u64T o.mask, u64T o.value] (ocRows (eq.set i (b2, setQ o (o.qs ++ [-7])))) := fun b2 => by
      have h := ocRows_set (dq := eq) (i := i) (d := (b2, setQ o (o.qs ++ [-7])))
      simp only [opCsV, iV, List.length_append, List.length_cons, List.length_nil, Nat.zero_add] at h
      exact h
    repeat (refine StepC.go ?_)
    refine TV_cond ?_ ?_ <;> intro hc2
    · have hjl : j < 8 := by have := of_decide_eq_true hc2; omega
      repeat (first | refine StepC.go ?_ | intro _ | refine TD_take rfl rfl ?_ | refine TD_load rfl rfl ?_ | refine TD_one rfl ?_ | refine FiltT_nil ?_ | refine FiltT_drop rfl ?_ | refine FiltT_keep rfl ?_ | refine TV_draw (id := 43) (plan := [.take 0, .take 1, .take 2, .take 3, .take 4, .take 5, .take 6, .take 7, .take 8, .one 9, .one 10, .take 11, .take 12, .one 13]) (by kernel_rfl) ?_)
      refine TS_append_own (b := b) (n := o.qs.length) (m := 1) (rows := intRows o.qs) (bx := false) ?_ (fun b2 => ?_)
      · omega
      repeat (first | refine StepC.go ?_ | (refine TS_puw (Pu.addi ?_) ?_; · omega) | refine TD_take rfl rfl ?_ | refine TD_one rfl ?_ | refine FiltT_nil ?_ | refine FiltT_drop rfl ?_)
      refine ⟨_, by omega, j + 1, b2, eq.set i (b2, setQ o (o.qs ++ [-7])), setQ o (o.qs ++ [-7]), rfl, by omega, by simpa using hel, ?_, by rw [List.getElem?_set_self (by omega)], by simp [hLe]; omega, tget_as rfl, inferInstance, inferInstance, inferInstance, inferInstance, inferInstance, inferInstance, inferInstance, inferInstance, inferInstance, inferInstance, inferInstance, inferInstance, inferInstance, ?_⟩
      · intro k x hk hx
        rw [List.getElem?_set_ne (by omega)] at hx
        exact heq k x hk hx
      · infer_instance
    repeat (first | refine StepC.go ?_ | (refine TS_puw (Pu.addi ?_) ?_; · omega))
    exact ⟨_, by omega, i + 1, eq, rfl, by omega, hel, heq, tget_as rfl, inferInstance, inferInstance, inferInstance, inferInstance, inferInstance, inferInstance, inferInstance, inferInstance, inferInstance, inferInstance, inferInstance, inferInstance, inferInstance⟩
  clear hc hi t23 t10 hle hel heq
  repeat (refine StepC.go ?_)
  have hdll : dl.length < 2 ^ 40 := by have := congrArg List.length hdl2; simp only [List.length_map] at this; omega
  refine TV_loop (fun d σ B => ∃ (i : Nat) (eq : List (Nat × List Int)), d = dl.length - i ∧ i ≤ dl.length ∧ eq.length = dl.length ∧ (∀ k x, i ≤ k → eq[k]? = some x → x.2.length < 2 ^ 40) ∧ TGet σ 26 (intT i) ∧ TGet σ 1 (.sl 1 (intRows order)) ∧ TGet σ 2 (.v (.pointer (some (ad pa 0)))) ∧ TGet σ 8 (.v (.pointer (some (ad px 0)))) ∧ TGet σ 9 (intT kI.2) ∧ TGet σ 11 (intT kT.2) ∧ TGet σ 12 (.v (.pointer (some (ad pz 0)))) ∧ TGet σ 13 (intT kO.2) ∧ TGet σ 14 (.v (gsv bl dl.length)) ∧ TGet σ 15 (intT kL.2) ∧ TGet σ 16 (layT kL.1) ∧ TGet σ 18 (.v (.pointer (some (ad pu 0)))) ∧ SubP B ((pu, .cells (circCs kT.1) 24 true) :: (pz, .cells (circCs kO.1) 24 true) :: (px, .cells (circCs kI.1) 24 true) :: (pa, .cells (circCs c) 24 true) :: (bl, .arr 1 (famR eq) 25 false) :: (eq.map laBox ++ []))) dl.length
    ⟨0, dl, by omega, by omega, rfl, fun k x _ hx => gL x.2 (by rw [← hdl2]; exact List.mem_map.2 ⟨x, List.mem_of_getElem? hx, rfl⟩), tget_as rfl, inferInstance, inferInstance, inferInstance, inferInstance, inferInstance, inferInstance, inferInstance, inferInstance, inferInstance, inferInstance, inferInstance, by rw [List.append_nil, hT]; infer_instance⟩ ?_
  clear t1 t2 t8 t9 t11 t12 t13 t14 t15 t16 t18 hT T
  rintro d σ B ⟨i, eq, rfl, hi, hel, heq, t26, t1, t2, t8, t9, t11, t12, t13, t14, t15, t16, t18, hB⟩
  refine TV_keep _ (p := hB) ?_
  clear hB
  have hle : LenT (famR eq) dl.length := ⟨by simp [famR, hel]⟩
  repeat (refine StepC.go ?_)
  refine TV_cond ?_ ?_ <;> intro hc
  · have hil : i < dl.length := by have := of_decide_eq_true hc; omega
    obtain ⟨⟨b, l⟩, ho⟩ : ∃ x, eq[i]? = some x := ⟨_, List.getElem?_eq_getElem (by omega)⟩
    have hL := heq _ _ (Nat.le_refl _) ho
    have heq2 : ∀ k x, i + 1 ≤ k → eq[k]? = some x → x.2.length < 2 ^ 40 := fun k x hk hx => heq k x (by omega) hx
    obtain ⟨L, hLe⟩ : ∃ L, L = l.length := ⟨_, rfl⟩
    simp only at hL
    rw [← hLe] at hL
    clear heq
    repeat (refine StepC.go ?_)
    refine TV_loop (fun d σ B => ∃ (j : Nat) (eq : List (Nat × List Int)) (l : List Int), d = L - j ∧ j ≤ L ∧ eq.length = dl.length ∧ (∀ k x, i + 1 ≤ k → eq[k]? = some x → x.2.length < 2 ^ 40) ∧ eq[i]? = some (b, l) ∧ l.length = L ∧ TGet σ 27 (intT j) ∧ TGet σ 26 (intT i) ∧ TGet σ 1 (.sl 1 (intRows order)) ∧ TGet σ 2 (.v (.pointer (some (ad pa 0)))) ∧ TGet σ 8 (.v (.pointer (some (ad px 0)))) ∧ TGet σ 9 (intT kI.2) ∧ TGet σ 11 (intT kT.2) ∧ TGet σ 12 (.v (.pointer (some (ad pz 0)))) ∧ TGet σ 13 (intT kO.2) ∧ TGet σ 14 (.v (gsv bl dl.length)) ∧ TGet σ 15 (intT kL.2) ∧ TGet σ 16 (layT kL.1) ∧ TGet σ 18 (.v (.pointer (some (ad pu 0)))) ∧ SubP B ((pu, .cells (circCs kT.1) 24 true) :: (pz, .cells (circCs kO.1) 24 true) :: (px, .cells (circCs kI.1) 24 true) :: (pa, .cells (circCs c) 24 true) :: (bl, .arr 1 (famR eq) 25 false) :: (eq.map laBox ++ []))) L
      ⟨0, eq, l, by omega, by omega, hel, heq2, ho, hLe.symm, inferInstance, inferInstance, inferInstance, inferInstance, inferInstance, inferInstance, inferInstance, inferInstance, inferInstance, inferInstance, inferInstance, inferInstance, inferInstance, inferInstance⟩ ?_
    clear t26 t1 t2 t8 t9 t11 t12 t13 t14 t15 t16 t18 hel heq2 hle ho hLe
    rintro d σ B ⟨j, eq, l, rfl, hj, hel, heq, ho, hLe, t27, t26, t1, t2, t8, t9, t11, t12, t13, t14, t15, t16, t18, hB⟩
    refine TV_keep _ (p := hB) ?_
    clear hB
    have hle : LenT (famR eq) dl.length := ⟨by simp [famR, hel]⟩
    have ngo : NthG (famR eq) i [.v (gsv b L)] := ⟨by simp [famR, ho, hLe]⟩
    have q1 : BoxIs (eq.map laBox ++ []) b (.arr 1 (intRows l) 3 false) := map_is (f := laBox) ho []
    have q2 : InKeys (eq.map laBox ++ []) b := map_in (f := laBox) ho []
    have q5 : LenT (intRows l) L := ⟨by simp [intRows, hLe]⟩
    repeat (refine StepC.go ?_)
    refine TV_cond ?_ ?_ <;> intro hc2
    · have hjl : j < L := by have := of_decide_eq_true hc2; omega
      obtain ⟨z, hz⟩ : ∃ z, l[j]? = some z := ⟨_, List.getElem?_eq_getElem (by omega)⟩
      have ngz : NthG (intRows l) j [intT z] := .map (fun x => [intT x]) hz
      have q3 := la_set ho j (-8) []
      repeat (first | refine StepC.go ?_ | (refine TS_puw (Pu.addi ?_) ?_; · omega))
      refine ⟨_, by omega, j + 1, eq.set i (b, l.set j (-8)), l.set j (-8), rfl, by omega, by simpa using hel, ?_, by rw [List.getElem?_set_self (by omega)], by simpa using hLe, tget_as rfl, inferInstance, inferInstance, inferInstance, inferInstance, inferInstance, inferInstance, inferInstance, inferInstance, inferInstance, inferInstance, inferInstance, inferInstance, ?_⟩
      · intro k x hk hx
        rw [List.getElem?_set_ne (by omega)] at hx
        exact heq k x hk hx
      · rw [famR_set ho (by simp)]
        infer_instance
    clear t27 hc2 hj q1 q2 q5 ngo hle
    repeat (refine StepC.go ?_)
    refine TV_loop (fun d σ B => ∃ (j b : Nat) (eq : List (Nat × List Int)) (l : List Int), d = 8 - j ∧ j ≤ 8 ∧ eq.length = dl.length ∧ (∀ k x, i + 1 ≤ k → eq[k]? = some x → x.2.length < 2 ^ 40) ∧ eq[i]? = some (b, l) ∧ l.length = L + j ∧ TGet σ 28 (intT j) ∧ TGet σ 26 (intT i) ∧ TGet σ 1 (.sl 1 (intRows order)) ∧ TGet σ 2 (.v (.pointer (some (ad pa 0)))) ∧ TGet σ 8 (.v (.pointer (some (ad px 0)))) ∧ TGet σ 9 (intT kI.2) ∧ TGet σ 11 (intT kT.2) ∧ TGet σ 12 (.v (.pointer (some (ad pz 0)))) ∧ TGet σ 13 (intT kO.2) ∧ TGet σ 14 (.v (gsv bl dl.length)) ∧ TGet σ 15 (intT kL.2) ∧ TGet σ 16 (layT kL.1) ∧ TGet σ 18 (.v (.pointer (some (ad pu 0)))) ∧ SubP B ((pu, .cells (circCs kT.1) 24 true) :: (pz, .cells (circCs kO.1) 24 true) :: (px, .cells (circCs kI.1) 24 true) :: (pa, .cells (circCs c) 24 true) :: (bl, .arr 1 (famR eq) 25 false) :: (eq.map laBox ++ []))) 8
      ⟨0, b, eq, l, by omega, by omega, hel, heq, ho, hLe, inferInstance, inferInstance, inferInstance, inferInstance, inferInstance, inferInstance, inferInstance, inferInstance, inferInstance, inferInstance, inferInstance, inferInstance, inferInstance, inferInstance⟩ ?_
    clear t26 t1 t2 t8 t9 t11 t12 t13 t14 t15 t16 t18 hel heq ho hLe l eq b
    rintro d σ B ⟨j, b, eq, l, rfl, hj, hel, heq, ho, hLe, t28, t26, t1, t2, t8, t9, t11, t12, t13, t14, t15, t16, t18, hB⟩
    refine TV_keep _ (p := hB) ?_
    clear hB
    have hle : LenT (famR eq) dl.length := ⟨by simp [famR, hel]⟩
    have ngo : NthG (famR eq) i [.v (gsv b l.length)] := ⟨by simp [famR, ho]⟩
    have q1 : BoxIs (eq.map laBox ++ []) b (.arr 1 (intRows l) 3 false) := map_is (f := laBox) ho []
    have q2 : InKeys (eq.map laBox ++ []) b := map_in (f := laBox) ho []
    have q5 : LenT (intRows l) l.length := ⟨by simp [intRows]⟩
    have q3 := la_app ho (-9) []
    have sr : ∀ b2, SetR (famR eq) i [.v (gsv b2 (l.length + 1))] (famR (eq.set i (b2, l ++ [-9]))) := fun b2 => ⟨by simp [famR, List.map_set]⟩
    repeat (refine StepC.go ?_)
    refine TV_cond ?_ ?_ <;> intro hc2
    · have hjl : j < 8 := by have := of_decide_eq_true hc2; omega
      repeat (first | refine StepC.go ?_ | intro _ | (refine TS_puw (Pu.addi ?_) ?_; · omega) | (refine TS_append ?_ (fun _ => ?_); · omega))
      rename_i b0 b2
      refine ⟨_, by omega, j + 1, b2, eq.set i (b2, l ++ [-9]), l ++ [-9], rfl, by omega, by simpa using hel, ?_, by rw [List.getElem?_set_self (by omega)], by simp [hLe]; omega, tget_as rfl, inferInstance, inferInstance, inferInstance, inferInstance, inferInstance, inferInstance, inferInstance, inferInstance, inferInstance, inferInstance, inferInstance, inferInstance, ?_⟩
      · intro k x hk hx
        rw [List.getElem?_set_ne (by omega)] at hx
        exact heq k x hk hx
      · infer_instance
    repeat (first | refine StepC.go ?_ | (refine TS_puw (Pu.addi ?_) ?_; · omega))
    exact ⟨_, by omega, i + 1, eq, rfl, by omega, hel, heq, tget_as rfl, inferInstance, inferInstance, inferInstance, inferInstance, inferInstance, inferInstance, inferInstance, inferInstance, inferInstance, inferInstance, inferInstance, inferInstance⟩
  clear hc hi t26 t14 hle hel heq
  repeat (refine StepC.go ?_)
  refine TS_call cI2 ?_
  rintro _ rfl
  repeat (first | refine StepC.go ?_ | intro _)
  refine TS_call cT2 ?_
  rintro _ rfl
  repeat (first | refine StepC.go ?_ | intro _)
  refine TS_call cO2 ?_
  rintro _ rfl
  repeat (first | refine StepC.go ?_ | intro _)
  refine TS_call cL2 ?_
  rintro _ rfl
  repeat (first | refine StepC.go ?_ | (refine TS_on rfl ?_ ?_; · first | rfl | assumption))
  refine TS_callE (sameT gI) ?_
  repeat (first | refine StepC.go ?_ | (refine TS_on rfl ?_ ?_; · first | rfl | assumption))
  refine TS_callE (sameT fun o ho => (gT.2 o ho).1) ?_
  repeat (first | refine StepC.go ?_ | (refine TS_on rfl ?_ ?_; · first | rfl | assumption))
  refine TS_callE (sameT gO) ?_
  repeat (first | refine StepC.go ?_ | (refine TS_on rfl ?_ ?_; · first | rfl | assumption))
  refine TS_callE (sameListsT gL) ?_
  repeat (refine StepC.go ?_)
  exact retT_1 (.inr rfl) rfl
/-- the law's walk from its arguments as they are read -/
theorem circuitKeepsW {h : IHp} (hnew : h.new = []) {v v2 : Value} {c : CircD} {order : List Int} (hv : Rep h.cell? (circT c) v ∧ CircW c) (hv2 : Rep h.cell? (.sl 1 (intRows order)) v2) : EvX Try.prog 3 [v, v2].toArray h (fun v _ => v = .bool true) :=
  EvX_of_Fn (circuitKeepsT hv.2) (RepL.cons hv.1 (RepL.cons hv2 RepL.nil))
end Go.Ideal
