/- The law TableauValues returns true for every tableau, every string and any two numbers, and its arguments read as they read before. No condition. -/
import Derived.Test.YteloepinfffmgaaRows
import Derived.Test.YteloepinfffmgaaC7
import Derived.WalkKit
import Derived.ProofKit
import Derived.OpenShut
import Derived.Below
import Derived.Carry
namespace Go.Proofs.Yteloepinfffmgaa.tableauValues
open Go.ChangeShapes Go.WideShapes Go.ChangeAt Go.RowKit
set_option linter.unusedVariables false

theorem own : ownKnob Try.prog.godebug = none := by kernel_rfl
theorem okP : Ideal.okProg Try.prog = true := by kernel_rfl
theorem laid : laidOutB Try.prog = true := by kernel_rfl
theorem plain24 : Ideal.plainT Try.prog 4 24 = true := by kernel_rfl
theorem under24 : ∃ fs, Try.prog.underlying 24 = some (.struct fs) := ⟨_, Try.underlying24⟩
theorem plain27 : Ideal.plainT Try.prog 2 27 = true := by kernel_rfl
theorem under27 : ∃ fs, Try.prog.underlying 27 = some (.struct fs) := ⟨_, Try.underlying27⟩

set_option maxRecDepth 100000 in
theorem walk {H : Type} {enc : TypeId × Value → H} {W : World} {base : Nat} {v1 v2 v3 v4 : Value} {d1 d2 d3 d4 : DataW H} {p1 p2 p3 p4 : List MemPlace}
    (k1 : Value.okWide Try.prog W .any base 24 v1) (k2 : Value.okWide Try.prog W .any base 27 v2) (k3 : Value.okWide Try.prog W .any base 3 v3) (k4 : Value.okWide Try.prog W .any base 3 v4)
    (h1 : DataW.Trod enc Try.prog W 0 (fun _ => true) true 24 v1 d1 p1) (h2 : DataW.Trod enc Try.prog W 0 (fun _ => true) true 27 v2 d2 p2) (h3 : DataW.Trod enc Try.prog W 0 (fun _ => true) true 3 v3 d3 p3) (h4 : DataW.Trod enc Try.prog W 0 (fun _ => true) true 3 v4 d4 p4) :
    Calls Try.prog 4 #[v1, v2, v3, v4] W fun e w' => e = .returned (.bool true) ∧ Below W.heap.size W w' := by
  obtain ⟨fs1, hu1⟩ := under24
  obtain ⟨r1, c1, e1, i1⟩ := Ideal.bridge_struct hu1 plain24 k1 h1
  rw [e1] at r1
  obtain ⟨x1, m1⟩ := Ideal.tab_tree i1
  obtain ⟨fs2, hu2⟩ := under27
  obtain ⟨r2, c2, e2, i2⟩ := Ideal.bridge_struct hu2 plain27 k2 h2
  rw [e2] at r2
  obtain ⟨x2, m2⟩ := Ideal.pau_tree i2
  obtain ⟨n3, rfl, _, _, hw3⟩ := open_int Try.underlying3 k3 h3
  have m3 := bounds_i64 hw3
  obtain ⟨n4, rfl, _, _, hw4⟩ := open_int Try.underlying3 k4 h4
  have m4 := bounds_i64 hw4
  refine Ideal.law_of_EvX (args := #[.agg c1.toArray, .agg c2.toArray, .int .i64 n3, .int .i64 n4]) okP (Ideal.tableauValuesW m1.1 m1.2 m2.1 m2.2 m3 m4) ⟨rfl, fun i hi => ?_⟩
  match i, hi with
  | 0, _ => exact r1
  | 1, _ => exact r2
  | 2, _ => exact Ideal.flat_R rfl
  | 3, _ => exact Ideal.flat_R rfl
  | n + 4, hi => simp at hi <;> omega

set_option maxRecDepth 100000 in
theorem lifted (os : Os) (started : os.Started) (H : Type) (enc : TypeId × Value → H) :
    ReturnsInHanded {} Try.checked os 4 .any (Rows.tableauValuesSpec.pre6 enc Try.prog Try.f4 Rows.tableauValuesRow.domain false) (Rows.tableauValuesSpec.post enc Try.prog Try.f4 false true false false) := by
  refine returnsInHanded_of_change (C := Try.checked) own started (by kernel_rfl) Try.func4
    (ChangeSpec.witness6 (enc := enc) (C := Try.checked) false ⟨#[], #[.agg #[.int .i64 0, .slice none 0 0], .agg #[.int .i64 0, .int .u64 0, .int .u64 0, .int .i64 0], .int .i64 0, .int .i64 0], []⟩ 8 (by kernel_rfl) (by kernel_rfl) (by kernel_rfl) (by kernel_rfl)) ?_
  intro W base args ds gs before hval0 hW hcnd _
  have hW' := hW
  obtain ⟨p, q, hA0, hV, rfl, hfz, hnd⟩ := hW
  have hA : DataW.TrodAll enc Try.prog W 0 (fun _ => true) true Try.f4.params.toList args.toList ds p := hA0
  rw [Try.params4] at hA
  obtain ⟨v1, v2, v3, v4, d1, d2, d3, d4, p1, p2, p3, p4, rfl, rfl, rfl, h1, h2, h3, h4⟩ := trodAll_four hA
  obtain ⟨rfl, rfl⟩ := trodVars_none hV
  have k1 := hval0 0 24 v1 (by rw [Try.params4]; rfl) rfl
  have k2 := hval0 1 27 v2 (by rw [Try.params4]; rfl) rfl
  have k3 := hval0 2 3 v3 (by rw [Try.params4]; rfl) rfl
  have k4 := hval0 3 3 v4 (by rw [Try.params4]; rfl) rfl
  clear hA0 hval0
  refine (walk k1 k2 k3 k4 h1 h2 h3 h4).mono fun e W' ⟨he, bel⟩ => ?_
  subst he
  have lt : ∀ x ∈ (p1 ++ p2 ++ p3 ++ p4) ++ [], x.block < W.heap.size := fun x hx => by simpa using hW'.lt x hx
  have g1 := Below.trod laid (by kernel_rfl) (of_decide_eq_true (by kernel_rfl)) h1 bel (fun x hx => lt x (by simp [hx]))
  have g2 := Below.trod laid (by kernel_rfl) (of_decide_eq_true (by kernel_rfl)) h2 bel (fun x hx => lt x (by simp [hx]))
  have g3 := Below.trod laid (by kernel_rfl) (of_decide_eq_true (by kernel_rfl)) h3 bel (fun x hx => lt x (by simp [hx]))
  have g4 := Below.trod laid (by kernel_rfl) (of_decide_eq_true (by kernel_rfl)) h4 bel (fun x hx => lt x (by simp [hx]))
  exact ⟨_, rfl, _, _, _, _, _, [], hW', trodAll_mk1 (shut_bool Try.underlying4 _), trodAll_mk4 g1 g2 g3 g4, rfl, bel.frame _, fun h => by cases h⟩

theorem over : Rows.tableauValuesRow.holds Try.pinned (OpenSpec.ofChange Rows.tableauValuesSpec) :=
  OpenClaim.holds_of_wide 4 Try.f4 rfl rfl rfl rfl rfl rfl rfl ⟨rfl, rfl, rfl, rfl, rfl⟩ rfl rfl rfl rfl rfl (by kernel_rfl) Try.func4 (by kernel_rfl)
    (of_decide_eq_true (by kernel_rfl)) (by unfold Func.isWrapper; first | (rw [if_pos (by decide +kernel)]; kernel_rfl) | (rw [if_neg (by decide +kernel)]; exact ⟨rfl, rfl⟩))
    (fun os started H enc _ => lifted os started H enc)
theorem proved : Rows.TableauValuesSaid := over
end Go.Proofs.Yteloepinfffmgaa.tableauValues
namespace Go.Proofs.Yteloepinfffmgaa
/-- The row, under a short name, for the claim. -/
theorem tableauValues_holds : Rows.TableauValuesSaid := tableauValues.proved
#print axioms tableauValues_holds
end Go.Proofs.Yteloepinfffmgaa
