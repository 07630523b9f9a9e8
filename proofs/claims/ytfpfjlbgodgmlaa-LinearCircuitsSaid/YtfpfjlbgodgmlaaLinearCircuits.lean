/- The law LinearCircuits returns true for any two circuits, a matrix and a number, and its argument reads as it read before. No condition. -/
import Derived.Test.YtfpfjlbgodgmlaaRows
import Derived.Test.YtfpfjlbgodgmlaaC8
import Derived.WalkKit
import Derived.ProofKit
import Derived.OpenShut
import Derived.Below
import Derived.Carry
namespace Go.Proofs.Ytfpfjlbgodgmlaa.linearCircuits
open Go.ChangeShapes Go.WideShapes Go.ChangeAt Go.RowKit
set_option linter.unusedVariables false

theorem own : ownKnob Try.prog.godebug = none := by kernel_rfl
theorem okP : Ideal.okProg Try.prog = true := by kernel_rfl
theorem laid : laidOutB Try.prog = true := by kernel_rfl
theorem plain30 : Ideal.plainT Try.prog 6 30 = true := by kernel_rfl
theorem under30 : ∃ fs, Try.prog.underlying 30 = some (.struct fs) := ⟨_, Try.underlying30⟩

set_option maxRecDepth 100000 in
theorem walk {H : Type} {enc : TypeId × Value → H} {W : World} {base : Nat} {v1 : Value} {d1 : DataW H} {p1 : List MemPlace}
    (k1 : Value.okWide Try.prog W .any base 30 v1)
    (h1 : DataW.Trod enc Try.prog W 0 (fun _ => true) true 30 v1 d1 p1) :
    Calls Try.prog 3 #[v1] W fun e w' => e = .returned (.bool true) ∧ Below W.heap.size W w' := by
  obtain ⟨fs1, hu1⟩ := under30
  obtain ⟨r1, c1, e1, i1⟩ := Ideal.bridge_struct hu1 plain30 k1 h1
  rw [e1] at r1
  obtain ⟨x1, m1⟩ := Ideal.two_tree i1
  refine Ideal.law_of_EvX (args := #[.agg c1.toArray]) okP (Ideal.linearCircuitsW rfl m1) ⟨rfl, fun i hi => ?_⟩
  match i, hi with
  | 0, _ => exact r1
  | n + 1, hi => simp at hi <;> omega

set_option maxRecDepth 100000 in
theorem lifted (os : Os) (started : os.Started) (H : Type) (enc : TypeId × Value → H) :
    ReturnsInHanded {} Try.checked os 3 .any (Rows.linearCircuitsSpec.pre6 enc Try.prog Try.f3 Rows.linearCircuitsRow.domain false) (Rows.linearCircuitsSpec.post enc Try.prog Try.f3 false true false false) := by
  refine returnsInHanded_of_change (C := Try.checked) own started (by kernel_rfl) Try.func3
    (ChangeSpec.witness6 (enc := enc) (C := Try.checked) false ⟨#[], #[.agg #[.int .i64 0, .int .i64 0, .slice none 0 0, .int .i64 0, .int .i64 0, .slice none 0 0, .int .i64 0, .slice none 0 0, .int .u64 0]], []⟩ 8 (by kernel_rfl) (by kernel_rfl) (by kernel_rfl) (by kernel_rfl)) ?_
  intro W base args ds gs before hval0 hW hcnd _
  have hW' := hW
  obtain ⟨p, q, hA0, hV, rfl, hfz, hnd⟩ := hW
  have hA : DataW.TrodAll enc Try.prog W 0 (fun _ => true) true Try.f3.params.toList args.toList ds p := hA0
  rw [Try.params3] at hA
  obtain ⟨v1, d1, rfl, rfl, h1⟩ := trodAll_one hA
  obtain ⟨rfl, rfl⟩ := trodVars_none hV
  have k1 := hval0 0 30 v1 (by rw [Try.params3]; rfl) rfl
  clear hA0 hval0
  refine (walk k1 h1).mono fun e W' ⟨he, bel⟩ => ?_
  subst he
  have lt : ∀ x ∈ (p) ++ [], x.block < W.heap.size := fun x hx => by simpa using hW'.lt x hx
  have g1 := Below.trod laid (by kernel_rfl) (of_decide_eq_true (by kernel_rfl)) h1 bel (fun x hx => lt x (by simp [hx]))
  exact ⟨_, rfl, _, _, _, _, _, [], hW', trodAll_mk1 (shut_bool Try.underlying4 _), trodAll_mk1 g1, rfl, bel.frame _, fun h => by cases h⟩

theorem over : Rows.linearCircuitsRow.holds Try.pinned (OpenSpec.ofChange Rows.linearCircuitsSpec) :=
  OpenClaim.holds_of_wide 3 Try.f3 rfl rfl rfl rfl rfl rfl rfl ⟨rfl, rfl, rfl, rfl, rfl⟩ rfl rfl rfl rfl rfl (by kernel_rfl) Try.func3 (by kernel_rfl)
    (of_decide_eq_true (by kernel_rfl)) (by unfold Func.isWrapper; first | (rw [if_pos (by decide +kernel)]; kernel_rfl) | (rw [if_neg (by decide +kernel)]; exact ⟨rfl, rfl⟩))
    (fun os started H enc _ => lifted os started H enc)
theorem proved : Rows.LinearCircuitsSaid := over
end Go.Proofs.Ytfpfjlbgodgmlaa.linearCircuits
namespace Go.Proofs.Ytfpfjlbgodgmlaa
/-- The row, under a short name, for the claim. -/
theorem linearCircuits_holds : Rows.LinearCircuitsSaid := linearCircuits.proved
#print axioms linearCircuits_holds
end Go.Proofs.Ytfpfjlbgodgmlaa
