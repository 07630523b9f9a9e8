/- The law LinearGroup returns true for any three matrices and two numbers, and its argument reads as it read before. No condition. -/
import Derived.Test.YtggdcgipeijilaaRows
import Derived.Test.YtggdcgipeijilaaC5
import Derived.WalkKit
import Derived.ProofKit
import Derived.OpenShut
import Derived.Below
import Derived.Carry
namespace Go.Proofs.Ytggdcgipeijilaa.linearGroup
open Go.ChangeShapes Go.WideShapes Go.ChangeAt Go.RowKit
set_option linter.unusedVariables false

theorem own : ownKnob Try.prog.godebug = none := by kernel_rfl
theorem okP : Ideal.okProg Try.prog = true := by kernel_rfl
theorem laid : laidOutB Try.prog = true := by kernel_rfl
theorem plain49 : Ideal.plainT Try.prog 4 49 = true := by kernel_rfl
theorem under49 : ∃ fs, Try.prog.underlying 49 = some (.struct fs) := ⟨_, Try.underlying49⟩

set_option maxRecDepth 100000 in
theorem walk {H : Type} {enc : TypeId × Value → H} {W : World} {base : Nat} {v1 : Value} {d1 : DataW H} {p1 : List MemPlace}
    (k1 : Value.okWide Try.prog W .any base 49 v1)
    (h1 : DataW.Trod enc Try.prog W 0 (fun _ => true) true 49 v1 d1 p1) :
    Calls Try.prog 4 #[v1] W fun e w' => e = .returned (.bool true) ∧ Below W.heap.size W w' := by
  obtain ⟨fs1, hu1⟩ := under49
  obtain ⟨r1, c1, e1, i1⟩ := Ideal.bridge_struct hu1 plain49 k1 h1
  rw [e1] at r1
  obtain ⟨x1, m1⟩ := Ideal.grp_tree i1
  refine Ideal.law_of_EvX (args := #[.agg c1.toArray]) okP (Ideal.linearGroupW rfl m1) ⟨rfl, fun i hi => ?_⟩
  match i, hi with
  | 0, _ => exact r1
  | n + 1, hi => simp at hi <;> omega

set_option maxRecDepth 100000 in
theorem lifted (os : Os) (started : os.Started) (H : Type) (enc : TypeId × Value → H) :
    ReturnsInHanded {} Try.checked os 4 .any (Rows.linearGroupSpec.pre6 enc Try.prog Try.f4 Rows.linearGroupRow.domain false) (Rows.linearGroupSpec.post enc Try.prog Try.f4 false true false false) := by
  refine returnsInHanded_of_change (C := Try.checked) own started (by kernel_rfl) Try.func4
    (ChangeSpec.witness6 (enc := enc) (C := Try.checked) false ⟨#[], #[.agg #[.int .i64 0, .slice none 0 0, .int .i64 0, .slice none 0 0, .int .i64 0, .slice none 0 0, .int .u64 0, .int .u64 0]], []⟩ 8 (by kernel_rfl) (by kernel_rfl) (by kernel_rfl) (by kernel_rfl)) ?_
  intro W base args ds gs before hval0 hW hcnd _
  have hW' := hW
  obtain ⟨p, q, hA0, hV, rfl, hfz, hnd⟩ := hW
  have hA : DataW.TrodAll enc Try.prog W 0 (fun _ => true) true Try.f4.params.toList args.toList ds p := hA0
  rw [Try.params4] at hA
  obtain ⟨v1, d1, rfl, rfl, h1⟩ := trodAll_one hA
  obtain ⟨rfl, rfl⟩ := trodVars_none hV
  have k1 := hval0 0 49 v1 (by rw [Try.params4]; rfl) rfl
  clear hA0 hval0
  refine (walk k1 h1).mono fun e W' ⟨he, bel⟩ => ?_
  subst he
  have lt : ∀ x ∈ (p) ++ [], x.block < W.heap.size := fun x hx => by simpa using hW'.lt x hx
  have g1 := Below.trod laid (by kernel_rfl) (of_decide_eq_true (by kernel_rfl)) h1 bel (fun x hx => lt x (by simp [hx]))
  exact ⟨_, rfl, _, _, _, _, _, [], hW', trodAll_mk1 (shut_bool Try.underlying4 _), trodAll_mk1 g1, rfl, bel.frame _, fun h => by cases h⟩

theorem over : Rows.linearGroupRow.holds Try.pinned (OpenSpec.ofChange Rows.linearGroupSpec) :=
  OpenClaim.holds_of_wide 4 Try.f4 rfl rfl rfl rfl rfl rfl rfl ⟨rfl, rfl, rfl, rfl, rfl⟩ rfl rfl rfl rfl rfl (by kernel_rfl) Try.func4 (by kernel_rfl)
    (of_decide_eq_true (by kernel_rfl)) (by unfold Func.isWrapper; first | (rw [if_pos (by decide +kernel)]; kernel_rfl) | (rw [if_neg (by decide +kernel)]; exact ⟨rfl, rfl⟩))
    (fun os started H enc _ => lifted os started H enc)
theorem proved : Rows.LinearGroupSaid := over
end Go.Proofs.Ytggdcgipeijilaa.linearGroup
namespace Go.Proofs.Ytggdcgipeijilaa
/-- The row, under a short name, for the claim. -/
theorem linearGroup_holds : Rows.LinearGroupSaid := linearGroup.proved
#print axioms linearGroup_holds
end Go.Proofs.Ytggdcgipeijilaa
