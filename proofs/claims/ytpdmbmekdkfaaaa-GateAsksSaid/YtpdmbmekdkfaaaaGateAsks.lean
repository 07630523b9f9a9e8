/- The law GateAsks returns true for every name and every column, and its arguments read as they read before. No condition. -/
import Derived.Test.YtpdmbmekdkfaaaaRows
import Derived.Test.YtpdmbmekdkfaaaaC5
import Derived.WalkKit
import Derived.ProofKit
import Derived.OpenShut
import Derived.Below
import Derived.Carry
namespace Go.Proofs.Ytpdmbmekdkfaaaa.gateAsks
open Go.ChangeShapes Go.WideShapes Go.ChangeAt Go.RowKit
set_option linter.unusedVariables false

theorem own : ownKnob Try.prog.godebug = none := by kernel_rfl
theorem okP : Ideal.okProg Try.prog = true := by kernel_rfl
theorem laid : laidOutB Try.prog = true := by kernel_rfl

set_option maxRecDepth 100000 in
theorem walk {H : Type} {enc : TypeId × Value → H} {W : World} {base : Nat} {v1 v2 : Value} {d1 d2 : DataW H} {p1 p2 : List MemPlace}
    (k1 : Value.okWide Try.prog W .any base 9 v1) (k2 : Value.okWide Try.prog W .any base 3 v2)
    (h1 : DataW.Trod enc Try.prog W 0 (fun _ => true) true 9 v1 d1 p1) (h2 : DataW.Trod enc Try.prog W 0 (fun _ => true) true 3 v2 d2 p2) :
    Calls Try.prog 3 #[v1, v2] W fun e w' => e = .returned (.bool true) ∧ Below W.heap.size W w' := by
  obtain ⟨x1, rfl⟩ := Ideal.string_argG Try.underlying9 k1
  obtain ⟨n2, rfl, _, _, hw2⟩ := open_int Try.underlying3 k2 h2
  have m2 := bounds_i64 hw2
  refine Ideal.law_of_EvX (args := #[.string x1, .int .i64 n2]) okP (Ideal.gateAsksW rfl) ⟨rfl, fun i hi => ?_⟩
  match i, hi with
  | 0, _ => exact Ideal.R_stringG x1
  | 1, _ => exact Ideal.flat_R rfl
  | n + 2, hi => simp at hi <;> omega

set_option maxRecDepth 100000 in
theorem lifted (os : Os) (started : os.Started) (H : Type) (enc : TypeId × Value → H) :
    ReturnsInHanded {} Try.checked os 3 .any (Rows.gateAsksSpec.pre6 enc Try.prog Try.f3 Rows.gateAsksRow.domain false) (Rows.gateAsksSpec.post enc Try.prog Try.f3 false true false false) := by
  refine returnsInHanded_of_change (C := Try.checked) own started (by kernel_rfl) Try.func3
    (ChangeSpec.witness6 (enc := enc) (C := Try.checked) false ⟨#[], #[.string ByteArray.empty, .int .i64 0], []⟩ 8 (by kernel_rfl) (by kernel_rfl) (by kernel_rfl) (by kernel_rfl)) ?_
  intro W base args ds gs before hval0 hW hcnd _
  have hW' := hW
  obtain ⟨p, q, hA0, hV, rfl, hfz, hnd⟩ := hW
  have hA : DataW.TrodAll enc Try.prog W 0 (fun _ => true) true Try.f3.params.toList args.toList ds p := hA0
  rw [Try.params3] at hA
  obtain ⟨v1, v2, d1, d2, p1, p2, rfl, rfl, rfl, h1, h2⟩ := trodAll_two hA
  obtain ⟨rfl, rfl⟩ := trodVars_none hV
  have k1 := hval0 0 9 v1 (by rw [Try.params3]; rfl) rfl
  have k2 := hval0 1 3 v2 (by rw [Try.params3]; rfl) rfl
  clear hA0 hval0
  refine (walk k1 k2 h1 h2).mono fun e W' ⟨he, bel⟩ => ?_
  subst he
  have lt : ∀ x ∈ (p1 ++ p2) ++ [], x.block < W.heap.size := fun x hx => by simpa using hW'.lt x hx
  have g1 := Below.trod laid (by kernel_rfl) (of_decide_eq_true (by kernel_rfl)) h1 bel (fun x hx => lt x (by simp [hx]))
  have g2 := Below.trod laid (by kernel_rfl) (of_decide_eq_true (by kernel_rfl)) h2 bel (fun x hx => lt x (by simp [hx]))
  exact ⟨_, rfl, _, _, _, _, _, [], hW', trodAll_mk1 (shut_bool Try.underlying4 _), trodAll_mk2 g1 g2, rfl, bel.frame _, fun h => by cases h⟩

theorem over : Rows.gateAsksRow.holds Try.pinned (OpenSpec.ofChange Rows.gateAsksSpec) :=
  OpenClaim.holds_of_wide 3 Try.f3 rfl rfl rfl rfl rfl rfl rfl ⟨rfl, rfl, rfl, rfl, rfl⟩ rfl rfl rfl rfl rfl (by kernel_rfl) Try.func3 (by kernel_rfl)
    (of_decide_eq_true (by kernel_rfl)) (by unfold Func.isWrapper; first | (rw [if_pos (by decide +kernel)]; kernel_rfl) | (rw [if_neg (by decide +kernel)]; exact ⟨rfl, rfl⟩))
    (fun os started H enc _ => lifted os started H enc)
theorem proved : Rows.GateAsksSaid := over
end Go.Proofs.Ytpdmbmekdkfaaaa.gateAsks
namespace Go.Proofs.Ytpdmbmekdkfaaaa
/-- The row, under a short name, for the claim. -/
theorem gateAsks_holds : Rows.GateAsksSaid := gateAsks.proved
#print axioms gateAsks_holds
end Go.Proofs.Ytpdmbmekdkfaaaa
