/- The law TableauApplies returns true for every tableau, every name and every list of qubits, and its arguments read as they read before. No condition. -/
import Derived.Test.YtbkldjahedmeiaaRows
import Derived.Test.YtbkldjahedmeiaaC6
import Derived.WalkKit
import Derived.ProofKit
import Derived.OpenShut
import Derived.Below
import Derived.Carry
namespace Go.Proofs.Ytbkldjahedmeiaa.tableauApplies
open Go.ChangeShapes Go.WideShapes Go.ChangeAt Go.RowKit
set_option linter.unusedVariables false

theorem own : ownKnob Try.prog.godebug = none := by kernel_rfl
theorem okP : Ideal.okProg Try.prog = true := by kernel_rfl
theorem laid : laidOutB Try.prog = true := by kernel_rfl
theorem plain25 : Ideal.plainT Try.prog 2 25 = true := by kernel_rfl
theorem plain73 : Ideal.plainT Try.prog 4 73 = true := by kernel_rfl
theorem under73 : ∃ fs, Try.prog.underlying 73 = some (.struct fs) := ⟨_, Try.underlying73⟩

set_option maxRecDepth 100000 in
theorem walk {H : Type} {enc : TypeId × Value → H} {W : World} {base : Nat} {v1 v2 v3 : Value} {d1 d2 d3 : DataW H} {p1 p2 p3 : List MemPlace}
    (k1 : Value.okWide Try.prog W .any base 73 v1) (k2 : Value.okWide Try.prog W .any base 9 v2) (k3 : Value.okWide Try.prog W .any base 25 v3)
    (h1 : DataW.Trod enc Try.prog W 0 (fun _ => true) true 73 v1 d1 p1) (h2 : DataW.Trod enc Try.prog W 0 (fun _ => true) true 9 v2 d2 p2) (h3 : DataW.Trod enc Try.prog W 0 (fun _ => true) true 25 v3 d3 p3) :
    Calls Try.prog 11 #[v1, v2, v3] W fun e w' => e = .returned (.bool true) ∧ Below W.heap.size W w' := by
  obtain ⟨fs1, hu1⟩ := under73
  obtain ⟨r1, c1, e1, i1⟩ := Ideal.bridge_struct hu1 plain73 k1 h1
  rw [e1] at r1
  obtain ⟨x1, m1⟩ := Ideal.tab_tree i1
  obtain ⟨s2, rfl⟩ := Ideal.string_arg Try.underlying9 k2
  obtain ⟨hc3, ha3⟩ := Ideal.slice_cell Try.underlying25 k3
  obtain ⟨r3, i3⟩ := Ideal.bridge_cell hc3 ha3 plain25 h3
  obtain ⟨x3, m3⟩ := Ideal.ints_tree i3
  refine Ideal.law_of_EvX (args := #[.agg c1.toArray, .string s2, Ideal.upA v3]) okP (Ideal.tableauAppliesW m1.1 m1.2 m3) ⟨rfl, fun i hi => ?_⟩
  match i, hi with
  | 0, _ => exact r1
  | 1, _ => exact Ideal.R_string s2
  | 2, _ => exact r3
  | n + 3, hi => simp at hi <;> omega

set_option maxRecDepth 100000 in
theorem lifted (os : Os) (started : os.Started) (H : Type) (enc : TypeId × Value → H) :
    ReturnsInHanded {} Try.checked os 11 .any (Rows.tableauAppliesSpec.pre6 enc Try.prog Try.f11 Rows.tableauAppliesRow.domain false) (Rows.tableauAppliesSpec.post enc Try.prog Try.f11 false true false false) := by
  refine returnsInHanded_of_change (C := Try.checked) own started (by kernel_rfl) Try.func11
    (ChangeSpec.witness6 (enc := enc) (C := Try.checked) false ⟨#[], #[.agg #[.int .i64 0, .slice none 0 0], .string ⟨#[]⟩, .slice none 0 0], []⟩ 8 (by kernel_rfl) (by kernel_rfl) (by kernel_rfl) (by kernel_rfl)) ?_
  intro W base args ds gs before hval0 hW hcnd _
  have hW' := hW
  obtain ⟨p, q, hA0, hV, rfl, hfz, hnd⟩ := hW
  have hA : DataW.TrodAll enc Try.prog W 0 (fun _ => true) true Try.f11.params.toList args.toList ds p := hA0
  rw [Try.params11] at hA
  obtain ⟨v1, v2, v3, d1, d2, d3, p1, p2, p3, rfl, rfl, rfl, h1, h2, h3⟩ := trodAll_three hA
  obtain ⟨rfl, rfl⟩ := trodVars_none hV
  have k1 := hval0 0 73 v1 (by rw [Try.params11]; rfl) rfl
  have k2 := hval0 1 9 v2 (by rw [Try.params11]; rfl) rfl
  have k3 := hval0 2 25 v3 (by rw [Try.params11]; rfl) rfl
  clear hA0 hval0
  refine (walk k1 k2 k3 h1 h2 h3).mono fun e W' ⟨he, bel⟩ => ?_
  subst he
  have lt : ∀ x ∈ (p1 ++ p2 ++ p3) ++ [], x.block < W.heap.size := fun x hx => by simpa using hW'.lt x hx
  have g1 := Below.trod laid (by kernel_rfl) (of_decide_eq_true (by kernel_rfl)) h1 bel (fun x hx => lt x (by simp [hx]))
  have g2 := Below.trod laid (by kernel_rfl) (of_decide_eq_true (by kernel_rfl)) h2 bel (fun x hx => lt x (by simp [hx]))
  have g3 := Below.trod laid (by kernel_rfl) (of_decide_eq_true (by kernel_rfl)) h3 bel (fun x hx => lt x (by simp [hx]))
  exact ⟨_, rfl, _, _, _, _, _, [], hW', trodAll_mk1 (shut_bool Try.underlying4 _), trodAll_mk3 g1 g2 g3, rfl, bel.frame _, fun h => by cases h⟩

theorem over : Rows.tableauAppliesRow.holds Try.pinned (OpenSpec.ofChange Rows.tableauAppliesSpec) :=
  OpenClaim.holds_of_wide 11 Try.f11 rfl rfl rfl rfl rfl rfl rfl ⟨rfl, rfl, rfl, rfl, rfl⟩ rfl rfl rfl rfl rfl (by kernel_rfl) Try.func11 (by kernel_rfl)
    (of_decide_eq_true (by kernel_rfl)) (by unfold Func.isWrapper; first | (rw [if_pos (by decide +kernel)]; kernel_rfl) | (rw [if_neg (by decide +kernel)]; exact ⟨rfl, rfl⟩))
    (fun os started H enc _ => lifted os started H enc)
theorem proved : Rows.TableauAppliesSaid := over
end Go.Proofs.Ytbkldjahedmeiaa.tableauApplies
namespace Go.Proofs.Ytbkldjahedmeiaa
/-- The row, under a short name, for the claim. -/
theorem tableauApplies_holds : Rows.TableauAppliesSaid := tableauApplies.proved
#print axioms tableauApplies_holds
end Go.Proofs.Ytbkldjahedmeiaa
