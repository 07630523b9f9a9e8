/- The law LinearKeeps returns true for every two matrices, and its arguments read as they read before. No condition. -/
import Derived.Test.YtodgjkffkjhinaaRows
import Derived.Test.YtodgjkffkjhinaaC6
import Derived.WalkKit
import Derived.ProofKit
import Derived.OpenShut
import Derived.Below
import Derived.Carry
import Derived.SizedLaws
namespace Go.Proofs.Ytodgjkffkjhinaa.linearKeeps
open Go.ChangeShapes Go.WideShapes Go.ChangeAt Go.RowKit
set_option linter.unusedVariables false

theorem own : ownKnob Try.prog.godebug = none := by kernel_rfl
theorem okP : Ideal.okProg Try.prog = true := by kernel_rfl
theorem laid : laidOutB Try.prog = true := by kernel_rfl
theorem plain50 : Ideal.plainT Try.prog 3 50 = true := by kernel_rfl
theorem under50 : ∃ fs, Try.prog.underlying 50 = some (.struct fs) := ⟨_, Try.underlying50⟩

set_option maxRecDepth 100000 in
theorem walk {H : Type} {enc : TypeId × Value → H} {W : World} {base : Nat} {v1 v2 : Value} {d1 d2 : DataW H} {p1 p2 : List MemPlace}
    (k1 : Value.okWide Try.prog W .any base 50 v1) (k2 : Value.okWide Try.prog W .any base 50 v2)
    (hz : ∀ n ∈ d1.weights Try.prog 50, n ≤ reachBytes) (hz2 : ∀ n ∈ d2.weights Try.prog 50, n ≤ reachBytes) (h1 : DataW.Trod enc Try.prog W 0 (fun _ => true) true 50 v1 d1 p1) (h2 : DataW.Trod enc Try.prog W 0 (fun _ => true) true 50 v2 d2 p2) :
    Calls Try.prog 4 #[v1, v2] W fun e w' => e = .returned (.bool true) ∧ Below W.heap.size W w' := by
  obtain ⟨fs1, hu1⟩ := under50
  obtain ⟨r1, c1, e1, i1⟩ := Ideal.bridge_struct hu1 plain50 k1 h1
  rw [e1] at r1
  have z1 := Ideal.structS2 hu1 plain50 k1 h1 e1 hz
  obtain ⟨x1, m1⟩ := Ideal.lin_tree2 i1 z1
  obtain ⟨fs2, hu2⟩ := under50
  obtain ⟨r2, c2, e2, i2⟩ := Ideal.bridge_struct hu2 plain50 k2 h2
  rw [e2] at r2
  have z2 := Ideal.structS2 hu2 plain50 k2 h2 e2 hz2
  obtain ⟨x2, m2⟩ := Ideal.lin_tree2 i2 z2
  refine Ideal.law_of_EvX (args := #[.agg c1.toArray, .agg c2.toArray]) okP (Ideal.linearKeepsW rfl m1 m2) ⟨rfl, fun i hi => ?_⟩
  match i, hi with
  | 0, _ => exact r1
  | 1, _ => exact r2
  | n + 2, hi => simp at hi <;> omega

set_option maxRecDepth 100000 in
theorem lifted (os : Os) (started : os.Started) (H : Type) (enc : TypeId × Value → H) :
    ReturnsInHanded {} Try.checked os 4 .any (Rows.linearKeepsSpec.pre6 enc Try.prog Try.f4 Rows.linearKeepsRow.domain false) (Rows.linearKeepsSpec.post enc Try.prog Try.f4 false true false false) := by
  refine returnsInHanded_of_change_sized (C := Try.checked) own started (by kernel_rfl) Try.func4
    (ChangeSpec.witness6 (enc := enc) (C := Try.checked) false ⟨#[], #[.agg #[.int .i64 0, .slice none 0 0], .agg #[.int .i64 0, .slice none 0 0]], []⟩ 8 (by kernel_rfl) (by kernel_rfl) (by kernel_rfl) (by kernel_rfl)) ?_
  intro W base args ds gs before hval0 hW hcnd hsz _
  have hW' := hW
  obtain ⟨p, q, hA0, hV, rfl, hfz, hnd⟩ := hW
  have hA : DataW.TrodAll enc Try.prog W 0 (fun _ => true) true Try.f4.params.toList args.toList ds p := hA0
  rw [Try.params4] at hA
  obtain ⟨v1, v2, d1, d2, p1, p2, rfl, rfl, rfl, h1, h2⟩ := trodAll_two hA
  obtain ⟨rfl, rfl⟩ := trodVars_none hV
  have k1 := hval0 0 50 v1 (by rw [Try.params4]; rfl) rfl
  have k2 := hval0 1 50 v2 (by rw [Try.params4]; rfl) rfl
  have s1 : ∀ n ∈ d1.weights Try.prog 50, n ≤ reachBytes := fun n hn => by
    rw [Try.params4] at hsz
    have := List.all_eq_true.1 hsz n (DataW.weights_mem_each (j := 0) (t := 50) (d := d1) rfl rfl n hn)
    simpa using this
  have s2 : ∀ n ∈ d2.weights Try.prog 50, n ≤ reachBytes := fun n hn => by
    rw [Try.params4] at hsz
    have := List.all_eq_true.1 hsz n (DataW.weights_mem_each (j := 1) (t := 50) (d := d2) rfl rfl n hn)
    simpa using this
  clear hA0 hval0
  refine (walk k1 k2 s1 s2 h1 h2).mono fun e W' ⟨he, bel⟩ => ?_
  subst he
  have lt : ∀ x ∈ (p1 ++ p2) ++ [], x.block < W.heap.size := fun x hx => by simpa using hW'.lt x hx
  have g1 := Below.trod laid (by kernel_rfl) (of_decide_eq_true (by kernel_rfl)) h1 bel (fun x hx => lt x (by simp [hx]))
  have g2 := Below.trod laid (by kernel_rfl) (of_decide_eq_true (by kernel_rfl)) h2 bel (fun x hx => lt x (by simp [hx]))
  exact ⟨_, rfl, _, _, _, _, _, [], hW', trodAll_mk1 (shut_bool Try.underlying4 _), trodAll_mk2 g1 g2, rfl, bel.frame _, fun h => by cases h⟩

theorem over : Rows.linearKeepsRow.holds Try.pinned (OpenSpec.ofChange Rows.linearKeepsSpec) :=
  OpenClaim.holds_of_wide 4 Try.f4 rfl rfl rfl rfl rfl rfl rfl ⟨rfl, rfl, rfl, rfl, rfl⟩ rfl rfl rfl rfl rfl (by kernel_rfl) Try.func4 (by kernel_rfl)
    (of_decide_eq_true (by kernel_rfl)) (by unfold Func.isWrapper; first | (rw [if_pos (by decide +kernel)]; kernel_rfl) | (rw [if_neg (by decide +kernel)]; exact ⟨rfl, rfl⟩))
    (fun os started H enc _ => lifted os started H enc)
theorem proved : Rows.LinearKeepsSaid := over
end Go.Proofs.Ytodgjkffkjhinaa.linearKeeps
namespace Go.Proofs.Ytodgjkffkjhinaa
/-- The row, under a short name, for the claim. -/
theorem linearKeeps_holds : Rows.LinearKeepsSaid := linearKeeps.proved
#print axioms linearKeeps_holds
end Go.Proofs.Ytodgjkffkjhinaa
