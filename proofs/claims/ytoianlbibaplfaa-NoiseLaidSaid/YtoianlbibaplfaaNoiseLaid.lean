/- The law NoiseLaid returns true for every circuit and every list of faults, and its arguments read as they read before. No condition. -/
import Derived.Test.YtoianlbibaplfaaRows
import Derived.Test.YtoianlbibaplfaaC7
import Derived.WalkKit
import Derived.ProofKit
import Derived.OpenShut
import Derived.Below
import Derived.Carry
import Derived.SizedLaws
namespace Go.Proofs.Ytoianlbibaplfaa.noiseLaid
open Go.ChangeShapes Go.WideShapes Go.ChangeAt Go.RowKit
set_option linter.unusedVariables false

theorem own : ownKnob Try.prog.godebug = none := by kernel_rfl
theorem okP : Ideal.okProg Try.prog = true := by kernel_rfl
theorem laid : laidOutB Try.prog = true := by kernel_rfl
theorem plain24 : Ideal.plainT Try.prog 5 24 = true := by kernel_rfl
theorem under24 : ∃ fs, Try.prog.underlying 24 = some (.struct fs) := ⟨_, Try.underlying24⟩
theorem plain25 : Ideal.plainT Try.prog 3 25 = true := by kernel_rfl

set_option maxRecDepth 100000 in
theorem walk {H : Type} {enc : TypeId × Value → H} {W : World} {base : Nat} {v1 v2 : Value} {d1 d2 : DataW H} {p1 p2 : List MemPlace}
    (k1 : Value.okWide Try.prog W .any base 24 v1) (k2 : Value.okWide Try.prog W .any base 25 v2)
    (hs : ∀ a l c, v2 = .slice a l c → 24 * l ≤ 2 ^ 47 - 4096) (h1 : DataW.Trod enc Try.prog W 0 (fun _ => true) true 24 v1 d1 p1) (h2 : DataW.Trod enc Try.prog W 0 (fun _ => true) true 25 v2 d2 p2) :
    Calls Try.prog 5 #[v1, v2] W fun e w' => e = .returned (.bool true) ∧ Below W.heap.size W w' := by
  obtain ⟨fs1, hu1⟩ := under24
  obtain ⟨r1, c1, e1, i1⟩ := Ideal.bridge_struct hu1 plain24 k1 h1
  rw [e1] at r1
  obtain ⟨x1, m1⟩ := Ideal.circ_tree i1
  obtain ⟨hc2, ha2⟩ := Ideal.slice_cell Try.underlying25 k2
  obtain ⟨r2, i2⟩ := Ideal.bridge_cell hc2 ha2 plain25 h2
  obtain ⟨x2, a2, l2, c2, e2, n2, m2⟩ := Ideal.flts_tree i2
  rw [e2] at r2
  obtain ⟨a3, c3, e3⟩ := Ideal.R_len r2
  have hl := hs _ _ _ e3
  rw [← e2] at r2
  refine Ideal.law_of_EvX (args := #[.agg c1.toArray, Ideal.upA v2]) okP (Ideal.noiseLaidW m1.1 m1.2 m2 (by omega)) ⟨rfl, fun i hi => ?_⟩
  match i, hi with
  | 0, _ => exact r1
  | 1, _ => exact r2
  | n + 2, hi => simp at hi <;> omega

set_option maxRecDepth 100000 in
theorem lifted (os : Os) (started : os.Started) (H : Type) (enc : TypeId × Value → H) :
    ReturnsInHanded {} Try.checked os 5 .any (Rows.noiseLaidSpec.pre6 enc Try.prog Try.f5 Rows.noiseLaidRow.domain false) (Rows.noiseLaidSpec.post enc Try.prog Try.f5 false true false false) := by
  refine returnsInHanded_of_change_sized (C := Try.checked) own started (by kernel_rfl) Try.func5
    (ChangeSpec.witness6 (enc := enc) (C := Try.checked) false ⟨#[], #[.agg #[.int .i64 0, .int .i64 0, .slice none 0 0], .slice none 0 0], []⟩ 8 (by kernel_rfl) (by kernel_rfl) (by kernel_rfl) (by kernel_rfl)) ?_
  intro W base args ds gs before hval0 hW hcnd hsz _
  have hW' := hW
  obtain ⟨p, q, hA0, hV, rfl, hfz, hnd⟩ := hW
  have hA : DataW.TrodAll enc Try.prog W 0 (fun _ => true) true Try.f5.params.toList args.toList ds p := hA0
  rw [Try.params5] at hA
  obtain ⟨v1, v2, d1, d2, p1, p2, rfl, rfl, rfl, h1, h2⟩ := trodAll_two hA
  obtain ⟨rfl, rfl⟩ := trodVars_none hV
  have k1 := hval0 0 24 v1 (by rw [Try.params5]; rfl) rfl
  have k2 := hval0 1 25 v2 (by rw [Try.params5]; rfl) rfl
  have s2 := Ideal.flts_sized k2 h2 (fun elems spare e => by
    subst e
    rw [Try.params5] at hsz
    exact sized_slice hsz (j := 1) rfl rfl Try.underlying25)
  clear hA0 hval0
  refine (walk k1 k2 s2 h1 h2).mono fun e W' ⟨he, bel⟩ => ?_
  subst he
  have lt : ∀ x ∈ (p1 ++ p2) ++ [], x.block < W.heap.size := fun x hx => by simpa using hW'.lt x hx
  have g1 := Below.trod laid (by kernel_rfl) (of_decide_eq_true (by kernel_rfl)) h1 bel (fun x hx => lt x (by simp [hx]))
  have g2 := Below.trod laid (by kernel_rfl) (of_decide_eq_true (by kernel_rfl)) h2 bel (fun x hx => lt x (by simp [hx]))
  exact ⟨_, rfl, _, _, _, _, _, [], hW', trodAll_mk1 (shut_bool Try.underlying4 _), trodAll_mk2 g1 g2, rfl, bel.frame _, fun h => by cases h⟩

theorem over : Rows.noiseLaidRow.holds Try.pinned (OpenSpec.ofChange Rows.noiseLaidSpec) :=
  OpenClaim.holds_of_wide 5 Try.f5 rfl rfl rfl rfl rfl rfl rfl ⟨rfl, rfl, rfl, rfl, rfl⟩ rfl rfl rfl rfl rfl (by kernel_rfl) Try.func5 (by kernel_rfl)
    (of_decide_eq_true (by kernel_rfl)) (by unfold Func.isWrapper; first | (rw [if_pos (by decide +kernel)]; kernel_rfl) | (rw [if_neg (by decide +kernel)]; exact ⟨rfl, rfl⟩))
    (fun os started H enc _ => lifted os started H enc)
theorem proved : Rows.NoiseLaidSaid := over
end Go.Proofs.Ytoianlbibaplfaa.noiseLaid
namespace Go.Proofs.Ytoianlbibaplfaa
/-- The row, under a short name, for the claim. -/
theorem noiseLaid_holds : Rows.NoiseLaidSaid := noiseLaid.proved
#print axioms noiseLaid_holds
end Go.Proofs.Ytoianlbibaplfaa
