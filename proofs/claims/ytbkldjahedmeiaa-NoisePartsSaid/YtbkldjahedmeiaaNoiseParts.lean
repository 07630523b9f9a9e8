/- The law NoiseParts returns true for every circuit and every two lists of faults, and its arguments read as they read before. No condition. -/
import Derived.Test.YtbkldjahedmeiaaRows
import Derived.Test.YtbkldjahedmeiaaC7
import Derived.WalkKit
import Derived.ProofKit
import Derived.OpenShut
import Derived.Below
import Derived.Carry
import Derived.SizedLaws
namespace Go.Proofs.Ytbkldjahedmeiaa.noiseParts
open Go.ChangeShapes Go.WideShapes Go.ChangeAt Go.RowKit
set_option linter.unusedVariables false

theorem own : ownKnob Try.prog.godebug = none := by kernel_rfl
theorem okP : Ideal.okProg Try.prog = true := by kernel_rfl
theorem laid : laidOutB Try.prog = true := by kernel_rfl
theorem plain24 : Ideal.plainT Try.prog 5 24 = true := by kernel_rfl
theorem under24 : ∃ fs, Try.prog.underlying 24 = some (.struct fs) := ⟨_, Try.underlying24⟩
theorem plain80 : Ideal.plainT Try.prog 3 80 = true := by kernel_rfl

set_option maxRecDepth 100000 in
theorem walk {H : Type} {enc : TypeId × Value → H} {W : World} {base : Nat} {v1 v2 v3 : Value} {d1 d2 d3 : DataW H} {p1 p2 p3 : List MemPlace}
    (k1 : Value.okWide Try.prog W .any base 24 v1) (k2 : Value.okWide Try.prog W .any base 80 v2) (k3 : Value.okWide Try.prog W .any base 80 v3)
    (hz : ∀ n ∈ d1.weights Try.prog 24, n ≤ reachBytes) (hs : ∀ a l c, v2 = .slice a l c → 24 * l ≤ 2 ^ 47 - 4096) (hs3 : ∀ a l c, v3 = .slice a l c → 24 * l ≤ 2 ^ 47 - 4096) (h1 : DataW.Trod enc Try.prog W 0 (fun _ => true) true 24 v1 d1 p1) (h2 : DataW.Trod enc Try.prog W 0 (fun _ => true) true 80 v2 d2 p2) (h3 : DataW.Trod enc Try.prog W 0 (fun _ => true) true 80 v3 d3 p3) :
    Calls Try.prog 14 #[v1, v2, v3] W fun e w' => e = .returned (.bool true) ∧ Below W.heap.size W w' := by
  obtain ⟨fs1, hu1⟩ := under24
  obtain ⟨r1, c1, e1, i1⟩ := Ideal.bridge_struct hu1 plain24 k1 h1
  rw [e1] at r1
  have z1 := Ideal.structS2 hu1 plain24 k1 h1 e1 hz
  obtain ⟨x1, m1, w1, q1, q2⟩ := Ideal.circ_tree2 i1 z1
  obtain ⟨hc2, ha2⟩ := Ideal.slice_cell Try.underlying80 k2
  obtain ⟨r2, i2⟩ := Ideal.bridge_cell hc2 ha2 plain80 h2
  obtain ⟨x2, a2, l2, c2, e2, n2, m2⟩ := Ideal.flts_tree i2
  rw [e2] at r2
  obtain ⟨_, _, e3⟩ := Ideal.R_len r2
  have hl := hs _ _ _ e3
  rw [← e2] at r2
  obtain ⟨hc3, ha3⟩ := Ideal.slice_cell Try.underlying80 k3
  obtain ⟨r3, i3⟩ := Ideal.bridge_cell hc3 ha3 plain80 h3
  obtain ⟨x3, a3, l3, c3, e4, n3, m3⟩ := Ideal.flts_tree i3
  rw [e4] at r3
  obtain ⟨_, _, e5⟩ := Ideal.R_len r3
  have hl3 := hs3 _ _ _ e5
  rw [← e4] at r3
  refine Ideal.law_of_EvX (args := #[.agg c1.toArray, Ideal.upA v2, Ideal.upA v3]) okP (Ideal.noisePartsW m1 w1 q1 q2 m2 m3 (by omega) (by omega)) ⟨rfl, fun i hi => ?_⟩
  match i, hi with
  | 0, _ => exact r1
  | 1, _ => exact r2
  | 2, _ => exact r3
  | n + 3, hi => simp at hi <;> omega

set_option maxRecDepth 100000 in
theorem lifted (os : Os) (started : os.Started) (H : Type) (enc : TypeId × Value → H) :
    ReturnsInHanded {} Try.checked os 14 .any (Rows.noisePartsSpec.pre6 enc Try.prog Try.f14 Rows.noisePartsRow.domain false) (Rows.noisePartsSpec.post enc Try.prog Try.f14 false true false false) := by
  refine returnsInHanded_of_change_sized (C := Try.checked) own started (by kernel_rfl) Try.func14
    (ChangeSpec.witness6 (enc := enc) (C := Try.checked) false ⟨#[], #[.agg #[.int .i64 0, .int .i64 0, .slice none 0 0], .slice none 0 0, .slice none 0 0], []⟩ 8 (by kernel_rfl) (by kernel_rfl) (by kernel_rfl) (by kernel_rfl)) ?_
  intro W base args ds gs before hval0 hW hcnd hsz _
  have hW' := hW
  obtain ⟨p, q, hA0, hV, rfl, hfz, hnd⟩ := hW
  have hA : DataW.TrodAll enc Try.prog W 0 (fun _ => true) true Try.f14.params.toList args.toList ds p := hA0
  rw [Try.params14] at hA
  obtain ⟨v1, v2, v3, d1, d2, d3, p1, p2, p3, rfl, rfl, rfl, h1, h2, h3⟩ := trodAll_three hA
  obtain ⟨rfl, rfl⟩ := trodVars_none hV
  have k1 := hval0 0 24 v1 (by rw [Try.params14]; rfl) rfl
  have k2 := hval0 1 80 v2 (by rw [Try.params14]; rfl) rfl
  have k3 := hval0 2 80 v3 (by rw [Try.params14]; rfl) rfl
  have s1 : ∀ n ∈ d1.weights Try.prog 24, n ≤ reachBytes := fun n hn => by
    rw [Try.params14] at hsz
    have := List.all_eq_true.1 hsz n (DataW.weights_mem_each (j := 0) (t := 24) (d := d1) rfl rfl n hn)
    simpa using this
  have s3 := Ideal.flts_sized k3 h3 (fun elems spare e => by
    subst e
    rw [Try.params14] at hsz
    exact sized_slice hsz (j := 2) rfl rfl Try.underlying80)
  have s2 := Ideal.flts_sized k2 h2 (fun elems spare e => by
    subst e
    rw [Try.params14] at hsz
    exact sized_slice hsz (j := 1) rfl rfl Try.underlying80)
  clear hA0 hval0
  refine (walk k1 k2 k3 s1 s2 s3 h1 h2 h3).mono fun e W' ⟨he, bel⟩ => ?_
  subst he
  have lt : ∀ x ∈ (p1 ++ p2 ++ p3) ++ [], x.block < W.heap.size := fun x hx => by simpa using hW'.lt x hx
  have g1 := Below.trod laid (by kernel_rfl) (of_decide_eq_true (by kernel_rfl)) h1 bel (fun x hx => lt x (by simp [hx]))
  have g2 := Below.trod laid (by kernel_rfl) (of_decide_eq_true (by kernel_rfl)) h2 bel (fun x hx => lt x (by simp [hx]))
  have g3 := Below.trod laid (by kernel_rfl) (of_decide_eq_true (by kernel_rfl)) h3 bel (fun x hx => lt x (by simp [hx]))
  exact ⟨_, rfl, _, _, _, _, _, [], hW', trodAll_mk1 (shut_bool Try.underlying4 _), trodAll_mk3 g1 g2 g3, rfl, bel.frame _, fun h => by cases h⟩

theorem over : Rows.noisePartsRow.holds Try.pinned (OpenSpec.ofChange Rows.noisePartsSpec) :=
  OpenClaim.holds_of_wide 14 Try.f14 rfl rfl rfl rfl rfl rfl rfl ⟨rfl, rfl, rfl, rfl, rfl⟩ rfl rfl rfl rfl rfl (by kernel_rfl) Try.func14 (by kernel_rfl)
    (of_decide_eq_true (by kernel_rfl)) (by unfold Func.isWrapper; first | (rw [if_pos (by decide +kernel)]; kernel_rfl) | (rw [if_neg (by decide +kernel)]; exact ⟨rfl, rfl⟩))
    (fun os started H enc _ => lifted os started H enc)
theorem proved : Rows.NoisePartsSaid := over
end Go.Proofs.Ytbkldjahedmeiaa.noiseParts
namespace Go.Proofs.Ytbkldjahedmeiaa
/-- The row, under a short name, for the claim. -/
theorem noiseParts_holds : Rows.NoisePartsSaid := noiseParts.proved
#print axioms noiseParts_holds
end Go.Proofs.Ytbkldjahedmeiaa
