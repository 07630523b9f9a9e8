/- The law TableauKeeps returns true for every tableau, gate's name, list of qubits, qubit and bit, and its arguments read as they read before. No condition. -/
import Derived.Test.YteloepinfffmgaaRows
import Derived.Test.YteloepinfffmgaaC7
import Derived.WalkKit
import Derived.ProofKit
import Derived.OpenShut
import Derived.Below
import Derived.Carry
namespace Go.Proofs.Yteloepinfffmgaa.tableauKeeps
open Go.ChangeShapes Go.WideShapes Go.ChangeAt Go.RowKit
set_option linter.unusedVariables false

theorem own : ownKnob Try.prog.godebug = none := by kernel_rfl
theorem okP : Ideal.okProg Try.prog = true := by kernel_rfl
theorem laid : laidOutB Try.prog = true := by kernel_rfl
theorem plain24 : Ideal.plainT Try.prog 4 24 = true := by kernel_rfl
theorem under24 : ∃ fs, Try.prog.underlying 24 = some (.struct fs) := ⟨_, Try.underlying24⟩
theorem plain59 : Ideal.plainT Try.prog 2 59 = true := by kernel_rfl

set_option maxRecDepth 100000 in
theorem walk {H : Type} {enc : TypeId × Value → H} {W : World} {base : Nat} {v1 v2 v3 v4 v5 : Value} {d1 d2 d3 d4 d5 : DataW H} {p1 p2 p3 p4 p5 : List MemPlace}
    (k1 : Value.okWide Try.prog W .any base 24 v1) (k2 : Value.okWide Try.prog W .any base 9 v2) (k3 : Value.okWide Try.prog W .any base 59 v3) (k4 : Value.okWide Try.prog W .any base 3 v4) (k5 : Value.okWide Try.prog W .any base 3 v5)
    (h1 : DataW.Trod enc Try.prog W 0 (fun _ => true) true 24 v1 d1 p1) (h2 : DataW.Trod enc Try.prog W 0 (fun _ => true) true 9 v2 d2 p2) (h3 : DataW.Trod enc Try.prog W 0 (fun _ => true) true 59 v3 d3 p3) (h4 : DataW.Trod enc Try.prog W 0 (fun _ => true) true 3 v4 d4 p4) (h5 : DataW.Trod enc Try.prog W 0 (fun _ => true) true 3 v5 d5 p5) :
    Calls Try.prog 6 #[v1, v2, v3, v4, v5] W fun e w' => e = .returned (.bool true) ∧ Below W.heap.size W w' := by
  obtain ⟨fs1, hu1⟩ := under24
  obtain ⟨r1, c1, e1, i1⟩ := Ideal.bridge_struct hu1 plain24 k1 h1
  rw [e1] at r1
  obtain ⟨x1, m1⟩ := Ideal.tab_tree i1
  obtain ⟨x2, rfl⟩ := Ideal.string_arg Try.underlying9 k2
  obtain ⟨hc3, ha3⟩ := Ideal.slice_cell Try.underlying59 k3
  obtain ⟨r3, i3⟩ := Ideal.bridge_cell hc3 ha3 plain59 h3
  obtain ⟨x3, m3⟩ := Ideal.ints_tree i3
  obtain ⟨n4, rfl, _, _, hw4⟩ := open_int Try.underlying3 k4 h4
  have m4 := bounds_i64 hw4
  obtain ⟨n5, rfl, _, _, hw5⟩ := open_int Try.underlying3 k5 h5
  have m5 := bounds_i64 hw5
  refine Ideal.law_of_EvX (args := #[.agg c1.toArray, .string x2, Ideal.upA v3, .int .i64 n4, .int .i64 n5]) okP (Ideal.tableauKeepsW m1.1 m1.2 m3) ⟨rfl, fun i hi => ?_⟩
  match i, hi with
  | 0, _ => exact r1
  | 1, _ => exact Ideal.R_string x2
  | 2, _ => exact r3
  | 3, _ => exact Ideal.flat_R rfl
  | 4, _ => exact Ideal.flat_R rfl
  | n + 5, hi => simp at hi <;> omega
section
variable {H : Type} {enc : TypeId × Value → H} {P : Program} {w : World} {base : Nat} {spare : Nat → Bool} {held : Bool}
theorem args_five {t1 t2 t3 t4 t5 : TypeId} {args : Array Value} {ds : List (DataW H)} {ps : List MemPlace} (h : DataW.TrodAll enc P w base spare held [t1, t2, t3, t4, t5] args.toList ds ps) :
    ∃ v1 v2 v3 v4 v5 d1 d2 d3 d4 d5 p1 p2 p3 p4 p5, args = #[v1, v2, v3, v4, v5] ∧ ds = [d1, d2, d3, d4, d5] ∧ ps = p1 ++ p2 ++ p3 ++ p4 ++ p5 ∧ DataW.Trod enc P w base spare held t1 v1 d1 p1 ∧ DataW.Trod enc P w base spare held t2 v2 d2 p2 ∧ DataW.Trod enc P w base spare held t3 v3 d3 p3 ∧ DataW.Trod enc P w base spare held t4 v4 d4 p4 ∧ DataW.Trod enc P w base spare held t5 v5 d5 p5 := by
  obtain ⟨v1, _, d1, _, p1, _, hargs, rfl, rfl, h1, r⟩ := trodAll_cons h
  obtain ⟨v2, _, d2, _, p2, _, rfl, rfl, rfl, h2, r⟩ := trodAll_cons r
  obtain ⟨v3, _, d3, _, p3, _, rfl, rfl, rfl, h3, r⟩ := trodAll_cons r
  obtain ⟨v4, _, d4, _, p4, _, rfl, rfl, rfl, h4, r⟩ := trodAll_cons r
  obtain ⟨v5, _, d5, _, p5, _, rfl, rfl, rfl, h5, r⟩ := trodAll_cons r
  obtain ⟨rfl, rfl, rfl⟩ := trodAll_nil r
  exact ⟨v1, v2, v3, v4, v5, d1, d2, d3, d4, d5, p1, p2, p3, p4, p5, by cases args; simp_all, rfl, by simp, h1, h2, h3, h4, h5⟩
theorem args_mk5 {t1 t2 t3 t4 t5 : TypeId} {v1 v2 v3 v4 v5 : Value} {d1 d2 d3 d4 d5 : DataW H} {p1 p2 p3 p4 p5 : List MemPlace} (h1 : DataW.Trod enc P w base spare held t1 v1 d1 p1) (h2 : DataW.Trod enc P w base spare held t2 v2 d2 p2) (h3 : DataW.Trod enc P w base spare held t3 v3 d3 p3) (h4 : DataW.Trod enc P w base spare held t4 v4 d4 p4) (h5 : DataW.Trod enc P w base spare held t5 v5 d5 p5) :
    DataW.TrodAll enc P w base spare held [t1, t2, t3, t4, t5] [v1, v2, v3, v4, v5] [d1, d2, d3, d4, d5] (p1 ++ (p2 ++ (p3 ++ (p4 ++ p5)))) := ⟨p1, p2 ++ (p3 ++ (p4 ++ p5)), h1, trodAll_mk4 h2 h3 h4 h5, rfl⟩
end

set_option maxRecDepth 100000 in
theorem lifted (os : Os) (started : os.Started) (H : Type) (enc : TypeId × Value → H) :
    ReturnsInHanded {} Try.checked os 6 .any (Rows.tableauKeepsSpec.pre6 enc Try.prog Try.f6 Rows.tableauKeepsRow.domain false) (Rows.tableauKeepsSpec.post enc Try.prog Try.f6 false true false false) := by
  refine returnsInHanded_of_change (C := Try.checked) own started (by kernel_rfl) Try.func6
    (ChangeSpec.witness6 (enc := enc) (C := Try.checked) false ⟨#[], #[.agg #[.int .i64 0, .slice none 0 0], .string ⟨#[]⟩, .slice none 0 0, .int .i64 0, .int .i64 0], []⟩ 8 (by kernel_rfl) (by kernel_rfl) (by kernel_rfl) (by kernel_rfl)) ?_
  intro W base args ds gs before hval0 hW hcnd _
  have hW' := hW
  obtain ⟨p, q, hA0, hV, rfl, hfz, hnd⟩ := hW
  have hA : DataW.TrodAll enc Try.prog W 0 (fun _ => true) true Try.f6.params.toList args.toList ds p := hA0
  rw [Try.params6] at hA
  obtain ⟨v1, v2, v3, v4, v5, d1, d2, d3, d4, d5, p1, p2, p3, p4, p5, rfl, rfl, rfl, h1, h2, h3, h4, h5⟩ := args_five hA
  obtain ⟨rfl, rfl⟩ := trodVars_none hV
  have k1 := hval0 0 24 v1 (by rw [Try.params6]; rfl) rfl
  have k2 := hval0 1 9 v2 (by rw [Try.params6]; rfl) rfl
  have k3 := hval0 2 59 v3 (by rw [Try.params6]; rfl) rfl
  have k4 := hval0 3 3 v4 (by rw [Try.params6]; rfl) rfl
  have k5 := hval0 4 3 v5 (by rw [Try.params6]; rfl) rfl
  clear hA0 hval0
  refine (walk k1 k2 k3 k4 k5 h1 h2 h3 h4 h5).mono fun e W' ⟨he, bel⟩ => ?_
  subst he
  have lt : ∀ x ∈ (p1 ++ p2 ++ p3 ++ p4 ++ p5) ++ [], x.block < W.heap.size := fun x hx => by simpa using hW'.lt x hx
  have g1 := Below.trod laid (by kernel_rfl) (of_decide_eq_true (by kernel_rfl)) h1 bel (fun x hx => lt x (by simp [hx]))
  have g2 := Below.trod laid (by kernel_rfl) (of_decide_eq_true (by kernel_rfl)) h2 bel (fun x hx => lt x (by simp [hx]))
  have g3 := Below.trod laid (by kernel_rfl) (of_decide_eq_true (by kernel_rfl)) h3 bel (fun x hx => lt x (by simp [hx]))
  have g4 := Below.trod laid (by kernel_rfl) (of_decide_eq_true (by kernel_rfl)) h4 bel (fun x hx => lt x (by simp [hx]))
  have g5 := Below.trod laid (by kernel_rfl) (of_decide_eq_true (by kernel_rfl)) h5 bel (fun x hx => lt x (by simp [hx]))
  exact ⟨_, rfl, _, _, _, _, _, [], hW', trodAll_mk1 (shut_bool Try.underlying4 _), args_mk5 g1 g2 g3 g4 g5, rfl, bel.frame _, fun h => by cases h⟩

theorem over : Rows.tableauKeepsRow.holds Try.pinned (OpenSpec.ofChange Rows.tableauKeepsSpec) :=
  OpenClaim.holds_of_wide 6 Try.f6 rfl rfl rfl rfl rfl rfl rfl ⟨rfl, rfl, rfl, rfl, rfl⟩ rfl rfl rfl rfl rfl (by kernel_rfl) Try.func6 (by kernel_rfl)
    (of_decide_eq_true (by kernel_rfl)) (by unfold Func.isWrapper; first | (rw [if_pos (by decide +kernel)]; kernel_rfl) | (rw [if_neg (by decide +kernel)]; exact ⟨rfl, rfl⟩))
    (fun os started H enc _ => lifted os started H enc)
theorem proved : Rows.TableauKeepsSaid := over
end Go.Proofs.Yteloepinfffmgaa.tableauKeeps
namespace Go.Proofs.Yteloepinfffmgaa
/-- The row, under a short name, for the claim. -/
theorem tableauKeeps_holds : Rows.TableauKeepsSaid := tableauKeeps.proved
#print axioms tableauKeeps_holds
end Go.Proofs.Yteloepinfffmgaa
