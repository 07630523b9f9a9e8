/- Part 8 of what the proof stands on: an interpreter over an ideal memory that is proved sound, steps over it, and contracts of the functions that are called. No condition: no law is claimed here. -/
import Derived.Test.YtggdcgipeijilaaC7
-- Tb
set_option linter.unusedSimpArgs false
set_option linter.unusedVariables false
namespace Go.Ideal
open Go Go.Proofs Go.RowKit
/-! ### Is it so of all operations? -/
def idxF {α : Type} (p : α → Bool) : List α → Nat → Int
  | [], _ => -1
  | r :: rs, i => if p r = true then i else idxF p rs (i + 1)
theorem idxF_any {α : Type} (p : α → Bool) : ∀ (l : List α) (i : Nat), decide (0 ≤ idxF p l i) = l.any p := by
  intro l
  induction l with
  | nil => intro i; simp [idxF]
  | cons a l ih =>
    intro i
    rw [idxF]
    by_cases h : p a = true
    · simp [h]
    · rw [if_neg h, ih]; simp [h]
theorem drop_cons {α : Type} {l : List α} {i : Nat} {a : α} (h : l[i]? = some a) : l.drop i = a :: l.drop (i + 1) := by
  have hi := (List.getElem?_eq_some_iff.1 h).1
  rw [List.drop_eq_getElem_cons hi]
  rw [List.getElem?_eq_getElem hi] at h
  rw [Option.some.inj h]
theorem indexOpsT {os : List OpD} {f : Nat} {a b : List Tr} [c : CallIs Try.prog f] {p : OpD → Bool} (hp : ∀ o ∈ os, Fn Try.prog f ((a ++ [.agg (opCs o)]) ++ b) (fun r => r = boolT (p o))) : Fn Try.prog 116 [.sl 7 (opRows os), .fn f a b] (fun r => r = intT (idxF p os 0)) := by
  refine Fn_of Try.func116 rfl (Nat.le_of_ble_eq_true rfl) (fun X => ?_)
  refine TV_fact 0 (fun F v h => rep_small h) fun hsm => ?_
  rw [show (opRows os).length = os.length by simp [opRows]] at hsm
  repeat (first | refine StepC.go ?_ | intro _ | refine TS_on rfl (by first | rfl | assumption) ?_ | refine TS_off rfl (by first | rfl | assumption) ?_ | refine TS_off_undef rfl ?_ | refine TS_puw (Pu.pick_t (by first | rfl | assumption)) ?_ | refine TS_puw (Pu.pick_f (by first | rfl | assumption)) ?_ | refine TS_puw (Pu.addi (by omega)) ?_ | refine TS_puw (Pu.subi (by omega)) ?_ | refine TS_append (by omega) (fun _ => ?_) | refine TS_append_own (by omega) (fun _ => ?_) | refine TS_makeSlice (by omega) (fun _ => ?_) | refine TV_cond_t (by first | rfl | assumption) ?_ | refine TV_cond_f (by first | rfl | assumption) ?_)
  refine TV_loop (fun d σ B => ∃ i : Nat, d = os.length - i ∧ i ≤ os.length ∧ TGet σ 8 (intT i) ∧ TGet σ 7 (intT os.length) ∧ TGet σ 0 (.sl 7 (opRows os)) ∧ TGet σ 1 (.fn f a b) ∧ SubB [] B ∧ idxF p os 0 = idxF p (os.drop i) i) os.length
    ⟨0, by omega, by omega, inferInstance, tget_as (by simp [opRows]), inferInstance, inferInstance, inferInstance, rfl⟩ ?_
  rintro d σ B ⟨i, rfl, hi, g8, g7, g0, g1, hB, hK⟩
  refine TV_drop _ hB.eq ?_
  repeat' (first | refine StepC.go ?_ | intro _ | refine TS_on rfl (by first | rfl | assumption) ?_ | refine TS_off rfl (by first | rfl | assumption) ?_ | refine TS_off_undef rfl ?_ | refine TS_puw (Pu.pick_t (by first | rfl | assumption)) ?_ | refine TS_puw (Pu.pick_f (by first | rfl | assumption)) ?_ | refine TS_puw (Pu.addi (by omega)) ?_ | refine TS_puw (Pu.subi (by omega)) ?_ | refine TS_append (by omega) (fun _ => ?_) | refine TS_append_own (by omega) (fun _ => ?_) | refine TS_makeSlice (by omega) (fun _ => ?_) | refine TV_cond_t (by first | rfl | assumption) ?_ | refine TV_cond_f (by first | rfl | assumption) ?_ | (refine TV_cond ?_ ?_ <;> intro hc <;> try (cases hc; done)) | (refine TS_guard rfl ?_ ?_ <;> intro hg))
  · have hil : i < os.length := by simp at hc; omega
    obtain ⟨o, ho⟩ : ∃ o, os[i]? = some o := ⟨_, List.getElem?_eq_getElem hil⟩
    have ng : NthG (opRows os) i (opCs o) := .map opCs ho
    rw [drop_cons ho, idxF] at hK
    repeat (first | refine StepC.go ?_ | intro _ | refine TS_on rfl (by first | rfl | assumption) ?_ | refine TS_off rfl (by first | rfl | assumption) ?_ | refine TS_off_undef rfl ?_ | refine TS_puw (Pu.pick_t (by first | rfl | assumption)) ?_ | refine TS_puw (Pu.pick_f (by first | rfl | assumption)) ?_ | refine TS_puw (Pu.addi (by omega)) ?_ | refine TS_puw (Pu.subi (by omega)) ?_ | refine TS_append (by omega) (fun _ => ?_) | refine TS_append_own (by omega) (fun _ => ?_) | refine TS_makeSlice (by omega) (fun _ => ?_) | refine TV_cond_t (by first | rfl | assumption) ?_ | refine TV_cond_f (by first | rfl | assumption) ?_)
    refine TS_callV (hp o (List.mem_of_getElem? ho)) ?_
    rintro _ rfl
    repeat' (first | refine StepC.go ?_ | intro _ | refine TS_on rfl (by first | rfl | assumption) ?_ | refine TS_off rfl (by first | rfl | assumption) ?_ | refine TS_off_undef rfl ?_ | refine TS_puw (Pu.pick_t (by first | rfl | assumption)) ?_ | refine TS_puw (Pu.pick_f (by first | rfl | assumption)) ?_ | refine TS_puw (Pu.addi (by omega)) ?_ | refine TS_puw (Pu.subi (by omega)) ?_ | refine TS_append (by omega) (fun _ => ?_) | refine TS_append_own (by omega) (fun _ => ?_) | refine TS_makeSlice (by omega) (fun _ => ?_) | refine TV_cond_t (by first | rfl | assumption) ?_ | refine TV_cond_f (by first | rfl | assumption) ?_ | (refine TV_cond ?_ ?_ <;> intro hc <;> try (cases hc; done)) | (refine TS_guard rfl ?_ ?_ <;> intro hg))
    · refine retT_1 (.inr rfl) ?_
      simp only [tret]
      rw [hK, if_pos hc]
    · refine ⟨_, ?_, i + 1, rfl, by omega, inferInstance, inferInstance, inferInstance, inferInstance, inferInstance, by rw [hK, if_neg (by rw [hc]; decide)]⟩
      omega
  · have hil : i = os.length := by simp at hc; omega
    refine retT_1 (.inr rfl) ?_
    simp only [tret]
    rw [hK, List.drop_of_length_le (by omega)]; rfl
instance : CallIs Try.prog 116 := .of Try.func116 rfl rfl
theorem anyOpsT {os : List OpD} {f : Nat} {a b : List Tr} [c : CallIs Try.prog f] {p : OpD → Bool} (hp : ∀ o ∈ os, Fn Try.prog f ((a ++ [.agg (opCs o)]) ++ b) (fun r => r = boolT (p o))) : Fn Try.prog 96 [.sl 7 (opRows os), .fn f a b] (fun r => r = boolT (os.any p)) := by
  refine Fn_of Try.func96 rfl (Nat.le_of_ble_eq_true rfl) (fun X => ?_)
  repeat (first | refine StepC.go ?_ | intro _ | refine TS_on rfl (by first | rfl | assumption) ?_ | refine TS_off rfl (by first | rfl | assumption) ?_ | refine TS_off_undef rfl ?_ | refine TS_puw (Pu.pick_t (by first | rfl | assumption)) ?_ | refine TS_puw (Pu.pick_f (by first | rfl | assumption)) ?_ | refine TS_puw (Pu.addi (by omega)) ?_ | refine TS_puw (Pu.subi (by omega)) ?_ | refine TS_append (by omega) (fun _ => ?_) | refine TS_append_own (by omega) (fun _ => ?_) | refine TS_makeSlice (by omega) (fun _ => ?_) | refine TV_cond_t (by first | rfl | assumption) ?_ | refine TV_cond_f (by first | rfl | assumption) ?_)
  refine TS_call (indexOpsT hp) ?_
  rintro _ rfl
  repeat (first | refine StepC.go ?_ | intro _ | refine TS_on rfl (by first | rfl | assumption) ?_ | refine TS_off rfl (by first | rfl | assumption) ?_ | refine TS_off_undef rfl ?_ | refine TS_puw (Pu.pick_t (by first | rfl | assumption)) ?_ | refine TS_puw (Pu.pick_f (by first | rfl | assumption)) ?_ | refine TS_puw (Pu.addi (by omega)) ?_ | refine TS_puw (Pu.subi (by omega)) ?_ | refine TS_append (by omega) (fun _ => ?_) | refine TS_append_own (by omega) (fun _ => ?_) | refine TS_makeSlice (by omega) (fun _ => ?_) | refine TV_cond_t (by first | rfl | assumption) ?_ | refine TV_cond_f (by first | rfl | assumption) ?_)
  refine retT_1 (.inr rfl) ?_
  simp only [tret]
  rw [idxF_any]
instance : CallIs Try.prog 96 := .of Try.func96 rfl rfl
theorem all1T {o : OpD} {f : Nat} {a b : List Tr} [c : CallIs Try.prog f] {p : Bool} (hp : Fn Try.prog f ((a ++ [.agg (opCs o)]) ++ b) (fun r => r = boolT p)) : Fn Try.prog 97 [.agg (opCs o), .pf [.fn f a b]] (fun r => r = boolT (!p)) := by
  refine Fn_of Try.func97 rfl (Nat.le_of_ble_eq_true rfl) (fun X => ?_)
  repeat (first | refine StepC.go ?_ | intro _ | refine TS_on rfl (by first | rfl | assumption) ?_ | refine TS_off rfl (by first | rfl | assumption) ?_ | refine TS_off_undef rfl ?_ | refine TS_puw (Pu.pick_t (by first | rfl | assumption)) ?_ | refine TS_puw (Pu.pick_f (by first | rfl | assumption)) ?_ | refine TS_puw (Pu.addi (by omega)) ?_ | refine TS_puw (Pu.subi (by omega)) ?_ | refine TS_append (by omega) (fun _ => ?_) | refine TS_append_own (by omega) (fun _ => ?_) | refine TS_makeSlice (by omega) (fun _ => ?_) | refine TV_cond_t (by first | rfl | assumption) ?_ | refine TV_cond_f (by first | rfl | assumption) ?_)
  refine TS_callV hp ?_
  rintro _ rfl
  repeat (first | refine StepC.go ?_ | intro _ | refine TS_on rfl (by first | rfl | assumption) ?_ | refine TS_off rfl (by first | rfl | assumption) ?_ | refine TS_off_undef rfl ?_ | refine TS_puw (Pu.pick_t (by first | rfl | assumption)) ?_ | refine TS_puw (Pu.pick_f (by first | rfl | assumption)) ?_ | refine TS_puw (Pu.addi (by omega)) ?_ | refine TS_puw (Pu.subi (by omega)) ?_ | refine TS_append (by omega) (fun _ => ?_) | refine TS_append_own (by omega) (fun _ => ?_) | refine TS_makeSlice (by omega) (fun _ => ?_) | refine TV_cond_t (by first | rfl | assumption) ?_ | refine TV_cond_f (by first | rfl | assumption) ?_)
  exact retT_1 (.inr rfl) rfl
instance : CallIs Try.prog 97 := .of Try.func97 rfl rfl
theorem allT {c : CircD} (hw : CircW c) {f : Nat} {a b : List Tr} [ci : CallIs Try.prog f] {p : OpD → Bool} (hp : ∀ o ∈ c.ops, Fn Try.prog f ((a ++ [.agg (opCs o)]) ++ b) (fun r => r = boolT (p o))) : Fn Try.prog 74 [circT c, .fn f a b] (fun r => r = .tup [boolT (if (checkC c).2 = 0 then c.ops.all p else false), intT (checkC c).2]) := by
  refine Fn_of Try.func74 rfl (Nat.le_of_ble_eq_true rfl) (fun X => ?_)
  repeat (first | refine StepC.go ?_ | intro _ | refine TS_on rfl (by first | rfl | assumption) ?_ | refine TS_off rfl (by first | rfl | assumption) ?_ | refine TS_off_undef rfl ?_ | refine TS_puw (Pu.pick_t (by first | rfl | assumption)) ?_ | refine TS_puw (Pu.pick_f (by first | rfl | assumption)) ?_ | refine TS_puw (Pu.addi (by omega)) ?_ | refine TS_puw (Pu.subi (by omega)) ?_ | refine TS_append (by omega) (fun _ => ?_) | refine TS_append_own (by omega) (fun _ => ?_) | refine TS_makeSlice (by omega) (fun _ => ?_) | refine TV_cond_t (by first | rfl | assumption) ?_ | refine TV_cond_f (by first | rfl | assumption) ?_)
  refine TS_callE (checkT hw) ?_
  repeat' (first | refine StepC.go ?_ | intro _ | refine TS_on rfl (by first | rfl | assumption) ?_ | refine TS_off rfl (by first | rfl | assumption) ?_ | refine TS_off_undef rfl ?_ | refine TS_puw (Pu.pick_t (by first | rfl | assumption)) ?_ | refine TS_puw (Pu.pick_f (by first | rfl | assumption)) ?_ | refine TS_puw (Pu.addi (by omega)) ?_ | refine TS_puw (Pu.subi (by omega)) ?_ | refine TS_append (by omega) (fun _ => ?_) | refine TS_append_own (by omega) (fun _ => ?_) | refine TS_makeSlice (by omega) (fun _ => ?_) | refine TV_cond_t (by first | rfl | assumption) ?_ | refine TV_cond_f (by first | rfl | assumption) ?_ | (refine TV_cond ?_ ?_ <;> intro hc <;> try (cases hc; done)) | (refine TS_guard rfl ?_ ?_ <;> intro hg))
  · refine retT_2 (.inr rfl) ?_
    simp only [tret]
    rw [if_neg (by simpa using hc)]
  · have hck : (checkC c).2 = 0 := by simpa using hc
    refine TS_callE (anyOpsT (p := fun o => !p o) fun o ho => all1T (hp o ho)) ?_
    repeat (first | refine StepC.go ?_ | intro _ | refine TS_on rfl (by first | rfl | assumption) ?_ | refine TS_off rfl (by first | rfl | assumption) ?_ | refine TS_off_undef rfl ?_ | refine TS_puw (Pu.pick_t (by first | rfl | assumption)) ?_ | refine TS_puw (Pu.pick_f (by first | rfl | assumption)) ?_ | refine TS_puw (Pu.addi (by omega)) ?_ | refine TS_puw (Pu.subi (by omega)) ?_ | refine TS_append (by omega) (fun _ => ?_) | refine TS_append_own (by omega) (fun _ => ?_) | refine TS_makeSlice (by omega) (fun _ => ?_) | refine TV_cond_t (by first | rfl | assumption) ?_ | refine TV_cond_f (by first | rfl | assumption) ?_)
    refine retT_2 (.inr rfl) ?_
    simp only [tret]
    rw [if_pos hck, hck]
    simp only [List.any_eq_not_all_not, Bool.not_not]
instance : CallIs Try.prog 74 := .of Try.func74 rfl rfl
def cleanO (o : OpD) : Bool := if o.kind = 1 then !o.iff else false
def cliffO (o : OpD) : Bool := if o.kind = 1 then cliffS o.name else true
theorem clean1T (o : OpD) : Fn Try.prog 75 [.agg (opCs o)] (fun r => r = boolT (cleanO o)) := by
  refine Fn_of Try.func75 rfl (Nat.le_of_ble_eq_true rfl) (fun X => ?_)
  repeat' (first | refine StepC.go ?_ | intro _ | refine TS_on rfl (by first | rfl | assumption) ?_ | refine TS_off rfl (by first | rfl | assumption) ?_ | refine TS_off_undef rfl ?_ | refine TS_puw (Pu.pick_t (by first | rfl | assumption)) ?_ | refine TS_puw (Pu.pick_f (by first | rfl | assumption)) ?_ | refine TS_puw (Pu.addi (by omega)) ?_ | refine TS_puw (Pu.subi (by omega)) ?_ | refine TS_append (by omega) (fun _ => ?_) | refine TS_append_own (by omega) (fun _ => ?_) | refine TS_makeSlice (by omega) (fun _ => ?_) | refine TV_cond_t (by first | rfl | assumption) ?_ | refine TV_cond_f (by first | rfl | assumption) ?_ | (refine TV_cond ?_ ?_ <;> intro hc <;> try (cases hc; done)) | (refine TS_guard rfl ?_ ?_ <;> intro hg))
  all_goals
    refine retT_1 (.inr rfl) ?_
    simp_all [tret, cleanO]
instance : CallIs Try.prog 75 := .of Try.func75 rfl rfl
theorem cliff1T (o : OpD) : Fn Try.prog 76 [.agg (opCs o)] (fun r => r = boolT (cliffO o)) := by
  refine Fn_of Try.func76 rfl (Nat.le_of_ble_eq_true rfl) (fun X => ?_)
  repeat' (first | refine StepC.go ?_ | intro _ | refine TS_on rfl (by first | rfl | assumption) ?_ | refine TS_off rfl (by first | rfl | assumption) ?_ | refine TS_off_undef rfl ?_ | refine TS_puw (Pu.pick_t (by first | rfl | assumption)) ?_ | refine TS_puw (Pu.pick_f (by first | rfl | assumption)) ?_ | refine TS_puw (Pu.addi (by omega)) ?_ | refine TS_puw (Pu.subi (by omega)) ?_ | refine TS_append (by omega) (fun _ => ?_) | refine TS_append_own (by omega) (fun _ => ?_) | refine TS_makeSlice (by omega) (fun _ => ?_) | refine TV_cond_t (by first | rfl | assumption) ?_ | refine TV_cond_f (by first | rfl | assumption) ?_ | (refine TV_cond ?_ ?_ <;> intro hc <;> try (cases hc; done)) | (refine TS_guard rfl ?_ ?_ <;> intro hg))
  · refine TS_callE (cliffT o.name) ?_
    repeat (first | refine StepC.go ?_ | intro _ | refine TS_on rfl (by first | rfl | assumption) ?_ | refine TS_off rfl (by first | rfl | assumption) ?_ | refine TS_off_undef rfl ?_ | refine TS_puw (Pu.pick_t (by first | rfl | assumption)) ?_ | refine TS_puw (Pu.pick_f (by first | rfl | assumption)) ?_ | refine TS_puw (Pu.addi (by omega)) ?_ | refine TS_puw (Pu.subi (by omega)) ?_ | refine TS_append (by omega) (fun _ => ?_) | refine TS_append_own (by omega) (fun _ => ?_) | refine TS_makeSlice (by omega) (fun _ => ?_) | refine TV_cond_t (by first | rfl | assumption) ?_ | refine TV_cond_f (by first | rfl | assumption) ?_)
    refine retT_1 (.inr rfl) ?_
    simp_all [tret, cliffO]
  · refine retT_1 (.inr rfl) ?_
    simp_all [tret, cliffO]
instance : CallIs Try.prog 76 := .of Try.func76 rfl rfl
def allC (c : CircD) (p : OpD → Bool) : Bool × Int := (if (checkC c).2 = 0 then c.ops.all p else false, (checkC c).2)
theorem circCleanT {c : CircD} (hw : CircW c) : Fn Try.prog 50 [circT c] (fun r => r = .tup [boolT (allC c cleanO).1, intT (allC c cleanO).2]) := by
  refine Fn_of Try.func50 rfl (Nat.le_of_ble_eq_true rfl) (fun X => ?_)
  repeat (first | refine StepC.go ?_ | intro _ | refine TS_on rfl (by first | rfl | assumption) ?_ | refine TS_off rfl (by first | rfl | assumption) ?_ | refine TS_off_undef rfl ?_ | refine TS_puw (Pu.pick_t (by first | rfl | assumption)) ?_ | refine TS_puw (Pu.pick_f (by first | rfl | assumption)) ?_ | refine TS_puw (Pu.addi (by omega)) ?_ | refine TS_puw (Pu.subi (by omega)) ?_ | refine TS_append (by omega) (fun _ => ?_) | refine TS_append_own (by omega) (fun _ => ?_) | refine TS_makeSlice (by omega) (fun _ => ?_) | refine TV_cond_t (by first | rfl | assumption) ?_ | refine TV_cond_f (by first | rfl | assumption) ?_)
  refine TS_callE (allT hw (p := cleanO) fun o ho => clean1T o) ?_
  repeat (first | refine StepC.go ?_ | intro _ | refine TS_on rfl (by first | rfl | assumption) ?_ | refine TS_off rfl (by first | rfl | assumption) ?_ | refine TS_off_undef rfl ?_ | refine TS_puw (Pu.pick_t (by first | rfl | assumption)) ?_ | refine TS_puw (Pu.pick_f (by first | rfl | assumption)) ?_ | refine TS_puw (Pu.addi (by omega)) ?_ | refine TS_puw (Pu.subi (by omega)) ?_ | refine TS_append (by omega) (fun _ => ?_) | refine TS_append_own (by omega) (fun _ => ?_) | refine TS_makeSlice (by omega) (fun _ => ?_) | refine TV_cond_t (by first | rfl | assumption) ?_ | refine TV_cond_f (by first | rfl | assumption) ?_)
  exact retT_2 (.inr rfl) rfl
instance : CallIs Try.prog 50 := .of Try.func50 rfl rfl
theorem circCliffT {c : CircD} (hw : CircW c) : Fn Try.prog 51 [circT c] (fun r => r = .tup [boolT (allC c cliffO).1, intT (allC c cliffO).2]) := by
  refine Fn_of Try.func51 rfl (Nat.le_of_ble_eq_true rfl) (fun X => ?_)
  repeat (first | refine StepC.go ?_ | intro _ | refine TS_on rfl (by first | rfl | assumption) ?_ | refine TS_off rfl (by first | rfl | assumption) ?_ | refine TS_off_undef rfl ?_ | refine TS_puw (Pu.pick_t (by first | rfl | assumption)) ?_ | refine TS_puw (Pu.pick_f (by first | rfl | assumption)) ?_ | refine TS_puw (Pu.addi (by omega)) ?_ | refine TS_puw (Pu.subi (by omega)) ?_ | refine TS_append (by omega) (fun _ => ?_) | refine TS_append_own (by omega) (fun _ => ?_) | refine TS_makeSlice (by omega) (fun _ => ?_) | refine TV_cond_t (by first | rfl | assumption) ?_ | refine TV_cond_f (by first | rfl | assumption) ?_)
  refine TS_callE (allT hw (p := cliffO) fun o ho => cliff1T o) ?_
  repeat (first | refine StepC.go ?_ | intro _ | refine TS_on rfl (by first | rfl | assumption) ?_ | refine TS_off rfl (by first | rfl | assumption) ?_ | refine TS_off_undef rfl ?_ | refine TS_puw (Pu.pick_t (by first | rfl | assumption)) ?_ | refine TS_puw (Pu.pick_f (by first | rfl | assumption)) ?_ | refine TS_puw (Pu.addi (by omega)) ?_ | refine TS_puw (Pu.subi (by omega)) ?_ | refine TS_append (by omega) (fun _ => ?_) | refine TS_append_own (by omega) (fun _ => ?_) | refine TS_makeSlice (by omega) (fun _ => ?_) | refine TV_cond_t (by first | rfl | assumption) ?_ | refine TV_cond_f (by first | rfl | assumption) ?_)
  exact retT_2 (.inr rfl) rfl
instance : CallIs Try.prog 51 := .of Try.func51 rfl rfl
end Go.Ideal

-- Tc
set_option linter.unusedSimpArgs false
set_option linter.unusedVariables false
namespace Go.Ideal
open Go Go.Proofs Go.RowKit
/-! ### Which operations are bound -/
def OpP (o : OpD) : Prop := (∀ q ∈ o.qs, 0 ≤ q) ∧ (o.kind = 2 → 0 ≤ o.bit) ∧ OpW o
def bitN (q : Int) : Nat := (1 <<< q.toNat) % 18446744073709551616
def qbS (qs : List Int) : Nat := qs.foldl (fun a q => a ||| bitN q) 0
def wrS (o : OpD) : Nat := if o.kind = 2 then bitN o.bit else 0
def rdS (o : OpD) : Nat := if o.iff then o.mask else 0
instance bitN_lt {q : Int} : Lt64 (bitN q) := ⟨Nat.mod_lt _ (by decide)⟩
theorem qb_lt (qs : List Int) : ∀ a, a < 2 ^ 64 → qs.foldl (fun a q => a ||| bitN q) a < 2 ^ 64 := by
  induction qs with
  | nil => intro a h; exact h
  | cons q qs ih => intro a h; exact ih _ (Nat.or_lt_two_pow h bitN_lt.lt)
instance qbS_lt {qs : List Int} : Lt64 (qbS qs) := ⟨qb_lt qs 0 (by decide)⟩
instance wrS_lt {o : OpD} : Lt64 (wrS o) := ⟨by unfold wrS; split; exact bitN_lt.lt; decide⟩
theorem rdS_lt {o : OpD} (h : OpW o) : Lt64 (rdS o) := ⟨by unfold rdS; split; exact h.1; decide⟩
theorem qbS_take {qs : List Int} {i : Nat} {q : Int} (h : qs[i]? = some q) : qbS (qs.take (i + 1)) = qbS (qs.take i) ||| bitN q := by
  unfold qbS
  rw [List.take_add_one, h]
  simp only [Option.toList_some, List.foldl_append, List.foldl_cons, List.foldl_nil]
theorem asNat_of {z : Int} (h : 0 ≤ z) : AsNat z z.toNat := ⟨(Int.toNat_of_nonneg h).symm⟩
theorem touchedT {o : OpD} (hp : OpP o) : Fn Try.prog 111 [.agg (opCs o)] (fun r => r = .tup [u64T (qbS o.qs), u64T (wrS o), u64T (rdS o), boolT (!decide (o.kind = 1))]) := by
  obtain ⟨hq, hb, hw⟩ := hp
  refine Fn_of Try.func111 rfl (Nat.le_of_ble_eq_true rfl) (fun X => ?_)
  refine TV_fact 0 (fun F v h => by obtain ⟨w, h1⟩ := rep_agg_at h (i := 2) rfl; exact rep_small h1) fun hsm => ?_
  rw [show (intRows o.qs).length = o.qs.length by simp [intRows]] at hsm
  repeat (first | refine StepC.go ?_ | intro _ | refine TS_on rfl (by first | rfl | assumption) ?_ | refine TS_off rfl (by first | rfl | assumption) ?_ | refine TS_off_undef rfl ?_ | refine TS_puw (Pu.pick_t (by first | rfl | assumption)) ?_ | refine TS_puw (Pu.pick_f (by first | rfl | assumption)) ?_ | refine TS_puw (Pu.addi (by omega)) ?_ | refine TS_puw (Pu.subi (by omega)) ?_ | refine TS_append (by omega) (fun _ => ?_) | refine TS_append_own (by omega) (fun _ => ?_) | refine TS_makeSlice (by omega) (fun _ => ?_) | refine TD_take rfl rfl ?_ | refine TD_load rfl rfl ?_ | refine TD_one rfl ?_ | refine FiltT_nil ?_ | refine FiltT_drop rfl ?_ | refine FiltT_keep rfl ?_ | refine TD_off rfl rfl (by first | rfl | assumption) ?_ | refine TD_off_undef rfl rfl ?_ | refine TD_take_on rfl rfl (by first | rfl | assumption) rfl ?_ | refine TD_load_on rfl rfl (by first | rfl | assumption) rfl ?_ | refine TD_loadP_on rfl rfl (by first | rfl | assumption) rfl ?_ | refine TD_takew rfl rfl (Pu.addi (by omega)) ?_ | refine TD_takew rfl rfl (Pu.subi (by omega)) ?_ | refine TD_takew rfl rfl (Pu.pick_t (by first | rfl | assumption)) ?_ | refine TD_takew rfl rfl (Pu.pick_f (by first | rfl | assumption)) ?_ | refine TD_virt rfl rfl rfl (fun _ => ?_) | refine TV_draw (id := 10) (plan := [.take 0, .take 1, .take 2, .take 3, .take 4, .take 5, .take 6, .take 7, .take 8, .take 9]) (by kernel_rfl) ?_ | refine TV_cond_t (by first | rfl | assumption) ?_ | refine TV_cond_f (by first | rfl | assumption) ?_)
  rename_i p
  refine TV_loop (fun d σ B => ∃ i : Nat, d = o.qs.length - i ∧ i ≤ o.qs.length ∧ TGet σ 11 (intT i) ∧ TGet σ 10 (intT o.qs.length) ∧ TGet σ 9 (.sl 1 (intRows o.qs)) ∧ TGet σ 2 (u64T (qbS (o.qs.take i))) ∧ TGet σ 1 (.v (.pointer (some (ad p 0)))) ∧ TGet σ 3 (u64T 0) ∧ TGet σ 4 (u64T 0) ∧ SubB [(p, .cells (opCs o) 122 true)] B) o.qs.length
    ⟨0, by omega, by omega, inferInstance, tget_as (by simp [intRows]), inferInstance, tget_as rfl, inferInstance, tget_as rfl, tget_as rfl, inferInstance⟩ ?_
  rintro d σ B ⟨i, rfl, hi, g11, g10, g9, g2, g1, g3, g4, hB⟩
  refine TV_drop _ hB.eq ?_
  repeat (first | refine StepC.go ?_ | intro _ | refine TS_on rfl (by first | rfl | assumption) ?_ | refine TS_off rfl (by first | rfl | assumption) ?_ | refine TS_off_undef rfl ?_ | refine TS_puw (Pu.pick_t (by first | rfl | assumption)) ?_ | refine TS_puw (Pu.pick_f (by first | rfl | assumption)) ?_ | refine TS_puw (Pu.addi (by omega)) ?_ | refine TS_puw (Pu.subi (by omega)) ?_ | refine TS_append (by omega) (fun _ => ?_) | refine TS_append_own (by omega) (fun _ => ?_) | refine TS_makeSlice (by omega) (fun _ => ?_) | refine TD_take rfl rfl ?_ | refine TD_load rfl rfl ?_ | refine TD_one rfl ?_ | refine FiltT_nil ?_ | refine FiltT_drop rfl ?_ | refine FiltT_keep rfl ?_ | refine TD_off rfl rfl (by first | rfl | assumption) ?_ | refine TD_off_undef rfl rfl ?_ | refine TD_take_on rfl rfl (by first | rfl | assumption) rfl ?_ | refine TD_load_on rfl rfl (by first | rfl | assumption) rfl ?_ | refine TD_loadP_on rfl rfl (by first | rfl | assumption) rfl ?_ | refine TD_takew rfl rfl (Pu.addi (by omega)) ?_ | refine TD_takew rfl rfl (Pu.subi (by omega)) ?_ | refine TD_takew rfl rfl (Pu.pick_t (by first | rfl | assumption)) ?_ | refine TD_takew rfl rfl (Pu.pick_f (by first | rfl | assumption)) ?_ | refine TD_virt rfl rfl rfl (fun _ => ?_) | refine TV_draw (id := 10) (plan := [.take 0, .take 1, .take 2, .take 3, .take 4, .take 5, .take 6, .take 7, .take 8, .take 9]) (by kernel_rfl) ?_ | refine TV_cond_t (by first | rfl | assumption) ?_ | refine TV_cond_f (by first | rfl | assumption) ?_)
  refine TV_cond ?_ ?_ <;> intro hc
  · have hil : i < o.qs.length := by simp at hc; omega
    obtain ⟨q, hq1⟩ : ∃ q, o.qs[i]? = some q := ⟨_, List.getElem?_eq_getElem hil⟩
    have ng : NthG (intRows o.qs) i [intT q] := .map (fun x => [intT x]) hq1
    have hq0 := asNat_of (hq q (List.mem_of_getElem? hq1))
    repeat (first | refine StepC.go ?_ | intro _ | refine TS_on rfl (by first | rfl | assumption) ?_ | refine TS_off rfl (by first | rfl | assumption) ?_ | refine TS_off_undef rfl ?_ | refine TS_puw (Pu.pick_t (by first | rfl | assumption)) ?_ | refine TS_puw (Pu.pick_f (by first | rfl | assumption)) ?_ | refine TS_puw (Pu.addi (by omega)) ?_ | refine TS_puw (Pu.subi (by omega)) ?_ | refine TS_append (by omega) (fun _ => ?_) | refine TS_append_own (by omega) (fun _ => ?_) | refine TS_makeSlice (by omega) (fun _ => ?_) | refine TD_take rfl rfl ?_ | refine TD_load rfl rfl ?_ | refine TD_one rfl ?_ | refine FiltT_nil ?_ | refine FiltT_drop rfl ?_ | refine FiltT_keep rfl ?_ | refine TD_off rfl rfl (by first | rfl | assumption) ?_ | refine TD_off_undef rfl rfl ?_ | refine TD_take_on rfl rfl (by first | rfl | assumption) rfl ?_ | refine TD_load_on rfl rfl (by first | rfl | assumption) rfl ?_ | refine TD_loadP_on rfl rfl (by first | rfl | assumption) rfl ?_ | refine TD_takew rfl rfl (Pu.addi (by omega)) ?_ | refine TD_takew rfl rfl (Pu.subi (by omega)) ?_ | refine TD_takew rfl rfl (Pu.pick_t (by first | rfl | assumption)) ?_ | refine TD_takew rfl rfl (Pu.pick_f (by first | rfl | assumption)) ?_ | refine TD_virt rfl rfl rfl (fun _ => ?_) | refine TV_draw (id := 10) (plan := [.take 0, .take 1, .take 2, .take 3, .take 4, .take 5, .take 6, .take 7, .take 8, .take 9]) (by kernel_rfl) ?_ | refine TV_cond_t (by first | rfl | assumption) ?_ | refine TV_cond_f (by first | rfl | assumption) ?_)
    refine ⟨_, ?_, i + 1, rfl, by omega, inferInstance, inferInstance, inferInstance, tget_as (by rw [qbS_take hq1]; rfl), inferInstance, inferInstance, inferInstance, inferInstance⟩
    omega
  have hil : i = o.qs.length := by simp at hc; omega
  subst hil
  rw [List.take_length] at g2
  repeat (first | refine StepC.go ?_ | intro _ | refine TS_on rfl (by first | rfl | assumption) ?_ | refine TS_off rfl (by first | rfl | assumption) ?_ | refine TS_off_undef rfl ?_ | refine TS_puw (Pu.pick_t (by first | rfl | assumption)) ?_ | refine TS_puw (Pu.pick_f (by first | rfl | assumption)) ?_ | refine TS_puw (Pu.addi (by omega)) ?_ | refine TS_puw (Pu.subi (by omega)) ?_ | refine TS_append (by omega) (fun _ => ?_) | refine TS_append_own (by omega) (fun _ => ?_) | refine TS_makeSlice (by omega) (fun _ => ?_) | refine TD_take rfl rfl ?_ | refine TD_load rfl rfl ?_ | refine TD_one rfl ?_ | refine FiltT_nil ?_ | refine FiltT_drop rfl ?_ | refine FiltT_keep rfl ?_ | refine TD_off rfl rfl (by first | rfl | assumption) ?_ | refine TD_off_undef rfl rfl ?_ | refine TD_take_on rfl rfl (by first | rfl | assumption) rfl ?_ | refine TD_load_on rfl rfl (by first | rfl | assumption) rfl ?_ | refine TD_loadP_on rfl rfl (by first | rfl | assumption) rfl ?_ | refine TD_takew rfl rfl (Pu.addi (by omega)) ?_ | refine TD_takew rfl rfl (Pu.subi (by omega)) ?_ | refine TD_takew rfl rfl (Pu.pick_t (by first | rfl | assumption)) ?_ | refine TD_takew rfl rfl (Pu.pick_f (by first | rfl | assumption)) ?_ | refine TD_virt rfl rfl rfl (fun _ => ?_) | refine TV_draw (id := 10) (plan := [.take 0, .take 1, .take 2, .take 3, .take 4, .take 5, .take 6, .take 7, .take 8, .take 9]) (by kernel_rfl) ?_ | refine TV_cond_t (by first | rfl | assumption) ?_ | refine TV_cond_f (by first | rfl | assumption) ?_)
  refine TV_cut (fun σ B => TGet σ 2 (u64T (qbS o.qs)) ∧ TGet σ 1 (.v (.pointer (some (ad p 0)))) ∧ TGet σ 3 (u64T (wrS o)) ∧ TGet σ 4 (u64T 0) ∧ SubB [(p, .cells (opCs o) 122 true)] B) ?_ ?_
  · refine TV_cond ?_ ?_ <;> intro hc
    · have hk : o.kind = 2 := by simpa using hc
      have := asNat_of (hb hk)
      repeat (first | refine StepC.go ?_ | intro _ | refine TS_on rfl (by first | rfl | assumption) ?_ | refine TS_off rfl (by first | rfl | assumption) ?_ | refine TS_off_undef rfl ?_ | refine TS_puw (Pu.pick_t (by first | rfl | assumption)) ?_ | refine TS_puw (Pu.pick_f (by first | rfl | assumption)) ?_ | refine TS_puw (Pu.addi (by omega)) ?_ | refine TS_puw (Pu.subi (by omega)) ?_ | refine TS_append (by omega) (fun _ => ?_) | refine TS_append_own (by omega) (fun _ => ?_) | refine TS_makeSlice (by omega) (fun _ => ?_) | refine TD_take rfl rfl ?_ | refine TD_load rfl rfl ?_ | refine TD_one rfl ?_ | refine FiltT_nil ?_ | refine FiltT_drop rfl ?_ | refine FiltT_keep rfl ?_ | refine TD_off rfl rfl (by first | rfl | assumption) ?_ | refine TD_off_undef rfl rfl ?_ | refine TD_take_on rfl rfl (by first | rfl | assumption) rfl ?_ | refine TD_load_on rfl rfl (by first | rfl | assumption) rfl ?_ | refine TD_loadP_on rfl rfl (by first | rfl | assumption) rfl ?_ | refine TD_takew rfl rfl (Pu.addi (by omega)) ?_ | refine TD_takew rfl rfl (Pu.subi (by omega)) ?_ | refine TD_takew rfl rfl (Pu.pick_t (by first | rfl | assumption)) ?_ | refine TD_takew rfl rfl (Pu.pick_f (by first | rfl | assumption)) ?_ | refine TD_virt rfl rfl rfl (fun _ => ?_) | refine TV_draw (id := 10) (plan := [.take 0, .take 1, .take 2, .take 3, .take 4, .take 5, .take 6, .take 7, .take 8, .take 9]) (by kernel_rfl) ?_ | refine TV_cond_t (by first | rfl | assumption) ?_ | refine TV_cond_f (by first | rfl | assumption) ?_)
      exact ⟨inferInstance, inferInstance, tget_as (by simp [wrS, hk, bitN]), inferInstance, inferInstance⟩
    · have hk : ¬ o.kind = 2 := by simpa using hc
      repeat (first | refine StepC.go ?_ | intro _ | refine TS_on rfl (by first | rfl | assumption) ?_ | refine TS_off rfl (by first | rfl | assumption) ?_ | refine TS_off_undef rfl ?_ | refine TS_puw (Pu.pick_t (by first | rfl | assumption)) ?_ | refine TS_puw (Pu.pick_f (by first | rfl | assumption)) ?_ | refine TS_puw (Pu.addi (by omega)) ?_ | refine TS_puw (Pu.subi (by omega)) ?_ | refine TS_append (by omega) (fun _ => ?_) | refine TS_append_own (by omega) (fun _ => ?_) | refine TS_makeSlice (by omega) (fun _ => ?_) | refine TD_take rfl rfl ?_ | refine TD_load rfl rfl ?_ | refine TD_one rfl ?_ | refine FiltT_nil ?_ | refine FiltT_drop rfl ?_ | refine FiltT_keep rfl ?_ | refine TD_off rfl rfl (by first | rfl | assumption) ?_ | refine TD_off_undef rfl rfl ?_ | refine TD_take_on rfl rfl (by first | rfl | assumption) rfl ?_ | refine TD_load_on rfl rfl (by first | rfl | assumption) rfl ?_ | refine TD_loadP_on rfl rfl (by first | rfl | assumption) rfl ?_ | refine TD_takew rfl rfl (Pu.addi (by omega)) ?_ | refine TD_takew rfl rfl (Pu.subi (by omega)) ?_ | refine TD_takew rfl rfl (Pu.pick_t (by first | rfl | assumption)) ?_ | refine TD_takew rfl rfl (Pu.pick_f (by first | rfl | assumption)) ?_ | refine TD_virt rfl rfl rfl (fun _ => ?_) | refine TV_draw (id := 10) (plan := [.take 0, .take 1, .take 2, .take 3, .take 4, .take 5, .take 6, .take 7, .take 8, .take 9]) (by kernel_rfl) ?_ | refine TV_cond_t (by first | rfl | assumption) ?_ | refine TV_cond_f (by first | rfl | assumption) ?_)
      exact ⟨inferInstance, inferInstance, tget_as (by simp [wrS, hk]), inferInstance, inferInstance⟩
  rintro σ B ⟨g2, g1, g3, g4, hB⟩
  refine TV_drop _ hB.eq ?_
  repeat' (first | refine StepC.go ?_ | intro _ | refine TS_on rfl (by first | rfl | assumption) ?_ | refine TS_off rfl (by first | rfl | assumption) ?_ | refine TS_off_undef rfl ?_ | refine TS_puw (Pu.pick_t (by first | rfl | assumption)) ?_ | refine TS_puw (Pu.pick_f (by first | rfl | assumption)) ?_ | refine TS_puw (Pu.addi (by omega)) ?_ | refine TS_puw (Pu.subi (by omega)) ?_ | refine TS_append (by omega) (fun _ => ?_) | refine TS_append_own (by omega) (fun _ => ?_) | refine TS_makeSlice (by omega) (fun _ => ?_) | refine TD_take rfl rfl ?_ | refine TD_load rfl rfl ?_ | refine TD_one rfl ?_ | refine FiltT_nil ?_ | refine FiltT_drop rfl ?_ | refine FiltT_keep rfl ?_ | refine TD_off rfl rfl (by first | rfl | assumption) ?_ | refine TD_off_undef rfl rfl ?_ | refine TD_take_on rfl rfl (by first | rfl | assumption) rfl ?_ | refine TD_load_on rfl rfl (by first | rfl | assumption) rfl ?_ | refine TD_loadP_on rfl rfl (by first | rfl | assumption) rfl ?_ | refine TD_takew rfl rfl (Pu.addi (by omega)) ?_ | refine TD_takew rfl rfl (Pu.subi (by omega)) ?_ | refine TD_takew rfl rfl (Pu.pick_t (by first | rfl | assumption)) ?_ | refine TD_takew rfl rfl (Pu.pick_f (by first | rfl | assumption)) ?_ | refine TD_virt rfl rfl rfl (fun _ => ?_) | refine TV_draw (id := 10) (plan := [.take 0, .take 1, .take 2, .take 3, .take 4, .take 5, .take 6, .take 7, .take 8, .take 9]) (by kernel_rfl) ?_ | refine TV_cond_t (by first | rfl | assumption) ?_ | refine TV_cond_f (by first | rfl | assumption) ?_ | (refine TV_cond ?_ ?_ <;> intro hc <;> try (cases hc; done)) | (refine TS_guard rfl ?_ ?_ <;> intro hg) | (refine TD_guard rfl rfl ?_ ?_ <;> intro hg))
  · refine retT_4 (.inr rfl) ?_
    simp only [tret, rdS, hc, if_true]
  · refine retT_4 (.inr rfl) ?_
    simp only [tret, rdS, hc, Bool.false_eq_true, if_false]
instance : CallIs Try.prog 111 := .of Try.func111 rfl rfl
def boundS (a b : OpD) : Bool := decide (qbS a.qs &&& qbS b.qs ≠ 0) || decide (wrS a &&& (wrS b ||| rdS b) ≠ 0) || decide (wrS b &&& rdS a ≠ 0) || (!decide (a.kind = 1) && !decide (b.kind = 1))
theorem nat0 {n : Nat} : decide ((n : Int) = 0) = decide (n = 0) := by
  by_cases h : n = 0
  · subst h; rfl
  · rw [decide_eq_false h, decide_eq_false (by omega)]
theorem boundT {a b : OpD} (ha : OpP a) (hb : OpP b) : Fn Try.prog 90 [.agg (opCs a), .agg (opCs b)] (fun r => r = boolT (boundS a b)) := by
  have := rdS_lt ha.2.2
  have := rdS_lt hb.2.2
  refine Fn_of Try.func90 rfl (Nat.le_of_ble_eq_true rfl) (fun X => ?_)
  repeat (first | refine StepC.go ?_ | intro _ | refine TS_on rfl (by first | rfl | assumption) ?_ | refine TS_off rfl (by first | rfl | assumption) ?_ | refine TS_off_undef rfl ?_ | refine TS_puw (Pu.pick_t (by first | rfl | assumption)) ?_ | refine TS_puw (Pu.pick_f (by first | rfl | assumption)) ?_ | refine TS_puw (Pu.addi (by omega)) ?_ | refine TS_puw (Pu.subi (by omega)) ?_ | refine TS_append (by omega) (fun _ => ?_) | refine TS_append_own (by omega) (fun _ => ?_) | refine TS_makeSlice (by omega) (fun _ => ?_) | refine TV_cond_t (by first | rfl | assumption) ?_ | refine TV_cond_f (by first | rfl | assumption) ?_)
  refine TS_callE (touchedT ha) ?_
  repeat (first | refine StepC.go ?_ | intro _ | refine TS_on rfl (by first | rfl | assumption) ?_ | refine TS_off rfl (by first | rfl | assumption) ?_ | refine TS_off_undef rfl ?_ | refine TS_puw (Pu.pick_t (by first | rfl | assumption)) ?_ | refine TS_puw (Pu.pick_f (by first | rfl | assumption)) ?_ | refine TS_puw (Pu.addi (by omega)) ?_ | refine TS_puw (Pu.subi (by omega)) ?_ | refine TS_append (by omega) (fun _ => ?_) | refine TS_append_own (by omega) (fun _ => ?_) | refine TS_makeSlice (by omega) (fun _ => ?_) | refine TV_cond_t (by first | rfl | assumption) ?_ | refine TV_cond_f (by first | rfl | assumption) ?_)
  refine TS_callE (touchedT hb) ?_
  repeat' (first | refine StepC.go ?_ | intro _ | refine TS_on rfl (by first | rfl | assumption) ?_ | refine TS_off rfl (by first | rfl | assumption) ?_ | refine TS_off_undef rfl ?_ | refine TS_puw (Pu.pick_t (by first | rfl | assumption)) ?_ | refine TS_puw (Pu.pick_f (by first | rfl | assumption)) ?_ | refine TS_puw (Pu.addi (by omega)) ?_ | refine TS_puw (Pu.subi (by omega)) ?_ | refine TS_append (by omega) (fun _ => ?_) | refine TS_append_own (by omega) (fun _ => ?_) | refine TS_makeSlice (by omega) (fun _ => ?_) | refine TV_cond_t (by first | rfl | assumption) ?_ | refine TV_cond_f (by first | rfl | assumption) ?_ | (refine TV_cond ?_ ?_ <;> intro hc <;> try (cases hc; done)) | (refine TS_guard rfl ?_ ?_ <;> intro hg))
  all_goals
    refine retT_1 (.inr rfl) ?_
    simp only [nat0] at *
    simp_all [tret, boundS]
instance : CallIs Try.prog 90 := .of Try.func90 rfl rfl
end Go.Ideal

-- Td
set_option linter.unusedSimpArgs false
set_option linter.unusedVariables false
namespace Go.Ideal
open Go Go.Proofs Go.RowKit
/-! ### Layers -/
instance {xs : List Int} {i : Nat} {z : Int} : SetR (intRows xs) i [intT z] (intRows (xs.set i z)) := ⟨by simp [intRows, List.map_set]⟩
theorem intRows_app (xs ys : List Int) : intRows (xs ++ ys) = intRows xs ++ intRows ys := by simp [intRows]
theorem replicate_int (n : Nat) (z : Int) : List.replicate n [intT z] = intRows (List.replicate n z) := by simp [intRows]
/-- the step of an operation behind others that have theirs -/
def stepK (bd : OpD → OpD → Bool) (o : OpD) : List OpD → List Int → Int → Int
  | a :: os, x :: xs, s => stepK bd o os xs (if s ≤ x ∧ bd a o = true then x + 1 else s)
  | _, _, s => s
def stepsS (bd : OpD → OpD → Bool) (os : List OpD) : Nat → List Int
  | 0 => []
  | n + 1 => stepsS bd os n ++ [stepK bd (os.getD n ⟨0, .empty, [], 0, false, 0, 0⟩) os (stepsS bd os n) 0]
theorem stepsS_len (bd : OpD → OpD → Bool) (os : List OpD) : ∀ n, (stepsS bd os n).length = n := by
  intro n
  induction n with
  | zero => rfl
  | succ n ih => simp [stepsS, ih]
theorem stepK_app (bd : OpD → OpD → Bool) (o a : OpD) (x : Int) : ∀ (os1 : List OpD) (xs1 : List Int) (os2 : List OpD) (xs2 : List Int) (s : Int), os1.length = xs1.length → stepK bd o (os1 ++ a :: os2) (xs1 ++ x :: xs2) s = stepK bd o os2 xs2 (if stepK bd o os1 xs1 s ≤ x ∧ bd a o = true then x + 1 else stepK bd o os1 xs1 s) := by
  intro os1
  induction os1 with
  | nil => intro xs1 os2 xs2 s h; have : xs1 = [] := List.eq_nil_of_length_eq_zero h.symm; subst this; rfl
  | cons b os1 ih =>
    intro xs1 os2 xs2 s h
    cases xs1 with
    | nil => simp at h
    | cons y xs1 => simp only [List.cons_append, stepK]; exact ih xs1 os2 xs2 _ (by simpa using h)
theorem stepK_take (bd : OpD → OpD → Bool) (o : OpD) {os : List OpD} {xs : List Int} {j : Nat} {a : OpD} {x : Int} (ha : os[j]? = some a) (hx : xs[j]? = some x) : stepK bd o (os.take (j + 1)) (xs.take (j + 1)) 0 = if stepK bd o (os.take j) (xs.take j) 0 ≤ x ∧ bd a o = true then x + 1 else stepK bd o (os.take j) (xs.take j) 0 := by
  have hj := (List.getElem?_eq_some_iff.1 ha).1
  have hj2 := (List.getElem?_eq_some_iff.1 hx).1
  rw [List.take_add_one, List.take_add_one, ha, hx]
  simp only [Option.toList_some]
  rw [stepK_app bd o a x _ _ [] [] 0 (by simp; omega)]
  rfl
theorem stepK_bounds (bd : OpD → OpD → Bool) (o : OpD) (L : Int) : ∀ (os : List OpD) (xs : List Int) (s : Int), 0 ≤ s → s ≤ L → (∀ x ∈ xs, 0 ≤ x ∧ x < L) → 0 ≤ stepK bd o os xs s ∧ stepK bd o os xs s ≤ L := by
  intro os
  induction os with
  | nil => intro xs s h0 h1 _; cases xs <;> exact ⟨h0, h1⟩
  | cons a os ih =>
    intro xs s h0 h1 hx
    cases xs with
    | nil => exact ⟨h0, h1⟩
    | cons x xs =>
      simp only [stepK]
      have h2 := hx x List.mem_cons_self
      refine ih xs _ ?_ ?_ (fun y hy => hx y (List.mem_cons_of_mem _ hy))
      · split <;> omega
      · split <;> omega
theorem stepK_short (bd : OpD → OpD → Bool) (o : OpD) : ∀ (os : List OpD) (xs : List Int) (s : Int), stepK bd o os xs s = stepK bd o (os.take xs.length) xs s := by
  intro os
  induction os with
  | nil => intro xs s; simp
  | cons a os ih =>
    intro xs s
    cases xs with
    | nil => rfl
    | cons x xs => simp only [List.length_cons, List.take_succ_cons, stepK]; exact ih xs _
/-- an operation goes into its layer -/
def layS (ls : List (List Int)) (s i : Int) : List (List Int) :=
  let ls' := if s.toNat = ls.length then ls ++ [[]] else ls
  ls'.set s.toNat (ls'.getD s.toNat [] ++ [i])
def laysK : List Int → Int → List (List Int) → List (List Int)
  | [], _, ls => ls
  | s :: ss, i, ls => laysK ss (i + 1) (layS ls s i)
def laysS (ss : List Int) : List (List Int) := laysK ss 0 []
theorem laysK_app (ss ts : List Int) : ∀ (i : Int) (ls : List (List Int)), laysK (ss ++ ts) i ls = laysK ts (i + ss.length) (laysK ss i ls) := by
  induction ss with
  | nil => intro i ls; simp [laysK]
  | cons s ss ih => intro i ls; simp only [List.cons_append, laysK, ih, List.length_cons]; congr 1; omega
def layersC (c : CircD) : List (List Int) × Int := if (checkC c).2 = 0 then (laysS (stepsS boundS c.ops c.ops.length), 0) else ([], (checkC c).2)
def layRowsT (ls : List (List Int)) : List (List Tr) := ls.map fun l => [.sl 1 (intRows l)]
@[reducible] def layT (ls : List (List Int)) : Tr := .sl 1 (layRowsT ls)
/-- lists that are being made, each in a block of its own -/
def famB (e : Nat) (fam : List (Nat × List Int)) : Boxes := fam.map fun x => (x.1, .arr 1 (intRows x.2) e false)
def famR (fam : List (Nat × List Int)) : List (List Tr) := fam.map fun x => [.v (gsv x.1 x.2.length)]
theorem famB_is {e : Nat} {fam : List (Nat × List Int)} {k b : Nat} {l : List Int} (h : fam[k]? = some (b, l)) : BoxIs (famB e fam) b (.arr 1 (intRows l) e false) := ⟨List.mem_map.2 ⟨(b, l), List.mem_of_getElem? h, rfl⟩⟩
theorem famB_in {e : Nat} {fam : List (Nat × List Int)} {k b : Nat} {l : List Int} (h : fam[k]? = some (b, l)) : InKeys (famB e fam) b := ⟨List.mem_map.2 ⟨(b, .arr 1 (intRows l) e false), (famB_is h).mem, rfl⟩⟩
theorem famB_put {e : Nat} {fam : List (Nat × List Int)} {k b : Nat} {l l2 : List Int} (h : fam[k]? = some (b, l)) (b' : Nat) : BoxPut (famB e fam) b b' (.arr 1 (intRows l ++ intRows l2) e false) (famB e (fam.set k (b', l ++ l2))) := ⟨by
  have hk := (List.getElem?_eq_some_iff.1 h).1
  have hd := drop_cons h
  refine ⟨famB e (fam.take k), .arr 1 (intRows l) e false, famB e (fam.drop (k + 1)), ?_, ?_⟩
  · conv => lhs; rw [← List.take_append_drop k fam, hd]
    simp [famB]
  · rw [List.set_eq_take_append_cons_drop, if_pos hk]
    simp [famB, intRows_app]⟩
theorem famR_at {fam : List (Nat × List Int)} {k b : Nat} {l : List Int} (h : fam[k]? = some (b, l)) : NthG (famR fam) k [.v (gsv b l.length)] := ⟨by simp [famR, h]⟩
instance {fam : List (Nat × List Int)} : LenO (famR fam) fam.length := ⟨by simp [famR]⟩
instance {fam : List (Nat × List Int)} : LenT (famR fam) fam.length := ⟨by simp [famR]⟩
theorem famR_frz {B : Boxes} {e : Nat} {fam : List (Nat × List Int)} (hb : ∀ x ∈ fam, BoxIs B x.1 (.arr 1 (intRows x.2) e false)) (hs : ∀ x ∈ fam, x.2.length < 2 ^ 63) : FrzR B (famR fam) (layRowsT (fam.map Prod.snd)) := ⟨by simp [famR, layRowsT], fun i row hr => by
  simp only [famR, List.getElem?_map, Option.map_eq_some_iff] at hr
  obtain ⟨x, hx, rfl⟩ := hr
  have hm := List.mem_of_getElem? hx
  have := hb x hm
  have : Sm63 x.2.length := ⟨hs x hm⟩
  refine ⟨[.sl 1 (intRows x.2)], by simp [layRowsT, hx], ?_⟩
  have : FrzL B [.v (gsv x.1 x.2.length)] [.sl 1 (intRows x.2)] := inferInstance
  exact this.eq⟩
theorem qs_range {o : OpD} {q b : Int} (h : faultS o q b = 0) (hq : q ≤ 64) (hb : b ≤ 64) (hw : OpW o) : OpP o := by
  obtain ⟨_, _, _, h4, h5, _⟩ := fault_ok h
  refine ⟨fun x hx => ?_, fun hk => ?_, hw⟩
  · have := List.any_eq_false.1 h4 x hx
    simp [outS] at this
    exact this.1
  · simp only [bitBad, hk] at h5
    simp at h5
    exact h5.1
theorem set_mid {α : Type} (a : List α) (x y : α) (b : List α) {i : Nat} (h : a.length = i) : (a ++ x :: b).set i y = a ++ y :: b := by
  subst h; simp
set_option maxHeartbeats 2000000 in
theorem layersT {c : CircD} (hw : CircW c) : Fn Try.prog 67 [circT c] (fun r => r = .tup [layT (layersC c).1, intT (layersC c).2]) := by
  refine Fn_of Try.func67 rfl (Nat.le_of_ble_eq_true rfl) (fun X => ?_)
  repeat (first | refine StepC.go ?_ | intro _ | refine TS_on rfl (by first | rfl | assumption) ?_ | refine TS_off rfl (by first | rfl | assumption) ?_ | refine TS_off_undef rfl ?_ | refine TS_puw (Pu.pick_t (by first | rfl | assumption)) ?_ | refine TS_puw (Pu.pick_f (by first | rfl | assumption)) ?_ | refine TS_puw (Pu.addi (by omega)) ?_ | refine TS_puw (Pu.subi (by omega)) ?_ | refine TS_append (by omega) (fun _ => ?_) | refine TS_append_own (by omega) (fun _ => ?_) | refine TS_makeSlice (by omega) (fun _ => ?_) | refine TD_take rfl rfl ?_ | refine TD_load rfl rfl ?_ | refine TD_one rfl ?_ | refine FiltT_nil ?_ | refine FiltT_drop rfl ?_ | refine FiltT_keep rfl ?_ | refine TD_off rfl rfl (by first | rfl | assumption) ?_ | refine TD_off_undef rfl rfl ?_ | refine TD_take_on rfl rfl (by first | rfl | assumption) rfl ?_ | refine TD_load_on rfl rfl (by first | rfl | assumption) rfl ?_ | refine TD_loadP_on rfl rfl (by first | rfl | assumption) rfl ?_ | refine TD_takew rfl rfl (Pu.addi (by omega)) ?_ | refine TD_takew rfl rfl (Pu.subi (by omega)) ?_ | refine TD_takew rfl rfl (Pu.pick_t (by first | rfl | assumption)) ?_ | refine TD_takew rfl rfl (Pu.pick_f (by first | rfl | assumption)) ?_ | refine TD_virt rfl rfl rfl (fun _ => ?_) | refine TV_draw (id := 12) (plan := [.take 0, .take 1, .take 2, .take 3, .take 4, .take 5, .take 6, .take 7, .take 8, .take 9, .take 10, .take 11, .take 12, .take 13, .take 14, .take 15, .one 16, .take 17]) (by kernel_rfl) ?_ | refine TV_draw (id := 17) (plan := [.take 0, .take 1, .take 2, .take 3, .take 4, .take 5, .take 6, .take 7, .take 8, .take 9, .take 10, .take 11, .take 12, .one 13, .one 14, .take 15, .one 16]) (by kernel_rfl) ?_ | refine TV_cond_t (by first | rfl | assumption) ?_ | refine TV_cond_f (by first | rfl | assumption) ?_)
  rename_i p
  refine TS_callE (checkT hw) ?_
  repeat (first | refine StepC.go ?_ | intro _ | refine TS_on rfl (by first | rfl | assumption) ?_ | refine TS_off rfl (by first | rfl | assumption) ?_ | refine TS_off_undef rfl ?_ | refine TS_puw (Pu.pick_t (by first | rfl | assumption)) ?_ | refine TS_puw (Pu.pick_f (by first | rfl | assumption)) ?_ | refine TS_puw (Pu.addi (by omega)) ?_ | refine TS_puw (Pu.subi (by omega)) ?_ | refine TS_append (by omega) (fun _ => ?_) | refine TS_append_own (by omega) (fun _ => ?_) | refine TS_makeSlice (by omega) (fun _ => ?_) | refine TD_take rfl rfl ?_ | refine TD_load rfl rfl ?_ | refine TD_one rfl ?_ | refine FiltT_nil ?_ | refine FiltT_drop rfl ?_ | refine FiltT_keep rfl ?_ | refine TD_off rfl rfl (by first | rfl | assumption) ?_ | refine TD_off_undef rfl rfl ?_ | refine TD_take_on rfl rfl (by first | rfl | assumption) rfl ?_ | refine TD_load_on rfl rfl (by first | rfl | assumption) rfl ?_ | refine TD_loadP_on rfl rfl (by first | rfl | assumption) rfl ?_ | refine TD_takew rfl rfl (Pu.addi (by omega)) ?_ | refine TD_takew rfl rfl (Pu.subi (by omega)) ?_ | refine TD_takew rfl rfl (Pu.pick_t (by first | rfl | assumption)) ?_ | refine TD_takew rfl rfl (Pu.pick_f (by first | rfl | assumption)) ?_ | refine TD_virt rfl rfl rfl (fun _ => ?_) | refine TV_draw (id := 12) (plan := [.take 0, .take 1, .take 2, .take 3, .take 4, .take 5, .take 6, .take 7, .take 8, .take 9, .take 10, .take 11, .take 12, .take 13, .take 14, .take 15, .one 16, .take 17]) (by kernel_rfl) ?_ | refine TV_draw (id := 17) (plan := [.take 0, .take 1, .take 2, .take 3, .take 4, .take 5, .take 6, .take 7, .take 8, .take 9, .take 10, .take 11, .take 12, .one 13, .one 14, .take 15, .one 16]) (by kernel_rfl) ?_ | refine TV_cond_t (by first | rfl | assumption) ?_ | refine TV_cond_f (by first | rfl | assumption) ?_)
  refine TV_cond ?_ ?_ <;> intro hc
  · repeat (first | refine StepC.go ?_ | intro _ | refine TS_on rfl (by first | rfl | assumption) ?_ | refine TS_off rfl (by first | rfl | assumption) ?_ | refine TS_off_undef rfl ?_ | refine TS_puw (Pu.pick_t (by first | rfl | assumption)) ?_ | refine TS_puw (Pu.pick_f (by first | rfl | assumption)) ?_ | refine TS_puw (Pu.addi (by omega)) ?_ | refine TS_puw (Pu.subi (by omega)) ?_ | refine TS_append (by omega) (fun _ => ?_) | refine TS_append_own (by omega) (fun _ => ?_) | refine TS_makeSlice (by omega) (fun _ => ?_) | refine TD_take rfl rfl ?_ | refine TD_load rfl rfl ?_ | refine TD_one rfl ?_ | refine FiltT_nil ?_ | refine FiltT_drop rfl ?_ | refine FiltT_keep rfl ?_ | refine TD_off rfl rfl (by first | rfl | assumption) ?_ | refine TD_off_undef rfl rfl ?_ | refine TD_take_on rfl rfl (by first | rfl | assumption) rfl ?_ | refine TD_load_on rfl rfl (by first | rfl | assumption) rfl ?_ | refine TD_loadP_on rfl rfl (by first | rfl | assumption) rfl ?_ | refine TD_takew rfl rfl (Pu.addi (by omega)) ?_ | refine TD_takew rfl rfl (Pu.subi (by omega)) ?_ | refine TD_takew rfl rfl (Pu.pick_t (by first | rfl | assumption)) ?_ | refine TD_takew rfl rfl (Pu.pick_f (by first | rfl | assumption)) ?_ | refine TD_virt rfl rfl rfl (fun _ => ?_) | refine TV_draw (id := 12) (plan := [.take 0, .take 1, .take 2, .take 3, .take 4, .take 5, .take 6, .take 7, .take 8, .take 9, .take 10, .take 11, .take 12, .take 13, .take 14, .take 15, .one 16, .take 17]) (by kernel_rfl) ?_ | refine TV_draw (id := 17) (plan := [.take 0, .take 1, .take 2, .take 3, .take 4, .take 5, .take 6, .take 7, .take 8, .take 9, .take 10, .take 11, .take 12, .one 13, .one 14, .take 15, .one 16]) (by kernel_rfl) ?_ | refine TV_cond_t (by first | rfl | assumption) ?_ | refine TV_cond_f (by first | rfl | assumption) ?_)
    refine retT_2c [.sl 1 [], intT (checkC c).2] (.inr rfl) ?_
    simp only [tret, layersC]
    rw [if_neg (by simpa using hc)]; rfl
  have hck : (checkC c).2 = 0 := by simpa using hc
  obtain ⟨hr, hlen, hfl⟩ := checkC_ok hck
  obtain ⟨_, hq64, _, hb64⟩ := rangeBad_no hr
  have hop : ∀ o ∈ c.ops, OpP o := fun o ho => qs_range (hfl o ho) hq64 hb64 (hw o ho)
  have hl1 : LenT (opRows c.ops) c.ops.length := inferInstance
  have hl2 := hl1.eq
  repeat (first | refine StepC.go ?_ | intro _ | refine TS_on rfl (by first | rfl | assumption) ?_ | refine TS_off rfl (by first | rfl | assumption) ?_ | refine TS_off_undef rfl ?_ | refine TS_puw (Pu.pick_t (by first | rfl | assumption)) ?_ | refine TS_puw (Pu.pick_f (by first | rfl | assumption)) ?_ | refine TS_puw (Pu.addi (by omega)) ?_ | refine TS_puw (Pu.subi (by omega)) ?_ | refine TS_append (by omega) (fun _ => ?_) | refine TS_append_own (by omega) (fun _ => ?_) | refine TS_makeSlice (by omega) (fun _ => ?_) | refine TD_take rfl rfl ?_ | refine TD_load rfl rfl ?_ | refine TD_one rfl ?_ | refine FiltT_nil ?_ | refine FiltT_drop rfl ?_ | refine FiltT_keep rfl ?_ | refine TD_off rfl rfl (by first | rfl | assumption) ?_ | refine TD_off_undef rfl rfl ?_ | refine TD_take_on rfl rfl (by first | rfl | assumption) rfl ?_ | refine TD_load_on rfl rfl (by first | rfl | assumption) rfl ?_ | refine TD_loadP_on rfl rfl (by first | rfl | assumption) rfl ?_ | refine TD_takew rfl rfl (Pu.addi (by omega)) ?_ | refine TD_takew rfl rfl (Pu.subi (by omega)) ?_ | refine TD_takew rfl rfl (Pu.pick_t (by first | rfl | assumption)) ?_ | refine TD_takew rfl rfl (Pu.pick_f (by first | rfl | assumption)) ?_ | refine TD_virt rfl rfl rfl (fun _ => ?_) | refine TV_draw (id := 12) (plan := [.take 0, .take 1, .take 2, .take 3, .take 4, .take 5, .take 6, .take 7, .take 8, .take 9, .take 10, .take 11, .take 12, .take 13, .take 14, .take 15, .one 16, .take 17]) (by kernel_rfl) ?_ | refine TV_draw (id := 17) (plan := [.take 0, .take 1, .take 2, .take 3, .take 4, .take 5, .take 6, .take 7, .take 8, .take 9, .take 10, .take 11, .take 12, .one 13, .one 14, .take 15, .one 16]) (by kernel_rfl) ?_ | refine TV_cond_t (by first | rfl | assumption) ?_ | refine TV_cond_f (by first | rfl | assumption) ?_)
  rename_i bs
  rw [hl2, replicate_int]
  obtain ⟨n, hn⟩ : ∃ n, n = c.ops.length := ⟨_, rfl⟩
  rw [← hn]
  refine TV_ghost 1 66 ?_
  intro bl
  have hstep0 : stepsS boundS c.ops 0 = [] := rfl
  refine TV_loop (fun d σ B => ∃ (i : Nat) (bl : Nat) (fam : List (Nat × List Int)), d = n - i ∧ i ≤ n ∧ TGet σ 26 (intT i) ∧ TGet σ 25 (intT n) ∧ TGet σ 24 (.sl 7 (opRows c.ops)) ∧ TGet σ 1 (.v (.pointer (some (ad p 0)))) ∧ TGet σ 7 (.v (.slice (some (ad bs 0)) n n)) ∧ TGet σ 6 (.v (gsv bl fam.length)) ∧
      SubP B ((p, .cells (circCs c) 82 true) :: (bs, .arr 1 (intRows (stepsS boundS c.ops i ++ List.replicate (n - i) 0)) 3 true) :: (bl, .arr 1 (famR fam) 66 false) :: famB 3 fam) ∧
      fam.map Prod.snd = laysS (stepsS boundS c.ops i) ∧ (∀ x ∈ stepsS boundS c.ops i, 0 ≤ x ∧ x < fam.length) ∧ fam.length ≤ i ∧ ∀ x ∈ fam, x.2.length ≤ i) n
    ⟨0, bl, [], by omega, by omega, inferInstance, inferInstance, inferInstance, inferInstance, tget_as (by rw [hn]), tget_as rfl, by
      rw [hstep0, List.nil_append, Nat.sub_zero]
      show SubP _ [_, _, (bl, .arr 1 [] 66 false)]
      infer_instance, rfl, by simp [hstep0], by simp, by simp⟩ ?_
  rintro d σ B ⟨i, bl, fam, rfl, hi, g26, g25, g24, g1, g7, g6, hB, hfam, hst, hfl1, hfl2⟩
  refine TV_keep _ (p := hB) ?_
  repeat (first | refine StepC.go ?_ | intro _ | refine TS_on rfl (by first | rfl | assumption) ?_ | refine TS_off rfl (by first | rfl | assumption) ?_ | refine TS_off_undef rfl ?_ | refine TS_puw (Pu.pick_t (by first | rfl | assumption)) ?_ | refine TS_puw (Pu.pick_f (by first | rfl | assumption)) ?_ | refine TS_puw (Pu.addi (by omega)) ?_ | refine TS_puw (Pu.subi (by omega)) ?_ | refine TS_append (by omega) (fun _ => ?_) | refine TS_append_own (by omega) (fun _ => ?_) | refine TS_makeSlice (by omega) (fun _ => ?_) | refine TD_take rfl rfl ?_ | refine TD_load rfl rfl ?_ | refine TD_one rfl ?_ | refine FiltT_nil ?_ | refine FiltT_drop rfl ?_ | refine FiltT_keep rfl ?_ | refine TD_off rfl rfl (by first | rfl | assumption) ?_ | refine TD_off_undef rfl rfl ?_ | refine TD_take_on rfl rfl (by first | rfl | assumption) rfl ?_ | refine TD_load_on rfl rfl (by first | rfl | assumption) rfl ?_ | refine TD_loadP_on rfl rfl (by first | rfl | assumption) rfl ?_ | refine TD_takew rfl rfl (Pu.addi (by omega)) ?_ | refine TD_takew rfl rfl (Pu.subi (by omega)) ?_ | refine TD_takew rfl rfl (Pu.pick_t (by first | rfl | assumption)) ?_ | refine TD_takew rfl rfl (Pu.pick_f (by first | rfl | assumption)) ?_ | refine TD_virt rfl rfl rfl (fun _ => ?_) | refine TV_draw (id := 12) (plan := [.take 0, .take 1, .take 2, .take 3, .take 4, .take 5, .take 6, .take 7, .take 8, .take 9, .take 10, .take 11, .take 12, .take 13, .take 14, .take 15, .one 16, .take 17]) (by kernel_rfl) ?_ | refine TV_draw (id := 17) (plan := [.take 0, .take 1, .take 2, .take 3, .take 4, .take 5, .take 6, .take 7, .take 8, .take 9, .take 10, .take 11, .take 12, .one 13, .one 14, .take 15, .one 16]) (by kernel_rfl) ?_ | refine TV_cond_t (by first | rfl | assumption) ?_ | refine TV_cond_f (by first | rfl | assumption) ?_)
  refine TV_cond ?_ ?_ <;> intro hc2
  · have hil : i < n := by simp at hc2; omega
    obtain ⟨o, ho⟩ : ∃ o, c.ops[i]? = some o := ⟨_, List.getElem?_eq_getElem (by omega)⟩
    have ng : NthG (opRows c.ops) i (opCs o) := .map opCs ho
    have hpo := hop o (List.mem_of_getElem? ho)
    have hsl := stepsS_len boundS c.ops i
    have hrep : List.replicate (n - i) (0 : Int) = 0 :: List.replicate (n - i - 1) 0 := by rw [← List.replicate_succ]; congr 1; omega
    rw [hrep]
    repeat (first | refine StepC.go ?_ | intro _ | refine TS_on rfl (by first | rfl | assumption) ?_ | refine TS_off rfl (by first | rfl | assumption) ?_ | refine TS_off_undef rfl ?_ | refine TS_puw (Pu.pick_t (by first | rfl | assumption)) ?_ | refine TS_puw (Pu.pick_f (by first | rfl | assumption)) ?_ | refine TS_puw (Pu.addi (by omega)) ?_ | refine TS_puw (Pu.subi (by omega)) ?_ | refine TS_append (by omega) (fun _ => ?_) | refine TS_append_own (by omega) (fun _ => ?_) | refine TS_makeSlice (by omega) (fun _ => ?_) | refine TD_take rfl rfl ?_ | refine TD_load rfl rfl ?_ | refine TD_one rfl ?_ | refine FiltT_nil ?_ | refine FiltT_drop rfl ?_ | refine FiltT_keep rfl ?_ | refine TD_off rfl rfl (by first | rfl | assumption) ?_ | refine TD_off_undef rfl rfl ?_ | refine TD_take_on rfl rfl (by first | rfl | assumption) rfl ?_ | refine TD_load_on rfl rfl (by first | rfl | assumption) rfl ?_ | refine TD_loadP_on rfl rfl (by first | rfl | assumption) rfl ?_ | refine TD_takew rfl rfl (Pu.addi (by omega)) ?_ | refine TD_takew rfl rfl (Pu.subi (by omega)) ?_ | refine TD_takew rfl rfl (Pu.pick_t (by first | rfl | assumption)) ?_ | refine TD_takew rfl rfl (Pu.pick_f (by first | rfl | assumption)) ?_ | refine TD_virt rfl rfl rfl (fun _ => ?_) | refine TV_draw (id := 12) (plan := [.take 0, .take 1, .take 2, .take 3, .take 4, .take 5, .take 6, .take 7, .take 8, .take 9, .take 10, .take 11, .take 12, .take 13, .take 14, .take 15, .one 16, .take 17]) (by kernel_rfl) ?_ | refine TV_draw (id := 17) (plan := [.take 0, .take 1, .take 2, .take 3, .take 4, .take 5, .take 6, .take 7, .take 8, .take 9, .take 10, .take 11, .take 12, .one 13, .one 14, .take 15, .one 16]) (by kernel_rfl) ?_ | refine TV_cond_t (by first | rfl | assumption) ?_ | refine TV_cond_f (by first | rfl | assumption) ?_)
    rename_i q
    have hLn : ∀ s : Int, LenT (intRows (stepsS boundS c.ops i ++ s :: List.replicate (n - i - 1) 0)) n := fun s => ⟨by simp [intRows, hsl]; omega⟩
    have hAi : ∀ s : Int, NthG (intRows (stepsS boundS c.ops i ++ s :: List.replicate (n - i - 1) 0)) i [intT s] := fun s => .map (fun x => [intT x]) (by simp [hsl])
    have hSi : ∀ s z : Int, SetR (intRows (stepsS boundS c.ops i ++ s :: List.replicate (n - i - 1) 0)) i [intT z] (intRows (stepsS boundS c.ops i ++ z :: List.replicate (n - i - 1) 0)) := fun s z => ⟨by
      rw [← set_mid (stepsS boundS c.ops i) s z _ hsl]; simp [intRows, List.map_set]⟩
    refine TV_loop (fun d σ B => ∃ (j : Nat) (s : Int), d = i - j ∧ j ≤ i ∧ TGet σ 32 (intT j) ∧ TGet σ 31 (intT i) ∧ TGet σ 8 (intT i) ∧ TGet σ 9 (.v (.pointer (some (ad q 0)))) ∧ TGet σ 26 (intT i) ∧ TGet σ 25 (intT n) ∧ TGet σ 24 (.sl 7 (opRows c.ops)) ∧ TGet σ 1 (.v (.pointer (some (ad p 0)))) ∧ TGet σ 7 (.v (.slice (some (ad bs 0)) n n)) ∧ TGet σ 6 (.v (gsv bl fam.length)) ∧
      SubP B ((q, .cells (opCs o) 122 true) :: (p, .cells (circCs c) 82 true) :: (bs, .arr 1 (intRows (stepsS boundS c.ops i ++ s :: List.replicate (n - i - 1) 0)) 3 true) :: (bl, .arr 1 (famR fam) 66 false) :: famB 3 fam) ∧
      s = stepK boundS o (c.ops.take j) ((stepsS boundS c.ops i).take j) 0) i
      ⟨0, 0, by omega, by omega, inferInstance, inferInstance, inferInstance, inferInstance, inferInstance, inferInstance, inferInstance, inferInstance, inferInstance, inferInstance, inferInstance, by simp [stepK]⟩ ?_
    rintro d σ B ⟨j, s, rfl, hj, g32, g31, g8, g9, g26, g25, g24, g1, g7, g6, hB, hs⟩
    have hsb := stepK_bounds boundS o fam.length (c.ops.take j) ((stepsS boundS c.ops i).take j) 0 (by omega) (by omega) (fun x hx => hst x (List.mem_of_mem_take hx))
    rw [← hs] at hsb
    refine TV_keep _ (p := hB) ?_
    repeat (first | refine StepC.go ?_ | intro _ | refine TS_on rfl (by first | rfl | assumption) ?_ | refine TS_off rfl (by first | rfl | assumption) ?_ | refine TS_off_undef rfl ?_ | refine TS_puw (Pu.pick_t (by first | rfl | assumption)) ?_ | refine TS_puw (Pu.pick_f (by first | rfl | assumption)) ?_ | refine TS_puw (Pu.addi (by omega)) ?_ | refine TS_puw (Pu.subi (by omega)) ?_ | refine TS_append (by omega) (fun _ => ?_) | refine TS_append_own (by omega) (fun _ => ?_) | refine TS_makeSlice (by omega) (fun _ => ?_) | refine TD_take rfl rfl ?_ | refine TD_load rfl rfl ?_ | refine TD_one rfl ?_ | refine FiltT_nil ?_ | refine FiltT_drop rfl ?_ | refine FiltT_keep rfl ?_ | refine TD_off rfl rfl (by first | rfl | assumption) ?_ | refine TD_off_undef rfl rfl ?_ | refine TD_take_on rfl rfl (by first | rfl | assumption) rfl ?_ | refine TD_load_on rfl rfl (by first | rfl | assumption) rfl ?_ | refine TD_loadP_on rfl rfl (by first | rfl | assumption) rfl ?_ | refine TD_takew rfl rfl (Pu.addi (by omega)) ?_ | refine TD_takew rfl rfl (Pu.subi (by omega)) ?_ | refine TD_takew rfl rfl (Pu.pick_t (by first | rfl | assumption)) ?_ | refine TD_takew rfl rfl (Pu.pick_f (by first | rfl | assumption)) ?_ | refine TD_virt rfl rfl rfl (fun _ => ?_) | refine TV_draw (id := 12) (plan := [.take 0, .take 1, .take 2, .take 3, .take 4, .take 5, .take 6, .take 7, .take 8, .take 9, .take 10, .take 11, .take 12, .take 13, .take 14, .take 15, .one 16, .take 17]) (by kernel_rfl) ?_ | refine TV_draw (id := 17) (plan := [.take 0, .take 1, .take 2, .take 3, .take 4, .take 5, .take 6, .take 7, .take 8, .take 9, .take 10, .take 11, .take 12, .one 13, .one 14, .take 15, .one 16]) (by kernel_rfl) ?_ | refine TV_cond_t (by first | rfl | assumption) ?_ | refine TV_cond_f (by first | rfl | assumption) ?_)
    refine TV_cond ?_ ?_ <;> intro hc3
    · have hji : j < i := by simp at hc3; omega
      obtain ⟨a, ha⟩ : ∃ a, c.ops[j]? = some a := ⟨_, List.getElem?_eq_getElem (by omega)⟩
      obtain ⟨x, hx⟩ : ∃ x, (stepsS boundS c.ops i)[j]? = some x := ⟨_, List.getElem?_eq_getElem (by omega)⟩
      have hxb := hst x (List.mem_of_getElem? hx)
      have nga : NthG (opRows c.ops) j (opCs a) := .map opCs ha
      have hAj : NthG (intRows (stepsS boundS c.ops i ++ s :: List.replicate (n - i - 1) 0)) j [intT x] := .map (fun x => [intT x]) (by rw [List.getElem?_append_left (by omega)]; exact hx)
      have hstep := stepK_take boundS o ha hx
      rw [← hs] at hstep
      iterate 3 refine StepC.go ?_
      refine TV_cut (fun σ B => ∃ s', TGet σ 32 (intT j) ∧ TGet σ 31 (intT i) ∧ TGet σ 8 (intT i) ∧ TGet σ 9 (.v (.pointer (some (ad q 0)))) ∧ TGet σ 26 (intT i) ∧ TGet σ 25 (intT n) ∧ TGet σ 24 (.sl 7 (opRows c.ops)) ∧ TGet σ 1 (.v (.pointer (some (ad p 0)))) ∧ TGet σ 7 (.v (.slice (some (ad bs 0)) n n)) ∧ TGet σ 6 (.v (gsv bl fam.length)) ∧
        SubP B ((q, .cells (opCs o) 122 true) :: (p, .cells (circCs c) 82 true) :: (bs, .arr 1 (intRows (stepsS boundS c.ops i ++ s' :: List.replicate (n - i - 1) 0)) 3 true) :: (bl, .arr 1 (famR fam) 66 false) :: famB 3 fam) ∧
        s' = if s ≤ x ∧ boundS a o = true then x + 1 else s) ?_ ?_
      · have h0 : -9223372036854775808 ≤ x + 1 ∧ x + 1 ≤ 9223372036854775807 := by omega
        repeat (first | refine StepC.go ?_ | intro _ | refine TS_on rfl (by first | rfl | assumption) ?_ | refine TS_off rfl (by first | rfl | assumption) ?_ | refine TS_off_undef rfl ?_ | refine TS_puw (Pu.pick_t (by first | rfl | assumption)) ?_ | refine TS_puw (Pu.pick_f (by first | rfl | assumption)) ?_ | refine TS_puw (Pu.addi (by omega)) ?_ | refine TS_puw (Pu.subi (by omega)) ?_ | refine TS_append (by omega) (fun _ => ?_) | refine TS_append_own (by omega) (fun _ => ?_) | refine TS_makeSlice (by omega) (fun _ => ?_) | refine TD_take rfl rfl ?_ | refine TD_load rfl rfl ?_ | refine TD_one rfl ?_ | refine FiltT_nil ?_ | refine FiltT_drop rfl ?_ | refine FiltT_keep rfl ?_ | refine TD_off rfl rfl (by first | rfl | assumption) ?_ | refine TD_off_undef rfl rfl ?_ | refine TD_take_on rfl rfl (by first | rfl | assumption) rfl ?_ | refine TD_load_on rfl rfl (by first | rfl | assumption) rfl ?_ | refine TD_loadP_on rfl rfl (by first | rfl | assumption) rfl ?_ | refine TD_takew rfl rfl (Pu.addi (by omega)) ?_ | refine TD_takew rfl rfl (Pu.subi (by omega)) ?_ | refine TD_takew rfl rfl (Pu.pick_t (by first | rfl | assumption)) ?_ | refine TD_takew rfl rfl (Pu.pick_f (by first | rfl | assumption)) ?_ | refine TD_virt rfl rfl rfl (fun _ => ?_) | refine TV_draw (id := 12) (plan := [.take 0, .take 1, .take 2, .take 3, .take 4, .take 5, .take 6, .take 7, .take 8, .take 9, .take 10, .take 11, .take 12, .take 13, .take 14, .take 15, .one 16, .take 17]) (by kernel_rfl) ?_ | refine TV_draw (id := 17) (plan := [.take 0, .take 1, .take 2, .take 3, .take 4, .take 5, .take 6, .take 7, .take 8, .take 9, .take 10, .take 11, .take 12, .one 13, .one 14, .take 15, .one 16]) (by kernel_rfl) ?_ | refine TV_cond_t (by first | rfl | assumption) ?_ | refine TV_cond_f (by first | rfl | assumption) ?_)
        refine TD_guard rfl rfl ?_ ?_ <;> intro hg
        · have hsx : s ≤ x := by simpa using hg
          repeat (first | refine StepC.go ?_ | intro _ | refine TS_on rfl (by first | rfl | assumption) ?_ | refine TS_off rfl (by first | rfl | assumption) ?_ | refine TS_off_undef rfl ?_ | refine TS_puw (Pu.pick_t (by first | rfl | assumption)) ?_ | refine TS_puw (Pu.pick_f (by first | rfl | assumption)) ?_ | refine TS_puw (Pu.addi (by omega)) ?_ | refine TS_puw (Pu.subi (by omega)) ?_ | refine TS_append (by omega) (fun _ => ?_) | refine TS_append_own (by omega) (fun _ => ?_) | refine TS_makeSlice (by omega) (fun _ => ?_) | refine TD_take rfl rfl ?_ | refine TD_load rfl rfl ?_ | refine TD_one rfl ?_ | refine FiltT_nil ?_ | refine FiltT_drop rfl ?_ | refine FiltT_keep rfl ?_ | refine TD_off rfl rfl (by first | rfl | assumption) ?_ | refine TD_off_undef rfl rfl ?_ | refine TD_take_on rfl rfl (by first | rfl | assumption) rfl ?_ | refine TD_load_on rfl rfl (by first | rfl | assumption) rfl ?_ | refine TD_loadP_on rfl rfl (by first | rfl | assumption) rfl ?_ | refine TD_takew rfl rfl (Pu.addi (by omega)) ?_ | refine TD_takew rfl rfl (Pu.subi (by omega)) ?_ | refine TD_takew rfl rfl (Pu.pick_t (by first | rfl | assumption)) ?_ | refine TD_takew rfl rfl (Pu.pick_f (by first | rfl | assumption)) ?_ | refine TD_virt rfl rfl rfl (fun _ => ?_) | refine TV_draw (id := 12) (plan := [.take 0, .take 1, .take 2, .take 3, .take 4, .take 5, .take 6, .take 7, .take 8, .take 9, .take 10, .take 11, .take 12, .take 13, .take 14, .take 15, .one 16, .take 17]) (by kernel_rfl) ?_ | refine TV_draw (id := 17) (plan := [.take 0, .take 1, .take 2, .take 3, .take 4, .take 5, .take 6, .take 7, .take 8, .take 9, .take 10, .take 11, .take 12, .one 13, .one 14, .take 15, .one 16]) (by kernel_rfl) ?_ | refine TV_cond_t (by first | rfl | assumption) ?_ | refine TV_cond_f (by first | rfl | assumption) ?_)
          refine TS_callE (boundT (hop a (List.mem_of_getElem? ha)) hpo) ?_
          repeat (first | refine StepC.go ?_ | intro _ | refine TS_on rfl (by first | rfl | assumption) ?_ | refine TS_off rfl (by first | rfl | assumption) ?_ | refine TS_off_undef rfl ?_ | refine TS_puw (Pu.pick_t (by first | rfl | assumption)) ?_ | refine TS_puw (Pu.pick_f (by first | rfl | assumption)) ?_ | refine TS_puw (Pu.addi (by omega)) ?_ | refine TS_puw (Pu.subi (by omega)) ?_ | refine TS_append (by omega) (fun _ => ?_) | refine TS_append_own (by omega) (fun _ => ?_) | refine TS_makeSlice (by omega) (fun _ => ?_) | refine TD_take rfl rfl ?_ | refine TD_load rfl rfl ?_ | refine TD_one rfl ?_ | refine FiltT_nil ?_ | refine FiltT_drop rfl ?_ | refine FiltT_keep rfl ?_ | refine TD_off rfl rfl (by first | rfl | assumption) ?_ | refine TD_off_undef rfl rfl ?_ | refine TD_take_on rfl rfl (by first | rfl | assumption) rfl ?_ | refine TD_load_on rfl rfl (by first | rfl | assumption) rfl ?_ | refine TD_loadP_on rfl rfl (by first | rfl | assumption) rfl ?_ | refine TD_takew rfl rfl (Pu.addi (by omega)) ?_ | refine TD_takew rfl rfl (Pu.subi (by omega)) ?_ | refine TD_takew rfl rfl (Pu.pick_t (by first | rfl | assumption)) ?_ | refine TD_takew rfl rfl (Pu.pick_f (by first | rfl | assumption)) ?_ | refine TD_virt rfl rfl rfl (fun _ => ?_) | refine TV_draw (id := 12) (plan := [.take 0, .take 1, .take 2, .take 3, .take 4, .take 5, .take 6, .take 7, .take 8, .take 9, .take 10, .take 11, .take 12, .take 13, .take 14, .take 15, .one 16, .take 17]) (by kernel_rfl) ?_ | refine TV_draw (id := 17) (plan := [.take 0, .take 1, .take 2, .take 3, .take 4, .take 5, .take 6, .take 7, .take 8, .take 9, .take 10, .take 11, .take 12, .one 13, .one 14, .take 15, .one 16]) (by kernel_rfl) ?_ | refine TV_cond_t (by first | rfl | assumption) ?_ | refine TV_cond_f (by first | rfl | assumption) ?_)
          refine TV_cond ?_ ?_ <;> intro hb
          · have hbd : boundS a o = true := by simpa [hsx] using hb
            repeat (first | refine StepC.go ?_ | intro _ | refine TS_on rfl (by first | rfl | assumption) ?_ | refine TS_off rfl (by first | rfl | assumption) ?_ | refine TS_off_undef rfl ?_ | refine TS_puw (Pu.pick_t (by first | rfl | assumption)) ?_ | refine TS_puw (Pu.pick_f (by first | rfl | assumption)) ?_ | refine TS_puw (Pu.addi (by omega)) ?_ | refine TS_puw (Pu.subi (by omega)) ?_ | refine TS_append (by omega) (fun _ => ?_) | refine TS_append_own (by omega) (fun _ => ?_) | refine TS_makeSlice (by omega) (fun _ => ?_) | refine TD_take rfl rfl ?_ | refine TD_load rfl rfl ?_ | refine TD_one rfl ?_ | refine FiltT_nil ?_ | refine FiltT_drop rfl ?_ | refine FiltT_keep rfl ?_ | refine TD_off rfl rfl (by first | rfl | assumption) ?_ | refine TD_off_undef rfl rfl ?_ | refine TD_take_on rfl rfl (by first | rfl | assumption) rfl ?_ | refine TD_load_on rfl rfl (by first | rfl | assumption) rfl ?_ | refine TD_loadP_on rfl rfl (by first | rfl | assumption) rfl ?_ | refine TD_takew rfl rfl (Pu.addi (by omega)) ?_ | refine TD_takew rfl rfl (Pu.subi (by omega)) ?_ | refine TD_takew rfl rfl (Pu.pick_t (by first | rfl | assumption)) ?_ | refine TD_takew rfl rfl (Pu.pick_f (by first | rfl | assumption)) ?_ | refine TD_virt rfl rfl rfl (fun _ => ?_) | refine TV_draw (id := 12) (plan := [.take 0, .take 1, .take 2, .take 3, .take 4, .take 5, .take 6, .take 7, .take 8, .take 9, .take 10, .take 11, .take 12, .take 13, .take 14, .take 15, .one 16, .take 17]) (by kernel_rfl) ?_ | refine TV_draw (id := 17) (plan := [.take 0, .take 1, .take 2, .take 3, .take 4, .take 5, .take 6, .take 7, .take 8, .take 9, .take 10, .take 11, .take 12, .one 13, .one 14, .take 15, .one 16]) (by kernel_rfl) ?_ | refine TV_cond_t (by first | rfl | assumption) ?_ | refine TV_cond_f (by first | rfl | assumption) ?_)
            exact ⟨x + 1, inferInstance, inferInstance, inferInstance, inferInstance, inferInstance, inferInstance, inferInstance, inferInstance, inferInstance, inferInstance, inferInstance, by rw [if_pos ⟨hsx, hbd⟩]⟩
          · have hbd : ¬ boundS a o = true := by simpa [hsx] using hb
            repeat (first | refine StepC.go ?_ | intro _ | refine TS_on rfl (by first | rfl | assumption) ?_ | refine TS_off rfl (by first | rfl | assumption) ?_ | refine TS_off_undef rfl ?_ | refine TS_puw (Pu.pick_t (by first | rfl | assumption)) ?_ | refine TS_puw (Pu.pick_f (by first | rfl | assumption)) ?_ | refine TS_puw (Pu.addi (by omega)) ?_ | refine TS_puw (Pu.subi (by omega)) ?_ | refine TS_append (by omega) (fun _ => ?_) | refine TS_append_own (by omega) (fun _ => ?_) | refine TS_makeSlice (by omega) (fun _ => ?_) | refine TD_take rfl rfl ?_ | refine TD_load rfl rfl ?_ | refine TD_one rfl ?_ | refine FiltT_nil ?_ | refine FiltT_drop rfl ?_ | refine FiltT_keep rfl ?_ | refine TD_off rfl rfl (by first | rfl | assumption) ?_ | refine TD_off_undef rfl rfl ?_ | refine TD_take_on rfl rfl (by first | rfl | assumption) rfl ?_ | refine TD_load_on rfl rfl (by first | rfl | assumption) rfl ?_ | refine TD_loadP_on rfl rfl (by first | rfl | assumption) rfl ?_ | refine TD_takew rfl rfl (Pu.addi (by omega)) ?_ | refine TD_takew rfl rfl (Pu.subi (by omega)) ?_ | refine TD_takew rfl rfl (Pu.pick_t (by first | rfl | assumption)) ?_ | refine TD_takew rfl rfl (Pu.pick_f (by first | rfl | assumption)) ?_ | refine TD_virt rfl rfl rfl (fun _ => ?_) | refine TV_draw (id := 12) (plan := [.take 0, .take 1, .take 2, .take 3, .take 4, .take 5, .take 6, .take 7, .take 8, .take 9, .take 10, .take 11, .take 12, .take 13, .take 14, .take 15, .one 16, .take 17]) (by kernel_rfl) ?_ | refine TV_draw (id := 17) (plan := [.take 0, .take 1, .take 2, .take 3, .take 4, .take 5, .take 6, .take 7, .take 8, .take 9, .take 10, .take 11, .take 12, .one 13, .one 14, .take 15, .one 16]) (by kernel_rfl) ?_ | refine TV_cond_t (by first | rfl | assumption) ?_ | refine TV_cond_f (by first | rfl | assumption) ?_)
            exact ⟨s, inferInstance, inferInstance, inferInstance, inferInstance, inferInstance, inferInstance, inferInstance, inferInstance, inferInstance, inferInstance, inferInstance, by rw [if_neg fun h => hbd h.2]⟩
        · have hsx : ¬ s ≤ x := by simpa using hg
          repeat (first | refine StepC.go ?_ | intro _ | refine TS_on rfl (by first | rfl | assumption) ?_ | refine TS_off rfl (by first | rfl | assumption) ?_ | refine TS_off_undef rfl ?_ | refine TS_puw (Pu.pick_t (by first | rfl | assumption)) ?_ | refine TS_puw (Pu.pick_f (by first | rfl | assumption)) ?_ | refine TS_puw (Pu.addi (by omega)) ?_ | refine TS_puw (Pu.subi (by omega)) ?_ | refine TS_append (by omega) (fun _ => ?_) | refine TS_append_own (by omega) (fun _ => ?_) | refine TS_makeSlice (by omega) (fun _ => ?_) | refine TD_take rfl rfl ?_ | refine TD_load rfl rfl ?_ | refine TD_one rfl ?_ | refine FiltT_nil ?_ | refine FiltT_drop rfl ?_ | refine FiltT_keep rfl ?_ | refine TD_off rfl rfl (by first | rfl | assumption) ?_ | refine TD_off_undef rfl rfl ?_ | refine TD_take_on rfl rfl (by first | rfl | assumption) rfl ?_ | refine TD_load_on rfl rfl (by first | rfl | assumption) rfl ?_ | refine TD_loadP_on rfl rfl (by first | rfl | assumption) rfl ?_ | refine TD_takew rfl rfl (Pu.addi (by omega)) ?_ | refine TD_takew rfl rfl (Pu.subi (by omega)) ?_ | refine TD_takew rfl rfl (Pu.pick_t (by first | rfl | assumption)) ?_ | refine TD_takew rfl rfl (Pu.pick_f (by first | rfl | assumption)) ?_ | refine TD_virt rfl rfl rfl (fun _ => ?_) | refine TV_draw (id := 12) (plan := [.take 0, .take 1, .take 2, .take 3, .take 4, .take 5, .take 6, .take 7, .take 8, .take 9, .take 10, .take 11, .take 12, .take 13, .take 14, .take 15, .one 16, .take 17]) (by kernel_rfl) ?_ | refine TV_draw (id := 17) (plan := [.take 0, .take 1, .take 2, .take 3, .take 4, .take 5, .take 6, .take 7, .take 8, .take 9, .take 10, .take 11, .take 12, .one 13, .one 14, .take 15, .one 16]) (by kernel_rfl) ?_ | refine TV_cond_t (by first | rfl | assumption) ?_ | refine TV_cond_f (by first | rfl | assumption) ?_)
          exact ⟨s, inferInstance, inferInstance, inferInstance, inferInstance, inferInstance, inferInstance, inferInstance, inferInstance, inferInstance, inferInstance, inferInstance, by rw [if_neg fun h => hsx h.1]⟩
      · rintro σ B ⟨s', g32, g31, g8, g9, g26, g25, g24, g1, g7, g6, hB, hs'⟩
        repeat (first | refine StepC.go ?_ | intro _ | refine TS_on rfl (by first | rfl | assumption) ?_ | refine TS_off rfl (by first | rfl | assumption) ?_ | refine TS_off_undef rfl ?_ | refine TS_puw (Pu.pick_t (by first | rfl | assumption)) ?_ | refine TS_puw (Pu.pick_f (by first | rfl | assumption)) ?_ | refine TS_puw (Pu.addi (by omega)) ?_ | refine TS_puw (Pu.subi (by omega)) ?_ | refine TS_append (by omega) (fun _ => ?_) | refine TS_append_own (by omega) (fun _ => ?_) | refine TS_makeSlice (by omega) (fun _ => ?_) | refine TD_take rfl rfl ?_ | refine TD_load rfl rfl ?_ | refine TD_one rfl ?_ | refine FiltT_nil ?_ | refine FiltT_drop rfl ?_ | refine FiltT_keep rfl ?_ | refine TD_off rfl rfl (by first | rfl | assumption) ?_ | refine TD_off_undef rfl rfl ?_ | refine TD_take_on rfl rfl (by first | rfl | assumption) rfl ?_ | refine TD_load_on rfl rfl (by first | rfl | assumption) rfl ?_ | refine TD_loadP_on rfl rfl (by first | rfl | assumption) rfl ?_ | refine TD_takew rfl rfl (Pu.addi (by omega)) ?_ | refine TD_takew rfl rfl (Pu.subi (by omega)) ?_ | refine TD_takew rfl rfl (Pu.pick_t (by first | rfl | assumption)) ?_ | refine TD_takew rfl rfl (Pu.pick_f (by first | rfl | assumption)) ?_ | refine TD_virt rfl rfl rfl (fun _ => ?_) | refine TV_draw (id := 12) (plan := [.take 0, .take 1, .take 2, .take 3, .take 4, .take 5, .take 6, .take 7, .take 8, .take 9, .take 10, .take 11, .take 12, .take 13, .take 14, .take 15, .one 16, .take 17]) (by kernel_rfl) ?_ | refine TV_draw (id := 17) (plan := [.take 0, .take 1, .take 2, .take 3, .take 4, .take 5, .take 6, .take 7, .take 8, .take 9, .take 10, .take 11, .take 12, .one 13, .one 14, .take 15, .one 16]) (by kernel_rfl) ?_ | refine TV_cond_t (by first | rfl | assumption) ?_ | refine TV_cond_f (by first | rfl | assumption) ?_)
        refine ⟨_, ?_, j + 1, s', rfl, by omega, inferInstance, inferInstance, inferInstance, inferInstance, inferInstance, inferInstance, inferInstance, inferInstance, inferInstance, inferInstance, hB, by rw [hs', hstep]⟩
        omega
    · have hji : j = i := by simp at hc3; omega
      subst hji
      rw [List.take_of_length_le (Nat.le_of_eq hsl)] at hs
      have hgd : c.ops.getD j ⟨0, .empty, [], 0, false, 0, 0⟩ = o := by simp [List.getD, ho]
      have hSs : stepsS boundS c.ops (j + 1) = stepsS boundS c.ops j ++ [s] := by
        rw [stepsS, hgd, stepK_short, hsl, ← hs]
      have hss := asNat_of hsb.1
      repeat (first | refine StepC.go ?_ | intro _ | refine TS_on rfl (by first | rfl | assumption) ?_ | refine TS_off rfl (by first | rfl | assumption) ?_ | refine TS_off_undef rfl ?_ | refine TS_puw (Pu.pick_t (by first | rfl | assumption)) ?_ | refine TS_puw (Pu.pick_f (by first | rfl | assumption)) ?_ | refine TS_puw (Pu.addi (by omega)) ?_ | refine TS_puw (Pu.subi (by omega)) ?_ | refine TS_append (by omega) (fun _ => ?_) | refine TS_append_own (by omega) (fun _ => ?_) | refine TS_makeSlice (by omega) (fun _ => ?_) | refine TD_take rfl rfl ?_ | refine TD_load rfl rfl ?_ | refine TD_one rfl ?_ | refine FiltT_nil ?_ | refine FiltT_drop rfl ?_ | refine FiltT_keep rfl ?_ | refine TD_off rfl rfl (by first | rfl | assumption) ?_ | refine TD_off_undef rfl rfl ?_ | refine TD_take_on rfl rfl (by first | rfl | assumption) rfl ?_ | refine TD_load_on rfl rfl (by first | rfl | assumption) rfl ?_ | refine TD_loadP_on rfl rfl (by first | rfl | assumption) rfl ?_ | refine TD_takew rfl rfl (Pu.addi (by omega)) ?_ | refine TD_takew rfl rfl (Pu.subi (by omega)) ?_ | refine TD_takew rfl rfl (Pu.pick_t (by first | rfl | assumption)) ?_ | refine TD_takew rfl rfl (Pu.pick_f (by first | rfl | assumption)) ?_ | refine TD_virt rfl rfl rfl (fun _ => ?_) | refine TV_draw (id := 12) (plan := [.take 0, .take 1, .take 2, .take 3, .take 4, .take 5, .take 6, .take 7, .take 8, .take 9, .take 10, .take 11, .take 12, .take 13, .take 14, .take 15, .one 16, .take 17]) (by kernel_rfl) ?_ | refine TV_draw (id := 17) (plan := [.take 0, .take 1, .take 2, .take 3, .take 4, .take 5, .take 6, .take 7, .take 8, .take 9, .take 10, .take 11, .take 12, .one 13, .one 14, .take 15, .one 16]) (by kernel_rfl) ?_ | refine TV_cond_t (by first | rfl | assumption) ?_ | refine TV_cond_f (by first | rfl | assumption) ?_)
      refine TV_cut (fun σ B => ∃ (bl : Nat) (fam' : List (Nat × List Int)), TGet σ 8 (intT j) ∧ TGet σ 26 (intT j) ∧ TGet σ 25 (intT n) ∧ TGet σ 24 (.sl 7 (opRows c.ops)) ∧ TGet σ 1 (.v (.pointer (some (ad p 0)))) ∧ TGet σ 7 (.v (.slice (some (ad bs 0)) n n)) ∧ TGet σ 6 (.v (gsv bl fam'.length)) ∧
        SubP B ((p, .cells (circCs c) 82 true) :: (bs, .arr 1 (intRows (stepsS boundS c.ops j ++ s :: List.replicate (n - j - 1) 0)) 3 true) :: (bl, .arr 1 (famR fam') 66 false) :: famB 3 fam') ∧
        fam'.map Prod.snd = (if s.toNat = fam.length then fam.map Prod.snd ++ [[]] else fam.map Prod.snd) ∧ s.toNat < fam'.length ∧ fam.length ≤ fam'.length ∧ fam'.length ≤ j + 1 ∧ ∀ x ∈ fam', x.2.length ≤ j) ?_ ?_
      · refine TV_cond ?_ ?_ <;> intro hs2
        · have hsL : s.toNat = fam.length := by simp at hs2; omega
          refine TV_ghost 1 3 ?_
          intro bg
          repeat (first | refine StepC.go ?_ | intro _ | refine TS_on rfl (by first | rfl | assumption) ?_ | refine TS_off rfl (by first | rfl | assumption) ?_ | refine TS_off_undef rfl ?_ | refine TS_puw (Pu.pick_t (by first | rfl | assumption)) ?_ | refine TS_puw (Pu.pick_f (by first | rfl | assumption)) ?_ | refine TS_puw (Pu.addi (by omega)) ?_ | refine TS_puw (Pu.subi (by omega)) ?_ | refine TS_append (by omega) (fun _ => ?_) | refine TS_append_own (by omega) (fun _ => ?_) | refine TS_makeSlice (by omega) (fun _ => ?_) | refine TD_take rfl rfl ?_ | refine TD_load rfl rfl ?_ | refine TD_one rfl ?_ | refine FiltT_nil ?_ | refine FiltT_drop rfl ?_ | refine FiltT_keep rfl ?_ | refine TD_off rfl rfl (by first | rfl | assumption) ?_ | refine TD_off_undef rfl rfl ?_ | refine TD_take_on rfl rfl (by first | rfl | assumption) rfl ?_ | refine TD_load_on rfl rfl (by first | rfl | assumption) rfl ?_ | refine TD_loadP_on rfl rfl (by first | rfl | assumption) rfl ?_ | refine TD_takew rfl rfl (Pu.addi (by omega)) ?_ | refine TD_takew rfl rfl (Pu.subi (by omega)) ?_ | refine TD_takew rfl rfl (Pu.pick_t (by first | rfl | assumption)) ?_ | refine TD_takew rfl rfl (Pu.pick_f (by first | rfl | assumption)) ?_ | refine TD_virt rfl rfl rfl (fun _ => ?_) | refine TV_draw (id := 12) (plan := [.take 0, .take 1, .take 2, .take 3, .take 4, .take 5, .take 6, .take 7, .take 8, .take 9, .take 10, .take 11, .take 12, .take 13, .take 14, .take 15, .one 16, .take 17]) (by kernel_rfl) ?_ | refine TV_draw (id := 17) (plan := [.take 0, .take 1, .take 2, .take 3, .take 4, .take 5, .take 6, .take 7, .take 8, .take 9, .take 10, .take 11, .take 12, .one 13, .one 14, .take 15, .one 16]) (by kernel_rfl) ?_ | refine TV_cond_t (by first | rfl | assumption) ?_ | refine TV_cond_f (by first | rfl | assumption) ?_)
          have hR : famR fam ++ [[.v (.slice none 0 0)]] = famR (fam ++ [(bg, [])]) := by simp [famR, gsv]
          rw [hR]
          rename_i bl2
          have hF : famB 3 (fam ++ [(bg, [])]) = famB 3 fam ++ [(bg, .arr 1 [] 3 false)] := by simp [famB, intRows]
          refine ⟨bl2, fam ++ [(bg, [])], inferInstance, inferInstance, inferInstance, inferInstance, inferInstance, inferInstance, tget_as (by rw [List.length_append]; rfl), ?_, by rw [if_pos hsL]; simp, by simp; omega, by simp, by simp; omega, ?_⟩
          · rw [hF]
            refine SubP.last (k := (bg, .arr 1 [] 3 false)) (L := (p, .cells (circCs c) 82 true) :: (bs, .arr 1 (intRows (stepsS boundS c.ops j ++ s :: List.replicate (n - j - 1) 0)) 3 true) :: (bl2, .arr 1 (famR (fam ++ [(bg, [])])) 66 false) :: famB 3 fam) ?_
            infer_instance
          · intro x hx
            rcases List.mem_append.1 hx with h1 | h1
            · exact hfl2 x h1
            · simp at h1; subst h1; simp
        · have hsL : ¬ s.toNat = fam.length := by simp at hs2; omega
          repeat (first | refine StepC.go ?_ | intro _ | refine TS_on rfl (by first | rfl | assumption) ?_ | refine TS_off rfl (by first | rfl | assumption) ?_ | refine TS_off_undef rfl ?_ | refine TS_puw (Pu.pick_t (by first | rfl | assumption)) ?_ | refine TS_puw (Pu.pick_f (by first | rfl | assumption)) ?_ | refine TS_puw (Pu.addi (by omega)) ?_ | refine TS_puw (Pu.subi (by omega)) ?_ | refine TS_append (by omega) (fun _ => ?_) | refine TS_append_own (by omega) (fun _ => ?_) | refine TS_makeSlice (by omega) (fun _ => ?_) | refine TD_take rfl rfl ?_ | refine TD_load rfl rfl ?_ | refine TD_one rfl ?_ | refine FiltT_nil ?_ | refine FiltT_drop rfl ?_ | refine FiltT_keep rfl ?_ | refine TD_off rfl rfl (by first | rfl | assumption) ?_ | refine TD_off_undef rfl rfl ?_ | refine TD_take_on rfl rfl (by first | rfl | assumption) rfl ?_ | refine TD_load_on rfl rfl (by first | rfl | assumption) rfl ?_ | refine TD_loadP_on rfl rfl (by first | rfl | assumption) rfl ?_ | refine TD_takew rfl rfl (Pu.addi (by omega)) ?_ | refine TD_takew rfl rfl (Pu.subi (by omega)) ?_ | refine TD_takew rfl rfl (Pu.pick_t (by first | rfl | assumption)) ?_ | refine TD_takew rfl rfl (Pu.pick_f (by first | rfl | assumption)) ?_ | refine TD_virt rfl rfl rfl (fun _ => ?_) | refine TV_draw (id := 12) (plan := [.take 0, .take 1, .take 2, .take 3, .take 4, .take 5, .take 6, .take 7, .take 8, .take 9, .take 10, .take 11, .take 12, .take 13, .take 14, .take 15, .one 16, .take 17]) (by kernel_rfl) ?_ | refine TV_draw (id := 17) (plan := [.take 0, .take 1, .take 2, .take 3, .take 4, .take 5, .take 6, .take 7, .take 8, .take 9, .take 10, .take 11, .take 12, .one 13, .one 14, .take 15, .one 16]) (by kernel_rfl) ?_ | refine TV_cond_t (by first | rfl | assumption) ?_ | refine TV_cond_f (by first | rfl | assumption) ?_)
          exact ⟨bl, fam, inferInstance, inferInstance, inferInstance, inferInstance, inferInstance, inferInstance, inferInstance, inferInstance, by rw [if_neg hsL], by omega, Nat.le_refl _, by omega, hfl2⟩
      · clear hfl2
        rintro σ B ⟨bl, fam', g8, g26, g25, g24, g1, g7, g6, hB, hf1, hf2, hf3, hf4, hfl2⟩
        refine TV_keep _ (p := hB) ?_
        obtain ⟨x, hx⟩ : ∃ x, fam'[s.toNat]? = some x := ⟨_, List.getElem?_eq_getElem hf2⟩
        obtain ⟨bk, lk⟩ := x
        have hlk := hfl2 _ (List.mem_of_getElem? hx)
        simp only at hlk
        have q1 := famB_is (e := 3) hx
        have q2 := famB_in (e := 3) hx
        have q3 : ∀ b', BoxPut (famB 3 fam') bk b' (.arr 1 (intRows lk ++ [[intT (j : Int)]]) 3 false) (famB 3 (fam'.set s.toNat (b', lk ++ [(j : Int)]))) := fun b' => famB_put (l2 := [(j : Int)]) hx b'
        have q4 := famR_at hx
        have q5 : ∀ b', SetR (famR fam') s.toNat [.v (gsv b' (lk.length + 1))] (famR (fam'.set s.toNat (b', lk ++ [(j : Int)]))) := fun b' => ⟨by simp [famR, List.map_set]⟩
        repeat (first | refine StepC.go ?_ | intro _ | refine TS_on rfl (by first | rfl | assumption) ?_ | refine TS_off rfl (by first | rfl | assumption) ?_ | refine TS_off_undef rfl ?_ | refine TS_puw (Pu.pick_t (by first | rfl | assumption)) ?_ | refine TS_puw (Pu.pick_f (by first | rfl | assumption)) ?_ | refine TS_puw (Pu.addi (by omega)) ?_ | refine TS_puw (Pu.subi (by omega)) ?_ | refine TS_append (by omega) (fun _ => ?_) | refine TS_append_own (by omega) (fun _ => ?_) | refine TS_makeSlice (by omega) (fun _ => ?_) | refine TD_take rfl rfl ?_ | refine TD_load rfl rfl ?_ | refine TD_one rfl ?_ | refine FiltT_nil ?_ | refine FiltT_drop rfl ?_ | refine FiltT_keep rfl ?_ | refine TD_off rfl rfl (by first | rfl | assumption) ?_ | refine TD_off_undef rfl rfl ?_ | refine TD_take_on rfl rfl (by first | rfl | assumption) rfl ?_ | refine TD_load_on rfl rfl (by first | rfl | assumption) rfl ?_ | refine TD_loadP_on rfl rfl (by first | rfl | assumption) rfl ?_ | refine TD_takew rfl rfl (Pu.addi (by omega)) ?_ | refine TD_takew rfl rfl (Pu.subi (by omega)) ?_ | refine TD_takew rfl rfl (Pu.pick_t (by first | rfl | assumption)) ?_ | refine TD_takew rfl rfl (Pu.pick_f (by first | rfl | assumption)) ?_ | refine TD_virt rfl rfl rfl (fun _ => ?_) | refine TV_draw (id := 12) (plan := [.take 0, .take 1, .take 2, .take 3, .take 4, .take 5, .take 6, .take 7, .take 8, .take 9, .take 10, .take 11, .take 12, .take 13, .take 14, .take 15, .one 16, .take 17]) (by kernel_rfl) ?_ | refine TV_draw (id := 17) (plan := [.take 0, .take 1, .take 2, .take 3, .take 4, .take 5, .take 6, .take 7, .take 8, .take 9, .take 10, .take 11, .take 12, .one 13, .one 14, .take 15, .one 16]) (by kernel_rfl) ?_ | refine TV_cond_t (by first | rfl | assumption) ?_ | refine TV_cond_f (by first | rfl | assumption) ?_)
        have hr2 : List.replicate (n - (j + 1)) (0 : Int) = List.replicate (n - j - 1) 0 := by congr 1
        rename_i bk2
        refine ⟨_, ?_, j + 1, bl, fam'.set s.toNat (bk2, lk ++ [(j : Int)]), rfl, by omega, inferInstance, inferInstance, inferInstance, inferInstance, inferInstance, tget_as (by rw [List.length_set]), ?_, ?_, ?_, ?_, ?_⟩
        · omega
        · rw [hSs, hr2, List.append_assoc]
          show SubP _ (_ :: (bs, .arr 1 (intRows (stepsS boundS c.ops j ++ s :: List.replicate (n - j - 1) 0)) 3 true) :: _)
          infer_instance
        · rw [hSs, laysS, laysK_app, ← laysS, ← hfam]
          simp only [laysK, layS, hsl, Int.zero_add, List.length_map]
          rw [List.map_set, ← hf1]
          congr 1
          simp [List.getD, hx]
        · rw [hSs, List.length_set]
          intro y hy
          rcases List.mem_append.1 hy with h1 | h1
          · have := hst y h1; omega
          · simp at h1; subst h1; omega
        · rw [List.length_set]; omega
        · intro y hy
          rcases List.mem_or_eq_of_mem_set hy with h1 | rfl
          · have := hfl2 y h1; omega
          · simp; omega
  · have hil : i = n := by simp at hc2; omega
    subst hil
    have : Sm63 fam.length := ⟨by omega⟩
    have hfz := famR_frz (B := (p, .cells (circCs c) 82 true) :: (bs, .arr 1 (intRows (stepsS boundS c.ops i ++ List.replicate (i - i) 0)) 3 true) :: (bl, .arr 1 (famR fam) 66 false) :: famB 3 fam) (e := 3) (fam := fam) (fun x hx => by
      have : BoxIs (famB 3 fam) x.1 (.arr 1 (intRows x.2) 3 false) := ⟨List.mem_map.2 ⟨x, hx, rfl⟩⟩
      infer_instance) (fun x hx => by have := hfl2 x hx; omega)
    repeat (first | refine StepC.go ?_ | intro _ | refine TS_on rfl (by first | rfl | assumption) ?_ | refine TS_off rfl (by first | rfl | assumption) ?_ | refine TS_off_undef rfl ?_ | refine TS_puw (Pu.pick_t (by first | rfl | assumption)) ?_ | refine TS_puw (Pu.pick_f (by first | rfl | assumption)) ?_ | refine TS_puw (Pu.addi (by omega)) ?_ | refine TS_puw (Pu.subi (by omega)) ?_ | refine TS_append (by omega) (fun _ => ?_) | refine TS_append_own (by omega) (fun _ => ?_) | refine TS_makeSlice (by omega) (fun _ => ?_) | refine TD_take rfl rfl ?_ | refine TD_load rfl rfl ?_ | refine TD_one rfl ?_ | refine FiltT_nil ?_ | refine FiltT_drop rfl ?_ | refine FiltT_keep rfl ?_ | refine TD_off rfl rfl (by first | rfl | assumption) ?_ | refine TD_off_undef rfl rfl ?_ | refine TD_take_on rfl rfl (by first | rfl | assumption) rfl ?_ | refine TD_load_on rfl rfl (by first | rfl | assumption) rfl ?_ | refine TD_loadP_on rfl rfl (by first | rfl | assumption) rfl ?_ | refine TD_takew rfl rfl (Pu.addi (by omega)) ?_ | refine TD_takew rfl rfl (Pu.subi (by omega)) ?_ | refine TD_takew rfl rfl (Pu.pick_t (by first | rfl | assumption)) ?_ | refine TD_takew rfl rfl (Pu.pick_f (by first | rfl | assumption)) ?_ | refine TD_virt rfl rfl rfl (fun _ => ?_) | refine TV_draw (id := 12) (plan := [.take 0, .take 1, .take 2, .take 3, .take 4, .take 5, .take 6, .take 7, .take 8, .take 9, .take 10, .take 11, .take 12, .take 13, .take 14, .take 15, .one 16, .take 17]) (by kernel_rfl) ?_ | refine TV_draw (id := 17) (plan := [.take 0, .take 1, .take 2, .take 3, .take 4, .take 5, .take 6, .take 7, .take 8, .take 9, .take 10, .take 11, .take 12, .one 13, .one 14, .take 15, .one 16]) (by kernel_rfl) ?_ | refine TV_cond_t (by first | rfl | assumption) ?_ | refine TV_cond_f (by first | rfl | assumption) ?_)
    refine retT_2 (.inr rfl) ?_
    simp only [tret, layersC]
    rw [if_pos hck, hfam, hn]
instance : CallIs Try.prog 67 := .of Try.func67 rfl rfl
end Go.Ideal

-- Te
set_option linter.unusedSimpArgs false
set_option linter.unusedVariables false
namespace Go.Ideal
open Go Go.Proofs Go.RowKit
/-! ### Copies; the circuit that takes it back -/
theorem cloneIntT (xs : List Int) (hl : xs.length < 2 ^ 36) : Fn Try.prog 113 [.sl 1 (intRows xs)] (fun r => r = .sl 1 (intRows xs)) := by
  refine Fn_of Try.func113 rfl (Nat.le_of_ble_eq_true rfl) (fun X => ?_)
  have : Sm63 (0 + xs.length) := ⟨by omega⟩
  repeat (first | refine StepC.go ?_ | intro _ | refine TS_on rfl (by first | rfl | assumption) ?_ | refine TS_off rfl (by first | rfl | assumption) ?_ | refine TS_off_undef rfl ?_ | refine TS_puw (Pu.pick_t (by first | rfl | assumption)) ?_ | refine TS_puw (Pu.pick_f (by first | rfl | assumption)) ?_ | refine TS_puw (Pu.addi (by omega)) ?_ | refine TS_puw (Pu.subi (by omega)) ?_ | refine TS_append (by omega) (fun _ => ?_) | refine TS_append_own (by omega) (fun _ => ?_) | refine TS_makeSlice (by omega) (fun _ => ?_) | refine TV_cond_t (by first | rfl | assumption) ?_ | refine TV_cond_f (by first | rfl | assumption) ?_)
  refine TS_isnil ?_
  intro b hb
  repeat' (first | refine StepC.go ?_ | intro _ | refine TS_on rfl (by first | rfl | assumption) ?_ | refine TS_off rfl (by first | rfl | assumption) ?_ | refine TS_off_undef rfl ?_ | refine TS_puw (Pu.pick_t (by first | rfl | assumption)) ?_ | refine TS_puw (Pu.pick_f (by first | rfl | assumption)) ?_ | refine TS_puw (Pu.addi (by omega)) ?_ | refine TS_puw (Pu.subi (by omega)) ?_ | refine TS_append (by omega) (fun _ => ?_) | refine TS_append_own (by omega) (fun _ => ?_) | refine TS_makeSlice (by omega) (fun _ => ?_) | refine TV_cond_t (by first | rfl | assumption) ?_ | refine TV_cond_f (by first | rfl | assumption) ?_ | (refine TV_cond ?_ ?_ <;> intro hc <;> try (cases hc; done)) | (refine TS_guard rfl ?_ ?_ <;> intro hg))
  · have : xs = [] := by have := hb hc; simpa [intRows] using this
    subst this
    refine retT_1c [.sl 1 []] (.inr rfl) ?_
    rfl
  · refine retT_1 (.inr rfl) ?_
    rfl
instance : CallIs Try.prog 113 := .of Try.func113 rfl rfl
theorem copiedT (o : OpD) (hl : o.qs.length < 2 ^ 36) : Fn Try.prog 93 [.agg (opCs o)] (fun r => r = .agg (opCs o)) := by
  refine Fn_of Try.func93 rfl (Nat.le_of_ble_eq_true rfl) (fun X => ?_)
  repeat (first | refine StepC.go ?_ | intro _ | refine TS_on rfl (by first | rfl | assumption) ?_ | refine TS_off rfl (by first | rfl | assumption) ?_ | refine TS_off_undef rfl ?_ | refine TS_puw (Pu.pick_t (by first | rfl | assumption)) ?_ | refine TS_puw (Pu.pick_f (by first | rfl | assumption)) ?_ | refine TS_puw (Pu.addi (by omega)) ?_ | refine TS_puw (Pu.subi (by omega)) ?_ | refine TS_append (by omega) (fun _ => ?_) | refine TS_append_own (by omega) (fun _ => ?_) | refine TS_makeSlice (by omega) (fun _ => ?_) | refine TV_cond_t (by first | rfl | assumption) ?_ | refine TV_cond_f (by first | rfl | assumption) ?_)
  refine TS_call (cloneIntT o.qs hl) ?_
  rintro _ rfl
  repeat (first | refine StepC.go ?_ | intro _ | refine TS_on rfl (by first | rfl | assumption) ?_ | refine TS_off rfl (by first | rfl | assumption) ?_ | refine TS_off_undef rfl ?_ | refine TS_puw (Pu.pick_t (by first | rfl | assumption)) ?_ | refine TS_puw (Pu.pick_f (by first | rfl | assumption)) ?_ | refine TS_puw (Pu.addi (by omega)) ?_ | refine TS_puw (Pu.subi (by omega)) ?_ | refine TS_append (by omega) (fun _ => ?_) | refine TS_append_own (by omega) (fun _ => ?_) | refine TS_makeSlice (by omega) (fun _ => ?_) | refine TV_cond_t (by first | rfl | assumption) ?_ | refine TV_cond_f (by first | rfl | assumption) ?_)
  refine retT_1 (.inr rfl) ?_
  rfl
instance : CallIs Try.prog 93 := .of Try.func93 rfl rfl
def gateO (o : OpD) : Bool := decide (o.kind = 1)
theorem inverse1T (o : OpD) : Fn Try.prog 91 [.agg (opCs o)] (fun r => r = boolT (gateO o)) := by
  refine Fn_of Try.func91 rfl (Nat.le_of_ble_eq_true rfl) (fun X => ?_)
  repeat (first | refine StepC.go ?_ | intro _ | refine TS_on rfl (by first | rfl | assumption) ?_ | refine TS_off rfl (by first | rfl | assumption) ?_ | refine TS_off_undef rfl ?_ | refine TS_puw (Pu.pick_t (by first | rfl | assumption)) ?_ | refine TS_puw (Pu.pick_f (by first | rfl | assumption)) ?_ | refine TS_puw (Pu.addi (by omega)) ?_ | refine TS_puw (Pu.subi (by omega)) ?_ | refine TS_append (by omega) (fun _ => ?_) | refine TS_append_own (by omega) (fun _ => ?_) | refine TS_makeSlice (by omega) (fun _ => ?_) | refine TV_cond_t (by first | rfl | assumption) ?_ | refine TV_cond_f (by first | rfl | assumption) ?_)
  exact retT_1 (.inr rfl) rfl
instance : CallIs Try.prog 91 := .of Try.func91 rfl rfl
theorem retK_none {P : Program} {E : Env} {s : Nat → Value} {h : IHp} {Φ : Value → IHp → Prop} (k : Φ (.tuple #[]) h) {e : IExit} (he : e = .normal ∨ e = .ret) : retK P E [] Φ e s h := by
  unfold retK; exact ⟨he, [], rfl, k⟩
theorem backOps : BackSpec Try.prog 112 7 := by
  intro y bx off n cap sa cs I h hn hbox helem hbody h0
  refine EvX_of Try.func112 rfl (by show 2 ≤ 19; decide) ?_
  have c0 := hbox n h (Nat.le_refl _) h0
  repeat' (first | (first | refine V_seq ?_ | refine V_region ?_ | refine WS_nil ?_ | refine S_normal ?_ | refine V_block ?_ | refine B_normal ?_ | refine V_skip ?_ | refine V_exit ?_ | refine V_ret ?_ | refine S_exit ?_ | refine S_ret ?_ | refine B_exit ?_ | refine B_ret ?_ | refine B_pass rfl ?_ | refine C_normal ?_ | refine C_exit ?_ | refine C_ret ?_ | refine WS_off rfl (by first | rfl | assumption) ?_ | refine WS_on rfl (by first | rfl | assumption) ?_ | refine WS_move ?_ | refine WS_assign ?_ | refine WS_pick_t (by first | rfl | assumption) ?_ | refine WS_pick_f (by first | rfl | assumption) ?_ | refine WS_isnil ?_ | refine WS_notnil ?_ | refine WS_neq_same ?_ | refine WS_eql_same ?_ | refine WS_streq ?_ | refine WS_strne ?_ | refine WS_booleq ?_ | refine WS_boolne ?_ | refine WS_off_undef rfl ?_ | refine WD_off_undef rfl rfl ?_ | refine WS_cmp rfl ?_ | refine WS_addi (by omega) ?_ | refine WS_subi (by omega) ?_ | refine WS_arith rfl ?_ | refine WS_not ?_ | refine WS_neg ?_ | refine WS_convert ?_ | refine WS_len_slice ?_ | refine WS_len_string ?_ | refine WS_fieldAddr ?_ | refine WS_load ?_ | refine WS_load_agg ?_ | refine WS_box_agg rfl ?_ | refine WS_box rfl ?_ | refine WS_makeFunc ?_ | refine WS_extract ?_ | refine WS_field ?_ | refine WS_build ?_ | refine WS_zero ?_ | refine WS_shift (by first | decide | omega) rfl ?_ | refine WS_strcmp rfl ?_ | refine WS_indexAddr (by first | decide | omega) ?_ | refine WS_alloc ?_ | refine WS_store rfl ?_ | refine WS_buildSlice (by decide) rfl rfl (by simp [Value.cells]) ?_ | refine WDK_go ?_ | refine WDT_go ?_ | refine WD_nil ?_ | refine WD_take_off rfl rfl (by first | rfl | assumption) ?_ | refine WD_load rfl ?_ | refine WD_load_on rfl rfl (by first | rfl | assumption) ?_ | refine WD_load_agg rfl ?_ | refine WD_load_agg_on rfl rfl (by first | rfl | assumption) ?_ | refine WD_take rfl rfl ?_ | refine WD_take_on rfl rfl (by first | rfl | assumption) rfl ?_ | refine WD_drop rfl rfl ?_ | refine WD_filt rfl ?_ | refine Filt_drop rfl ?_ | refine Filt_keep rfl ?_ | refine Filt_nil ?_ | refine WD_one rfl ?_ | refine WD_virt rfl rfl ?_) | (refine WS_guard rfl ?_ ?_ <;> intro hg) | (refine WD_guard rfl rfl ?_ ?_ <;> intro hg) | (refine V_cond_t (by first | rfl | assumption) ?_) | (refine V_cond_f (by first | rfl | assumption) ?_) | (refine V_cond ?_ ?_ <;> intro hc <;> try (cases hc; done)))
  refine V_loop (fun d s h' => ∃ i : Nat, d = i ∧ i ≤ n ∧ Get s 3 (.int .i64 ((i : Int) - 1)) ∧ Get s 0 (.func (.yield y) #[] #[]) ∧ Get s 1 (.pointer (some (ad bx off))) ∧ I i h') n ⟨n, rfl, Nat.le_refl _, get_as rfl, inferInstance, inferInstance, h0⟩ ?_
  rintro d s h' ⟨_, rfl, hi, g3, g0, g1, hI⟩
  cases d with
  | zero =>
    repeat' (first | (first | refine V_seq ?_ | refine V_region ?_ | refine WS_nil ?_ | refine S_normal ?_ | refine V_block ?_ | refine B_normal ?_ | refine V_skip ?_ | refine V_exit ?_ | refine V_ret ?_ | refine S_exit ?_ | refine S_ret ?_ | refine B_exit ?_ | refine B_ret ?_ | refine B_pass rfl ?_ | refine C_normal ?_ | refine C_exit ?_ | refine C_ret ?_ | refine WS_off rfl (by first | rfl | assumption) ?_ | refine WS_on rfl (by first | rfl | assumption) ?_ | refine WS_move ?_ | refine WS_assign ?_ | refine WS_pick_t (by first | rfl | assumption) ?_ | refine WS_pick_f (by first | rfl | assumption) ?_ | refine WS_isnil ?_ | refine WS_notnil ?_ | refine WS_neq_same ?_ | refine WS_eql_same ?_ | refine WS_streq ?_ | refine WS_strne ?_ | refine WS_booleq ?_ | refine WS_boolne ?_ | refine WS_off_undef rfl ?_ | refine WD_off_undef rfl rfl ?_ | refine WS_cmp rfl ?_ | refine WS_addi (by omega) ?_ | refine WS_subi (by omega) ?_ | refine WS_arith rfl ?_ | refine WS_not ?_ | refine WS_neg ?_ | refine WS_convert ?_ | refine WS_len_slice ?_ | refine WS_len_string ?_ | refine WS_fieldAddr ?_ | refine WS_load ?_ | refine WS_load_agg ?_ | refine WS_box_agg rfl ?_ | refine WS_box rfl ?_ | refine WS_makeFunc ?_ | refine WS_extract ?_ | refine WS_field ?_ | refine WS_build ?_ | refine WS_zero ?_ | refine WS_shift (by first | decide | omega) rfl ?_ | refine WS_strcmp rfl ?_ | refine WS_indexAddr (by first | decide | omega) ?_ | refine WS_alloc ?_ | refine WS_store rfl ?_ | refine WS_buildSlice (by decide) rfl rfl (by simp [Value.cells]) ?_ | refine WDK_go ?_ | refine WDT_go ?_ | refine WD_nil ?_ | refine WD_take_off rfl rfl (by first | rfl | assumption) ?_ | refine WD_load rfl ?_ | refine WD_load_on rfl rfl (by first | rfl | assumption) ?_ | refine WD_load_agg rfl ?_ | refine WD_load_agg_on rfl rfl (by first | rfl | assumption) ?_ | refine WD_take rfl rfl ?_ | refine WD_take_on rfl rfl (by first | rfl | assumption) rfl ?_ | refine WD_drop rfl rfl ?_ | refine WD_filt rfl ?_ | refine Filt_drop rfl ?_ | refine Filt_keep rfl ?_ | refine Filt_nil ?_ | refine WD_one rfl ?_ | refine WD_virt rfl rfl ?_) | (refine WS_guard rfl ?_ ?_ <;> intro hg) | (refine WD_guard rfl rfl ?_ ?_ <;> intro hg) | (refine V_cond_t (by first | rfl | assumption) ?_) | (refine V_cond_f (by first | rfl | assumption) ?_) | (refine V_cond ?_ ?_ <;> intro hc <;> try (cases hc; done)))
    exact retK_none hI (.inl rfl)
  | succ j =>
    have g3' : Get s 3 (.int .i64 (j : Int)) := ⟨g3.eq.trans (by congr 1; omega)⟩
    clear g3
    have c1 := hbox (j + 1) h' hi hI
    obtain ⟨a, rfl, hr⟩ := helem j h' (by omega) hI
    have hb : 0 ≤ (j : Int) ∧ (j : Int) < (n : Int) := by omega
    have hr' : RowIs h' a.block (a.off + (j : Int).toNat * 7) 7 (cs j) := by rw [Int.toNat_natCast]; exact hr
    repeat' (first | (first | refine V_seq ?_ | refine V_region ?_ | refine WS_nil ?_ | refine S_normal ?_ | refine V_block ?_ | refine B_normal ?_ | refine V_skip ?_ | refine V_exit ?_ | refine V_ret ?_ | refine S_exit ?_ | refine S_ret ?_ | refine B_exit ?_ | refine B_ret ?_ | refine B_pass rfl ?_ | refine C_normal ?_ | refine C_exit ?_ | refine C_ret ?_ | refine WS_off rfl (by first | rfl | assumption) ?_ | refine WS_on rfl (by first | rfl | assumption) ?_ | refine WS_move ?_ | refine WS_assign ?_ | refine WS_pick_t (by first | rfl | assumption) ?_ | refine WS_pick_f (by first | rfl | assumption) ?_ | refine WS_isnil ?_ | refine WS_notnil ?_ | refine WS_neq_same ?_ | refine WS_eql_same ?_ | refine WS_streq ?_ | refine WS_strne ?_ | refine WS_booleq ?_ | refine WS_boolne ?_ | refine WS_off_undef rfl ?_ | refine WD_off_undef rfl rfl ?_ | refine WS_cmp rfl ?_ | refine WS_addi (by omega) ?_ | refine WS_subi (by omega) ?_ | refine WS_arith rfl ?_ | refine WS_not ?_ | refine WS_neg ?_ | refine WS_convert ?_ | refine WS_len_slice ?_ | refine WS_len_string ?_ | refine WS_fieldAddr ?_ | refine WS_load ?_ | refine WS_load_agg ?_ | refine WS_box_agg rfl ?_ | refine WS_box rfl ?_ | refine WS_makeFunc ?_ | refine WS_extract ?_ | refine WS_field ?_ | refine WS_build ?_ | refine WS_zero ?_ | refine WS_shift (by first | decide | omega) rfl ?_ | refine WS_strcmp rfl ?_ | refine WS_indexAddr (by first | decide | omega) ?_ | refine WS_alloc ?_ | refine WS_store rfl ?_ | refine WS_buildSlice (by decide) rfl rfl (by simp [Value.cells]) ?_ | refine WDK_go ?_ | refine WDT_go ?_ | refine WD_nil ?_ | refine WD_take_off rfl rfl (by first | rfl | assumption) ?_ | refine WD_load rfl ?_ | refine WD_load_on rfl rfl (by first | rfl | assumption) ?_ | refine WD_load_agg rfl ?_ | refine WD_load_agg_on rfl rfl (by first | rfl | assumption) ?_ | refine WD_take rfl rfl ?_ | refine WD_take_on rfl rfl (by first | rfl | assumption) rfl ?_ | refine WD_drop rfl rfl ?_ | refine WD_filt rfl ?_ | refine Filt_drop rfl ?_ | refine Filt_keep rfl ?_ | refine Filt_nil ?_ | refine WD_one rfl ?_ | refine WD_virt rfl rfl ?_) | (refine WS_guard rfl ?_ ?_ <;> intro hg) | (refine WD_guard rfl rfl ?_ ?_ <;> intro hg) | (refine V_cond_t (by first | rfl | assumption) ?_) | (refine V_cond_f (by first | rfl | assumption) ?_) | (refine V_cond ?_ ?_ <;> intro hc <;> try (cases hc; done)))
    refine WS_yield (hbody j h' (by omega) hI) ?_
    rintro _ H ⟨rfl, hI'⟩
    repeat' (first | (first | refine V_seq ?_ | refine V_region ?_ | refine WS_nil ?_ | refine S_normal ?_ | refine V_block ?_ | refine B_normal ?_ | refine V_skip ?_ | refine V_exit ?_ | refine V_ret ?_ | refine S_exit ?_ | refine S_ret ?_ | refine B_exit ?_ | refine B_ret ?_ | refine B_pass rfl ?_ | refine C_normal ?_ | refine C_exit ?_ | refine C_ret ?_ | refine WS_off rfl (by first | rfl | assumption) ?_ | refine WS_on rfl (by first | rfl | assumption) ?_ | refine WS_move ?_ | refine WS_assign ?_ | refine WS_pick_t (by first | rfl | assumption) ?_ | refine WS_pick_f (by first | rfl | assumption) ?_ | refine WS_isnil ?_ | refine WS_notnil ?_ | refine WS_neq_same ?_ | refine WS_eql_same ?_ | refine WS_streq ?_ | refine WS_strne ?_ | refine WS_booleq ?_ | refine WS_boolne ?_ | refine WS_off_undef rfl ?_ | refine WD_off_undef rfl rfl ?_ | refine WS_cmp rfl ?_ | refine WS_addi (by omega) ?_ | refine WS_subi (by omega) ?_ | refine WS_arith rfl ?_ | refine WS_not ?_ | refine WS_neg ?_ | refine WS_convert ?_ | refine WS_len_slice ?_ | refine WS_len_string ?_ | refine WS_fieldAddr ?_ | refine WS_load ?_ | refine WS_load_agg ?_ | refine WS_box_agg rfl ?_ | refine WS_box rfl ?_ | refine WS_makeFunc ?_ | refine WS_extract ?_ | refine WS_field ?_ | refine WS_build ?_ | refine WS_zero ?_ | refine WS_shift (by first | decide | omega) rfl ?_ | refine WS_strcmp rfl ?_ | refine WS_indexAddr (by first | decide | omega) ?_ | refine WS_alloc ?_ | refine WS_store rfl ?_ | refine WS_buildSlice (by decide) rfl rfl (by simp [Value.cells]) ?_ | refine WDK_go ?_ | refine WDT_go ?_ | refine WD_nil ?_ | refine WD_take_off rfl rfl (by first | rfl | assumption) ?_ | refine WD_load rfl ?_ | refine WD_load_on rfl rfl (by first | rfl | assumption) ?_ | refine WD_load_agg rfl ?_ | refine WD_load_agg_on rfl rfl (by first | rfl | assumption) ?_ | refine WD_take rfl rfl ?_ | refine WD_take_on rfl rfl (by first | rfl | assumption) rfl ?_ | refine WD_drop rfl rfl ?_ | refine WD_filt rfl ?_ | refine Filt_drop rfl ?_ | refine Filt_keep rfl ?_ | refine Filt_nil ?_ | refine WD_one rfl ?_ | refine WD_virt rfl rfl ?_) | (refine WS_guard rfl ?_ ?_ <;> intro hg) | (refine WD_guard rfl rfl ?_ ?_ <;> intro hg) | (refine V_cond_t (by first | rfl | assumption) ?_) | (refine V_cond_f (by first | rfl | assumption) ?_) | (refine V_cond ?_ ?_ <;> intro hc <;> try (cases hc; done)))
    refine ⟨_, ?_, j, rfl, by omega, inferInstance, inferInstance, inferInstance, hI'⟩
    omega
instance : CallIs Try.prog 112 := .of Try.func112 rfl rfl
theorem backwardT (rows : List (List Tr)) : Fn Try.prog 92 [.sl 7 rows] (fun r => r = .fn 112 [] [.pf [.sl 7 rows]]) := by
  refine Fn_of Try.func92 rfl (Nat.le_of_ble_eq_true rfl) (fun X => ?_)
  repeat (first | refine StepC.go ?_ | intro _ | refine TS_on rfl (by first | rfl | assumption) ?_ | refine TS_off rfl (by first | rfl | assumption) ?_ | refine TS_off_undef rfl ?_ | refine TS_puw (Pu.pick_t (by first | rfl | assumption)) ?_ | refine TS_puw (Pu.pick_f (by first | rfl | assumption)) ?_ | refine TS_puw (Pu.addi (by omega)) ?_ | refine TS_puw (Pu.subi (by omega)) ?_ | refine TS_append (by omega) (fun _ => ?_) | refine TS_append_own (by omega) (fun _ => ?_) | refine TS_makeSlice (by omega) (fun _ => ?_) | refine TV_cond_t (by first | rfl | assumption) ?_ | refine TV_cond_f (by first | rfl | assumption) ?_)
  refine retT_1 (.inr rfl) ?_
  rfl
instance : CallIs Try.prog 92 := .of Try.func92 rfl rfl
def invO (o : OpD) : OpD := { o with name := (backS o.name).1 }
def inverseC (c : CircD) : CircD × Int :=
  if (checkC c).2 = 0 then (if c.ops.all gateO = true then (⟨c.qubits, c.bits, (c.ops.reverse.map invO)⟩, 0) else (⟨0, 0, []⟩, 121)) else (⟨0, 0, []⟩, (checkC c).2)
theorem opRows_app (xs ys : List OpD) : opRows (xs ++ ys) = opRows xs ++ opRows ys := by simp [opRows]
theorem qs_len {o : OpD} {q b : Int} (h : faultS o q b = 0) : o.qs.length ≤ 3 := by
  obtain ⟨_, _, h3, _⟩ := fault_ok h
  have : nS o ≤ 3 := by
    unfold nS
    split
    · have := arityS_03 o.name; omega
    · omega
  omega
theorem circInverseT {c : CircD} (hw : CircW c) : Fn Try.prog 68 [circT c] (fun r => r = .tup [circT (inverseC c).1, intT (inverseC c).2]) := by
  refine Fn_of_range Try.func68 rfl rfl (Nat.le_of_ble_eq_true rfl) (fun X => ?_)
  dsimp only
  repeat (first | refine StepC.go ?_ | intro _ | refine TS_on rfl (by first | rfl | assumption) ?_ | refine TS_off rfl (by first | rfl | assumption) ?_ | refine TS_off_undef rfl ?_ | refine TS_puw (Pu.pick_t (by first | rfl | assumption)) ?_ | refine TS_puw (Pu.pick_f (by first | rfl | assumption)) ?_ | refine TS_puw (Pu.addi (by omega)) ?_ | refine TS_puw (Pu.subi (by omega)) ?_ | refine TS_append (by omega) (fun _ => ?_) | refine TS_append_own (by omega) (fun _ => ?_) | refine TS_makeSlice (by omega) (fun _ => ?_) | refine TV_cond_t (by first | rfl | assumption) ?_ | refine TV_cond_f (by first | rfl | assumption) ?_)
  rename_i p pr
  refine TS_callE (allT hw (p := gateO) fun o _ => inverse1T o) ?_
  repeat (first | refine StepC.go ?_ | intro _ | refine TS_on rfl (by first | rfl | assumption) ?_ | refine TS_off rfl (by first | rfl | assumption) ?_ | refine TS_off_undef rfl ?_ | refine TS_puw (Pu.pick_t (by first | rfl | assumption)) ?_ | refine TS_puw (Pu.pick_f (by first | rfl | assumption)) ?_ | refine TS_puw (Pu.addi (by omega)) ?_ | refine TS_puw (Pu.subi (by omega)) ?_ | refine TS_append (by omega) (fun _ => ?_) | refine TS_append_own (by omega) (fun _ => ?_) | refine TS_makeSlice (by omega) (fun _ => ?_) | refine TV_cond_t (by first | rfl | assumption) ?_ | refine TV_cond_f (by first | rfl | assumption) ?_)
  refine TV_cond ?_ ?_ <;> intro hc
  · repeat (first | refine StepC.go ?_ | intro _ | refine TS_on rfl (by first | rfl | assumption) ?_ | refine TS_off rfl (by first | rfl | assumption) ?_ | refine TS_off_undef rfl ?_ | refine TS_puw (Pu.pick_t (by first | rfl | assumption)) ?_ | refine TS_puw (Pu.pick_f (by first | rfl | assumption)) ?_ | refine TS_puw (Pu.addi (by omega)) ?_ | refine TS_puw (Pu.subi (by omega)) ?_ | refine TS_append (by omega) (fun _ => ?_) | refine TS_append_own (by omega) (fun _ => ?_) | refine TS_makeSlice (by omega) (fun _ => ?_) | refine TV_cond_t (by first | rfl | assumption) ?_ | refine TV_cond_f (by first | rfl | assumption) ?_)
    refine rangeT_ret (retT_2c [.agg [intT 0, intT 0, .sl 7 []], intT (checkC c).2] (.inr rfl) ?_)
    simp only [tret, inverseC]
    rw [if_neg (by simpa using hc)]; rfl
  have hck : (checkC c).2 = 0 := by simpa using hc
  obtain ⟨hr, hlen, hfl⟩ := checkC_ok hck
  rw [if_pos hck]
  repeat (first | refine StepC.go ?_ | intro _ | refine TS_on rfl (by first | rfl | assumption) ?_ | refine TS_off rfl (by first | rfl | assumption) ?_ | refine TS_off_undef rfl ?_ | refine TS_puw (Pu.pick_t (by first | rfl | assumption)) ?_ | refine TS_puw (Pu.pick_f (by first | rfl | assumption)) ?_ | refine TS_puw (Pu.addi (by omega)) ?_ | refine TS_puw (Pu.subi (by omega)) ?_ | refine TS_append (by omega) (fun _ => ?_) | refine TS_append_own (by omega) (fun _ => ?_) | refine TS_makeSlice (by omega) (fun _ => ?_) | refine TV_cond_t (by first | rfl | assumption) ?_ | refine TV_cond_f (by first | rfl | assumption) ?_)
  refine TV_cond ?_ ?_ <;> intro hg
  · repeat (first | refine StepC.go ?_ | intro _ | refine TS_on rfl (by first | rfl | assumption) ?_ | refine TS_off rfl (by first | rfl | assumption) ?_ | refine TS_off_undef rfl ?_ | refine TS_puw (Pu.pick_t (by first | rfl | assumption)) ?_ | refine TS_puw (Pu.pick_f (by first | rfl | assumption)) ?_ | refine TS_puw (Pu.addi (by omega)) ?_ | refine TS_puw (Pu.subi (by omega)) ?_ | refine TS_append (by omega) (fun _ => ?_) | refine TS_append_own (by omega) (fun _ => ?_) | refine TS_makeSlice (by omega) (fun _ => ?_) | refine TV_cond_t (by first | rfl | assumption) ?_ | refine TV_cond_f (by first | rfl | assumption) ?_)
    refine rangeT_ret (retT_2c [.agg [intT 0, intT 0, .sl 7 []], intT 121] (.inr rfl) ?_)
    simp only [tret, inverseC]
    rw [if_pos hck, if_neg (by simpa using hg)]; rfl
  have hga : c.ops.all gateO = true := by simpa using hg
  refine TV_ghost 7 122 ?_
  intro bl0
  repeat (first | refine StepC.go ?_ | intro _ | refine TS_on rfl (by first | rfl | assumption) ?_ | refine TS_off rfl (by first | rfl | assumption) ?_ | refine TS_off_undef rfl ?_ | refine TS_puw (Pu.pick_t (by first | rfl | assumption)) ?_ | refine TS_puw (Pu.pick_f (by first | rfl | assumption)) ?_ | refine TS_puw (Pu.addi (by omega)) ?_ | refine TS_puw (Pu.subi (by omega)) ?_ | refine TS_append (by omega) (fun _ => ?_) | refine TS_append_own (by omega) (fun _ => ?_) | refine TS_makeSlice (by omega) (fun _ => ?_) | refine TV_cond_t (by first | rfl | assumption) ?_ | refine TV_cond_f (by first | rfl | assumption) ?_)
  rename_i pd
  refine TS_call (backwardT _) ?_
  rintro _ rfl
  repeat (first | refine StepC.go ?_ | intro _ | refine TS_on rfl (by first | rfl | assumption) ?_ | refine TS_off rfl (by first | rfl | assumption) ?_ | refine TS_off_undef rfl ?_ | refine TS_puw (Pu.pick_t (by first | rfl | assumption)) ?_ | refine TS_puw (Pu.pick_f (by first | rfl | assumption)) ?_ | refine TS_puw (Pu.addi (by omega)) ?_ | refine TS_puw (Pu.subi (by omega)) ?_ | refine TS_append (by omega) (fun _ => ?_) | refine TS_append_own (by omega) (fun _ => ?_) | refine TS_makeSlice (by omega) (fun _ => ?_) | refine TV_cond_t (by first | rfl | assumption) ?_ | refine TV_cond_f (by first | rfl | assumption) ?_)
  have hlo : (opRows c.ops).length = c.ops.length := by simp [opRows]
  refine rangeT_back backOps (fun i B => ∃ bl, SubP B [(pr, .cells [intT 0, intT 0, .v (.slice none 0 0)] 82 true), (pd, .cells [intT c.qubits, intT c.bits, .v (gsv bl (c.ops.length - i))] 82 true), (bl, .arr 7 (opRows ((c.ops.drop i).reverse.map invO)) 122 false)]) (by rw [hlo]; omega) ?_ ?_ ?_
  · rw [hlo, Nat.sub_self, List.drop_length]
    exact ⟨bl0, inferInstanceAs (SubP _ [(pr, .cells [intT 0, intT 0, .v (.slice none 0 0)] 82 true), (pd, .cells [intT c.qubits, intT c.bits, .v (.slice none 0 0)] 82 true), (bl0, .arr 7 [] 122 false)])⟩
  · rintro X1 X2 i row B hrow ⟨bl, hB⟩
    refine TV_keep _ (p := hB) ?_
    simp only [opRows, List.getElem?_map, Option.map_eq_some_iff] at hrow
    obtain ⟨o, ho, rfl⟩ := hrow
    have hil := (List.getElem?_eq_some_iff.1 ho).1
    have hql := qs_len (hfl o (List.mem_of_getElem? ho))
    repeat (first | refine StepC.go ?_ | intro _ | refine TS_on rfl (by first | rfl | assumption) ?_ | refine TS_off rfl (by first | rfl | assumption) ?_ | refine TS_off_undef rfl ?_ | refine TS_puw (Pu.pick_t (by first | rfl | assumption)) ?_ | refine TS_puw (Pu.pick_f (by first | rfl | assumption)) ?_ | refine TS_puw (Pu.addi (by omega)) ?_ | refine TS_puw (Pu.subi (by omega)) ?_ | refine TS_append (by omega) (fun _ => ?_) | refine TS_append_own (by omega) (fun _ => ?_) | refine TS_makeSlice (by omega) (fun _ => ?_) | refine TV_cond_t (by first | rfl | assumption) ?_ | refine TV_cond_f (by first | rfl | assumption) ?_)
    refine ⟨rfl, ?_⟩
    repeat (first | refine StepC.go ?_ | intro _ | refine TS_on rfl (by first | rfl | assumption) ?_ | refine TS_off rfl (by first | rfl | assumption) ?_ | refine TS_off_undef rfl ?_ | refine TS_puw (Pu.pick_t (by first | rfl | assumption)) ?_ | refine TS_puw (Pu.pick_f (by first | rfl | assumption)) ?_ | refine TS_puw (Pu.addi (by omega)) ?_ | refine TS_puw (Pu.subi (by omega)) ?_ | refine TS_append (by omega) (fun _ => ?_) | refine TS_append_own (by omega) (fun _ => ?_) | refine TS_makeSlice (by omega) (fun _ => ?_) | refine TV_cond_t (by first | rfl | assumption) ?_ | refine TV_cond_f (by first | rfl | assumption) ?_)
    refine TS_call (copiedT o (by omega)) ?_
    rintro _ rfl
    repeat (first | refine StepC.go ?_ | intro _ | refine TS_on rfl (by first | rfl | assumption) ?_ | refine TS_off rfl (by first | rfl | assumption) ?_ | refine TS_off_undef rfl ?_ | refine TS_puw (Pu.pick_t (by first | rfl | assumption)) ?_ | refine TS_puw (Pu.pick_f (by first | rfl | assumption)) ?_ | refine TS_puw (Pu.addi (by omega)) ?_ | refine TS_puw (Pu.subi (by omega)) ?_ | refine TS_append (by omega) (fun _ => ?_) | refine TS_append_own (by omega) (fun _ => ?_) | refine TS_makeSlice (by omega) (fun _ => ?_) | refine TV_cond_t (by first | rfl | assumption) ?_ | refine TV_cond_f (by first | rfl | assumption) ?_)
    refine TS_callE (backT o.name) ?_
    have hL : LenT (opRows ((c.ops.drop (i + 1)).reverse.map invO)) (c.ops.length - (i + 1)) := ⟨by simp [opRows]⟩
    repeat (first | refine StepC.go ?_ | intro _ | refine TS_on rfl (by first | rfl | assumption) ?_ | refine TS_off rfl (by first | rfl | assumption) ?_ | refine TS_off_undef rfl ?_ | refine TS_puw (Pu.pick_t (by first | rfl | assumption)) ?_ | refine TS_puw (Pu.pick_f (by first | rfl | assumption)) ?_ | refine TS_puw (Pu.addi (by omega)) ?_ | refine TS_puw (Pu.subi (by omega)) ?_ | refine TS_append (by omega) (fun _ => ?_) | refine TS_append_own (by omega) (fun _ => ?_) | refine TS_makeSlice (by omega) (fun _ => ?_) | refine TV_cond_t (by first | rfl | assumption) ?_ | refine TV_cond_f (by first | rfl | assumption) ?_)
    rename_i bl2
    refine ⟨rfl, bl2, ?_⟩
    have hd : opRows ((c.ops.drop i).reverse.map invO) = opRows ((c.ops.drop (i + 1)).reverse.map invO) ++ [opCs (invO o)] := by
      rw [drop_cons ho, List.reverse_cons, List.map_append, opRows_app]; rfl
    have hn : c.ops.length - i = c.ops.length - (i + 1) + 1 := by omega
    rw [hd, hn]
    exact inferInstanceAs (SubP _ [_, _, (bl2, .arr 7 (opRows ((c.ops.drop (i + 1)).reverse.map invO) ++ [[intT o.kind, strT (backS o.name).1, .sl 1 (intRows o.qs), intT o.bit, boolT o.iff, u64T o.mask, u64T o.value]]) 122 false)])
  · rintro B mk ⟨bl, hB⟩ X2
    refine TV_keep _ (p := hB) ?_
    rw [Nat.sub_zero, List.drop_zero]
    have hL : LenT (opRows (c.ops.reverse.map invO)) c.ops.length := ⟨by simp [opRows]⟩
    have : Sm63 c.ops.length := ⟨by omega⟩
    repeat (first | refine StepC.go ?_ | intro _ | refine TS_on rfl (by first | rfl | assumption) ?_ | refine TS_off rfl (by first | rfl | assumption) ?_ | refine TS_off_undef rfl ?_ | refine TS_puw (Pu.pick_t (by first | rfl | assumption)) ?_ | refine TS_puw (Pu.pick_f (by first | rfl | assumption)) ?_ | refine TS_puw (Pu.addi (by omega)) ?_ | refine TS_puw (Pu.subi (by omega)) ?_ | refine TS_append (by omega) (fun _ => ?_) | refine TS_append_own (by omega) (fun _ => ?_) | refine TS_makeSlice (by omega) (fun _ => ?_) | refine TV_cond_t (by first | rfl | assumption) ?_ | refine TV_cond_f (by first | rfl | assumption) ?_)
    refine retT_2 (.inr rfl) ?_
    simp only [tret, inverseC]
    rw [if_pos hck, if_pos hga]
instance : CallIs Try.prog 68 := .of Try.func68 rfl rfl
end Go.Ideal

-- Tf
set_option linter.unusedSimpArgs false
set_option linter.unusedVariables false
namespace Go.Ideal
open Go Go.Proofs Go.RowKit
/-! ### The laws' own example -/
def gateD (nm : ByteArray) (qs : List Int) : OpD := ⟨1, nm, qs, 0, false, 0, 0⟩
theorem gateT (nm : ByteArray) (qs : List Int) : Fn Try.prog 69 [strT nm, .sl 1 (intRows qs)] (fun r => r = .agg (opCs (gateD nm qs))) := by
  refine Fn_of Try.func69 rfl (Nat.le_of_ble_eq_true rfl) (fun X => ?_)
  repeat (first | refine StepC.go ?_ | intro _ | refine TS_on rfl (by first | rfl | assumption) ?_ | refine TS_off rfl (by first | rfl | assumption) ?_ | refine TS_off_undef rfl ?_ | refine TS_puw (Pu.pick_t (by first | rfl | assumption)) ?_ | refine TS_puw (Pu.pick_f (by first | rfl | assumption)) ?_ | refine TS_puw (Pu.addi (by omega)) ?_ | refine TS_puw (Pu.subi (by omega)) ?_ | refine TS_append (by omega) (fun _ => ?_) | refine TS_append_own (by omega) (fun _ => ?_) | refine TS_makeSlice (by omega) (fun _ => ?_) | refine TV_cond_t (by first | rfl | assumption) ?_ | refine TV_cond_f (by first | rfl | assumption) ?_)
  exact retT_1 (.inr rfl) rfl
instance : CallIs Try.prog 69 := .of Try.func69 rfl rfl
def nmH : ByteArray := ⟨#[104]⟩
def nmCx : ByteArray := ⟨#[99, 120]⟩
def pairD : CircD := ⟨2, 1, [gateD nmH [0], gateD nmCx [0, 1]]⟩
def badD : CircD := ⟨2, 0, [gateD nmH [0], gateD nmCx [0, 0]]⟩
theorem pairT : Fn Try.prog 66 [] (fun r => r = circT pairD) := by
  refine Fn_of Try.func66 rfl (Nat.le_of_ble_eq_true rfl) (fun X => ?_)
  repeat (first | refine StepC.go ?_ | intro _ | refine TS_on rfl (by first | rfl | assumption) ?_ | refine TS_off rfl (by first | rfl | assumption) ?_ | refine TS_off_undef rfl ?_ | refine TS_puw (Pu.pick_t (by first | rfl | assumption)) ?_ | refine TS_puw (Pu.pick_f (by first | rfl | assumption)) ?_ | refine TS_puw (Pu.addi (by omega)) ?_ | refine TS_puw (Pu.subi (by omega)) ?_ | refine TS_append (by omega) (fun _ => ?_) | refine TS_append_own (by omega) (fun _ => ?_) | refine TS_makeSlice (by omega) (fun _ => ?_) | refine TV_cond_t (by first | rfl | assumption) ?_ | refine TV_cond_f (by first | rfl | assumption) ?_)
  rename_i b
  refine TS_freeze 1 b ?_
  refine TS_call (gateT nmH [0]) ?_
  rintro _ rfl
  repeat (first | refine StepC.go ?_ | intro _ | refine TS_on rfl (by first | rfl | assumption) ?_ | refine TS_off rfl (by first | rfl | assumption) ?_ | refine TS_off_undef rfl ?_ | refine TS_puw (Pu.pick_t (by first | rfl | assumption)) ?_ | refine TS_puw (Pu.pick_f (by first | rfl | assumption)) ?_ | refine TS_puw (Pu.addi (by omega)) ?_ | refine TS_puw (Pu.subi (by omega)) ?_ | refine TS_append (by omega) (fun _ => ?_) | refine TS_append_own (by omega) (fun _ => ?_) | refine TS_makeSlice (by omega) (fun _ => ?_) | refine TV_cond_t (by first | rfl | assumption) ?_ | refine TV_cond_f (by first | rfl | assumption) ?_)
  rename_i b2
  refine TS_freeze 3 b2 ?_
  refine TS_call (gateT nmCx [0, 1]) ?_
  rintro _ rfl
  repeat (first | refine StepC.go ?_ | intro _ | refine TS_on rfl (by first | rfl | assumption) ?_ | refine TS_off rfl (by first | rfl | assumption) ?_ | refine TS_off_undef rfl ?_ | refine TS_puw (Pu.pick_t (by first | rfl | assumption)) ?_ | refine TS_puw (Pu.pick_f (by first | rfl | assumption)) ?_ | refine TS_puw (Pu.addi (by omega)) ?_ | refine TS_puw (Pu.subi (by omega)) ?_ | refine TS_append (by omega) (fun _ => ?_) | refine TS_append_own (by omega) (fun _ => ?_) | refine TS_makeSlice (by omega) (fun _ => ?_) | refine TV_cond_t (by first | rfl | assumption) ?_ | refine TV_cond_f (by first | rfl | assumption) ?_)
  exact retT_1 (.inr rfl) rfl
instance : CallIs Try.prog 66 := .of Try.func66 rfl rfl
theorem pairW : CircW pairD := by
  intro o ho
  simp only [pairD, List.mem_cons, List.not_mem_nil, or_false] at ho
  rcases ho with rfl | rfl <;> exact ⟨by decide, by decide⟩
theorem badW : CircW badD := by
  intro o ho
  simp only [badD, List.mem_cons, List.not_mem_nil, or_false] at ho
  rcases ho with rfl | rfl <;> exact ⟨by decide, by decide⟩
theorem pair_halves : halvesC pairD = (1, 0) := by decide +kernel
theorem pair_layers : (layersC pairD).2 = 0 ∧ (layersC pairD).1.length = 2 := by decide +kernel
theorem pair_inverse : inverseC pairD = (⟨2, 1, [gateD nmCx [0, 1], gateD nmH [0]]⟩, 0) := by kernel_rfl
theorem bad_check : checkC badD = (1, 113) := by decide +kernel
theorem awake11T : Fn Try.prog 43 [] (fun r => r = boolT true) := by
  refine Fn_of Try.func43 rfl (Nat.le_of_ble_eq_true rfl) (fun X => ?_)
  repeat (first | refine StepC.go ?_ | intro _ | refine TS_on rfl (by first | rfl | assumption) ?_ | refine TS_off rfl (by first | rfl | assumption) ?_ | refine TS_off_undef rfl ?_ | refine TS_puw (Pu.pick_t (by first | rfl | assumption)) ?_ | refine TS_puw (Pu.pick_f (by first | rfl | assumption)) ?_ | refine TS_puw (Pu.addi (by omega)) ?_ | refine TS_puw (Pu.subi (by omega)) ?_ | refine TS_append (by omega) (fun _ => ?_) | refine TS_append_own (by omega) (fun _ => ?_) | refine TS_makeSlice (by omega) (fun _ => ?_) | refine TV_cond_t (by first | rfl | assumption) ?_ | refine TV_cond_f (by first | rfl | assumption) ?_)
  refine TS_call pairT ?_
  rintro _ rfl
  repeat (first | refine StepC.go ?_ | intro _ | refine TS_on rfl (by first | rfl | assumption) ?_ | refine TS_off rfl (by first | rfl | assumption) ?_ | refine TS_off_undef rfl ?_ | refine TS_puw (Pu.pick_t (by first | rfl | assumption)) ?_ | refine TS_puw (Pu.pick_f (by first | rfl | assumption)) ?_ | refine TS_puw (Pu.addi (by omega)) ?_ | refine TS_puw (Pu.subi (by omega)) ?_ | refine TS_append (by omega) (fun _ => ?_) | refine TS_append_own (by omega) (fun _ => ?_) | refine TS_makeSlice (by omega) (fun _ => ?_) | refine TV_cond_t (by first | rfl | assumption) ?_ | refine TV_cond_f (by first | rfl | assumption) ?_)
  refine TS_callE (circHalvesT pairW) ?_
  rw [pair_halves]
  repeat (first | refine StepC.go ?_ | intro _ | refine TS_on rfl (by first | rfl | assumption) ?_ | refine TS_off rfl (by first | rfl | assumption) ?_ | refine TS_off_undef rfl ?_ | refine TS_puw (Pu.pick_t (by first | rfl | assumption)) ?_ | refine TS_puw (Pu.pick_f (by first | rfl | assumption)) ?_ | refine TS_puw (Pu.addi (by omega)) ?_ | refine TS_puw (Pu.subi (by omega)) ?_ | refine TS_append (by omega) (fun _ => ?_) | refine TS_append_own (by omega) (fun _ => ?_) | refine TS_makeSlice (by omega) (fun _ => ?_) | refine TV_cond_t (by first | rfl | assumption) ?_ | refine TV_cond_f (by first | rfl | assumption) ?_)
  refine TS_call pairT ?_
  rintro _ rfl
  repeat (first | refine StepC.go ?_ | intro _ | refine TS_on rfl (by first | rfl | assumption) ?_ | refine TS_off rfl (by first | rfl | assumption) ?_ | refine TS_off_undef rfl ?_ | refine TS_puw (Pu.pick_t (by first | rfl | assumption)) ?_ | refine TS_puw (Pu.pick_f (by first | rfl | assumption)) ?_ | refine TS_puw (Pu.addi (by omega)) ?_ | refine TS_puw (Pu.subi (by omega)) ?_ | refine TS_append (by omega) (fun _ => ?_) | refine TS_append_own (by omega) (fun _ => ?_) | refine TS_makeSlice (by omega) (fun _ => ?_) | refine TV_cond_t (by first | rfl | assumption) ?_ | refine TV_cond_f (by first | rfl | assumption) ?_)
  refine TS_call (layersT pairW) ?_
  rintro _ rfl
  rw [pair_layers.1]
  have hl := pair_layers.2
  repeat (first | refine StepC.go ?_ | intro _ | refine TS_on rfl (by first | rfl | assumption) ?_ | refine TS_off rfl (by first | rfl | assumption) ?_ | refine TS_off_undef rfl ?_ | refine TS_puw (Pu.pick_t (by first | rfl | assumption)) ?_ | refine TS_puw (Pu.pick_f (by first | rfl | assumption)) ?_ | refine TS_puw (Pu.addi (by omega)) ?_ | refine TS_puw (Pu.subi (by omega)) ?_ | refine TS_append (by omega) (fun _ => ?_) | refine TS_append_own (by omega) (fun _ => ?_) | refine TS_makeSlice (by omega) (fun _ => ?_) | refine TV_cond_t (by first | rfl | assumption) ?_ | refine TV_cond_f (by first | rfl | assumption) ?_)
  refine TS_call pairT ?_
  rintro _ rfl
  repeat (first | refine StepC.go ?_ | intro _ | refine TS_on rfl (by first | rfl | assumption) ?_ | refine TS_off rfl (by first | rfl | assumption) ?_ | refine TS_off_undef rfl ?_ | refine TS_puw (Pu.pick_t (by first | rfl | assumption)) ?_ | refine TS_puw (Pu.pick_f (by first | rfl | assumption)) ?_ | refine TS_puw (Pu.addi (by omega)) ?_ | refine TS_puw (Pu.subi (by omega)) ?_ | refine TS_append (by omega) (fun _ => ?_) | refine TS_append_own (by omega) (fun _ => ?_) | refine TS_makeSlice (by omega) (fun _ => ?_) | refine TV_cond_t (by first | rfl | assumption) ?_ | refine TV_cond_f (by first | rfl | assumption) ?_)
  refine TS_call (circInverseT pairW) ?_
  rintro _ rfl
  rw [pair_inverse]
  repeat (first | refine StepC.go ?_ | intro _ | refine TS_on rfl (by first | rfl | assumption) ?_ | refine TS_off rfl (by first | rfl | assumption) ?_ | refine TS_off_undef rfl ?_ | refine TS_puw (Pu.pick_t (by first | rfl | assumption)) ?_ | refine TS_puw (Pu.pick_f (by first | rfl | assumption)) ?_ | refine TS_puw (Pu.addi (by omega)) ?_ | refine TS_puw (Pu.subi (by omega)) ?_ | refine TS_append (by omega) (fun _ => ?_) | refine TS_append_own (by omega) (fun _ => ?_) | refine TS_makeSlice (by omega) (fun _ => ?_) | refine TV_cond_t (by first | rfl | assumption) ?_ | refine TV_cond_f (by first | rfl | assumption) ?_)
  rename_i b
  refine TS_freeze 25 b ?_
  refine TS_call (gateT nmH [0]) ?_
  rintro _ rfl
  repeat (first | refine StepC.go ?_ | intro _ | refine TS_on rfl (by first | rfl | assumption) ?_ | refine TS_off rfl (by first | rfl | assumption) ?_ | refine TS_off_undef rfl ?_ | refine TS_puw (Pu.pick_t (by first | rfl | assumption)) ?_ | refine TS_puw (Pu.pick_f (by first | rfl | assumption)) ?_ | refine TS_puw (Pu.addi (by omega)) ?_ | refine TS_puw (Pu.subi (by omega)) ?_ | refine TS_append (by omega) (fun _ => ?_) | refine TS_append_own (by omega) (fun _ => ?_) | refine TS_makeSlice (by omega) (fun _ => ?_) | refine TV_cond_t (by first | rfl | assumption) ?_ | refine TV_cond_f (by first | rfl | assumption) ?_)
  rename_i b2
  refine TS_freeze 27 b2 ?_
  refine TS_call (gateT nmCx [0, 0]) ?_
  rintro _ rfl
  repeat (first | refine StepC.go ?_ | intro _ | refine TS_on rfl (by first | rfl | assumption) ?_ | refine TS_off rfl (by first | rfl | assumption) ?_ | refine TS_off_undef rfl ?_ | refine TS_puw (Pu.pick_t (by first | rfl | assumption)) ?_ | refine TS_puw (Pu.pick_f (by first | rfl | assumption)) ?_ | refine TS_puw (Pu.addi (by omega)) ?_ | refine TS_puw (Pu.subi (by omega)) ?_ | refine TS_append (by omega) (fun _ => ?_) | refine TS_append_own (by omega) (fun _ => ?_) | refine TS_makeSlice (by omega) (fun _ => ?_) | refine TV_cond_t (by first | rfl | assumption) ?_ | refine TV_cond_f (by first | rfl | assumption) ?_)
  refine TS_callE (checkT (c := badD) badW) ?_
  rw [bad_check]
  have ng : NthG (opRows [gateD nmCx [0, 1], gateD nmH [0]]) 0 (opCs (gateD nmCx [0, 1])) := ⟨rfl⟩
  have hl2 : (layRowsT (layersC pairD).1).length = 2 := by rw [← hl]; simp [layRowsT]
  repeat (first | refine StepC.go ?_ | intro _ | refine TS_on rfl (by first | rfl | assumption) ?_ | refine TS_off rfl (by first | rfl | assumption) ?_ | refine TS_off_undef rfl ?_ | refine TS_puw (Pu.pick_t (by first | rfl | assumption)) ?_ | refine TS_puw (Pu.pick_f (by first | rfl | assumption)) ?_ | refine TS_puw (Pu.addi (by omega)) ?_ | refine TS_puw (Pu.subi (by omega)) ?_ | refine TS_append (by omega) (fun _ => ?_) | refine TS_append_own (by omega) (fun _ => ?_) | refine TS_makeSlice (by omega) (fun _ => ?_) | refine TV_cond_t (by first | rfl | assumption) ?_ | refine TV_cond_f (by first | rfl | assumption) ?_)
  refine retT_1 (.inr rfl) ?_
  simp [tret, hl2, opRows, gateD, nmCx, beqS]
instance : CallIs Try.prog 43 := .of Try.func43 rfl rfl
end Go.Ideal

-- Tg
set_option linter.unusedSimpArgs false
set_option linter.unusedVariables false
namespace Go.Ideal
open Go Go.Proofs Go.RowKit
/-! ### The reference's Halves, Clean, Clifford; the law CircuitChecks -/
theorem cliffRT (b : ByteArray) : Fn Try.prog 32 [strT b] (fun r => r = boolT (cliffS b)) := Fn_vals (ws := [_]) (fun h => (refClifford_spec b h).mono fun v h' ⟨a, b⟩ => ⟨a, b ▸ Ext.refl _⟩) (fun F => rep_v _)
theorem refHalvesT {c : CircD} (hw : CircW c) : Fn Try.prog 45 [circT c] (fun r => r = .tup [intT (halvesC c).1, intT (halvesC c).2]) := by
  refine Fn_of Try.func45 rfl (Nat.le_of_ble_eq_true rfl) (fun X => ?_)
  repeat (first | refine StepC.go ?_ | intro _ | refine TS_on rfl (by first | rfl | assumption) ?_ | refine TS_off rfl (by first | rfl | assumption) ?_ | refine TS_off_undef rfl ?_ | refine TS_puw (Pu.pick_t (by first | rfl | assumption)) ?_ | refine TS_puw (Pu.pick_f (by first | rfl | assumption)) ?_ | refine TS_puw (Pu.addi (by omega)) ?_ | refine TS_puw (Pu.subi (by omega)) ?_ | refine TS_append (by omega) (fun _ => ?_) | refine TS_append_own (by omega) (fun _ => ?_) | refine TS_makeSlice (by omega) (fun _ => ?_) | refine TV_cond_t (by first | rfl | assumption) ?_ | refine TV_cond_f (by first | rfl | assumption) ?_)
  refine TS_callE (checkRT hw) ?_
  repeat' (first | refine StepC.go ?_ | intro _ | refine TS_on rfl (by first | rfl | assumption) ?_ | refine TS_off rfl (by first | rfl | assumption) ?_ | refine TS_off_undef rfl ?_ | refine TS_puw (Pu.pick_t (by first | rfl | assumption)) ?_ | refine TS_puw (Pu.pick_f (by first | rfl | assumption)) ?_ | refine TS_puw (Pu.addi (by omega)) ?_ | refine TS_puw (Pu.subi (by omega)) ?_ | refine TS_append (by omega) (fun _ => ?_) | refine TS_append_own (by omega) (fun _ => ?_) | refine TS_makeSlice (by omega) (fun _ => ?_) | refine TV_cond_t (by first | rfl | assumption) ?_ | refine TV_cond_f (by first | rfl | assumption) ?_ | (refine TV_cond ?_ ?_ <;> intro hc <;> try (cases hc; done)) | (refine TS_guard rfl ?_ ?_ <;> intro hg))
  · refine retT_2 (.inr rfl) ?_
    simp only [tret, halvesC]
    rw [if_neg (by simpa using hc)]
  · rename_i p
    have hck : (checkC c).2 = 0 := by simpa using hc
    obtain ⟨_, hlen, _⟩ := checkC_ok hck
    refine TV_loop (fun d σ B => ∃ i : Nat, d = c.ops.length - i ∧ i ≤ c.ops.length ∧ TGet σ 7 (intT i) ∧ TGet σ 1 (.v (.pointer (some (ad p 0)))) ∧ TGet σ 6 (intT (sumH (c.ops.take i))) ∧ SubP B [(p, .cells (circCs c) 82 true)]) c.ops.length
      ⟨0, by omega, by omega, inferInstance, inferInstance, tget_as rfl, inferInstance⟩ ?_
    rintro d σ B ⟨i, rfl, hi, g7, g1, g6, hB⟩
    refine TV_keep _ (p := hB) ?_
    have hlo : (opRows c.ops).length = c.ops.length := by simp [opRows]
    repeat (first | refine StepC.go ?_ | intro _ | refine TS_on rfl (by first | rfl | assumption) ?_ | refine TS_off rfl (by first | rfl | assumption) ?_ | refine TS_off_undef rfl ?_ | refine TS_puw (Pu.pick_t (by first | rfl | assumption)) ?_ | refine TS_puw (Pu.pick_f (by first | rfl | assumption)) ?_ | refine TS_puw (Pu.addi (by omega)) ?_ | refine TS_puw (Pu.subi (by omega)) ?_ | refine TS_append (by omega) (fun _ => ?_) | refine TS_append_own (by omega) (fun _ => ?_) | refine TS_makeSlice (by omega) (fun _ => ?_) | refine TV_cond_t (by first | rfl | assumption) ?_ | refine TV_cond_f (by first | rfl | assumption) ?_)
    refine TV_cond ?_ ?_ <;> intro hc
    · have hil : i < c.ops.length := by simp [hlo] at hc; omega
      obtain ⟨o, ho⟩ : ∃ o, c.ops[i]? = some o := ⟨_, List.getElem?_eq_getElem hil⟩
      have ng : NthG (opRows c.ops) i (opCs o) := .map opCs ho
      have h1 := sumH_nn (c.ops.take i)
      have h2 := halvesO_01 o
      simp only [List.length_take] at h1
      repeat (first | refine StepC.go ?_ | intro _ | refine TS_on rfl (by first | rfl | assumption) ?_ | refine TS_off rfl (by first | rfl | assumption) ?_ | refine TS_off_undef rfl ?_ | refine TS_puw (Pu.pick_t (by first | rfl | assumption)) ?_ | refine TS_puw (Pu.pick_f (by first | rfl | assumption)) ?_ | refine TS_puw (Pu.addi (by omega)) ?_ | refine TS_puw (Pu.subi (by omega)) ?_ | refine TS_append (by omega) (fun _ => ?_) | refine TS_append_own (by omega) (fun _ => ?_) | refine TS_makeSlice (by omega) (fun _ => ?_) | refine TV_cond_t (by first | rfl | assumption) ?_ | refine TV_cond_f (by first | rfl | assumption) ?_)
      refine TS_callE (halvesRT o) ?_
      repeat (first | refine StepC.go ?_ | intro _ | refine TS_on rfl (by first | rfl | assumption) ?_ | refine TS_off rfl (by first | rfl | assumption) ?_ | refine TS_off_undef rfl ?_ | refine TS_puw (Pu.pick_t (by first | rfl | assumption)) ?_ | refine TS_puw (Pu.pick_f (by first | rfl | assumption)) ?_ | refine TS_puw (Pu.addi (by omega)) ?_ | refine TS_puw (Pu.subi (by omega)) ?_ | refine TS_append (by omega) (fun _ => ?_) | refine TS_append_own (by omega) (fun _ => ?_) | refine TS_makeSlice (by omega) (fun _ => ?_) | refine TV_cond_t (by first | rfl | assumption) ?_ | refine TV_cond_f (by first | rfl | assumption) ?_)
      refine ⟨_, ?_, i + 1, rfl, by omega, inferInstance, inferInstance, tget_as (by rw [sumH_take ho]), inferInstance⟩
      omega
    · have hil : i = c.ops.length := by simp [hlo] at hc; omega
      repeat (first | refine StepC.go ?_ | intro _ | refine TS_on rfl (by first | rfl | assumption) ?_ | refine TS_off rfl (by first | rfl | assumption) ?_ | refine TS_off_undef rfl ?_ | refine TS_puw (Pu.pick_t (by first | rfl | assumption)) ?_ | refine TS_puw (Pu.pick_f (by first | rfl | assumption)) ?_ | refine TS_puw (Pu.addi (by omega)) ?_ | refine TS_puw (Pu.subi (by omega)) ?_ | refine TS_append (by omega) (fun _ => ?_) | refine TS_append_own (by omega) (fun _ => ?_) | refine TS_makeSlice (by omega) (fun _ => ?_) | refine TV_cond_t (by first | rfl | assumption) ?_ | refine TV_cond_f (by first | rfl | assumption) ?_)
      refine retT_2 (.inr rfl) ?_
      simp only [tret, halvesC]
      rw [if_pos hck, hil, List.take_length]
instance : CallIs Try.prog 45 := .of Try.func45 rfl rfl
theorem all_drop {c : CircD} {p : OpD → Bool} {i : Nat} {o : OpD} (h : c.ops[i]? = some o) (hp : p o = true) : (c.ops.drop i).all p = (c.ops.drop (i + 1)).all p := by rw [drop_cons h, List.all_cons, hp, Bool.true_and]
theorem refCleanT {c : CircD} (hw : CircW c) : Fn Try.prog 46 [circT c] (fun r => r = .tup [boolT (allC c cleanO).1, intT (allC c cleanO).2]) := by
  refine Fn_of Try.func46 rfl (Nat.le_of_ble_eq_true rfl) (fun X => ?_)
  repeat (first | refine StepC.go ?_ | intro _ | refine TS_on rfl (by first | rfl | assumption) ?_ | refine TS_off rfl (by first | rfl | assumption) ?_ | refine TS_off_undef rfl ?_ | refine TS_puw (Pu.pick_t (by first | rfl | assumption)) ?_ | refine TS_puw (Pu.pick_f (by first | rfl | assumption)) ?_ | refine TS_puw (Pu.addi (by omega)) ?_ | refine TS_puw (Pu.subi (by omega)) ?_ | refine TS_append (by omega) (fun _ => ?_) | refine TS_append_own (by omega) (fun _ => ?_) | refine TS_makeSlice (by omega) (fun _ => ?_) | refine TV_cond_t (by first | rfl | assumption) ?_ | refine TV_cond_f (by first | rfl | assumption) ?_)
  refine TS_callE (checkRT hw) ?_
  repeat' (first | refine StepC.go ?_ | intro _ | refine TS_on rfl (by first | rfl | assumption) ?_ | refine TS_off rfl (by first | rfl | assumption) ?_ | refine TS_off_undef rfl ?_ | refine TS_puw (Pu.pick_t (by first | rfl | assumption)) ?_ | refine TS_puw (Pu.pick_f (by first | rfl | assumption)) ?_ | refine TS_puw (Pu.addi (by omega)) ?_ | refine TS_puw (Pu.subi (by omega)) ?_ | refine TS_append (by omega) (fun _ => ?_) | refine TS_append_own (by omega) (fun _ => ?_) | refine TS_makeSlice (by omega) (fun _ => ?_) | refine TV_cond_t (by first | rfl | assumption) ?_ | refine TV_cond_f (by first | rfl | assumption) ?_ | (refine TV_cond ?_ ?_ <;> intro hc <;> try (cases hc; done)) | (refine TS_guard rfl ?_ ?_ <;> intro hg))
  · refine retT_2 (.inr rfl) ?_
    simp only [tret, allC]
    rw [if_neg (by simpa using hc)]
  · rename_i p
    have hck : (checkC c).2 = 0 := by simpa using hc
    obtain ⟨_, hlen, _⟩ := checkC_ok hck
    refine TV_loop (fun d σ B => ∃ i : Nat, d = c.ops.length - i ∧ i ≤ c.ops.length ∧ TGet σ 6 (intT i) ∧ TGet σ 1 (.v (.pointer (some (ad p 0)))) ∧ SubP B [(p, .cells (circCs c) 82 true)] ∧ c.ops.all cleanO = (c.ops.drop i).all cleanO) c.ops.length
      ⟨0, by omega, by omega, inferInstance, inferInstance, inferInstance, rfl⟩ ?_
    rintro d σ B ⟨i, rfl, hi, g6, g1, hB, hK⟩
    refine TV_keep _ (p := hB) ?_
    have hlo : (opRows c.ops).length = c.ops.length := by simp [opRows]
    repeat (first | refine StepC.go ?_ | intro _ | refine TS_on rfl (by first | rfl | assumption) ?_ | refine TS_off rfl (by first | rfl | assumption) ?_ | refine TS_off_undef rfl ?_ | refine TS_puw (Pu.pick_t (by first | rfl | assumption)) ?_ | refine TS_puw (Pu.pick_f (by first | rfl | assumption)) ?_ | refine TS_puw (Pu.addi (by omega)) ?_ | refine TS_puw (Pu.subi (by omega)) ?_ | refine TS_append (by omega) (fun _ => ?_) | refine TS_append_own (by omega) (fun _ => ?_) | refine TS_makeSlice (by omega) (fun _ => ?_) | refine TV_cond_t (by first | rfl | assumption) ?_ | refine TV_cond_f (by first | rfl | assumption) ?_)
    refine TV_cond ?_ ?_ <;> intro hc
    · have hil : i < c.ops.length := by simp [hlo] at hc; omega
      obtain ⟨o, ho⟩ : ∃ o, c.ops[i]? = some o := ⟨_, List.getElem?_eq_getElem hil⟩
      have ng : NthG (opRows c.ops) i (opCs o) := .map opCs ho
      repeat' (first | refine StepC.go ?_ | intro _ | refine TS_on rfl (by first | rfl | assumption) ?_ | refine TS_off rfl (by first | rfl | assumption) ?_ | refine TS_off_undef rfl ?_ | refine TS_puw (Pu.pick_t (by first | rfl | assumption)) ?_ | refine TS_puw (Pu.pick_f (by first | rfl | assumption)) ?_ | refine TS_puw (Pu.addi (by omega)) ?_ | refine TS_puw (Pu.subi (by omega)) ?_ | refine TS_append (by omega) (fun _ => ?_) | refine TS_append_own (by omega) (fun _ => ?_) | refine TS_makeSlice (by omega) (fun _ => ?_) | refine TV_cond_t (by first | rfl | assumption) ?_ | refine TV_cond_f (by first | rfl | assumption) ?_ | (refine TV_cond ?_ ?_ <;> intro hc <;> try (cases hc; done)) | (refine TS_guard rfl ?_ ?_ <;> intro hg))
      all_goals first
        | (refine retT_2 (.inr rfl) ?_
           have hco : cleanO o = false := by simp_all [cleanO]
           simp only [tret, allC]
           rw [if_pos hck, hK, drop_cons ho, List.all_cons, hco, hck]; rfl)
        | (refine ⟨_, ?_, i + 1, rfl, by omega, inferInstance, inferInstance, inferInstance, by rw [hK]; exact all_drop ho (by simp_all [cleanO])⟩
           omega)
    · have hil : i = c.ops.length := by simp [hlo] at hc; omega
      repeat (first | refine StepC.go ?_ | intro _ | refine TS_on rfl (by first | rfl | assumption) ?_ | refine TS_off rfl (by first | rfl | assumption) ?_ | refine TS_off_undef rfl ?_ | refine TS_puw (Pu.pick_t (by first | rfl | assumption)) ?_ | refine TS_puw (Pu.pick_f (by first | rfl | assumption)) ?_ | refine TS_puw (Pu.addi (by omega)) ?_ | refine TS_puw (Pu.subi (by omega)) ?_ | refine TS_append (by omega) (fun _ => ?_) | refine TS_append_own (by omega) (fun _ => ?_) | refine TS_makeSlice (by omega) (fun _ => ?_) | refine TV_cond_t (by first | rfl | assumption) ?_ | refine TV_cond_f (by first | rfl | assumption) ?_)
      refine retT_2 (.inr rfl) ?_
      simp only [tret, allC]
      rw [if_pos hck, hK, hil, List.drop_length, hck]; rfl
instance : CallIs Try.prog 46 := .of Try.func46 rfl rfl
theorem refCliffordT {c : CircD} (hw : CircW c) : Fn Try.prog 47 [circT c] (fun r => r = .tup [boolT (allC c cliffO).1, intT (allC c cliffO).2]) := by
  refine Fn_of Try.func47 rfl (Nat.le_of_ble_eq_true rfl) (fun X => ?_)
  repeat (first | refine StepC.go ?_ | intro _ | refine TS_on rfl (by first | rfl | assumption) ?_ | refine TS_off rfl (by first | rfl | assumption) ?_ | refine TS_off_undef rfl ?_ | refine TS_puw (Pu.pick_t (by first | rfl | assumption)) ?_ | refine TS_puw (Pu.pick_f (by first | rfl | assumption)) ?_ | refine TS_puw (Pu.addi (by omega)) ?_ | refine TS_puw (Pu.subi (by omega)) ?_ | refine TS_append (by omega) (fun _ => ?_) | refine TS_append_own (by omega) (fun _ => ?_) | refine TS_makeSlice (by omega) (fun _ => ?_) | refine TV_cond_t (by first | rfl | assumption) ?_ | refine TV_cond_f (by first | rfl | assumption) ?_)
  refine TS_callE (checkRT hw) ?_
  repeat' (first | refine StepC.go ?_ | intro _ | refine TS_on rfl (by first | rfl | assumption) ?_ | refine TS_off rfl (by first | rfl | assumption) ?_ | refine TS_off_undef rfl ?_ | refine TS_puw (Pu.pick_t (by first | rfl | assumption)) ?_ | refine TS_puw (Pu.pick_f (by first | rfl | assumption)) ?_ | refine TS_puw (Pu.addi (by omega)) ?_ | refine TS_puw (Pu.subi (by omega)) ?_ | refine TS_append (by omega) (fun _ => ?_) | refine TS_append_own (by omega) (fun _ => ?_) | refine TS_makeSlice (by omega) (fun _ => ?_) | refine TV_cond_t (by first | rfl | assumption) ?_ | refine TV_cond_f (by first | rfl | assumption) ?_ | (refine TV_cond ?_ ?_ <;> intro hc <;> try (cases hc; done)) | (refine TS_guard rfl ?_ ?_ <;> intro hg))
  · refine retT_2 (.inr rfl) ?_
    simp only [tret, allC]
    rw [if_neg (by simpa using hc)]
  · rename_i p
    have hck : (checkC c).2 = 0 := by simpa using hc
    obtain ⟨_, hlen, _⟩ := checkC_ok hck
    refine TV_loop (fun d σ B => ∃ i : Nat, d = c.ops.length - i ∧ i ≤ c.ops.length ∧ TGet σ 6 (intT i) ∧ TGet σ 1 (.v (.pointer (some (ad p 0)))) ∧ SubP B [(p, .cells (circCs c) 82 true)] ∧ c.ops.all cliffO = (c.ops.drop i).all cliffO) c.ops.length
      ⟨0, by omega, by omega, inferInstance, inferInstance, inferInstance, rfl⟩ ?_
    rintro d σ B ⟨i, rfl, hi, g6, g1, hB, hK⟩
    refine TV_keep _ (p := hB) ?_
    have hlo : (opRows c.ops).length = c.ops.length := by simp [opRows]
    repeat (first | refine StepC.go ?_ | intro _ | refine TS_on rfl (by first | rfl | assumption) ?_ | refine TS_off rfl (by first | rfl | assumption) ?_ | refine TS_off_undef rfl ?_ | refine TS_puw (Pu.pick_t (by first | rfl | assumption)) ?_ | refine TS_puw (Pu.pick_f (by first | rfl | assumption)) ?_ | refine TS_puw (Pu.addi (by omega)) ?_ | refine TS_puw (Pu.subi (by omega)) ?_ | refine TS_append (by omega) (fun _ => ?_) | refine TS_append_own (by omega) (fun _ => ?_) | refine TS_makeSlice (by omega) (fun _ => ?_) | refine TV_cond_t (by first | rfl | assumption) ?_ | refine TV_cond_f (by first | rfl | assumption) ?_)
    refine TV_cond ?_ ?_ <;> intro hc
    · have hil : i < c.ops.length := by simp [hlo] at hc; omega
      obtain ⟨o, ho⟩ : ∃ o, c.ops[i]? = some o := ⟨_, List.getElem?_eq_getElem hil⟩
      have ng : NthG (opRows c.ops) i (opCs o) := .map opCs ho
      repeat (first | refine StepC.go ?_ | intro _ | refine TS_on rfl (by first | rfl | assumption) ?_ | refine TS_off rfl (by first | rfl | assumption) ?_ | refine TS_off_undef rfl ?_ | refine TS_puw (Pu.pick_t (by first | rfl | assumption)) ?_ | refine TS_puw (Pu.pick_f (by first | rfl | assumption)) ?_ | refine TS_puw (Pu.addi (by omega)) ?_ | refine TS_puw (Pu.subi (by omega)) ?_ | refine TS_append (by omega) (fun _ => ?_) | refine TS_append_own (by omega) (fun _ => ?_) | refine TS_makeSlice (by omega) (fun _ => ?_) | refine TV_cond_t (by first | rfl | assumption) ?_ | refine TV_cond_f (by first | rfl | assumption) ?_)
      refine TS_guard rfl ?_ ?_ <;> intro hg
      · have hk : o.kind = 1 := by simpa using hg
        repeat (first | refine StepC.go ?_ | intro _ | refine TS_on rfl (by first | rfl | assumption) ?_ | refine TS_off rfl (by first | rfl | assumption) ?_ | refine TS_off_undef rfl ?_ | refine TS_puw (Pu.pick_t (by first | rfl | assumption)) ?_ | refine TS_puw (Pu.pick_f (by first | rfl | assumption)) ?_ | refine TS_puw (Pu.addi (by omega)) ?_ | refine TS_puw (Pu.subi (by omega)) ?_ | refine TS_append (by omega) (fun _ => ?_) | refine TS_append_own (by omega) (fun _ => ?_) | refine TS_makeSlice (by omega) (fun _ => ?_) | refine TV_cond_t (by first | rfl | assumption) ?_ | refine TV_cond_f (by first | rfl | assumption) ?_)
        refine TS_callE (cliffRT o.name) ?_
        repeat (first | refine StepC.go ?_ | intro _ | refine TS_on rfl (by first | rfl | assumption) ?_ | refine TS_off rfl (by first | rfl | assumption) ?_ | refine TS_off_undef rfl ?_ | refine TS_puw (Pu.pick_t (by first | rfl | assumption)) ?_ | refine TS_puw (Pu.pick_f (by first | rfl | assumption)) ?_ | refine TS_puw (Pu.addi (by omega)) ?_ | refine TS_puw (Pu.subi (by omega)) ?_ | refine TS_append (by omega) (fun _ => ?_) | refine TS_append_own (by omega) (fun _ => ?_) | refine TS_makeSlice (by omega) (fun _ => ?_) | refine TV_cond_t (by first | rfl | assumption) ?_ | refine TV_cond_f (by first | rfl | assumption) ?_)
        refine TV_cond ?_ ?_ <;> intro hx
        · have hco : cliffO o = false := by simp [hk] at hx; simp [cliffO, hk, hx]
          repeat (first | refine StepC.go ?_ | intro _ | refine TS_on rfl (by first | rfl | assumption) ?_ | refine TS_off rfl (by first | rfl | assumption) ?_ | refine TS_off_undef rfl ?_ | refine TS_puw (Pu.pick_t (by first | rfl | assumption)) ?_ | refine TS_puw (Pu.pick_f (by first | rfl | assumption)) ?_ | refine TS_puw (Pu.addi (by omega)) ?_ | refine TS_puw (Pu.subi (by omega)) ?_ | refine TS_append (by omega) (fun _ => ?_) | refine TS_append_own (by omega) (fun _ => ?_) | refine TS_makeSlice (by omega) (fun _ => ?_) | refine TV_cond_t (by first | rfl | assumption) ?_ | refine TV_cond_f (by first | rfl | assumption) ?_)
          refine retT_2 (.inr rfl) ?_
          simp only [tret, allC]
          rw [if_pos hck, hK, drop_cons ho, List.all_cons, hco, hck]; rfl
        · have hco : cliffO o = true := by simp [hk] at hx; simp [cliffO, hk, hx]
          repeat (first | refine StepC.go ?_ | intro _ | refine TS_on rfl (by first | rfl | assumption) ?_ | refine TS_off rfl (by first | rfl | assumption) ?_ | refine TS_off_undef rfl ?_ | refine TS_puw (Pu.pick_t (by first | rfl | assumption)) ?_ | refine TS_puw (Pu.pick_f (by first | rfl | assumption)) ?_ | refine TS_puw (Pu.addi (by omega)) ?_ | refine TS_puw (Pu.subi (by omega)) ?_ | refine TS_append (by omega) (fun _ => ?_) | refine TS_append_own (by omega) (fun _ => ?_) | refine TS_makeSlice (by omega) (fun _ => ?_) | refine TV_cond_t (by first | rfl | assumption) ?_ | refine TV_cond_f (by first | rfl | assumption) ?_)
          refine ⟨_, ?_, i + 1, rfl, by omega, inferInstance, inferInstance, inferInstance, by rw [hK]; exact all_drop ho hco⟩
          omega
      · have hk : ¬ o.kind = 1 := by simpa using hg
        repeat (first | refine StepC.go ?_ | intro _ | refine TS_on rfl (by first | rfl | assumption) ?_ | refine TS_off rfl (by first | rfl | assumption) ?_ | refine TS_off_undef rfl ?_ | refine TS_puw (Pu.pick_t (by first | rfl | assumption)) ?_ | refine TS_puw (Pu.pick_f (by first | rfl | assumption)) ?_ | refine TS_puw (Pu.addi (by omega)) ?_ | refine TS_puw (Pu.subi (by omega)) ?_ | refine TS_append (by omega) (fun _ => ?_) | refine TS_append_own (by omega) (fun _ => ?_) | refine TS_makeSlice (by omega) (fun _ => ?_) | refine TV_cond_t (by first | rfl | assumption) ?_ | refine TV_cond_f (by first | rfl | assumption) ?_)
        refine ⟨_, ?_, i + 1, rfl, by omega, inferInstance, inferInstance, inferInstance, by rw [hK]; exact all_drop ho (by simp [cliffO, hk])⟩
        omega
    · have hil : i = c.ops.length := by simp [hlo] at hc; omega
      repeat (first | refine StepC.go ?_ | intro _ | refine TS_on rfl (by first | rfl | assumption) ?_ | refine TS_off rfl (by first | rfl | assumption) ?_ | refine TS_off_undef rfl ?_ | refine TS_puw (Pu.pick_t (by first | rfl | assumption)) ?_ | refine TS_puw (Pu.pick_f (by first | rfl | assumption)) ?_ | refine TS_puw (Pu.addi (by omega)) ?_ | refine TS_puw (Pu.subi (by omega)) ?_ | refine TS_append (by omega) (fun _ => ?_) | refine TS_append_own (by omega) (fun _ => ?_) | refine TS_makeSlice (by omega) (fun _ => ?_) | refine TV_cond_t (by first | rfl | assumption) ?_ | refine TV_cond_f (by first | rfl | assumption) ?_)
      refine retT_2 (.inr rfl) ?_
      simp only [tret, allC]
      rw [if_pos hck, hK, hil, List.drop_length, hck]; rfl
instance : CallIs Try.prog 47 := .of Try.func47 rfl rfl
set_option synthInstance.maxSize 4000 in
set_option synthInstance.maxHeartbeats 400000 in
theorem circuitChecksT {c : CircD} (hw : CircW c) : Fn Try.prog 8 [circT c] (fun r => r = boolT true) := by
  refine Fn_of Try.func8 rfl (Nat.le_of_ble_eq_true rfl) (fun X => ?_)
  repeat (first | refine StepC.go ?_ | intro _ | refine TS_on rfl (by first | rfl | assumption) ?_ | refine TS_off rfl (by first | rfl | assumption) ?_ | refine TS_off_undef rfl ?_ | refine TS_puw (Pu.pick_t (by first | rfl | assumption)) ?_ | refine TS_puw (Pu.pick_f (by first | rfl | assumption)) ?_ | refine TS_puw (Pu.addi (by omega)) ?_ | refine TS_puw (Pu.subi (by omega)) ?_ | refine TS_append (by omega) (fun _ => ?_) | refine TS_append_own (by omega) (fun _ => ?_) | refine TS_makeSlice (by omega) (fun _ => ?_) | refine TV_cond_t (by first | rfl | assumption) ?_ | refine TV_cond_f (by first | rfl | assumption) ?_)
  refine TS_callE awake11T ?_
  repeat (first | refine StepC.go ?_ | intro _ | refine TS_on rfl (by first | rfl | assumption) ?_ | refine TS_off rfl (by first | rfl | assumption) ?_ | refine TS_off_undef rfl ?_ | refine TS_puw (Pu.pick_t (by first | rfl | assumption)) ?_ | refine TS_puw (Pu.pick_f (by first | rfl | assumption)) ?_ | refine TS_puw (Pu.addi (by omega)) ?_ | refine TS_puw (Pu.subi (by omega)) ?_ | refine TS_append (by omega) (fun _ => ?_) | refine TS_append_own (by omega) (fun _ => ?_) | refine TS_makeSlice (by omega) (fun _ => ?_) | refine TV_cond_t (by first | rfl | assumption) ?_ | refine TV_cond_f (by first | rfl | assumption) ?_)
  refine TS_callE (checkRT hw) ?_
  repeat (first | refine StepC.go ?_ | intro _ | refine TS_on rfl (by first | rfl | assumption) ?_ | refine TS_off rfl (by first | rfl | assumption) ?_ | refine TS_off_undef rfl ?_ | refine TS_puw (Pu.pick_t (by first | rfl | assumption)) ?_ | refine TS_puw (Pu.pick_f (by first | rfl | assumption)) ?_ | refine TS_puw (Pu.addi (by omega)) ?_ | refine TS_puw (Pu.subi (by omega)) ?_ | refine TS_append (by omega) (fun _ => ?_) | refine TS_append_own (by omega) (fun _ => ?_) | refine TS_makeSlice (by omega) (fun _ => ?_) | refine TV_cond_t (by first | rfl | assumption) ?_ | refine TV_cond_f (by first | rfl | assumption) ?_)
  refine TS_callE (refHalvesT hw) ?_
  repeat (first | refine StepC.go ?_ | intro _ | refine TS_on rfl (by first | rfl | assumption) ?_ | refine TS_off rfl (by first | rfl | assumption) ?_ | refine TS_off_undef rfl ?_ | refine TS_puw (Pu.pick_t (by first | rfl | assumption)) ?_ | refine TS_puw (Pu.pick_f (by first | rfl | assumption)) ?_ | refine TS_puw (Pu.addi (by omega)) ?_ | refine TS_puw (Pu.subi (by omega)) ?_ | refine TS_append (by omega) (fun _ => ?_) | refine TS_append_own (by omega) (fun _ => ?_) | refine TS_makeSlice (by omega) (fun _ => ?_) | refine TV_cond_t (by first | rfl | assumption) ?_ | refine TV_cond_f (by first | rfl | assumption) ?_)
  refine TS_callE (refCleanT hw) ?_
  repeat (first | refine StepC.go ?_ | intro _ | refine TS_on rfl (by first | rfl | assumption) ?_ | refine TS_off rfl (by first | rfl | assumption) ?_ | refine TS_off_undef rfl ?_ | refine TS_puw (Pu.pick_t (by first | rfl | assumption)) ?_ | refine TS_puw (Pu.pick_f (by first | rfl | assumption)) ?_ | refine TS_puw (Pu.addi (by omega)) ?_ | refine TS_puw (Pu.subi (by omega)) ?_ | refine TS_append (by omega) (fun _ => ?_) | refine TS_append_own (by omega) (fun _ => ?_) | refine TS_makeSlice (by omega) (fun _ => ?_) | refine TV_cond_t (by first | rfl | assumption) ?_ | refine TV_cond_f (by first | rfl | assumption) ?_)
  refine TS_callE (refCliffordT hw) ?_
  repeat (first | refine StepC.go ?_ | intro _ | refine TS_on rfl (by first | rfl | assumption) ?_ | refine TS_off rfl (by first | rfl | assumption) ?_ | refine TS_off_undef rfl ?_ | refine TS_puw (Pu.pick_t (by first | rfl | assumption)) ?_ | refine TS_puw (Pu.pick_f (by first | rfl | assumption)) ?_ | refine TS_puw (Pu.addi (by omega)) ?_ | refine TS_puw (Pu.subi (by omega)) ?_ | refine TS_append (by omega) (fun _ => ?_) | refine TS_append_own (by omega) (fun _ => ?_) | refine TS_makeSlice (by omega) (fun _ => ?_) | refine TV_cond_t (by first | rfl | assumption) ?_ | refine TV_cond_f (by first | rfl | assumption) ?_)
  refine TS_callE (checkT hw) ?_
  repeat (first | refine StepC.go ?_ | intro _ | refine TS_on rfl (by first | rfl | assumption) ?_ | refine TS_off rfl (by first | rfl | assumption) ?_ | refine TS_off_undef rfl ?_ | refine TS_puw (Pu.pick_t (by first | rfl | assumption)) ?_ | refine TS_puw (Pu.pick_f (by first | rfl | assumption)) ?_ | refine TS_puw (Pu.addi (by omega)) ?_ | refine TS_puw (Pu.subi (by omega)) ?_ | refine TS_append (by omega) (fun _ => ?_) | refine TS_append_own (by omega) (fun _ => ?_) | refine TS_makeSlice (by omega) (fun _ => ?_) | refine TV_cond_t (by first | rfl | assumption) ?_ | refine TV_cond_f (by first | rfl | assumption) ?_)
  refine TS_callE (circHalvesT hw) ?_
  repeat (first | refine StepC.go ?_ | intro _ | refine TS_on rfl (by first | rfl | assumption) ?_ | refine TS_off rfl (by first | rfl | assumption) ?_ | refine TS_off_undef rfl ?_ | refine TS_puw (Pu.pick_t (by first | rfl | assumption)) ?_ | refine TS_puw (Pu.pick_f (by first | rfl | assumption)) ?_ | refine TS_puw (Pu.addi (by omega)) ?_ | refine TS_puw (Pu.subi (by omega)) ?_ | refine TS_append (by omega) (fun _ => ?_) | refine TS_append_own (by omega) (fun _ => ?_) | refine TS_makeSlice (by omega) (fun _ => ?_) | refine TV_cond_t (by first | rfl | assumption) ?_ | refine TV_cond_f (by first | rfl | assumption) ?_)
  refine TS_callE (circCleanT hw) ?_
  repeat (first | refine StepC.go ?_ | intro _ | refine TS_on rfl (by first | rfl | assumption) ?_ | refine TS_off rfl (by first | rfl | assumption) ?_ | refine TS_off_undef rfl ?_ | refine TS_puw (Pu.pick_t (by first | rfl | assumption)) ?_ | refine TS_puw (Pu.pick_f (by first | rfl | assumption)) ?_ | refine TS_puw (Pu.addi (by omega)) ?_ | refine TS_puw (Pu.subi (by omega)) ?_ | refine TS_append (by omega) (fun _ => ?_) | refine TS_append_own (by omega) (fun _ => ?_) | refine TS_makeSlice (by omega) (fun _ => ?_) | refine TV_cond_t (by first | rfl | assumption) ?_ | refine TV_cond_f (by first | rfl | assumption) ?_)
  refine TS_callE (circCliffT hw) ?_
  repeat (first | refine StepC.go ?_ | intro _ | refine TS_on rfl (by first | rfl | assumption) ?_ | refine TS_off rfl (by first | rfl | assumption) ?_ | refine TS_off_undef rfl ?_ | refine TS_puw (Pu.pick_t (by first | rfl | assumption)) ?_ | refine TS_puw (Pu.pick_f (by first | rfl | assumption)) ?_ | refine TS_puw (Pu.addi (by omega)) ?_ | refine TS_puw (Pu.subi (by omega)) ?_ | refine TS_append (by omega) (fun _ => ?_) | refine TS_append_own (by omega) (fun _ => ?_) | refine TS_makeSlice (by omega) (fun _ => ?_) | refine TV_cond_t (by first | rfl | assumption) ?_ | refine TV_cond_f (by first | rfl | assumption) ?_)
  exact retT_1 (.inr rfl) rfl
end Go.Ideal

-- Th
set_option linter.unusedSimpArgs false
set_option linter.unusedVariables false
namespace Go.Ideal
open Go Go.Proofs Go.RowKit
/-! ### From the arguments to trees -/
theorem repR_of {F : Mem} {b m : Nat} : ∀ {rows : List (List Tr)} {off : Nat}, (∀ (i : Nat) (row : List Tr), rows[i]? = some row → ∃ vs, rowM F b (off + i * m) m = some vs ∧ RepL F row vs) → RepR F b m rows off := by
  intro rows
  induction rows with
  | nil => intro off _; simp [RepR]
  | cons r rows ih =>
    intro off h
    simp only [RepR]
    refine ⟨by simpa using h 0 r rfl, ih fun i row hr => ?_⟩
    have := h (i + 1) row (by simpa using hr)
    rw [show off + (i + 1) * m = off + m + i * m by rw [Nat.add_mul]; omega] at this
    exact this
theorem ints_rep {h : IHp} {a : Option Addr} {l c : Nat} {xs : List Int} (hs : SlIs h a l c (ints xs)) (hc : c < 2 ^ 63) (hsp : SpotOk a c) : Rep h.cell? (.sl 1 (intRows xs)) (.slice a l c) := by
  obtain ⟨h1, h2, h3⟩ := hs
  rw [ints_len] at h1
  rw [Rep]
  refine ⟨a, l, c, rfl, by simp [intRows, h1], h2, hc, hsp, ?_⟩
  cases a with
  | none => exact h3
  | some a =>
    simp only at h3 ⊢
    refine repR_of fun i row hr => ?_
    simp only [intRows, List.getElem?_map, Option.map_eq_some_iff] at hr
    obtain ⟨x, hx, rfl⟩ := hr
    have hi := (List.getElem?_eq_some_iff.1 hx).1
    have hcell := row_cell h3 i (by omega)
    have hv : (ints xs)[i]? = some (.int .i64 x) := by simp [ints, hx]
    rw [hv] at hcell
    refine ⟨[.int .i64 x], ?_, RepL.cons (rep_v _) RepL.nil⟩
    rw [Nat.mul_one]
    simp [rowM, hcell]
theorem op_rep {h : IHp} {cells : List Value} {o : OpD} (x : OpC h cells o) : RepL h.cell? (opCs o) cells ∧ OpW o := by
  obtain ⟨a, l, c, rfl, h1, h2, h3, h4, h5⟩ := x
  exact ⟨RepL.cons (rep_v _) (RepL.cons (rep_v _) (RepL.cons (ints_rep h1 h4 h5) (RepL.cons (rep_v _) (RepL.cons (rep_v _) (RepL.cons (rep_v _) (RepL.cons (rep_v _) RepL.nil)))))), h2, h3⟩
theorem circ_rep {h : IHp} {a : Option Addr} {l k : Nat} {c : CircD} (x : OpsV h a l k c.ops) (hsp : SpotOk a k) : Rep h.cell? (circT c) (.agg [.int .i64 c.qubits, .int .i64 c.bits, .slice a l k].toArray) ∧ CircW c := by
  obtain ⟨h1, h2, h3, h4⟩ := x
  have hw : CircW c := by
    intro o ho
    obtain ⟨i, hi⟩ := List.getElem?_of_mem ho
    cases a with
    | none => simp only at h4; have : c.ops = [] := List.eq_nil_of_length_eq_zero (by omega); rw [this] at ho; cases ho
    | some a =>
      obtain ⟨cells, _, h6⟩ := h4 i o hi
      exact (op_rep h6).2
  refine ⟨?_, hw⟩
  rw [Rep]
  refine ⟨_, rfl, RepL.cons (rep_v _) (RepL.cons (rep_v _) (RepL.cons ?_ RepL.nil))⟩
  rw [Rep]
  refine ⟨a, l, k, rfl, by simp [opRows, h1], h2, h3, hsp, ?_⟩
  cases a with
  | none => exact h4
  | some a =>
    simp only
    refine repR_of fun i row hr => ?_
    simp only [opRows, List.getElem?_map, Option.map_eq_some_iff] at hr
    obtain ⟨o, ho, rfl⟩ := hr
    obtain ⟨cells, h5, h6⟩ := h4 i o ho
    exact ⟨cells, by rw [← row_rowM]; exact h5, (op_rep h6).1⟩
set_option maxRecDepth 100000 in
theorem circ_sp {h : IHp} {n : Nat} {cs : List Value} (hd : IRd Try.prog h (n + 5) 82 cs) : ∃ (c : CircD) (a : Option Addr) (l k : Nat), OpsV h a l k c.ops ∧ cs = [.int .i64 c.qubits, .int .i64 c.bits, .slice a l k] ∧ SpotOk a k := by
  obtain ⟨c, a, l, k, h1, h2⟩ := circ_of hd
  have h3 : cs = [.int .i64 c.qubits, .int .i64 c.bits, .slice a l k] := by simpa using h1
  refine ⟨c, a, l, k, h2, h3, ?_⟩
  have hu : ∃ f0 f1 f2, Try.prog.underlying 82 = some (.struct #[f0, f1, f2]) ∧ (f2.type = 80 ∧ f2.offset = 2) :=
    ⟨_, _, _, Try.underlying82, ⟨rfl, rfl⟩⟩
  obtain ⟨f0, f1, f2, hu, ⟨t2, o2⟩⟩ := hu
  have csl : Try.prog.cellsOf 80 = 1 := by kernel_rfl
  rw [IRd, hu] at hd
  obtain ⟨_, hf⟩ := hd
  have g2 := hf 2 f2 rfl
  rw [t2, o2, csl, h3] at g2
  simp only [List.take_succ_cons, List.take_zero, List.drop_zero, List.drop_succ_cons] at g2
  rw [IRd, (UnderIs.eq : Try.prog.underlying 80 = _)] at g2
  rcases g2 with e2 | ⟨a', l', c', e2, _, _, h6, _⟩
  · cases e2; exact fun d hd => by cases hd
  · cases e2
    intro d hd
    cases hd
    exact h6
set_option maxRecDepth 100000 in
theorem circ_tree {h : IHp} {n : Nat} {cs : List Value} (hd : IRd Try.prog h (n + 5) 82 cs) : ∃ c : CircD, Rep h.cell? (circT c) (.agg cs.toArray) ∧ CircW c := by
  have h0 := circ_sp hd
  clear hd
  obtain ⟨c, a, l, k, h1, h2, h3⟩ := h0
  exact ⟨c, by rw [h2]; exact circ_rep h1 h3⟩
theorem EvX_of_Fn {P : Program} {f : FuncId} {ts : List Tr} {vs : List Value} {h : IHp} (x : Fn P f ts (fun r => r = boolT true)) (hr : RepL h.cell? ts vs) : EvX P f vs.toArray h (fun v _ => v = .bool true) := by
  unfold Fn at x
  refine (x h.cell? h vs (Sub.refl _) hr).mono ?_
  rintro v h' ⟨_, F, r, _, _, _, h1, rfl⟩
  simpa only [Rep] using h1
end Go.Ideal

-- Ti
set_option linter.unusedSimpArgs false
set_option linter.unusedVariables false
namespace Go.Ideal
open Go Go.Proofs Go.RowKit
theorem circuitChecksW {h : IHp} (hnew : h.new = []) {v : Value} {c : CircD} (hv : Rep h.cell? (circT c) v ∧ CircW c) : EvX Try.prog 8 [v].toArray h (fun v _ => v = .bool true) :=
  EvX_of_Fn (circuitChecksT hv.2) (RepL.cons hv.1 RepL.nil)
end Go.Ideal
