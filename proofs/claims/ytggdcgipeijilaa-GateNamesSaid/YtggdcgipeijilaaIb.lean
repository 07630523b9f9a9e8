/- The interpreter's operations on memory are sound. No condition: no law is claimed here. -/
import Derived.Test.YtggdcgipeijilaaIa
import Derived.Laws.CopyRow
set_option linter.unusedSimpArgs false
set_option linter.unusedVariables false
namespace Go.Ideal
open Go Go.RowKit

section
variable {P : Program} {base : Nat} {w0 w : World} {ρ : RM} {h : IHp} {ev ev' : Operand → Value}

theorem equal_succ (t : TypeId) (x y : Value) : Op.equal t x y = Op.equalIn (9999 + 1) t x y := rfl
theorem eq_slice {t e : TypeId} (hu : P.underlying t = some (.slice e)) (a : Option Addr) (l c l2 c2 : Nat) (w : World) : (Op.equal t (.slice a l c) (.slice none l2 c2)).run P w = .ok a.isNone w := by
  rw [equal_succ]
  generalize 9999 = d
  cases a <;> simp [Op.equalIn, Sem.run_bind, rUnd hu w, Result.andThen]
theorem eq_ptr {t e : TypeId} (hu : P.underlying t = some (.pointer e)) (a : Option Addr) (w : World) : (Op.equal t (.pointer a) (.pointer none)).run P w = .ok a.isNone w := by
  rw [equal_succ]
  generalize 9999 = d
  cases a <;> simp [Op.equalIn, Sem.run_bind, rUnd hu w, Result.andThen]
theorem eq_map {t k e : TypeId} (hu : P.underlying t = some (.map k e)) (a : Option Nat) (w : World) : (Op.equal t (.map a) (.map none)).run P w = .ok a.isNone w := by
  rw [equal_succ]
  generalize 9999 = d
  cases a <;> simp [Op.equalIn, Sem.run_bind, rUnd hu w, Result.andThen]
theorem eq_func0 {t : TypeId} {a b : Array TypeId} {v : Bool} (hu : P.underlying t = some (.func a b v)) (w : World) : (Op.equal t .nilFunc .nilFunc).run P w = .ok true w := by
  rw [equal_succ]
  generalize 9999 = d
  simp [Op.equalIn, Sem.run_bind, rUnd hu w, Result.andThen]
theorem eq_func {t : TypeId} {a b : Array TypeId} {v : Bool} (hu : P.underlying t = some (.func a b v)) (fn : Fn) (f c : Array Value) (w : World) : (Op.equal t (.func fn f c) .nilFunc).run P w = .ok false w := by
  rw [equal_succ]
  generalize 9999 = d
  simp [Op.equalIn, Sem.run_bind, rUnd hu w, Result.andThen]

theorem nil_run {t : TypeId} {x y x' y' : Value} {b : Bool} (hn : inil P t x y = some b) (hx : R ρ x x') (hy : R ρ y y') (w : World) : (Op.equal t x' y').run P w = .ok b w := by
  unfold inil at hn
  split at hn
  · rename_i e a l c l2 c2 hu
    cases hn
    have := R_slice0 hy; subst this
    cases a with
    | none => have := R_slice0 hx; subst this; exact eq_slice hu _ _ _ _ _ w
    | some a => obtain ⟨_, b, _, rfl⟩ := R_slice hx; exact eq_slice hu _ _ _ _ _ w
  · rename_i e a hu
    cases hn
    have : y' = .pointer none := by simpa only [R] using hy
    subst this
    cases a with
    | none =>
      have : x' = .pointer none := by simpa only [R] using hx
      subst this; exact eq_ptr hu _ w
    | some a => obtain ⟨_, b, _, rfl⟩ := R_ptr hx; exact eq_ptr hu _ w
  · rename_i k e a hu
    cases hn
    have : y' = .map none := by simpa only [R] using hy
    subst this
    cases a with
    | none =>
      have : x' = .map none := by simpa only [R] using hx
      subst this; exact eq_map hu _ w
    | some a =>
      simp only [R] at hx
      obtain ⟨_, b, _, rfl⟩ := hx; exact eq_map hu _ w
  · rename_i hu
    cases hn
    have : y' = .nilFunc := by simpa only [R] using hy
    subst this
    have : x' = .nilFunc := by simpa only [R] using hx
    subst this
    exact eq_func0 hu w
  · rename_i ps rs vr fn f c hu
    cases hn
    have : y' = .nilFunc := by simpa only [R] using hy
    subst this
    have : ∃ fn' f' c', x' = .func fn' f' c' := by
      cases fn with
      | func g => rw [R_func] at hx; obtain ⟨f', c', rfl, _⟩ := hx; exact ⟨_, _, _, rfl⟩
      | yield l => simp only [R] at hx; obtain ⟨_, _, _, b, _, rfl⟩ := hx; exact ⟨_, _, _, rfl⟩
      | _ => simp only [R] at hx
    obtain ⟨fn', f', c', rfl⟩ := this
    exact eq_func hu _ _ _ w
  · cases hn

theorem inil_shape {t : TypeId} {x y : Value} {b : Bool} (hn : inil P t x y = some b) : (∃ a l c, x = .slice a l c) ∨ (∃ a, x = .pointer a) ∨ (∃ a, x = .map a) ∨ x = .nilFunc ∨ (∃ f a c, x = .func f a c) := by
  unfold inil at hn
  split at hn
  · exact .inl ⟨_, _, _, rfl⟩
  · exact .inr (.inl ⟨_, rfl⟩)
  · exact .inr (.inr (.inl ⟨_, rfl⟩))
  · exact .inr (.inr (.inr (.inl rfl)))
  · exact .inr (.inr (.inr (.inr ⟨_, _, _, rfl⟩)))
  · cases hn

/-- neither an interface's value, a struct, a number nor a string -/
def plainV : Value → Bool
  | .slice .. | .pointer _ | .map _ | .nilFunc | .func .. => true
  | _ => false
theorem plainV_R {x x' : Value} (h : plainV x = true) (hr : R ρ x x') : plainV x' = true := by
  cases x with
  | slice a l c =>
    cases a with
    | none => have := R_slice0 hr; subst this; rfl
    | some a => obtain ⟨_, b, _, rfl⟩ := R_slice hr; rfl
  | pointer a =>
    cases a with
    | none =>
      have : x' = .pointer none := by simpa only [R] using hr
      subst this; rfl
    | some a => obtain ⟨_, b, _, rfl⟩ := R_ptr hr; rfl
  | map a => cases a with
    | none => have : x' = .map none := by simpa only [R] using hr
              subst this; rfl
    | some a => simp only [R] at hr; obtain ⟨_, b, _, rfl⟩ := hr; rfl
  | nilFunc => have : x' = .nilFunc := by simpa only [R] using hr
               subst this; rfl
  | func fn f c =>
    cases fn with
    | func g => rw [R_func] at hr; obtain ⟨f', c', rfl, _⟩ := hr; rfl
    | yield l => simp only [R] at hr; obtain ⟨_, _, _, b, _, rfl⟩ := hr; rfl
    | _ => simp only [R] at hr
  | _ => simp [plainV] at h
theorem plain_guard {op : BinOp} {t : TypeId} {x y : Operand} {a b : Value} (h : plainV a = true) (w : World) : (eqGuard op t x y a b).run P w = .ok () w := by
  cases a <;> simp [plainV] at h <;> cases op <;> simp [eqGuard]
theorem plain_eql {t : TypeId} {a b : Value} (h : plainV a = true) (w : World) : (binOp .eql t a b).run P w = ((Op.equal t a b).run P w).andThen fun r w => .ok (.bool r) w := by
  cases a <;> simp [plainV] at h <;> simp [binOp]
theorem plain_neq {t : TypeId} {a b : Value} (h : plainV a = true) (w : World) : (binOp .neq t a b).run P w = ((Op.equal t a b).run P w).andThen fun r w => .ok (.bool (!r)) w := by
  cases a <;> simp [plainV] at h <;> simp [binOp]

theorem flat_case {o : Oper} {v : Value} (hs : ∀ cs b, o.op ≠ .select cs b) (hf : ∀ x ∈ o.op.operands, flat (ev x) = true) (hev : EvR ρ ev ev' o) (hp : iflat P ev o = some v) :
    ∃ v', R ρ v v' ∧ Gives P (execOp ev' o) v' := by
  unfold iflat at hp
  split at hp
  · rename_i u hu
    split at hp
    · rename_i hv
      cases hp
      have : execOp ev' o = execOp ev o := execOp_congr o hs fun x hx => flat_eq (hf x hx) (hev x hx)
      rw [this]
      exact ⟨v, flat_R hv, pureOf_run hu⟩
    · cases hp
  · cases hp

theorem opt_map {lo : Option Operand} (hlo : ∀ x, lo = some x → R ρ (ev x) (ev' x)) : (∀ v, lo.map ev = some v → ∃ v', lo.map ev' = some v' ∧ R ρ v v') ∧ (lo.map ev = none → lo.map ev' = none) := by
  cases lo with
  | none => simp
  | some x => simp; exact hlo x rfl

theorem ipure_sound (H : HRel P base w0 ρ h w) {o : Oper} {v : Value} (hp : ipure P h ev o = some v) (hev : EvR ρ ev ev' o) : ∃ v', R ρ v v' ∧ Gives P (execOp ev' o) v' := by
  obtain ⟨dst, op, type, pos, after, guard⟩ := o
  simp only [EvR] at hev
  cases op with
  | move x => simp only [ipure, Option.some.injEq] at hp; subst hp; exact ⟨ev' x, hev x (by simp [Op.operands]), fun w => by simp [execOp]⟩
  | assign x => simp only [ipure, Option.some.injEq] at hp; subst hp; exact ⟨ev' x, hev x (by simp [Op.operands]), fun w => by simp [execOp]⟩
  | pick c a b =>
    simp only [ipure] at hp
    split at hp
    · rename_i t hc
      cases hp
      have h1 := hev c (by simp [Op.operands])
      rw [hc] at h1
      have h2 := R_bool h1
      refine ⟨if t then ev' a else ev' b, ?_, fun w => ?_⟩
      · cases t
        · exact hev b (by simp [Op.operands])
        · exact hev a (by simp [Op.operands])
      · simp [execOp, h2, asBool]
    · cases hp
  | extract t i =>
    simp only [ipure] at hp
    split at hp
    · rename_i vs ht
      have h1 := hev t (by simp [Op.operands])
      rw [ht, R_tuple] at h1
      obtain ⟨ds, h1, hr⟩ := h1
      obtain ⟨v', h2, h3⟩ := RA_get hr hp
      exact ⟨v', h3, fun w => by simp only [execOp, h1, Sem.run_bind, extract_run h2 w, Result.andThen, Sem.run_pure]⟩
    · cases hp
  | field xt x f =>
    simp only [ipure] at hp
    split at hp
    · rename_i fs cs hu hx
      simp only [Option.bind_eq_some_iff] at hp
      obtain ⟨fld, hf, hp⟩ := hp
      have h1 := hev x (by simp [Op.operands])
      rw [hx, R_agg] at h1
      obtain ⟨ds, h1, hr⟩ := h1
      obtain ⟨v', h2, h3⟩ := part_sound hp hr
      exact ⟨v', h2, fun w => by simp only [execOp, h1, Sem.run_bind, field_run hu hf h3 w, Result.andThen, Sem.run_pure]⟩
    · cases hp
  | fieldAddr s x f =>
    simp only [ipure] at hp
    split at hp
    · rename_i fs a hu hx
      simp only [Option.bind_eq_some_iff] at hp
      obtain ⟨fld, hf, n, hn, hp⟩ := hp
      split at hp
      · cases hp
      · rename_i h0
        cases hp
        have h1 := hev x (by simp [Op.operands])
        rw [hx] at h1
        obtain ⟨hsp, b, hb, h1⟩ := R_ptr h1
        refine ⟨_, mkR_ptr (a := { block := a.block, off := a.off + fld.offset }) rfl hb, fun w => ?_⟩
        simp only [execOp, h1, Sem.run_bind, fieldAt_run hu hf hn h0, Result.andThen, Sem.run_pure]
    · cases hp
  | indexAddr t x ix =>
    simp only [ipure] at hp
    have h1 := hev x (by simp [Op.operands])
    have h2 := hev ix (by simp [Op.operands])
    split at hp
    · rename_i e a len cap k i hu hx hi
      rw [hx] at h1; rw [hi] at h2
      split at hp
      · rename_i hb
        simp only [Option.bind_eq_some_iff] at hp
        obtain ⟨n, hn, hp⟩ := hp
        cases hp
        obtain ⟨hsp, b, hbl, h1⟩ := R_slice h1
        have h2 := R_int h2
        refine ⟨_, mkR_ptr (a := { block := a.block, off := a.off + i.toNat * n }) rfl hbl, fun w => ?_⟩
        simp only [execOp, h1, h2, Sem.run_bind, indexAt_slice hu hn hb, Result.andThen, Sem.run_pure]
      · cases hp
    · rename_i len e a k i hu hx hi
      rw [hx] at h1; rw [hi] at h2
      split at hp
      · rename_i hb
        simp only [Option.bind_eq_some_iff] at hp
        obtain ⟨n, hn, hp⟩ := hp
        cases hp
        obtain ⟨hsp, b, hbl, h1⟩ := R_ptr h1
        have h2 := R_int h2
        refine ⟨_, mkR_ptr (a := { block := a.block, off := a.off + i.toNat * n }) rfl hbl, fun w => ?_⟩
        simp only [execOp, h1, h2, Sem.run_bind, indexAt_array hu hn hb, Result.andThen, Sem.run_pure]
      · cases hp
    · cases hp
  | index t x ix =>
    simp only [ipure] at hp
    have h1 := hev x (by simp [Op.operands])
    have h2 := hev ix (by simp [Op.operands])
    split at hp
    · rename_i len e cs k i hu hx hi
      rw [hx] at h1; rw [hi] at h2
      split at hp
      · rename_i hb
        simp only [Option.bind_eq_some_iff] at hp
        obtain ⟨n, hn, hp⟩ := hp
        rw [R_agg] at h1
        obtain ⟨ds, h1, hr⟩ := h1
        have h2 := R_int h2
        obtain ⟨v', h3, h4⟩ := part_sound hp hr
        exact ⟨v', h3, fun w => by simp only [execOp, h1, h2, Sem.run_bind, index_array hu hn hb h4 w, Result.andThen, Sem.run_pure]⟩
      · cases hp
    · rename_i s k i hu hx hi
      rw [hx] at h1; rw [hi] at h2
      split at hp
      · rename_i h0
        simp only [Option.map_eq_some_iff] at hp
        obtain ⟨b, hb, rfl⟩ := hp
        have h1 := R_str h1
        have h2 := R_int h2
        exact ⟨.int .u8 b.toNat, by simp only [R], fun w => by simp only [execOp, h1, h2, Sem.run_bind, index_string hu h0 hb w, Result.andThen, Sem.run_pure]⟩
      · cases hp
    · cases hp
  | build t parts =>
    simp only [ipure] at hp
    obtain ⟨v', h1, h2⟩ := build_sound hp (PRel_map (ev := ev) (ev' := ev') fun p hp => hev p.2 (by
      simp only [Op.operands, List.mem_toArray, List.mem_map]; exact ⟨p, Array.mem_toList_iff.2 hp, rfl⟩))
    exact ⟨v', h1, fun w => by simp only [execOp, Sem.run_bind, h2 w, Result.andThen, Sem.run_pure]⟩
  | makeFunc fn first captured =>
    cases fn with
    | func f =>
      simp only [ipure, Option.some.injEq] at hp
      subst hp
      refine ⟨.func (.func f) (first.map ev') (captured.map ev'), ?_, fun w => by simp [execOp, Instr.makeFunc]⟩
      rw [R_func]
      exact ⟨_, _, rfl, RA_map fun x hx => hev x (by simp [Op.operands, hx]), RA_map fun x hx => hev x (by simp [Op.operands, hx])⟩
    | _ => simp [ipure] at hp
  | slice t x lo hi mx =>
    simp only [ipure] at hp
    have hlo := opt_map (ρ := ρ) (ev := ev) (ev' := ev') (lo := lo) fun y hy => hev y (by simp [Op.operands, hy])
    have hhi := opt_map (ρ := ρ) (ev := ev) (ev' := ev') (lo := hi) fun y hy => hev y (by simp [Op.operands, hy])
    have hmx := opt_map (ρ := ρ) (ev := ev) (ev' := ev') (lo := mx) fun y hy => hev y (by simp [Op.operands, hy])
    obtain ⟨v', h1, h2⟩ := slice_sound H hp (hev x (by simp [Op.operands])) hlo.1 hlo.2 hhi.1 hhi.2 hmx.2
    exact ⟨v', h1, fun w => by simp only [execOp, Sem.run_bind, h2 w, Result.andThen, Sem.run_pure]⟩
  | nilCheck x =>
    simp only [ipure] at hp
    have h1 := hev x (by simp [Op.operands])
    split at hp
    · rename_i a hx
      cases hp
      rw [hx] at h1
      obtain ⟨hs, b, hb, h2⟩ := R_ptr h1
      exact ⟨_, mkR_ptr hs hb, fun w => by simp [execOp, h2]⟩
    · rename_i f a b hx
      cases hp
      rw [hx] at h1
      have h3 := h1
      rw [R_func] at h1
      obtain ⟨f', c', h2, _⟩ := h1
      exact ⟨_, by rw [h2] at h3; exact h3, fun w => by simp [execOp, h2]⟩
    · cases hp
  | binOp bop t x y yt =>
    have h1 := hev x (by simp [Op.operands])
    have h2 := hev y (by simp [Op.operands])
    simp only [ipure] at hp
    split at hp
    · rename_i b hb
      cases hp
      split at hb
      · split at hb
        · have hs := inil_shape hb
          have hpl : plainV (ev x) = true := by rcases hs with ⟨a, l, c, e⟩ | ⟨a, e⟩ | ⟨a, e⟩ | e | ⟨f, a, c, e⟩ <;> rw [e] <;> rfl
          have hpl' := plainV_R hpl h1
          exact ⟨.bool b, by simp only [R], fun w => by simp only [execOp, Sem.run_bind, plain_guard hpl' w, Result.andThen, plain_eql hpl' w, nil_run hb h1 h2 w, Sem.run_pure]⟩
        · simp only [Option.map_eq_some_iff] at hb
          obtain ⟨b', hb, rfl⟩ := hb
          have hs := inil_shape hb
          have hpl : plainV (ev x) = true := by rcases hs with ⟨a, l, c, e⟩ | ⟨a, e⟩ | ⟨a, e⟩ | e | ⟨f, a, c, e⟩ <;> rw [e] <;> rfl
          have hpl' := plainV_R hpl h1
          exact ⟨.bool !b', by simp only [R], fun w => by simp only [execOp, Sem.run_bind, plain_guard hpl' w, Result.andThen, plain_neq hpl' w, nil_run hb h1 h2 w, Sem.run_pure]⟩
        · cases hb
      · cases hb
    · split at hp
      · rename_i hf
        simp only [Bool.and_eq_true] at hf
        exact flat_case (by simp) (fun z hz => by
          simp only [Op.operands, List.mem_toArray, List.mem_cons, List.not_mem_nil, or_false] at hz
          rcases hz with rfl | rfl; exact hf.1; exact hf.2) hev hp
      · cases hp
  | unOp a b c =>
    simp only [ipure] at hp
    split at hp
    · rename_i hf
      simp only [opFlat, List.all_eq_true] at hf
      exact flat_case (by simp) (fun z hz => hf z (Array.mem_toList_iff.2 hz)) hev hp
    · cases hp
  | convert a b c =>
    simp only [ipure] at hp
    split at hp
    · rename_i hf
      simp only [opFlat, List.all_eq_true] at hf
      exact flat_case (by simp) (fun z hz => hf z (Array.mem_toList_iff.2 hz)) hev hp
    · cases hp
  | call c =>
    have gen : (if opFlat ev ⟨dst, .call c, type, pos, after, guard⟩ then iflat P ev ⟨dst, .call c, type, pos, after, guard⟩ else none) = some v →
        ∃ v', R ρ v v' ∧ Gives P (execOp ev' ⟨dst, .call c, type, pos, after, guard⟩) v' := by
      intro hp
      split at hp
      · rename_i hf
        simp only [opFlat, List.all_eq_true] at hf
        exact flat_case (by simp) (fun z hz => hf z (Array.mem_toList_iff.2 hz)) hev hp
      · cases hp
    obtain ⟨callee, args, argTypes⟩ := c
    by_cases hl : callee = .builtin .len
    · subst hl
      simp only [ipure] at hp
      split at hp
      · rename_i x t hx ht
        have h1 := hev x (by simp [Op.operands, Call.operands]; exact Array.mem_of_getElem? hx)
        split at hp
        · rename_i e a n c hu hxx
          cases hp
          rw [hxx] at h1
          refine ⟨.int .i64 n, by simp only [R], fun w => ?_⟩
          have h2 : ∃ a' c', ev' x = .slice a' n c' := by
            cases a with
            | none => exact ⟨_, _, R_slice0 h1⟩
            | some a => obtain ⟨_, b, _, h⟩ := R_slice h1; exact ⟨_, _, h⟩
          obtain ⟨a', c', h2⟩ := h2
          simp [execOp, resolve, invoke, builtin, Builtin.len_, hx, ht, h2, Sem.run_bind, rUnd hu w, Result.andThen, goInt]
        · rename_i s hu hxx
          cases hp
          rw [hxx] at h1
          have h2 := R_str h1
          refine ⟨.int .i64 s.size, by simp only [R], fun w => ?_⟩
          simp [execOp, resolve, invoke, builtin, Builtin.len_, hx, ht, h2, Sem.run_bind, rUnd hu w, Result.andThen, goInt]
        · rename_i n e hu
          cases hp
          refine ⟨.int .i64 n, by simp only [R], fun w => ?_⟩
          cases hxx : ev' x <;> simp [execOp, resolve, invoke, builtin, Builtin.len_, hx, ht, hxx, Sem.run_bind, rUnd hu w, Result.andThen, goInt]
        · cases hp
      · cases hp
    · refine gen ?_
      cases callee with
      | builtin b => cases b <;> first | (exact absurd rfl hl) | (simpa only [ipure] using hp)
      | _ => simpa only [ipure] using hp
  | _ => simp [ipure] at hp
end
end Go.Ideal

set_option linter.unusedSimpArgs false
set_option linter.unusedVariables false
namespace Go.Ideal
open Go Go.RowKit

/-- an operation runs: it yields v', or it yields nothing (and its slot is left undefined) -/
def OkRun (P : Program) (s : Sem Next) (w : World) (v' : Value) (w' : World) : Prop := s.run P w = .ok (.value v') w' ∨ (v' = undef ∧ s.run P w = .ok .skip w')

section
variable {P : Program} {base : Nat} {w0 w : World} {ρ : RM} {h : IHp} {ev ev' : Operand → Value}

theorem run_askRoom' (n : Nat) (w : World) : (askRoom n).run P w = .ok () w := by
  unfold askRoom
  split
  · simp [mark, Sem.run]
  · simp

theorem load_agg {t : TypeId} {rb off : Nat} {vs' : List Value} (ha : iagg P t = some true) (hn : isz P t = some vs'.length) (hc : ∀ (j : Nat) v, vs'[j]? = some v → w.cell? ⟨rb, off + j, none⟩ = some v) :
    (Instr.loadAt t (.pointer (some ⟨rb, off, none⟩))).run P w = .ok (.agg vs'.toArray) w := by
  have := run_loadCells_row (P := P) (w := w) rb off vs' 0 #[] (by simpa using hc)
  simp only [Instr.loadAt, Instr.sureAddr, Sem.run_bind, Sem.run_pure, Result.andThen, loadVar, rAgg ha w, if_true, rSize hn w, loadCells, this]
  simp
theorem load_one {t : TypeId} {rb off : Nat} {v : Value} (ha : iagg P t = some false) (hc : w.cell? ⟨rb, off, none⟩ = some v) :
    (Instr.loadAt t (.pointer (some ⟨rb, off, none⟩))).run P w = .ok v w := by
  simp [Instr.loadAt, Instr.sureAddr, Sem.run_bind, Result.andThen, loadVar, rAgg ha w, load, Sem.run, hc]

theorem load_sound (H : HRel P base w0 ρ h w) {t : TypeId} {a a' u : Value} (hl : iload P h t a = some u) (ha : R ρ a a') : ∃ u', R ρ u u' ∧ (Instr.loadAt t a').run P w = .ok u' w := by
  unfold iload at hl
  split at hl
  · rename_i a
    obtain ⟨hs, rb, hb, rfl⟩ := R_ptr ha
    simp only [Option.bind_eq_some_iff] at hl
    obtain ⟨g, hg, hl⟩ := hl
    cases g with
    | true =>
      simp only [Option.bind_eq_some_iff, Option.map_eq_some_iff] at hl
      obtain ⟨n, hn, vs, hr, rfl⟩ := hl
      obtain ⟨h1, h2, vs', h3, h4, h5⟩ := H.row hb _ _ _ hr
      refine ⟨.agg vs'.toArray, ?_, load_agg hg (by rw [h3]; exact hn) h4⟩
      rw [R_agg]
      exact ⟨_, rfl, RA_of_lists (by omega) h5⟩
    | false =>
      obtain ⟨_, rb', v', hb', hw, hR⟩ := H.cell hl
      rw [hb] at hb'; cases hb'
      exact ⟨v', hR, load_one hg hw⟩
  · cases hl

theorem row_cells {v : Value} (h : isRowV v = true) : ∀ u ∈ v.cells.toList, isCellV u = true := by
  unfold isRowV at h
  rw [List.all_eq_true] at h
  exact h

theorem RA_list {cs ds : Array Value} (h : RA ρ cs ds) : ds.toList.length = cs.toList.length ∧ ∀ (j : Nat) v, cs.toList[j]? = some v → ∃ v', ds.toList[j]? = some v' ∧ R ρ v v' := by
  refine ⟨by simp [h.1], fun j v hj => ?_⟩
  rw [Array.getElem?_toList] at hj ⊢
  exact RA_get h hj

theorem store_sound (H : HRel P base w0 ρ h w) {t : TypeId} {a a' v v' : Value} {h' : IHp} (hs : istore P h t a v = some h') (hrow : isRowV v = true) (ha : R ρ a a') (hv : R ρ v v') :
    ∃ w', (Instr.storeAt t a' v').run P w = .ok () w' ∧ HRel P base w0 ρ h' w' := by
  unfold istore at hs
  split at hs
  · rename_i a
    obtain ⟨hsp, rb, hb, rfl⟩ := R_ptr ha
    simp only [Option.bind_eq_some_iff] at hs
    obtain ⟨n, hn, hs⟩ := hs
    split at hs
    · rename_i hsz
      have hc := R_cells hv
      obtain ⟨w', h1, h2⟩ := HRel.setRow (P := P) (off0 := a.off) hb v.cells.toList v'.cells.toList 0 h h' w H (by simpa using hs) (row_cells hrow) (RA_list hc).1 (RA_list hc).2
      refine ⟨w', ?_, h2⟩
      simp [Instr.storeAt, Instr.sureAddr, Sem.run_bind, Result.andThen, storeVar, rSize hn w, ← hc.1, hsz, h1]
    · cases hs
  · cases hs

/-- a new block of cells -/
theorem push_cells (H : HRel P base w0 ρ h w) {c : List Value} {c' : Array Value} {e : TypeId} {ex : Bool} {x : Nat} (hsz : c'.size = c.length + x * P.cellsOf e) (hx : ex = true → x = 0)
    (hc : ∀ (k : Nat) v, c[k]? = some v → isCellV v = true ∧ ∃ v', c'[k]? = some v' ∧ R ρ v v') (e' : TypeId) :
    HRel P base w0 (ρ.add h.new.length (w.heap.size, x)) (h.push (.cells c e ex)) (w.alloc (.cells c' e')) :=
  H.push fun ρ' hle => ⟨c', e', rfl, hsz, hx, fun k v hk => let ⟨a, v', b, d⟩ := hc k v hk; ⟨a, v', b, R_mono hle _ _ d⟩⟩

theorem push_row (H : HRel P base w0 ρ h w) {c : List Value} {c' : Array Value} {e : TypeId} (hcell : ∀ v ∈ c, isCellV v = true) (hc : RA ρ c.toArray c') (e' : TypeId) :
    HRel P base w0 (ρ.add h.new.length (w.heap.size, 0)) (h.push (.cells c e true)) (w.alloc (.cells c' e')) := by
  refine push_cells H (by rw [← hc.1]; simp) (fun _ => rfl) (fun k v hk => ⟨hcell v (List.mem_of_getElem? hk), ?_⟩) e'
  exact RA_get hc (by simpa using hk)

theorem fresh_ptr (H : HRel P base w0 ρ h w) (p : Nat × Nat) : R (ρ.add h.new.length p) (.pointer (some { block := h.fresh, off := 0 })) (.pointer (some ⟨p.1, 0, none⟩)) :=
  mkR_ptr (a := { block := h.fresh, off := 0 }) rfl (block_fresh H p)
theorem fresh_slice (H : HRel P base w0 ρ h w) (p : Nat × Nat) (l c : Nat) : R (ρ.add h.new.length p) (.slice (some { block := h.fresh, off := 0 }) l c) (.slice (some ⟨p.1, 0, none⟩) l (c + p.2)) := by
  have := mkR_slice (ρ := ρ.add h.new.length p) (a := { block := h.fresh, off := 0 }) (b := p.1) (l := l) (c := c) rfl (block_fresh H p)
  rw [extra_fresh H p] at this
  exact this

theorem izeros_RA {z : Value} {n : Nat} (hf : flat z = true) (hpos : n ≠ 0 → 0 < z.cells.size) : RA ρ (izeros z.cells n).toArray ((Array.range n).map (z.cells[· % z.cells.size]!)) := by
  have hz : RA ρ z.cells z.cells := R_cells (flat_R hf)
  refine RA_mk (by simp [izeros]) fun i v hv => ?_
  simp only [izeros, List.getElem?_toArray, List.getElem?_map, Option.map_eq_some_iff] at hv
  obtain ⟨k, hk, rfl⟩ := hv
  have hkn : k = i ∧ i < n := by
    obtain ⟨hi, rfl⟩ := List.getElem?_eq_some_iff.1 hk
    simp at hi ⊢
    exact hi
  obtain ⟨rfl, hlt⟩ := hkn
  have hm : k % z.cells.size < z.cells.size := Nat.mod_lt _ (hpos (by omega))
  refine ⟨z.cells[k % z.cells.size]!, by simp [hlt], ?_⟩
  have h1 : z.cells.getD (k % z.cells.size) undef = z.cells[k % z.cells.size] := by simp [Array.getD, hm]
  have h2 : z.cells[k % z.cells.size]! = z.cells[k % z.cells.size] := by simp [hm]
  rw [h1, h2]
  have := hz.2 _ hm
  rwa [h1] at this

theorem izeros_cell {z : Value} {n : Nat} (hr : isRowV z = true) (hpos : n ≠ 0 → 0 < z.cells.size) : ∀ v ∈ izeros z.cells n, isCellV v = true := by
  intro v hv
  simp only [izeros, List.mem_map, List.mem_range] at hv
  obtain ⟨k, hk, rfl⟩ := hv
  have hm : k % z.cells.size < z.cells.size := Nat.mod_lt _ (hpos (by omega))
  have h1 : z.cells.getD (k % z.cells.size) undef = z.cells[k % z.cells.size] := by simp [Array.getD, hm]
  rw [h1]
  exact row_cells hr _ (by simp)

theorem run_newVar {t : TypeId} {v : Value} (w : World) : (newVar t v).run P w = .ok ⟨w.heap.size, 0, none⟩ (w.alloc (.cells v.cells t)) := by
  simp [newVar, newRow, Sem.run_bind, Result.andThen]
theorem run_newRow' {t : TypeId} {c : Array Value} (w : World) : (newRow t c).run P w = .ok ⟨w.heap.size, 0, none⟩ (w.alloc (.cells c t)) := by
  simp [newRow, Sem.run_bind, Result.andThen]
end
end Go.Ideal

set_option linter.unusedSimpArgs false
set_option linter.unusedVariables false
namespace Go.Ideal
open Go Go.RowKit

section
variable {P : Program} {base : Nat} {w0 w : World} {ρ : RM} {h : IHp} {ev ev' : Operand → Value}

theorem range0 : Array.range 0 = #[] := rfl
theorem alloc_sound (H : HRel P base w0 ρ h w) {t : TypeId} {z : Value} (hz : izero P t = some z) (hr : isRowV z = true) :
    (Instr.alloc t true (.tuple #[])).run P w = .ok (.pointer (some ⟨w.heap.size, 0, none⟩)) (w.alloc (.cells z.cells t)) ∧
      HRel P base w0 (ρ.add h.new.length (w.heap.size, 0)) (h.push (.cells z.cells.toList t true)) (w.alloc (.cells z.cells t)) := by
  have hf := rZero hz w
  refine ⟨?_, push_row H (row_cells hr) (by simpa using R_cells (flat_R hf.2)) t⟩
  simp only [Instr.alloc, Sem.run_bind, hf.1, Result.andThen, run_newVar, Sem.run_pure]

theorem box_sound (H : HRel P base w0 ρ h w) {t : TypeId} {v v' : Value} (hr : isRowV v = true) (hv : R ρ v v') :
    (Instr.box t v').run P w = .ok (.pointer (some ⟨w.heap.size, 0, none⟩)) (w.alloc (.cells v'.cells t)) ∧
      HRel P base w0 (ρ.add h.new.length (w.heap.size, 0)) (h.push (.cells v.cells.toList t true)) (w.alloc (.cells v'.cells t)) := by
  refine ⟨?_, push_row H (row_cells hr) (by simpa using R_cells hv) t⟩
  simp only [Instr.box, Sem.run_bind, Result.andThen, run_newVar, Sem.run_pure]

theorem buildSlice_sound (H : HRel P base w0 ρ h w) {t e : TypeId} {len s : Nat} {z : Value} {cells : Array Value} {parts parts' : Array (Nat × Value)} (hu : P.underlying t = some (.slice e)) (hs : isz P e = some s)
    (hsz : ¬ (s = 0 || len * s > 2 ^ 24) = true) (hz : izero P e = some z) (hzs : z.cells.size = s)
    (hf : ifill (fun i => some (i * s, s)) (izeros z.cells (len * s)).toArray parts.toList = some cells) (hp : PRel ρ parts.toList parts'.toList) (hc : cells.toList.all isCellV = true) :
    ∃ cells', (Instr.buildSlice t len parts').run P w = .ok (.slice (some ⟨w.heap.size, 0, none⟩) len len) (w.alloc (.cells cells' e)) ∧
      HRel P base w0 (ρ.add h.new.length (w.heap.size, 0)) (h.push (.cells cells.toList e true)) (w.alloc (.cells cells' e)) := by
  simp only [Bool.or_eq_true, decide_eq_true_eq, not_or] at hsz
  have hflat := (rZero hz w).2
  obtain ⟨r', hr', hR⟩ := fill_sound (place' := fun i => some (i * s, s)) (fun _ _ h => h) _ _ _ _ _ hp (izeros_RA (n := len * s) hflat (by omega)) hf
  refine ⟨r', ?_, push_row H (by rw [List.all_eq_true] at hc; exact hc) (by simpa using hR) e⟩
  have hlen : ¬ len * s > 2 ^ 24 := hsz.2
  by_cases h0 : len * s = 0
  · have hfill : Instr.fill (fun i => some (i * s, s)) ((Array.range (len * s)).map ((#[] : Array Value)[· % (#[] : Array Value).size]!)) parts'.toList = some r' := by
      rw [h0] at hr' ⊢; rw [range0, Array.map_empty] at hr' ⊢; exact hr'
    simp only [Instr.buildSlice, Sem.run_bind, rUnd hu w, Result.andThen, rSize hs w, if_neg hlen, if_pos h0, Sem.run_pure, hfill, run_newRow']
  · simp only [Instr.buildSlice, Sem.run_bind, rUnd hu w, Result.andThen, rSize hs w, if_neg hlen, if_neg h0, Sem.run_pure, (rZero hz w).1, hr', run_newRow']

theorem wrap_small {n : Int} (h0 : 0 ≤ n) (h1 : n ≤ 2 ^ 40) : IntKind.i64.wrap n = n := by
  have hb : (2 : Int) ^ IntKind.i64.bits = 18446744073709551616 := by rfl
  have hb' : (2 : Int) ^ (IntKind.i64.bits - 1) = 9223372036854775808 := by rfl
  have h2 : (2 : Int) ^ 40 = 1099511627776 := by rfl
  rw [h2] at h1
  unfold IntKind.wrap
  simp only [hb, hb']
  rw [Int.emod_eq_of_lt h0 (by omega)]
  rw [if_neg]
  simp only [Bool.and_eq_true, decide_eq_true_eq, not_and]
  omega

theorem makeSlice_sound (H : HRel P base w0 ρ h w) {t e : TypeId} {l c : Int} {k k' : IntKind} {ei : TypeInfo} {z : Value} (hu : P.underlying t = some (.slice e)) (hi : P.info? e = some ei) (hz : izero P e = some z)
    (hzs : ¬ (z.cells.size ≠ ei.size || ei.size = 0 || !isRowV z) = true) (hb : 0 ≤ l ∧ l ≤ c ∧ c ≤ 2 ^ 40 ∧ ei.bytes * c ≤ 2 ^ 46) :
    ∃ cells', (Instr.makeSlice t (.int k l) (.int k' c)).run P w = .ok (.slice (some ⟨w.heap.size, 0, none⟩) l.toNat c.toNat) (w.alloc (.cells cells' e)) ∧
      HRel P base w0 (ρ.add h.new.length (w.heap.size, 0)) (h.push (.cells (izeros z.cells (c.toNat * ei.size)) e true)) (w.alloc (.cells cells' e)) := by
  simp only [Bool.or_eq_true, decide_eq_true_eq, not_or, ne_eq, Decidable.not_not, Bool.not_eq_true', Bool.not_eq_false] at hzs
  obtain ⟨⟨hz1, hz2⟩, hz3⟩ := hzs
  obtain ⟨h0, h1, h2, h3⟩ := hb
  have hflat := (rZero hz w).2
  have hpos : c.toNat * ei.size ≠ 0 → 0 < z.cells.size := by omega
  refine ⟨_, ?_, push_row H (izeros_cell hz3 hpos) (izeros_RA hflat hpos) e⟩
  have hwl : IntKind.i64.wrap l = l := wrap_small h0 (by omega)
  have hwc : IntKind.i64.wrap c = c := wrap_small (by omega) h2
  have hsize : isz P e = some ei.size := by simp [isz, hi]
  have hti : (typeInfo e).run P w = .ok ei w := by simp [typeInfo, Sem.run_bind, Result.andThen, hi]
  have h4 : ¬ ((c < 0 || (ei.bytes : Int) * c > 2 ^ 48) || l < 0 || l > c) = true := by
    simp only [Bool.or_eq_true, decide_eq_true_eq, not_or]
    have e1 : (2 : Int) ^ 48 = 281474976710656 := by rfl
    have e2 : (2 : Int) ^ 46 = 70368744177664 := by rfl
    rw [e2] at h3
    rw [e1]
    omega
  simp only [Instr.makeSlice, Sem.run_bind, rUnd hu w, Result.andThen, asInt, asIntOf, Sem.run_pure, hti, hwl, hwc]
  rw [if_neg h4]
  by_cases h0 : c.toNat * ei.size = 0
  · simp only [Sem.run_bind, run_askRoom', Result.andThen, rSize hsize w, if_pos h0, run_newRow', Sem.run_pure]
    rw [h0, range0, Array.map_empty, Array.map_empty]
  · simp only [Sem.run_bind, run_askRoom', Result.andThen, rSize hsize w, if_neg h0, (rZero hz w).1, run_newRow', Sem.run_pure]
end
end Go.Ideal

set_option linter.unusedSimpArgs false
set_option linter.unusedVariables false
namespace Go.Ideal
open Go Go.RowKit

section
variable {P : Program} {base : Nat} {w0 w : World} {ρ : RM} {h : IHp} {ev ev' : Operand → Value}

/-! maps -/
theorem findNow_rel {kd : TypeDesc} {k : Value} : ∀ (es es' : List MapEntry) (i : Nat), es'.length = es.length → (∀ (j : Nat) e, es[j]? = some e → ∃ e', es'[j]? = some e' ∧ ERel ρ e e') →
    match Instr.findNow kd k es i with
    | some none => Instr.findNow kd k es' i = some none
    | some (some (j, v)) => ∃ v', Instr.findNow kd k es' i = some (some (j, v')) ∧ R ρ v v'
    | none => True := by
  intro es
  induction es with
  | nil =>
    intro es' i hl _
    have : es' = [] := by cases es' <;> simp_all
    subst this
    simp [Instr.findNow]
  | cons e es ih =>
    intro es' i hl hr
    cases es' with
    | nil => simp at hl
    | cons e' es' =>
      obtain ⟨e0, h0, h1, h2, h3, h4⟩ := hr 0 e (by simp)
      simp only [List.getElem?_cons_zero, Option.some.injEq] at h0
      subst h0
      simp only [Instr.findNow, h2]
      cases hs : Instr.sameNow kd k e.key with
      | none => simp
      | some b =>
        cases b with
        | true => exact ⟨_, rfl, h3⟩
        | false => exact ih es' (i + 1) (by simpa using hl) fun j e hj => hr (j + 1) e (by simpa using hj)

theorem checkKey_plain {t : TypeId} {kd : TypeDesc} {k : Value} {b : Bool} (hu : P.underlying t = some kd) (hk : plainKey kd = true) (w : World) :
    (Instr.checkKey b 10000 t k).run P w = .ok () w := by
  rw [show (10000 : Nat) = 9999 + 1 from rfl]
  generalize 9999 = d
  cases kd <;> simp [plainKey] at hk <;> simp [Instr.checkKey, Sem.run_bind, rUnd hu w, Result.andThen]

theorem HRel.map (H : HRel P base w0 ρ h w) {r ck : Nat} {es : List MapEntry} {m' : Value} (hr : r % 2 ≠ 1) (hes : h.new[r / 2]? = some (.map es ck)) (hm : R ρ (.map (some r)) m') :
    ∃ b x es', ρ.at_ (r / 2) = some (b, x) ∧ m' = .map (some b) ∧ w.heap[b]? = some (.map es' ck) ∧ es'.toList.length = es.length ∧ ∀ (j : Nat) e, es[j]? = some e → ∃ e', es'.toList[j]? = some e' ∧ ERel ρ e e' := by
  obtain ⟨b, x, hρ, _, _, es', h1, h2, h3⟩ := H.blk _ _ hes
  simp only [R] at hm
  obtain ⟨_, b', hb', rfl⟩ := hm
  simp only [RM.block, hr, if_false, hρ, Option.map_some, Option.some.injEq] at hb'
  subst hb'
  exact ⟨b, x, es', hρ, rfl, h1, by simpa using h2, fun j e hj => by obtain ⟨e', a, b⟩ := h3 j e hj; exact ⟨e', by rw [Array.getElem?_toList]; exact a, b⟩⟩

theorem lookup_sound (H : HRel P base w0 ρ h w) {t : TypeId} {m k m' v : Value} {ok : Bool} (hl : ilookup P h t m k ok = some v) (hm : R ρ m m') :
    flat k = true ∧ ∃ v', R ρ v v' ∧ (Instr.lookup t m' k ok).run P w = .ok v' w := by
  unfold ilookup at hl
  split at hl
  · rename_i kt et r hu
    split at hl
    · cases hl
    · rename_i hr
      split at hl
      · rename_i es ck kd hes hkd
        split at hl
        case isFalse => cases hl
        rename_i hpf
        simp only [Bool.and_eq_true] at hpf
        obtain ⟨hplain, hflat⟩ := hpf
        refine ⟨hflat, ?_⟩
        obtain ⟨b, x, es', hρ, rfl, hw, hlen, hrel⟩ := H.map hr hes hm
        have hget : (getObj b).run P w = .ok (.map es' ck) w := by simp [getObj, Sem.run, hw]
        have hfn := findNow_rel (ρ := ρ) (kd := kd) (k := k) es es'.toList 0 hlen hrel
        split at hl
        · rename_i i u hf
          cases hl
          rw [hf] at hfn
          obtain ⟨v', hf', hv'⟩ := hfn
          refine ⟨if ok then .tuple #[v', .bool true] else v', ?_, ?_⟩
          · cases ok
            · exact hv'
            · simp only [if_true]; rw [R_tuple]
              refine ⟨_, rfl, RA_mk rfl fun i u hu => ?_⟩
              match i with
              | 0 => simp at hu; subst hu; exact ⟨v', by simp, hv'⟩
              | 1 => simp at hu; subst hu; exact ⟨.bool true, by simp, by simp only [R]⟩
              | i + 2 => simp at hu
          · cases ok <;> simp only [Instr.lookup, Sem.run_bind, rUnd hu w, Result.andThen, hget, checkKey_plain hkd hplain w, Instr.findKey, rUnd hkd w, hf', Sem.run_pure, if_true, if_false, Bool.false_eq_true]
        · rename_i hf
          simp only [Option.map_eq_some_iff] at hl
          obtain ⟨z, hz, rfl⟩ := hl
          rw [hf] at hfn
          simp only at hfn
          have hzz := rZero hz w
          refine ⟨if ok then .tuple #[z, .bool false] else z, ?_, ?_⟩
          · cases ok
            · exact flat_R hzz.2
            · simp only [if_true]; rw [R_tuple]
              refine ⟨_, rfl, RA_mk rfl fun i u hu => ?_⟩
              match i with
              | 0 => simp at hu; subst hu; exact ⟨_, by simp, flat_R hzz.2⟩
              | 1 => simp at hu; subst hu; exact ⟨.bool false, by simp, by simp only [R]⟩
              | i + 2 => simp at hu
          · cases ok <;> simp only [Instr.lookup, Sem.run_bind, rUnd hu w, Result.andThen, hget, checkKey_plain hkd hplain w, Instr.findKey, rUnd hkd w, hfn, Sem.run_pure, hzz.1, if_true, if_false, Bool.false_eq_true]
        · cases hl
      · cases hl
  · cases hl

theorem insert_sound (H : HRel P base w0 ρ h w) {t : TypeId} {m k v m' v' : Value} {h' : IHp} (hi : iinsert P h t m k v = some h') (hm : R ρ m m') (hv : R ρ v v') :
    ∃ w', (Instr.mapUpdate t m' k v').run P w = .ok () w' ∧ HRel P base w0 ρ h' w' ∧ flat k = true := by
  unfold iinsert at hi
  split at hi
  · rename_i kt et r hu
    split at hi
    · cases hi
    · rename_i hr
      split at hi
      · rename_i es ck kd hes hkd
        split at hi
        · rename_i hpf
          simp only [Bool.and_eq_true] at hpf
          obtain ⟨hplain, hflat⟩ := hpf
          obtain ⟨b, x, es', hρ, rfl, hw, hlen, hrel⟩ := H.map hr hes hm
          have hget : (getObj b).run P w = .ok (.map es' ck) w := by simp [getObj, Sem.run, hw]
          have hfn := findNow_rel (ρ := ρ) (kd := kd) (k := k) es es'.toList 0 hlen hrel
          split at hi
          · rename_i hf
            cases hi
            rw [hf] at hfn
            simp only at hfn
            refine ⟨{ w with heap := w.heap.setIfInBounds b (.map (es'.push { key := k, val := v', born := ck }) (ck + 1)) }, ?_, ?_, hflat⟩
            · have hset : ∀ o, (setObj b o).run P w = .ok () { w with heap := w.heap.setIfInBounds b o } := by intro o; simp [setObj, Sem.run, hw]
              simp only [Instr.mapUpdate, Sem.run_bind, rUnd hu w, Result.andThen, hget, checkKey_plain hkd hplain w, Instr.findKey, rUnd hkd w, hfn, Sem.run_pure, hset]
            · have hbs : b < w.heap.size := by
                obtain ⟨_, _, hρ', _, hlt, _⟩ := H.blk _ _ hes
                rw [hρ] at hρ'; cases hρ'; exact hlt
              refine H.turn hes rfl hρ ⟨es'.push { key := k, val := v', born := ck }, by simp [hbs], ?_, ?_⟩ (fun j hj => by simp [Array.getElem?_setIfInBounds_ne (Ne.symm hj)]) (by simp) rfl rfl rfl
              · have : es'.size = es.length := by simpa using hlen
                simp [this]
              · intro j e hj
                have hsz : es'.size = es.length := by simpa using hlen
                rw [List.getElem?_append] at hj
                split at hj
                · rename_i hlt
                  obtain ⟨e', h1, h2⟩ := hrel j e hj
                  rw [Array.getElem?_toList] at h1
                  refine ⟨e', ?_, h2⟩
                  rw [Array.getElem?_push, if_neg (by omega)]; exact h1
                · rename_i hge
                  have hj0 : j - es.length = 0 := by
                    by_cases hz : j - es.length = 0
                    · exact hz
                    · rw [List.getElem?_eq_none (by simp; omega)] at hj; cases hj
                  rw [hj0] at hj
                  simp at hj; subst hj
                  have hje : j = es'.size := by omega
                  exact ⟨{ key := k, val := v', born := ck }, by rw [hje]; simp, hflat, rfl, hv, rfl⟩
          · cases hi
        · cases hi
      · cases hi
  · cases hi
end
end Go.Ideal

set_option linter.unusedSimpArgs false
set_option linter.unusedVariables false
namespace Go.Ideal
open Go Go.RowKit

theorem growBy_le (need : Nat) : ∀ (rounds c : Nat), 256 ≤ c → Builtin.growBy need rounds c ≤ 2 ^ rounds * c := by
  intro rounds
  induction rounds with
  | zero => intro c _; simp [Builtin.growBy]
  | succ r ih =>
    intro c hc
    unfold Builtin.growBy
    split
    · have : 1 ≤ 2 ^ (r + 1) := Nat.one_le_two_pow
      exact Nat.le_mul_of_pos_left _ (by omega)
    · have h1 := ih (c + (c + 768) / 4) (by omega)
      refine Nat.le_trans h1 ?_
      rw [Nat.pow_succ, Nat.mul_assoc]
      exact Nat.mul_le_mul_left _ (by omega)
theorem nextcap_le (need old : Nat) (h : old < need) : Builtin.nextslicecap need old ≤ 16 * need := by
  unfold Builtin.nextslicecap
  split
  · omega
  · split
    · omega
    · have := growBy_le need 4 old (by omega)
      omega

section
variable {P : Program} {base : Nat} {w0 w : World} {ρ : RM} {h : IHp} {ev ev' : Operand → Value}

/-- the cells of a slice, read -/
theorem firstCells_sound (H : HRel P base w0 ρ h w) {s n l c : Nat} {xb : Option Addr} {x' : Value} {vs : List Value} (hx : R ρ (.slice xb l c) x')
    (hr : h.rowAt xb n s = some vs) :
    (∀ v ∈ vs, isCellV v = true) ∧ vs.length = n * s ∧ ∃ vs' : List Value, vs'.length = n * s ∧ (∀ (j : Nat) v, vs[j]? = some v → ∃ v', vs'[j]? = some v' ∧ R ρ v v') ∧ (Builtin.firstCells s n x').run P w = .ok vs'.toArray w := by
  cases xb with
  | none =>
    have := R_slice0 hx; subst this
    simp only [IHp.rowAt] at hr
    split at hr
    · rename_i h0; cases hr; subst h0
      exact ⟨by simp, by simp, [], by simp, by simp, by simp [Builtin.firstCells]⟩
    · cases hr
  | some a =>
    obtain ⟨hs, b, hb, rfl⟩ := R_slice hx
    simp only [IHp.rowAt] at hr
    obtain ⟨h1, h2, vs', h3, h4, h5⟩ := H.row hb _ _ _ hr
    refine ⟨h2, h1, vs', h3, h5, ?_⟩
    have := run_loadCells_row (P := P) (w := w) b a.off vs' 0 #[] (by simpa using h4)
    rw [h3] at this
    simp only [Builtin.firstCells, loadCells, this]
    simp

theorem zeroCells_size {z : Array Value} (hz : 0 < z.size) (n : Nat) : (Builtin.zeroCells z n).size = n * z.size := by simp [Builtin.zeroCells]

theorem run_typeInfo' {e : TypeId} {ei : TypeInfo} (hi : P.info? e = some ei) (w : World) : (typeInfo e).run P w = .ok ei w := by simp [typeInfo, Sem.run_bind, Result.andThen, hi]
theorem run_zero' {e : TypeId} {ei : TypeInfo} {z : Value} (hi : P.info? e = some ei) (hz : ei.zero = some z) (w : World) : (zeroValue e).run P w = .ok z w := by
  simp [zeroValue, run_typeInfo' hi w, Sem.run_bind, Result.andThen, hz]

/-- append that stays where it is -/
theorem append_stay {t t1 e e1 : TypeId} {s len n cap : Nat} {base' : Option Addr} {x' : Value} {ats : Array TypeId} {ty : TypeId} {new : List Value} {w w' : World}
    (h0 : ats[0]? = some t) (h1 : ats[1]? = some t1) (hu : P.underlying t = some (.slice e)) (hu1 : P.underlying t1 = some (.slice e1)) (hs : isz P e = some s)
    (hx : (Builtin.lenOf x').run P w = .ok n w) (hfit : len + n ≤ cap) (hnew : (Builtin.firstCells s n x').run P w = .ok new.toArray w)
    (hstore : ∀ a, base' = some a → (storeCells (a.add (len * s)) new).run P w = .ok () w') (hnone : base' = none → w' = w) :
    (Builtin.append_ ats ty #[.slice base' len cap, x']).run P w = .ok (.slice base' (len + n) cap) w' := by
  unfold Builtin.append_
  simp only [h0, h1, List.getElem?_toArray, List.getElem?_cons_zero, List.getElem?_cons_succ, Sem.run_bind, rUnd hu w, Result.andThen, rSize hs w, rUnd hu1 w, Sem.run_pure, Bool.false_eq_true, if_false, hx, if_pos hfit, Bool.not_false, if_true, hnew]
  cases base' with
  | none => rw [hnone rfl]; simp
  | some a => simp only [Sem.run_bind, hstore a rfl, Result.andThen, Sem.run_pure]

/-- append that makes new memory -/
theorem append_grow {t t1 e e1 : TypeId} {len n cap : Nat} {ei : TypeInfo} {z : Value} {base' : Option Addr} {x' : Value} {ats : Array TypeId} {ty : TypeId} {old new : List Value} {w : World}
    (h0 : ats[0]? = some t) (h1 : ats[1]? = some t1) (hu : P.underlying t = some (.slice e)) (hu1 : P.underlying t1 = some (.slice e1)) (hi : P.info? e = some ei) (hz : ei.zero = some z)
    (hzs : z.cells.size = ei.size) (hs0 : ei.size ≠ 0) (hb0 : ei.bytes ≠ 0) (hroom : (len + n) * ei.bytes ≤ 2 ^ 40)
    (hx : ∀ w, (Builtin.lenOf x').run P w = .ok n w) (hfit : cap < len + n) (hnew : (Builtin.firstCells ei.size n x').run P { w with drawn := w.drawn + 1 } = .ok new.toArray { w with drawn := w.drawn + 1 })
    (hold : (Builtin.firstCells ei.size len (.slice base' len cap)).run P { w with drawn := w.drawn + 1 } = .ok old.toArray { w with drawn := w.drawn + 1 }) :
    ∃ more : Nat, (Builtin.append_ ats ty #[.slice base' len cap, x']).run P w =
      .ok (.slice (some ⟨w.heap.size, 0, none⟩) (len + n) (len + n + more)) (World.alloc { w with drawn := w.drawn + 1 } (.cells (old.toArray ++ new.toArray ++ Builtin.zeroCells z.cells more) e)) := by
  refine ⟨(Question.cut (.appendCap (len + n) cap e) (w.tape w.drawn (.appendCap (len + n) cap e))) - (len + n), ?_⟩
  have hsize : isz P e = some ei.size := by simp [isz, hi]
  have hcut : ∀ t, len + n ≤ Question.cut (.appendCap (len + n) cap e) t := by intro t; simp [Question.cut]
  have hneed : len + n ≤ 2 ^ 40 := Nat.le_trans (Nat.le_mul_of_pos_right _ (by omega)) hroom
  have hcap : ¬ Builtin.nextslicecap (len + n) cap * ei.bytes > 2 ^ 48 := by
    have h1 := Nat.mul_le_mul_right ei.bytes (nextcap_le (len + n) cap hfit)
    rw [Nat.mul_assoc] at h1
    have h3 : (2 : Nat) ^ 40 = 1099511627776 := by rfl
    have h4 : (2 : Nat) ^ 48 = 281474976710656 := by rfl
    rw [h3] at hroom
    rw [h4]
    omega
  have hmax : ¬ (((len + n : Nat) : Int) > IntKind.i64.max ∧ ((false : Bool) = true ∨ ei.bytes = 0)) := by
    rintro ⟨_, h | h⟩
    · cases h
    · exact hb0 h
  unfold Builtin.append_
  simp only [h0, h1, List.getElem?_toArray, List.getElem?_cons_zero, List.getElem?_cons_succ, Sem.run_bind, rUnd hu w, Result.andThen, rSize hsize w, rUnd hu1 w, Sem.run_pure, Bool.false_eq_true, if_false, hx, if_neg (show ¬ len + n ≤ cap by omega), Bool.not_false, if_true, run_typeInfo' hi]
  rw [if_neg (by simpa using hmax)]
  simp only [Sem.run_bind, run_typeInfo' hi, Result.andThen]
  rw [if_neg hcap]
  have hch : (choose (.appendCap (len + n) cap e)).run P w = .ok (Question.cut (.appendCap (len + n) cap e) (w.tape w.drawn (.appendCap (len + n) cap e))) { w with drawn := w.drawn + 1 } := by
    simp [choose, Sem.run, Question.forced]
  simp only [Sem.run_bind, hch, run_typeInfo' hi, Result.andThen, run_askRoom', hold, hnew, run_zero' hi hz, run_newRow', Sem.run_pure]
  have := hcut (w.tape w.drawn (.appendCap (len + n) cap e))
  rw [show len + n + (Question.cut (.appendCap (len + n) cap e) (w.tape w.drawn (.appendCap (len + n) cap e)) - (len + n)) = Question.cut (.appendCap (len + n) cap e) (w.tape w.drawn (.appendCap (len + n) cap e)) by omega]
theorem HRel.drewN (H : HRel P base w0 ρ h w) (k : Nat) : HRel P base w0 ρ h { w with drawn := w.drawn + k } :=
  ⟨⟨H.below.os, H.below.tape, H.below.output, H.below.size, H.below.block⟩, H.size, H.old, H.blk, H.inj, H.dom⟩

theorem lenOf_slice {a : Option Addr} {n c : Nat} (w : World) : (Builtin.lenOf (.slice a n c)).run P w = .ok n w := by simp [Builtin.lenOf]

/-- a block is given up, and a new one stands for what it stood for -/
theorem HRel.regrow (H : HRel P base w0 ρ h w) {i r x y : Nat} {o o' : IObj} {w' : World} (hi : h.new[i]? = some o) (hl : o.live = true) (hρ : ρ.at_ i = some (r, x))
    (hO : ∀ ρ', ρ.le ρ' → ORel P ρ' y o' (w'.heap[r]?)) (hsame : ∀ k, k ≠ r → w'.heap[k]? = w.heap[k]?) (hsize : w'.heap.size = w.heap.size)
    (hos : w'.os = w.os) (htape : w'.tape = w.tape) (hout : w'.output = w.output) :
    HRel P base w0 (ρ.add h.new.length (r, y)) { h with new := (h.new.set i .dead) ++ [o'] } w' := by
  obtain ⟨r', x', hρ', hbr, hrw, _⟩ := H.blk _ _ hi
  rw [hρ] at hρ'; cases hρ'
  have hilt : i < h.new.length := (List.getElem?_eq_some_iff.1 hi).1
  have hle : ρ.le (ρ.add h.new.length (r, y)) := RM.le_push H _
  have look : ∀ (j : Nat) oj, ((h.new.set i .dead) ++ [o'])[j]? = some oj → (j = h.new.length ∧ oj = o') ∨ (j = i ∧ oj = .dead) ∨ (j ≠ i ∧ j < h.new.length ∧ h.new[j]? = some oj) := by
    intro j oj hj
    rw [List.getElem?_append] at hj
    split at hj
    · rename_i hlt
      simp only [List.length_set] at hlt
      rw [List.getElem?_set] at hj
      split at hj
      · rename_i e; subst e
        simp only [hilt, if_true, Option.some.injEq] at hj
        exact .inr (.inl ⟨rfl, hj.symm⟩)
      · rename_i hne
        exact .inr (.inr ⟨fun e => hne e.symm, hlt, hj⟩)
    · rename_i hge
      simp only [List.length_set] at hge hj
      have hj0 : j - h.new.length = 0 := by
        by_cases hz : j - h.new.length = 0
        · exact hz
        · rw [List.getElem?_eq_none (by simp; omega)] at hj; cases hj
      rw [hj0] at hj
      simp at hj
      exact .inl ⟨by omega, hj.symm⟩
  refine ⟨⟨hos.trans H.below.os, htape.trans H.below.tape, hout.trans H.below.output, by rw [hsize]; exact H.below.size, fun k hk => ?_⟩, by rw [hsize]; exact H.size, H.old, ?_, ?_, ?_⟩
  · rw [hsame k (by omega)]; exact H.below.block k hk
  · intro j oj hj
    rcases look j oj hj with ⟨rfl, rfl⟩ | ⟨rfl, rfl⟩ | ⟨hne, hlt, hj⟩
    · exact ⟨r, y, RM.add_at _ _ _, hbr, by rw [hsize]; exact hrw, hO _ hle⟩
    · exact ⟨r, x, by rw [RM.add_ne (by omega)]; exact hρ, hbr, by rw [hsize]; exact hrw, trivial⟩
    · obtain ⟨rj, xj, hρj, hbj, hrj, hOj⟩ := H.blk _ _ hj
      refine ⟨rj, xj, by rw [RM.add_ne (by omega)]; exact hρj, hbj, by rw [hsize]; exact hrj, ?_⟩
      by_cases hlj : oj.live = true
      · have : rj ≠ r := fun e => hne (H.inj j i oj o r xj x hj hlj hi hl (e ▸ hρj) hρ)
        rw [hsame _ this]
        exact hOj.mono hle
      · cases oj <;> simp [IObj.live] at hlj
        trivial
  · intro a b oa ob ra xa xb ha hla hb hlb hρa hρb
    rcases look a oa ha with ⟨rfl, rfl⟩ | ⟨rfl, rfl⟩ | ⟨hnea, hlta, ha'⟩
    · rw [RM.add_at] at hρa
      cases hρa
      rcases look b ob hb with ⟨rfl, rfl⟩ | ⟨rfl, rfl⟩ | ⟨hneb, hltb, hb'⟩
      · rfl
      · simp [IObj.live] at hlb
      · rw [RM.add_ne (by omega)] at hρb
        exact absurd (H.inj b i ob o r xb x hb' hlb hi hl hρb hρ) hneb
    · simp [IObj.live] at hla
    · rw [RM.add_ne (by omega)] at hρa
      rcases look b ob hb with ⟨rfl, rfl⟩ | ⟨rfl, rfl⟩ | ⟨hneb, hltb, hb'⟩
      · rw [RM.add_at] at hρb
        cases hρb
        exact absurd (H.inj a i oa o r xa x ha' hla hi hl hρa hρ) hnea
      · simp [IObj.live] at hlb
      · rw [RM.add_ne (by omega)] at hρb
        exact H.inj a b oa ob ra xa xb ha' hla hb' hlb hρa hρb
  · intro j hj
    simp only [List.length_append, List.length_set, List.length_cons, List.length_nil] at hj
    rw [RM.add_ne (by omega)]
    exact H.dom j (by omega)

/-- the block of a slice that may have room is given up; what is appended lies in its block, or in a new one -/
theorem append_sound (H : HRel P base w0 ρ h w) {ats : Array TypeId} {ty : TypeId} {args args' : Array Value} {v : Value} {h' : IHp} (ha : iappend P h ats args = some (v, h')) (hr : RA ρ args args') (hsz : args.size = 2) :
    ∃ ρ' v' w', ρ.le ρ' ∧ HRel P base w0 ρ' h' w' ∧ R ρ' v v' ∧ (Builtin.append_ ats ty args').run P w = .ok v' w' := by
  unfold iappend at ha
  split at ha
  · rename_i t t1 base' len cap x h0 h1 hs hx
    obtain ⟨s', hs', hRs⟩ := RA_get hr hs
    obtain ⟨x', hx', hRx⟩ := RA_get hr hx
    have hargs : args' = #[s', x'] := by
      have hsz' : args'.size = 2 := by rw [← hr.1]; exact hsz
      refine Array.ext (by simp [hsz']) fun i h1 h2 => ?_
      have : i = 0 ∨ i = 1 := by omega
      rcases this with rfl | rfl
      · rw [Array.getElem?_eq_some_iff] at hs'; obtain ⟨_, h⟩ := hs'; simpa using h
      · rw [Array.getElem?_eq_some_iff] at hx'; obtain ⟨_, h⟩ := hx'; simpa using h
    subst hargs
    split at ha
    · rename_i e e1 xb n c hu hu1
      simp only [Option.bind_eq_some_iff] at ha
      obtain ⟨ei, hi, z, hz, ha⟩ := ha
      split at ha
      · cases ha
      · rename_i hok
        simp only [Bool.or_eq_true, decide_eq_true_eq, not_or, ne_eq, Decidable.not_not] at hok
        obtain ⟨⟨hs0, hb0⟩, hzs⟩ := hok
        split at ha
        · rename_i hroom
          have hroom : (len + n) * ei.bytes ≤ 2 ^ 40 := by simpa [roomOk] using hroom
          simp only [Option.bind_eq_some_iff] at ha
          obtain ⟨new, hnew, ha⟩ := ha
          have hsize : isz P e = some ei.size := by simp [isz, hi]
          have hsize' : P.cellsOf e = ei.size := by simp [Program.cellsOf, hi]
          obtain ⟨hcell, hnl, new', hnl', hnR, hnrun⟩ := firstCells_sound H hRx hnew
          have hnrunk : ∃ new'' : List Value, new''.length = n * ei.size ∧ (∀ (j : Nat) v, new[j]? = some v → ∃ v', new''[j]? = some v' ∧ R ρ v v') ∧ (Builtin.firstCells ei.size n x').run P { w with drawn := w.drawn + 1 } = .ok new''.toArray { w with drawn := w.drawn + 1 } := by
            obtain ⟨_, _, a, b, c, d⟩ := firstCells_sound H.drew hRx hnew
            exact ⟨a, b, c, d⟩
          have hlenx : ∀ w, (Builtin.lenOf x').run P w = .ok n w := by
            intro w
            cases xb with
            | none => have := R_slice0 hRx; subst this; exact lenOf_slice w
            | some a => obtain ⟨_, b, _, rfl⟩ := R_slice hRx; exact lenOf_slice w
          split at ha
          · -- it fits
            rename_i hfit
            split at ha
            · -- a nil slice
              split at ha
              · rename_i hn0
                cases ha
                subst hn0
                have := R_slice0 hRs; subst this
                have : new' = [] := by cases new' <;> simp_all
                subst this
                refine ⟨ρ, .slice none (len + 0) cap, w, RM.le_refl _, H, by simp only [R], ?_⟩
                exact append_stay h0 h1 hu hu1 hsize (hlenx w) hfit hnrun (fun a h => by cases h) (fun _ => rfl)
              · cases ha
            · rename_i a
              simp only [Option.map_eq_some_iff] at ha
              obtain ⟨h2, hset, ha⟩ := ha
              simp only [Prod.mk.injEq] at ha
              obtain ⟨rfl, rfl⟩ := ha
              obtain ⟨hsp, b, hb, rfl⟩ := R_slice hRs
              obtain ⟨w', hw', H'⟩ := HRel.setRow (P := P) (off0 := a.off + len * ei.size) hb new new' 0 h _ w H (by simpa using hset) hcell (by omega) hnR
              refine ⟨ρ, .slice (some ⟨b, a.off, none⟩) (len + n) (cap + ρ.extra a.block), w', RM.le_refl _, H', mkR_slice hsp hb, ?_⟩
              refine append_stay h0 h1 hu hu1 hsize (hlenx w) (by omega) hnrun (fun a' h => ?_) (fun h => by cases h)
              cases h
              rw [Addr.add_row]
              exact hw'
          · rename_i hnofit
            have fresh : ∀ (old : List Value) (h2 : IHp), HRel P base w0 ρ h2 w → h.rowAt base' len ei.size = some old → ∀ cap' base'', s' = .slice base'' len cap' → cap' < len + n →
                ∃ ρ' v' w', ρ.le ρ' ∧ HRel P base w0 ρ' (h2.push (.cells (old ++ new) e false)) w' ∧ R ρ' (.slice (some { block := h2.fresh, off := 0 }) (len + n) (len + n)) v' ∧ (Builtin.append_ ats ty #[s', x']).run P w = .ok v' w' := by
              intro old h2 H2 hold cap' base'' hs'' hcap'
              obtain ⟨hoc, hol, old', hol', hoR, horun⟩ := firstCells_sound H.drew hRs hold
              subst hs''
              obtain ⟨new'', hnl'', hnR'', hnrun''⟩ := hnrunk
              obtain ⟨more, hrun⟩ := append_grow (P := P) (ty := ty) (old := old') (new := new'') h0 h1 hu hu1 hi hz hzs hs0 hb0 hroom hlenx hcap' hnrun'' horun (w := w)
              have Hd := H2.drew
              refine ⟨ρ.add h2.new.length ({ w with drawn := w.drawn + 1 }.heap.size, more), _, _, RM.le_push Hd _, push_cells Hd (x := more) (c := old ++ new) (ex := false) (e := e) (c' := old'.toArray ++ new''.toArray ++ Builtin.zeroCells z.cells more) ?_ (by simp) ?_ e, ?_, hrun⟩
              · rw [hsize', ← hzs]
                simp [zeroCells_size (show 0 < z.cells.size by omega), hol', hnl, hnl'', hol, hzs]
              · intro k v hk
                rw [List.getElem?_append] at hk
                rw [Array.getElem?_append, Array.getElem?_append]
                split at hk
                · rename_i hlt
                  obtain ⟨v', h3, h4⟩ := hoR k v hk
                  refine ⟨hoc v (List.mem_of_getElem? hk), v', ?_, h4⟩
                  rw [if_pos (by simp; omega), if_pos (by simp; omega)]
                  simpa using h3
                · rename_i hge
                  obtain ⟨v', h3, h4⟩ := hnR'' _ v hk
                  have hlt := (List.getElem?_eq_some_iff.1 h3).1
                  refine ⟨hcell v (List.mem_of_getElem? hk), v', ?_, h4⟩
                  rw [if_pos (by simp; omega), if_neg (by simp; omega)]
                  simp only [List.size_toArray, hol']
                  rw [← hol]
                  simpa using h3
              · exact fresh_slice Hd ({ w with drawn := w.drawn + 1 }.heap.size, more) (len + n) (len + n)
            split at ha
            · -- nil
              split at ha
              · rename_i hl0
                obtain ⟨rfl, rfl⟩ := hl0
                simp only [Option.some.injEq, Prod.mk.injEq] at ha
                obtain ⟨rfl, rfl⟩ := ha
                have := fresh [] h H (by simp [IHp.rowAt]) 0 none (R_slice0 hRs) (by omega)
                simpa using this
              · cases ha
            · rename_i a
              simp only [Option.bind_eq_some_iff] at ha
              obtain ⟨old, hold, ha⟩ := ha
              obtain ⟨hsp, b, hb, hs''⟩ := R_slice hRs
              split at ha
              · rename_i hex
                simp only [Option.some.injEq, Prod.mk.injEq] at ha
                obtain ⟨rfl, rfl⟩ := ha
                exact fresh old h H hold _ _ hs'' (by rw [H.exact hex]; omega)
              · rename_i hnex
                split at ha
                · rename_i c elem ex hblk
                  split at ha
                  · rename_i hoc
                    obtain ⟨hoff, hclen, hel⟩ := hoc
                    simp only [Option.some.injEq, Prod.mk.injEq] at ha
                    obtain ⟨rfl, rfl⟩ := ha
                    -- the old block is dead
                    have Hdead : HRel P base w0 ρ { h with new := h.new.set (a.block / 2) .dead } w := by
                      obtain ⟨r, x, hρ, _, _, _⟩ := H.blk _ _ hblk
                      exact H.turn hblk rfl hρ trivial (fun _ _ => rfl) rfl rfl rfl rfl
                    by_cases hgrow : cap + ρ.extra a.block < len + n
                    · have := fresh old _ Hdead hold _ _ hs'' hgrow
                      simpa [IHp.fresh, IHp.push] using this
                    · -- it had room
                      subst hel
                      obtain ⟨r, x, hρ, hbr, hrw, c', e', hw, hsz', hexx, hall⟩ := H.blk _ _ hblk
                      have hodd : a.block % 2 ≠ 1 := by
                        intro ho; apply hnex; simp [iexact, ho]
                      have hbr' : b = r := by
                        simp only [RM.block, hodd, if_false, hρ, Option.map_some, Option.some.injEq] at hb; exact hb.symm
                      subst hbr'
                      have hxe : ρ.extra a.block = x := by simp [RM.extra, hodd, hρ]
                      rw [hxe] at hgrow
                      rw [hsize'] at hsz'
                      obtain ⟨hocell, hol, _⟩ := firstCells_sound H hRs hold
                      have hcap1 : len * ei.size + n * ei.size ≤ c'.size := by
                        rw [hsz', hclen, ← Nat.add_mul, ← Nat.add_mul]
                        exact Nat.mul_le_mul_right _ (by omega)
                      have hrow := run_storeCells_at (P := P) b (len * ei.size) e' new' 0 c' w hw (by omega) (fun u hu => by
                        obtain ⟨k, hk⟩ := List.mem_iff_getElem?.1 hu
                        have hlt : k < new.length := by
                          have := (List.getElem?_eq_some_iff.1 hk).1; omega
                        obtain ⟨u', hu', hR⟩ := hnR k new[k] (by simp [hlt])
                        rw [hk] at hu'; cases hu'
                        have h5 := R_cell hR
                        rw [hcell new[k] (List.getElem_mem _)] at h5
                        cases u <;> simp [isCellV] at h5 <;> rfl)
                      simp only [Nat.add_zero] at hrow
                      have holdc : ∀ (k : Nat) v, old[k]? = some v → c[k]? = some v := by
                        have hrowold : h.row a.block 0 (len * ei.size) = some old := by
                          simp only [IHp.rowAt] at hold; rw [hoff] at hold; exact hold
                        have gen : ∀ (m o : Nat) (l : List Value), h.row a.block o m = some l → ∀ (k : Nat) v, l[k]? = some v → c[o + k]? = some v := by
                          intro m
                          induction m with
                          | zero => intro o l hl k v hk; simp [IHp.row] at hl; subst hl; simp at hk
                          | succ m ih =>
                            intro o l hl k v hk
                            simp only [IHp.row, Option.bind_eq_some_iff] at hl
                            obtain ⟨u, hu, us, hus, hl⟩ := hl
                            cases hl
                            cases k with
                            | zero =>
                              simp at hk; subst hk
                              simp only [IHp.cell?, hodd, if_false, hblk] at hu
                              exact hu
                            | succ k =>
                              have := ih (o + 1) us hus k v (by simpa using hk)
                              rw [show o + (k + 1) = o + 1 + k by omega]; exact this
                        intro k v hk
                        simpa using gen _ _ _ hrowold k v hk
                      refine ⟨ρ.add h.new.length (b, cap + x - (len + n)), .slice (some ⟨b, a.off, none⟩) (len + n) (cap + ρ.extra a.block), _, RM.le_push H _,
                        H.regrow (o' := .cells (old ++ new) _ false) hblk rfl hρ (w' := w.setRow b (c'.toList.take (len * ei.size) ++ new' ++ c'.toList.drop (len * ei.size + new'.length)).toArray) ?_ (fun k hk => setRow_other w b k _ hk) (by simp) rfl rfl rfl, ?_, ?_⟩
                      · intro ρ' hle
                        refine ⟨_, e', setRow_heap w b c' _ e' _ hw, ?_, by simp, ?_⟩
                        · have e1 : (c'.toList.take (len * ei.size)).length = len * ei.size := by simp; omega
                          simp only [List.size_toArray, List.length_append, e1, List.length_drop, Array.length_toList, hnl', hol, hnl, hsize', hsz', hclen]
                          have e2 : cap * ei.size + x * ei.size = len * ei.size + n * ei.size + (cap + x - (len + n)) * ei.size := by
                            rw [← Nat.add_mul, ← Nat.add_mul, ← Nat.add_mul]; congr 1; omega
                          omega
                        · intro k v hk
                          rw [List.getElem?_append] at hk
                          have e1 : (c'.toList.take (len * ei.size)).length = len * ei.size := by simp; omega
                          split at hk
                          · rename_i hlt
                            obtain ⟨h6, v', h7, h8⟩ := hall k v (holdc k v hk)
                            refine ⟨h6, v', ?_, R_mono hle _ _ h8⟩
                            rw [List.getElem?_toArray, List.append_assoc, List.getElem?_append, if_pos (by rw [e1]; omega), List.getElem?_take, if_pos (by omega), Array.getElem?_toList]
                            exact h7
                          · rename_i hge
                            obtain ⟨v', h7, h8⟩ := hnR _ v hk
                            have hlt := (List.getElem?_eq_some_iff.1 h7).1
                            refine ⟨hcell v (List.mem_of_getElem? hk), v', ?_, R_mono hle _ _ h8⟩
                            rw [List.getElem?_toArray, List.append_assoc, List.getElem?_append, if_neg (by rw [e1]; omega), List.getElem?_append, e1, ← hol, if_pos hlt]
                            exact h7
                      · have := fresh_slice H (b, cap + x - (len + n)) (len + n) (len + n)
                        rw [hxe, hoff]
                        simp only at this
                        rw [show len + n + (cap + x - (len + n)) = cap + x by omega] at this
                        exact this
                      · rw [hs'']
                        refine append_stay h0 h1 hu hu1 hsize (hlenx w) (by omega) hnrun (fun a' h => ?_) (fun h => by cases h)
                        cases h
                        rw [Addr.add_row, hoff, Nat.zero_add]
                        exact hrow
                  · cases ha
                · cases ha
        · cases ha
    · cases ha
  · cases ha
end
end Go.Ideal

set_option linter.unusedSimpArgs false
set_option linter.unusedVariables false
namespace Go.Ideal
open Go Go.RowKit

section
variable {P : Program} {base : Nat} {w0 w : World} {ρ : RM} {h : IHp} {ev ev' : Operand → Value}

theorem okrun_value {s : Sem Value} {w w' : World} {v : Value} (h : s.run P w = .ok v w') : OkRun P (do pure (.value (← s))) w v w' := by
  left; simp only [Sem.run_bind, h, Result.andThen, Sem.run_pure]
theorem okrun_unit {s : Sem Unit} {w w' : World} (h : s.run P w = .ok () w') : OkRun P (do s; pure .skip) w undef w' := by
  right; exact ⟨rfl, by simp only [Sem.run_bind, h, Result.andThen, Sem.run_pure]⟩

theorem iheap_sound (H : HRel P base w0 ρ h w) {o : Oper} {v : Value} {h' : IHp} (hp : iheap P h ev o = some (v, h')) (hev : EvR ρ ev ev' o) :
    ∃ ρ' v' w', ρ.le ρ' ∧ HRel P base w0 ρ' h' w' ∧ R ρ' v v' ∧ OkRun P (execOp ev' o) w v' w' := by
  have pure_case : ∀ {v h'}, (ipure P h ev o).map (·, h) = some (v, h') → ∃ ρ' v' w', ρ.le ρ' ∧ HRel P base w0 ρ' h' w' ∧ R ρ' v v' ∧ OkRun P (execOp ev' o) w v' w' := by
    intro v h' hp
    simp only [Option.map_eq_some_iff, Prod.mk.injEq] at hp
    obtain ⟨u, hu, rfl, rfl⟩ := hp
    obtain ⟨v', h1, h2⟩ := ipure_sound H hu hev
    exact ⟨ρ, v', w, RM.le_refl _, H, h1, .inl (h2 w)⟩
  obtain ⟨dst, op, type, pos, after, guard⟩ := o
  simp only [EvR] at hev
  cases op with
  | load t a =>
    simp only [iheap, Option.map_eq_some_iff, Prod.mk.injEq] at hp
    obtain ⟨u, hu, rfl, rfl⟩ := hp
    obtain ⟨u', h1, h2⟩ := load_sound H hu (hev a (by simp [Op.operands]))
    exact ⟨ρ, u', w, RM.le_refl _, H, h1, okrun_value h2⟩
  | store t a x =>
    simp only [iheap] at hp
    split at hp
    · rename_i hrow
      simp only [Option.map_eq_some_iff, Prod.mk.injEq] at hp
      obtain ⟨h1, hs, rfl, rfl⟩ := hp
      obtain ⟨w', h2, h3⟩ := store_sound H hs hrow (hev a (by simp [Op.operands])) (hev x (by simp [Op.operands]))
      exact ⟨ρ, undef, w', RM.le_refl _, h3, R_undef, okrun_unit h2⟩
    · cases hp
  | alloc t =>
    simp only [iheap, Option.bind_eq_some_iff] at hp
    obtain ⟨z, hz, hp⟩ := hp
    split at hp
    · rename_i hr
      simp only [Option.some.injEq, Prod.mk.injEq] at hp
      obtain ⟨rfl, rfl⟩ := hp
      obtain ⟨h1, h2⟩ := alloc_sound H hz hr
      exact ⟨_, _, _, RM.le_push H _, h2, fresh_ptr H _, okrun_value h1⟩
    · cases hp
  | box t x =>
    simp only [iheap] at hp
    split at hp
    · rename_i hr
      simp only [Option.some.injEq, Prod.mk.injEq] at hp
      obtain ⟨rfl, rfl⟩ := hp
      obtain ⟨h1, h2⟩ := box_sound H (t := t) hr (hev x (by simp [Op.operands]))
      exact ⟨_, _, _, RM.le_push H _, h2, fresh_ptr H _, okrun_value h1⟩
    · cases hp
  | buildSlice t len parts =>
    simp only [iheap] at hp
    split at hp
    · rename_i e hu
      simp only [Option.bind_eq_some_iff] at hp
      obtain ⟨s, hs, hp⟩ := hp
      split at hp
      · cases hp
      · rename_i hsz
        simp only [Option.bind_eq_some_iff] at hp
        obtain ⟨z, hz, hp⟩ := hp
        split at hp
        · cases hp
        · rename_i hzs
          simp only [Option.bind_eq_some_iff] at hp
          obtain ⟨cells, hf, hp⟩ := hp
          split at hp
          · rename_i hc
            simp only [Option.some.injEq, Prod.mk.injEq] at hp
            obtain ⟨rfl, rfl⟩ := hp
            obtain ⟨cells', h1, h2⟩ := buildSlice_sound H hu hs hsz hz (by simpa using hzs) hf (PRel_map (ev := ev) (ev' := ev') (ps := parts) fun p hp => hev p.2 (by
              simp only [Op.operands, List.mem_toArray, List.mem_map]; exact ⟨p, Array.mem_toList_iff.2 hp, rfl⟩)) hc
            exact ⟨_, _, _, RM.le_push H _, h2, fresh_slice H (w.heap.size, 0) len len, okrun_value h1⟩
          · cases hp
    · cases hp
  | makeSlice t l c =>
    simp only [iheap] at hp
    have hl := hev l (by simp [Op.operands])
    have hc := hev c (by simp [Op.operands])
    split at hp
    · rename_i e k li k' ci hu hel hec
      rw [hel] at hl; rw [hec] at hc
      simp only [Option.bind_eq_some_iff] at hp
      obtain ⟨ei, hi, z, hz, hp⟩ := hp
      split at hp
      · cases hp
      · rename_i hzs
        split at hp
        · rename_i hb
          simp only [Option.some.injEq, Prod.mk.injEq] at hp
          obtain ⟨rfl, rfl⟩ := hp
          obtain ⟨cells', h1, h2⟩ := makeSlice_sound H (k := k) (k' := k') hu hi hz hzs hb
          refine ⟨_, _, _, RM.le_push H _, h2, fresh_slice H (w.heap.size, 0) _ _, ?_⟩
          refine okrun_value ?_
          rw [R_int hl, R_int hc]
          exact h1
        · cases hp
    · cases hp
  | makeMap t r =>
    cases r with
    | none =>
      simp only [iheap, Option.some.injEq, Prod.mk.injEq] at hp
      obtain ⟨rfl, rfl⟩ := hp
      refine ⟨_, .map (some w.heap.size), _, RM.le_push H (w.heap.size, 0), H.push (O := .map #[] 0) (o := .map [] 0) fun ρ' hle => ⟨#[], rfl, rfl, by simp⟩, ?_, ?_⟩
      · simp only [R]
        exact ⟨by simp [IHp.fresh], _, block_fresh H (w.heap.size, 0), rfl⟩
      · refine okrun_value ?_
        simp [Instr.makeMap, Sem.run_bind, Result.andThen]
    | some r => simp [iheap, ipure] at hp
  | mapUpdate t m k x =>
    simp only [iheap, Option.map_eq_some_iff, Prod.mk.injEq] at hp
    obtain ⟨h1, hi, rfl, rfl⟩ := hp
    obtain ⟨w', h2, h3, hk⟩ := insert_sound H hi (hev m (by simp [Op.operands])) (hev x (by simp [Op.operands]))
    rw [← flat_eq hk (hev k (by simp [Op.operands]))] at h2
    exact ⟨ρ, undef, w', RM.le_refl _, h3, R_undef, okrun_unit h2⟩
  | insert t m k x =>
    simp only [iheap, Option.map_eq_some_iff, Prod.mk.injEq] at hp
    obtain ⟨h1, hi, rfl, rfl⟩ := hp
    obtain ⟨w', h2, h3, hk⟩ := insert_sound H hi (hev m (by simp [Op.operands])) (hev x (by simp [Op.operands]))
    rw [← flat_eq hk (hev k (by simp [Op.operands]))] at h2
    exact ⟨ρ, undef, w', RM.le_refl _, h3, R_undef, okrun_unit h2⟩
  | lookup t m k ok =>
    simp only [iheap, Option.map_eq_some_iff, Prod.mk.injEq] at hp
    obtain ⟨u, hl, rfl, rfl⟩ := hp
    obtain ⟨hk, v', h1, h2⟩ := lookup_sound H hl (hev m (by simp [Op.operands]))
    rw [← flat_eq hk (hev k (by simp [Op.operands]))] at h2
    exact ⟨ρ, v', w, RM.le_refl _, H, h1, okrun_value h2⟩
  | call c =>
    obtain ⟨callee, args, argTypes⟩ := c
    by_cases ha : callee = .builtin .append
    · subst ha
      simp only [iheap] at hp
      split at hp
      · rename_i hsz
        obtain ⟨ρ', v', w', h1, h2, h3, h4⟩ := append_sound (ty := type) H hp (RA_map (ev := ev) (ev' := ev') (xs := args) fun x hx => hev x (by simp [Op.operands, Call.operands, hx])) (by simpa using hsz)
        refine ⟨ρ', v', w', h1, h2, h3, .inl ?_⟩
        simp only [execOp, resolve, Sem.run_bind, Sem.run_pure, Result.andThen, invoke, builtin, h4]
      · cases hp
    · refine pure_case ?_
      cases callee with
      | builtin b => cases b <;> first | (exact absurd rfl ha) | (simpa only [iheap] using hp)
      | _ => simpa only [iheap] using hp
  | _ => exact pure_case (by simpa only [iheap] using hp)
end
end Go.Ideal
