/- Part 3 of what the proof stands on: an interpreter over an ideal memory that is proved sound, steps over it, and contracts of the functions that are called. No condition: no law is claimed here. -/
import Derived.Test.YtggdcgipeijilaaC2
import Derived.ChangeArms
import Derived.ChangeShapes
import Derived.WideShapes
import Derived.KernelRfl
import Derived.Test.YtggdcgipeijilaaProg
-- IdealBr
set_option linter.unusedSimpArgs false
set_option linter.unusedVariables false
namespace Go.Ideal
open Go Go.RowKit

/-! ### What a reading of the arguments says of the ideal heap -/
def up (v : Value) : Value := (upv v).getD undef
def IRd (P : Program) (h : IHp) : Nat → TypeId → List Value → Prop
  | 0, _, _ => False
  | n + 1, t, cs =>
    match P.underlying t with
    | some .bool => ∃ b, cs = [.bool b]
    | some (.int k) => ∃ i, cs = [.int k i] ∧ (Lit.int k i).wf = true
    | some .string => ∃ s, cs = [.string s] ∧ s.size ≤ maxLen
    | some (.slice e) => cs = [.slice none 0 0] ∨ ∃ a l c, cs = [.slice (some a) l c] ∧ l ≤ c ∧ c ≤ maxLen ∧ ∀ i, i < c → ∃ row, h.row a.block (a.off + i * P.cellsOf e) (P.cellsOf e) = some row ∧ IRd P h n e row
    | some (.struct fs) => cs.length = P.cellsOf t ∧ ∀ (i : Nat) (f : Field), fs[i]? = some f → IRd P h n f.type ((cs.drop f.offset).take (P.cellsOf f.type))
    | _ => False
/-- the fields lie one behind the other -/
def tiles (P : Program) : List Field → Nat → Nat → Bool
  | [], at_, all => at_ == all
  | f :: fs, at_, all => f.offset == at_ && tiles P fs (at_ + P.cellsOf f.type) all
/-- plain data -/
def plainT (P : Program) : Nat → TypeId → Bool
  | 0, _ => false
  | n + 1, t =>
    match P.underlying t with
    | some .bool | some (.int _) | some .string => true
    | some (.slice e) => P.cellsOf e != 0 && plainT P n e
    | some (.struct fs) => tiles P fs.toList 0 (P.cellsOf t) && fs.toList.all fun f => plainT P n f.type
    | _ => false
theorem tiles_mem {P : Program} {cs : List Value} : ∀ (fs : List Field) (at_ : Nat), tiles P fs at_ cs.length = true → ∀ v ∈ cs.drop at_, ∃ f ∈ fs, v ∈ (cs.drop f.offset).take (P.cellsOf f.type) := by
  intro fs
  induction fs with
  | nil =>
    intro at_ h v hv
    simp only [tiles, beq_iff_eq] at h
    rw [List.drop_of_length_le (by omega)] at hv
    cases hv
  | cons f fs ih =>
    intro at_ h v hv
    simp only [tiles, Bool.and_eq_true, beq_iff_eq] at h
    obtain ⟨h1, h2⟩ := h
    rw [← List.take_append_drop (P.cellsOf f.type) (cs.drop at_)] at hv
    rcases List.mem_append.1 hv with h3 | h3
    · exact ⟨f, List.mem_cons_self, by rw [h1]; exact h3⟩
    · rw [List.drop_drop] at h3
      obtain ⟨g, h4, h5⟩ := ih _ h2 v h3
      exact ⟨g, List.mem_cons_of_mem _ h4, h5⟩
theorem up_of {v u : Value} (h : upv v = some u) : up v = u := by simp [up, h]
theorem mapM_cells {w : World} {a : Addr} (hs : a.spot = none) : ∀ (n k : Nat) (row : List Value), ((List.range' k n).mapM fun i => w.cell? (a.add i)) = some row → (∀ v ∈ row, (upv v).isSome = true) → (heapOf w).row (2 * a.block + 1) (a.off + k) n = some (row.map up) := by
  intro n
  induction n with
  | zero => intro k row h _; simp at h; subst h; rfl
  | succ n ih =>
    intro k row h hup
    rw [List.range'_succ, List.mapM_cons] at h
    cases h1 : w.cell? (a.add k) with
    | none => simp [h1] at h
    | some v =>
      cases h2 : (List.range' (k + 1) n).mapM fun i => w.cell? (a.add i) with
      | none => simp [h1, h2] at h
      | some vs =>
        simp [h1, h2] at h
        subst h
        have h3 := ih (k + 1) vs h2 (fun v hv => hup v (List.mem_cons_of_mem _ hv))
        obtain ⟨u, hu⟩ := Option.isSome_iff_exists.1 (hup v List.mem_cons_self)
        have hadd : a.add k = ⟨a.block, a.off + k, none⟩ := by
          unfold Addr.add
          split
          · rename_i h0; subst h0; cases a; simp at hs; subst hs; rfl
          · rfl
        rw [hadd] at h1
        have hb : a.block < w.heap.size := by
          simp only [World.cell?] at h1
          split at h1
          · rename_i hx; exact (Array.getElem?_eq_some_iff.1 hx).1
          · cases h1
        have h4 : (heapOf w).cell? (2 * a.block + 1) (a.off + k) = some u := by
          simp only [IHp.cell?, heapOf]
          rw [if_pos (by omega), show (2 * a.block + 1) / 2 = a.block by omega, if_pos hb, h1]
          exact hu
        simp only [IHp.row, h4, Option.bind_some, show a.off + k + 1 = a.off + (k + 1) by omega, h3, List.map_cons, up_of hu]
theorem irow {w : World} {a : Addr} {n : Nat} {row : List Value} (hs : a.spot = none) (h : w.cells? 0 a n = some row) (hup : ∀ v ∈ row, (upv v).isSome = true) : (heapOf w).row (2 * a.block + 1) a.off n = some (row.map up) := by
  simp only [World.cells?, Nat.zero_le, if_true] at h
  rw [List.range_eq_range'] at h
  simpa using mapM_cells hs n 0 row h hup
section
variable {H : Type} {enc : TypeId × Value → H} {P : Program} {w : World} {held : Bool}
theorem bridge : ∀ (N : Nat) (t : TypeId) (fuel : Nat) (cs : List Value) (x : DataW H × List MemPlace), plainT P N t = true → DataW.trod enc P w 0 (fun _ => true) held fuel t cs = some x → (∀ v ∈ cs, (upv v).isSome = true) ∧ IRd P (heapOf w) N t (cs.map up) := by
  intro N
  induction N with
  | zero => intro t fuel cs x h; simp [plainT] at h
  | succ N ih =>
    intro t fuel cs x hp h
    rw [plainT] at hp
    rw [IRd]
    split at hp
    · rename_i hu
      obtain ⟨b, rfl, _⟩ := DataW.trod_bool hu h
      exact ⟨by simp [upv], b, by simp [up, upv]⟩
    · rename_i k hu
      obtain ⟨i, rfl, _, hw⟩ := DataW.trod_int hu h
      exact ⟨by simp [upv], i, by simp [up, upv], hw⟩
    · rename_i hu
      obtain ⟨s, rfl, _, hw⟩ := DataW.trod_string hu h
      exact ⟨by simp [upv], s, by simp [up, upv], hw⟩
    · rename_i e hu
      simp only [Bool.and_eq_true, bne_iff_ne, ne_eq] at hp
      obtain ⟨hn, hpe⟩ := hp
      rcases DataW.trod_slice hu h with ⟨rfl, _⟩ | ⟨a, l, c, elems, rest, m, rfl, rfl, _, _, hlc, hcm, hel, he, hr, _⟩
      · exact ⟨by simp [upv], .inl (by simp [up, upv])⟩
      · obtain ⟨hrl, hr⟩ := hr rfl
        have hat : ∀ i, i < c → ∃ row y, w.cells? 0 (a.add (i * P.cellsOf e)) (P.cellsOf e) = some row ∧ DataW.trod enc P w 0 (fun _ => true) held m e row = some y := by
          intro i hi
          by_cases hil : i < l
          · have h1 := he i hil
            rw [List.getElem?_eq_getElem (by omega)] at h1
            simp only [Option.bind_eq_some_iff] at h1
            obtain ⟨row, h2, h3⟩ := h1
            exact ⟨row, _, h2, h3⟩
          · have h1 := hr (i - l) (by omega)
            rw [List.getElem?_eq_getElem (by omega), show l + (i - l) = i by omega] at h1
            simp only [Option.bind_eq_some_iff] at h1
            obtain ⟨row, h2, h3⟩ := h1
            exact ⟨row, _, h2, h3⟩
        by_cases hs : a.spot = none
        · have hup : upv (.slice (some a) l c) = some (.slice (some { block := 2 * a.block + 1, off := a.off }) l c) := by simp [upv, hs]
          refine ⟨by simp [hup], .inr ⟨{ block := 2 * a.block + 1, off := a.off }, l, c, by simp [up_of hup], hlc, hcm, fun i hi => ?_⟩⟩
          obtain ⟨row, y, h1, h2⟩ := hat i hi
          obtain ⟨h3, h4⟩ := ih e m row y hpe h2
          refine ⟨row.map up, ?_, h4⟩
          have hsp : (a.add (i * P.cellsOf e)).spot = none := by unfold Addr.add; split <;> simp [hs]
          have h5 := irow hsp h1 h3
          have hblk : (a.add (i * P.cellsOf e)).block = a.block := by unfold Addr.add; split <;> rfl
          have hoff : (a.add (i * P.cellsOf e)).off = a.off + i * P.cellsOf e := by unfold Addr.add; split <;> simp_all
          rw [hblk, hoff] at h5
          exact h5
        · have hc0 : c = 0 := by
            apply Decidable.byContradiction
            intro hc
            obtain ⟨row, y, h1, _⟩ := hat 0 (by omega)
            have ha0 : a.add (0 * P.cellsOf e) = a := by simp [Addr.add]
            rw [ha0] at h1
            simp only [World.cells?, Nat.zero_le, if_true] at h1
            obtain ⟨m', hm'⟩ : ∃ m', P.cellsOf e = m' + 1 := ⟨P.cellsOf e - 1, by omega⟩
            rw [hm', List.range_succ_eq_map, List.mapM_cons] at h1
            have : w.cell? (a.add 0) = none := by
              simp only [World.cell?, Addr.add, if_true]
              split
              · rw [if_pos]; cases hsp : a.spot with
                | none => exact absurd hsp hs
                | some _ => rfl
              · rfl
            rw [this] at h1
            simp at h1
          have hl0 : l = 0 := by omega
          subst hc0; subst hl0
          have hup : upv (.slice (some a) 0 0) = some (.slice (some a) 0 0) := by simp [upv, hs]
          exact ⟨by simp [hup], .inr ⟨a, 0, 0, by simp [up_of hup], Nat.le_refl _, Nat.zero_le _, fun i hi => absurd hi (Nat.not_lt_zero i)⟩⟩
    · rename_i fs hu
      simp only [Bool.and_eq_true, List.all_eq_true] at hp
      obtain ⟨htile, hall⟩ := hp
      obtain ⟨xs, m, rfl, _, hlen, hxl, hf⟩ := DataW.trod_struct hu h
      have hfield : ∀ (i : Nat) (f : Field), fs[i]? = some f → (∀ v ∈ (cs.drop f.offset).take (P.cellsOf f.type), (upv v).isSome = true) ∧ IRd P (heapOf w) N f.type (((cs.drop f.offset).take (P.cellsOf f.type)).map up) := by
        intro i f hfi
        have h1 := hf i f hfi
        have hi : i < xs.length := by rw [hxl]; exact (Array.getElem?_eq_some_iff.1 hfi).1
        rw [List.getElem?_eq_getElem hi] at h1
        exact ih _ _ _ _ (hall f (by rw [Array.mem_toList_iff]; exact Array.mem_of_getElem? hfi)) h1
      refine ⟨fun v hv => ?_, by simpa using hlen, fun i f hfi => ?_⟩
      · rw [← hlen] at htile
        obtain ⟨f, h1, h2⟩ := tiles_mem fs.toList 0 htile v (by simpa using hv)
        obtain ⟨i, hi⟩ := Array.mem_iff_getElem?.1 (Array.mem_toList_iff.1 h1)
        exact (hfield i f hi).1 v h2
      · have := (hfield i f hfi).2
        simpa [List.map_take, List.map_drop] using this
    · cases hp
/-- an argument -/
def upA : Value → Value
  | .agg cs => .agg (cs.toList.map up).toArray
  | v => up v
theorem RA_up {ρ : RM} {cs : Array Value} (h : ∀ v ∈ cs.toList, (upv v).isSome = true) : RA ρ (cs.toList.map up).toArray cs := by
  refine ⟨by simp, fun i hi => ?_⟩
  have hi' : i < cs.size := by simpa using hi
  obtain ⟨u, hu⟩ := Option.isSome_iff_exists.1 (h cs[i] (by simp))
  have h1 : (cs.toList.map up).toArray[i] = u := by simp [up_of hu]
  rw [h1]
  have h2 : cs.getD i undef = cs[i] := by simp [Array.getD, hi']
  rw [h2]
  exact upv_R hu
theorem bridge_struct {N base : Nat} {t : TypeId} {fs : Array Field} {v : Value} {d : DataW H} {p : List MemPlace} (hu : P.underlying t = some (.struct fs)) (hp : plainT P N t = true) (hv : Value.okWide P w .any base t v) (h : DataW.Trod enc P w 0 (fun _ => true) held t v d p) :
    R RM0 (upA v) v ∧ ∃ cs : List Value, upA v = .agg cs.toArray ∧ IRd P (heapOf w) N t cs := by
  simp only [Value.okWide, hu] at hv
  obtain ⟨cs, rfl, _, _⟩ := hv
  obtain ⟨fuel, h⟩ := h
  obtain ⟨h1, h2⟩ := bridge N t fuel _ _ hp h
  exact ⟨by rw [upA, R_agg]; exact ⟨cs, rfl, RA_up h1⟩, _, rfl, h2⟩
theorem bridge_cell {N : Nat} {t : TypeId} {v : Value} {d : DataW H} {p : List MemPlace} (hc : v.cells = #[v]) (hag : ∀ cs, v ≠ .agg cs) (hp : plainT P N t = true) (h : DataW.Trod enc P w 0 (fun _ => true) held t v d p) :
    R RM0 (upA v) v ∧ IRd P (heapOf w) N t [upA v] := by
  obtain ⟨fuel, h⟩ := h
  rw [hc] at h
  obtain ⟨h1, h2⟩ := bridge N t fuel _ _ hp h
  obtain ⟨u, hu⟩ := Option.isSome_iff_exists.1 (h1 v (by simp))
  have e : upA v = u := by
    cases v <;> first | exact up_of hu | exact absurd rfl (hag _)
  rw [e]
  refine ⟨upv_R hu, ?_⟩
  simpa [up_of hu] using h2
end
end Go.Ideal

-- R1Ty
set_option linter.unusedSimpArgs false
set_option linter.unusedVariables false
namespace Go.Ideal
open Go Go.Proofs
instance : SizeIs Try.prog 1 1 := ⟨by kernel_rfl⟩
instance : AggIs Try.prog 1 false := ⟨by kernel_rfl⟩
instance : ZeroIs Try.prog 1 (Value.nilFunc) := ⟨by kernel_rfl⟩
instance : BytesIs Try.prog 1 1 8 := ⟨Try.t1, _, by kernel_rfl, rfl, rfl, rfl, rfl, by decide, by decide⟩
instance : UnderIs Try.prog 2 (.int IntKind.i64) := ⟨Try.underlying2⟩
instance : SizeIs Try.prog 2 1 := ⟨by kernel_rfl⟩
instance : AggIs Try.prog 2 false := ⟨by kernel_rfl⟩
instance : ZeroIs Try.prog 2 ((Value.int IntKind.i64 0)) := ⟨by kernel_rfl⟩
instance : BytesIs Try.prog 2 1 8 := ⟨Try.t2, _, by kernel_rfl, rfl, rfl, rfl, rfl, by decide, by decide⟩
instance : UnderIs Try.prog 3 (.int IntKind.i64) := ⟨Try.underlying3⟩
instance : SizeIs Try.prog 3 1 := ⟨by kernel_rfl⟩
instance : AggIs Try.prog 3 false := ⟨by kernel_rfl⟩
instance : ZeroIs Try.prog 3 ((Value.int IntKind.i64 0)) := ⟨by kernel_rfl⟩
instance : BytesIs Try.prog 3 1 8 := ⟨Try.t3, _, by kernel_rfl, rfl, rfl, rfl, rfl, by decide, by decide⟩
instance : UnderIs Try.prog 4 (.bool) := ⟨Try.underlying4⟩
instance : SizeIs Try.prog 4 1 := ⟨by kernel_rfl⟩
instance : AggIs Try.prog 4 false := ⟨by kernel_rfl⟩
instance : ZeroIs Try.prog 4 ((Value.bool false)) := ⟨by kernel_rfl⟩
instance : BytesIs Try.prog 4 1 1 := ⟨Try.t4, _, by kernel_rfl, rfl, rfl, rfl, rfl, by decide, by decide⟩
instance : UnderIs Try.prog 5 (.int IntKind.u8) := ⟨Try.underlying5⟩
instance : SizeIs Try.prog 5 1 := ⟨by kernel_rfl⟩
instance : AggIs Try.prog 5 false := ⟨by kernel_rfl⟩
instance : ZeroIs Try.prog 5 ((Value.int IntKind.u8 0)) := ⟨by kernel_rfl⟩
instance : BytesIs Try.prog 5 1 1 := ⟨Try.t5, _, by kernel_rfl, rfl, rfl, rfl, rfl, by decide, by decide⟩
instance : UnderIs Try.prog 6 (.int IntKind.u8) := ⟨Try.underlying6⟩
instance : SizeIs Try.prog 6 1 := ⟨by kernel_rfl⟩
instance : AggIs Try.prog 6 false := ⟨by kernel_rfl⟩
instance : ZeroIs Try.prog 6 ((Value.int IntKind.u8 0)) := ⟨by kernel_rfl⟩
instance : BytesIs Try.prog 6 1 1 := ⟨Try.t6, _, by kernel_rfl, rfl, rfl, rfl, rfl, by decide, by decide⟩
instance : FieldIs Try.prog 7 0 0 2 1 := ⟨_, _, Try.underlying7, rfl, rfl, rfl, by kernel_rfl, by decide⟩
instance : FieldIs Try.prog 7 1 1 3 1 := ⟨_, _, Try.underlying7, rfl, rfl, rfl, by kernel_rfl, by decide⟩
instance : FieldIs Try.prog 7 2 2 4 1 := ⟨_, _, Try.underlying7, rfl, rfl, rfl, by kernel_rfl, by decide⟩
instance : FieldIs Try.prog 7 3 3 6 1 := ⟨_, _, Try.underlying7, rfl, rfl, rfl, by kernel_rfl, by decide⟩
instance : StructOk Try.prog 7 := ⟨_, Try.underlying7, by kernel_rfl⟩
instance : SizeIs Try.prog 7 4 := ⟨by kernel_rfl⟩
instance : AggIs Try.prog 7 true := ⟨by kernel_rfl⟩
instance : ZeroIs Try.prog 7 ((Value.agg #[Value.int IntKind.i64 0, Value.int IntKind.i64 0, Value.bool false, Value.int IntKind.u8 0])) := ⟨by kernel_rfl⟩
instance : BytesIs Try.prog 7 4 24 := ⟨Try.t7, _, by kernel_rfl, rfl, rfl, rfl, rfl, by decide, by decide⟩
instance : FieldIs Try.prog 8 0 0 2 1 := ⟨_, _, Try.underlying8, rfl, rfl, rfl, by kernel_rfl, by decide⟩
instance : FieldIs Try.prog 8 1 1 3 1 := ⟨_, _, Try.underlying8, rfl, rfl, rfl, by kernel_rfl, by decide⟩
instance : FieldIs Try.prog 8 2 2 4 1 := ⟨_, _, Try.underlying8, rfl, rfl, rfl, by kernel_rfl, by decide⟩
instance : FieldIs Try.prog 8 3 3 6 1 := ⟨_, _, Try.underlying8, rfl, rfl, rfl, by kernel_rfl, by decide⟩
instance : StructOk Try.prog 8 := ⟨_, Try.underlying8, by kernel_rfl⟩
instance : SizeIs Try.prog 8 4 := ⟨by kernel_rfl⟩
instance : AggIs Try.prog 8 true := ⟨by kernel_rfl⟩
instance : ZeroIs Try.prog 8 ((Value.agg #[Value.int IntKind.i64 0, Value.int IntKind.i64 0, Value.bool false, Value.int IntKind.u8 0])) := ⟨by kernel_rfl⟩
instance : BytesIs Try.prog 8 4 24 := ⟨Try.t8, _, by kernel_rfl, rfl, rfl, rfl, rfl, by decide, by decide⟩
instance : UnderIs Try.prog 9 (.string) := ⟨Try.underlying9⟩
instance : SizeIs Try.prog 9 1 := ⟨by kernel_rfl⟩
instance : AggIs Try.prog 9 false := ⟨by kernel_rfl⟩
instance : ZeroIs Try.prog 9 ((Value.string ByteArray.empty)) := ⟨by kernel_rfl⟩
instance : BytesIs Try.prog 9 1 16 := ⟨Try.t9, _, by kernel_rfl, rfl, rfl, rfl, rfl, by decide, by decide⟩
instance : UnderIs Try.prog 10 (.string) := ⟨Try.underlying10⟩
instance : SizeIs Try.prog 10 1 := ⟨by kernel_rfl⟩
instance : AggIs Try.prog 10 false := ⟨by kernel_rfl⟩
instance : ZeroIs Try.prog 10 ((Value.string ByteArray.empty)) := ⟨by kernel_rfl⟩
instance : BytesIs Try.prog 10 1 16 := ⟨Try.t10, _, by kernel_rfl, rfl, rfl, rfl, rfl, by decide, by decide⟩
instance : UnderIs Try.prog 11 (.string) := ⟨Try.underlying11⟩
instance : SizeIs Try.prog 11 1 := ⟨by kernel_rfl⟩
instance : AggIs Try.prog 11 false := ⟨by kernel_rfl⟩
instance : ZeroIs Try.prog 11 ((Value.string ByteArray.empty)) := ⟨by kernel_rfl⟩
instance : BytesIs Try.prog 11 1 16 := ⟨Try.t11, _, by kernel_rfl, rfl, rfl, rfl, rfl, by decide, by decide⟩
instance : UnderIs Try.prog 12 (.int IntKind.u64) := ⟨Try.underlying12⟩
instance : SizeIs Try.prog 12 1 := ⟨by kernel_rfl⟩
instance : AggIs Try.prog 12 false := ⟨by kernel_rfl⟩
instance : ZeroIs Try.prog 12 ((Value.int IntKind.u64 0)) := ⟨by kernel_rfl⟩
instance : BytesIs Try.prog 12 1 8 := ⟨Try.t12, _, by kernel_rfl, rfl, rfl, rfl, rfl, by decide, by decide⟩
instance : FieldIs Try.prog 13 0 0 9 1 := ⟨_, _, Try.underlying13, rfl, rfl, rfl, by kernel_rfl, by decide⟩
instance : FieldIs Try.prog 13 1 1 12 1 := ⟨_, _, Try.underlying13, rfl, rfl, rfl, by kernel_rfl, by decide⟩
instance : StructOk Try.prog 13 := ⟨_, Try.underlying13, by kernel_rfl⟩
instance : SizeIs Try.prog 13 2 := ⟨by kernel_rfl⟩
instance : AggIs Try.prog 13 true := ⟨by kernel_rfl⟩
instance : ZeroIs Try.prog 13 ((Value.agg #[Value.string ByteArray.empty, Value.int IntKind.u64 0])) := ⟨by kernel_rfl⟩
instance : BytesIs Try.prog 13 2 24 := ⟨Try.t13, _, by kernel_rfl, rfl, rfl, rfl, rfl, by decide, by decide⟩
instance : FieldIs Try.prog 14 0 0 9 1 := ⟨_, _, Try.underlying14, rfl, rfl, rfl, by kernel_rfl, by decide⟩
instance : FieldIs Try.prog 14 1 1 12 1 := ⟨_, _, Try.underlying14, rfl, rfl, rfl, by kernel_rfl, by decide⟩
instance : StructOk Try.prog 14 := ⟨_, Try.underlying14, by kernel_rfl⟩
instance : SizeIs Try.prog 14 2 := ⟨by kernel_rfl⟩
instance : AggIs Try.prog 14 true := ⟨by kernel_rfl⟩
instance : ZeroIs Try.prog 14 ((Value.agg #[Value.string ByteArray.empty, Value.int IntKind.u64 0])) := ⟨by kernel_rfl⟩
instance : BytesIs Try.prog 14 2 24 := ⟨Try.t14, _, by kernel_rfl, rfl, rfl, rfl, rfl, by decide, by decide⟩
instance : UnderIs Try.prog 15 (.pointer 186) := ⟨Try.underlying15⟩
instance : SizeIs Try.prog 15 1 := ⟨by kernel_rfl⟩
instance : AggIs Try.prog 15 false := ⟨by kernel_rfl⟩
instance : ZeroIs Try.prog 15 ((Value.pointer none)) := ⟨by kernel_rfl⟩
instance : BytesIs Try.prog 15 1 8 := ⟨Try.t15, _, by kernel_rfl, rfl, rfl, rfl, rfl, by decide, by decide⟩
instance : UnderIs Try.prog 16 (.pointer 189) := ⟨Try.underlying16⟩
instance : SizeIs Try.prog 16 1 := ⟨by kernel_rfl⟩
instance : AggIs Try.prog 16 false := ⟨by kernel_rfl⟩
instance : ZeroIs Try.prog 16 ((Value.pointer none)) := ⟨by kernel_rfl⟩
instance : BytesIs Try.prog 16 1 8 := ⟨Try.t16, _, by kernel_rfl, rfl, rfl, rfl, rfl, by decide, by decide⟩
instance : UnderIs Try.prog 17 (.pointer 199) := ⟨Try.underlying17⟩
instance : SizeIs Try.prog 17 1 := ⟨by kernel_rfl⟩
instance : AggIs Try.prog 17 false := ⟨by kernel_rfl⟩
instance : ZeroIs Try.prog 17 ((Value.pointer none)) := ⟨by kernel_rfl⟩
instance : BytesIs Try.prog 17 1 8 := ⟨Try.t17, _, by kernel_rfl, rfl, rfl, rfl, rfl, by decide, by decide⟩
instance : FieldIs Try.prog 18 0 0 17 1 := ⟨_, _, Try.underlying18, rfl, rfl, rfl, by kernel_rfl, by decide⟩
instance : StructOk Try.prog 18 := ⟨_, Try.underlying18, by kernel_rfl⟩
instance : SizeIs Try.prog 18 1 := ⟨by kernel_rfl⟩
instance : AggIs Try.prog 18 true := ⟨by kernel_rfl⟩
instance : ZeroIs Try.prog 18 ((Value.agg #[Value.pointer none])) := ⟨by kernel_rfl⟩
instance : BytesIs Try.prog 18 1 8 := ⟨Try.t18, _, by kernel_rfl, rfl, rfl, rfl, rfl, by decide, by decide⟩
instance : FieldIs Try.prog 19 0 0 17 1 := ⟨_, _, Try.underlying19, rfl, rfl, rfl, by kernel_rfl, by decide⟩
instance : StructOk Try.prog 19 := ⟨_, Try.underlying19, by kernel_rfl⟩
instance : SizeIs Try.prog 19 1 := ⟨by kernel_rfl⟩
instance : AggIs Try.prog 19 true := ⟨by kernel_rfl⟩
instance : ZeroIs Try.prog 19 ((Value.agg #[Value.pointer none])) := ⟨by kernel_rfl⟩
instance : BytesIs Try.prog 19 1 8 := ⟨Try.t19, _, by kernel_rfl, rfl, rfl, rfl, rfl, by decide, by decide⟩
instance : UnderIs Try.prog 21 (.int IntKind.i32) := ⟨Try.underlying21⟩
instance : SizeIs Try.prog 21 1 := ⟨by kernel_rfl⟩
instance : AggIs Try.prog 21 false := ⟨by kernel_rfl⟩
instance : ZeroIs Try.prog 21 ((Value.int IntKind.i32 0)) := ⟨by kernel_rfl⟩
instance : BytesIs Try.prog 21 1 4 := ⟨Try.t21, _, by kernel_rfl, rfl, rfl, rfl, rfl, by decide, by decide⟩
instance : UnderIs Try.prog 22 (.slice 25) := ⟨Try.underlying22⟩
instance : SizeIs Try.prog 22 1 := ⟨by kernel_rfl⟩
instance : AggIs Try.prog 22 false := ⟨by kernel_rfl⟩
instance : ZeroIs Try.prog 22 ((Value.slice none 0 0)) := ⟨by kernel_rfl⟩
instance : BytesIs Try.prog 22 1 24 := ⟨Try.t22, _, by kernel_rfl, rfl, rfl, rfl, rfl, by decide, by decide⟩
instance : FieldIs Try.prog 23 0 0 3 1 := ⟨_, _, Try.underlying23, rfl, rfl, rfl, by kernel_rfl, by decide⟩
instance : FieldIs Try.prog 23 1 1 22 1 := ⟨_, _, Try.underlying23, rfl, rfl, rfl, by kernel_rfl, by decide⟩
instance : StructOk Try.prog 23 := ⟨_, Try.underlying23, by kernel_rfl⟩
instance : SizeIs Try.prog 23 2 := ⟨by kernel_rfl⟩
instance : AggIs Try.prog 23 true := ⟨by kernel_rfl⟩
instance : ZeroIs Try.prog 23 ((Value.agg #[Value.int IntKind.i64 0, Value.slice none 0 0])) := ⟨by kernel_rfl⟩
instance : BytesIs Try.prog 23 2 32 := ⟨Try.t23, _, by kernel_rfl, rfl, rfl, rfl, rfl, by decide, by decide⟩
instance : FieldIs Try.prog 24 0 0 3 1 := ⟨_, _, Try.underlying24, rfl, rfl, rfl, by kernel_rfl, by decide⟩
instance : FieldIs Try.prog 24 1 1 22 1 := ⟨_, _, Try.underlying24, rfl, rfl, rfl, by kernel_rfl, by decide⟩
instance : StructOk Try.prog 24 := ⟨_, Try.underlying24, by kernel_rfl⟩
instance : SizeIs Try.prog 24 2 := ⟨by kernel_rfl⟩
instance : AggIs Try.prog 24 true := ⟨by kernel_rfl⟩
instance : ZeroIs Try.prog 24 ((Value.agg #[Value.int IntKind.i64 0, Value.slice none 0 0])) := ⟨by kernel_rfl⟩
instance : BytesIs Try.prog 24 2 32 := ⟨Try.t24, _, by kernel_rfl, rfl, rfl, rfl, rfl, by decide, by decide⟩
instance : UnderIs Try.prog 25 (.int IntKind.u64) := ⟨Try.underlying25⟩
instance : SizeIs Try.prog 25 1 := ⟨by kernel_rfl⟩
instance : AggIs Try.prog 25 false := ⟨by kernel_rfl⟩
instance : ZeroIs Try.prog 25 ((Value.int IntKind.u64 0)) := ⟨by kernel_rfl⟩
instance : BytesIs Try.prog 25 1 8 := ⟨Try.t25, _, by kernel_rfl, rfl, rfl, rfl, rfl, by decide, by decide⟩
instance : SizeIs Try.prog 26 1 := ⟨by kernel_rfl⟩
instance : AggIs Try.prog 26 false := ⟨by kernel_rfl⟩
instance : ZeroIs Try.prog 26 (Value.nilFunc) := ⟨by kernel_rfl⟩
instance : BytesIs Try.prog 26 1 8 := ⟨Try.t26, _, by kernel_rfl, rfl, rfl, rfl, rfl, by decide, by decide⟩
instance : UnderIs Try.prog 27 (.int IntKind.i64) := ⟨Try.underlying27⟩
instance : SizeIs Try.prog 27 1 := ⟨by kernel_rfl⟩
instance : AggIs Try.prog 27 false := ⟨by kernel_rfl⟩
instance : ZeroIs Try.prog 27 ((Value.int IntKind.i64 0)) := ⟨by kernel_rfl⟩
instance : BytesIs Try.prog 27 1 8 := ⟨Try.t27, _, by kernel_rfl, rfl, rfl, rfl, rfl, by decide, by decide⟩
instance : SizeIs Try.prog 28 1 := ⟨by kernel_rfl⟩
instance : AggIs Try.prog 28 false := ⟨by kernel_rfl⟩
instance : ZeroIs Try.prog 28 (Value.nilFunc) := ⟨by kernel_rfl⟩
instance : BytesIs Try.prog 28 1 8 := ⟨Try.t28, _, by kernel_rfl, rfl, rfl, rfl, rfl, by decide, by decide⟩
instance : SizeIs Try.prog 29 1 := ⟨by kernel_rfl⟩
instance : AggIs Try.prog 29 false := ⟨by kernel_rfl⟩
instance : ZeroIs Try.prog 29 (Value.nilFunc) := ⟨by kernel_rfl⟩
instance : BytesIs Try.prog 29 1 8 := ⟨Try.t29, _, by kernel_rfl, rfl, rfl, rfl, rfl, by decide, by decide⟩
instance : SizeIs Try.prog 31 1 := ⟨by kernel_rfl⟩
instance : AggIs Try.prog 31 false := ⟨by kernel_rfl⟩
instance : ZeroIs Try.prog 31 (Value.nilFunc) := ⟨by kernel_rfl⟩
instance : BytesIs Try.prog 31 1 8 := ⟨Try.t31, _, by kernel_rfl, rfl, rfl, rfl, rfl, by decide, by decide⟩
instance : SizeIs Try.prog 33 1 := ⟨by kernel_rfl⟩
instance : AggIs Try.prog 33 false := ⟨by kernel_rfl⟩
instance : ZeroIs Try.prog 33 (Value.nilFunc) := ⟨by kernel_rfl⟩
instance : BytesIs Try.prog 33 1 8 := ⟨Try.t33, _, by kernel_rfl, rfl, rfl, rfl, rfl, by decide, by decide⟩
instance : SizeIs Try.prog 34 1 := ⟨by kernel_rfl⟩
instance : AggIs Try.prog 34 false := ⟨by kernel_rfl⟩
instance : ZeroIs Try.prog 34 (Value.nilFunc) := ⟨by kernel_rfl⟩
instance : BytesIs Try.prog 34 1 8 := ⟨Try.t34, _, by kernel_rfl, rfl, rfl, rfl, rfl, by decide, by decide⟩
instance : SizeIs Try.prog 35 1 := ⟨by kernel_rfl⟩
instance : AggIs Try.prog 35 false := ⟨by kernel_rfl⟩
instance : ZeroIs Try.prog 35 (Value.nilFunc) := ⟨by kernel_rfl⟩
instance : BytesIs Try.prog 35 1 8 := ⟨Try.t35, _, by kernel_rfl, rfl, rfl, rfl, rfl, by decide, by decide⟩
instance : SizeIs Try.prog 36 1 := ⟨by kernel_rfl⟩
instance : AggIs Try.prog 36 false := ⟨by kernel_rfl⟩
instance : ZeroIs Try.prog 36 (Value.nilFunc) := ⟨by kernel_rfl⟩
instance : BytesIs Try.prog 36 1 8 := ⟨Try.t36, _, by kernel_rfl, rfl, rfl, rfl, rfl, by decide, by decide⟩
instance : SizeIs Try.prog 38 1 := ⟨by kernel_rfl⟩
instance : AggIs Try.prog 38 false := ⟨by kernel_rfl⟩
instance : ZeroIs Try.prog 38 (Value.nilFunc) := ⟨by kernel_rfl⟩
instance : BytesIs Try.prog 38 1 8 := ⟨Try.t38, _, by kernel_rfl, rfl, rfl, rfl, rfl, by decide, by decide⟩
instance : SizeIs Try.prog 40 1 := ⟨by kernel_rfl⟩
instance : AggIs Try.prog 40 false := ⟨by kernel_rfl⟩
instance : ZeroIs Try.prog 40 (Value.nilFunc) := ⟨by kernel_rfl⟩
instance : BytesIs Try.prog 40 1 8 := ⟨Try.t40, _, by kernel_rfl, rfl, rfl, rfl, rfl, by decide, by decide⟩
instance : SizeIs Try.prog 42 1 := ⟨by kernel_rfl⟩
instance : AggIs Try.prog 42 false := ⟨by kernel_rfl⟩
instance : ZeroIs Try.prog 42 (Value.nilFunc) := ⟨by kernel_rfl⟩
instance : BytesIs Try.prog 42 1 8 := ⟨Try.t42, _, by kernel_rfl, rfl, rfl, rfl, rfl, by decide, by decide⟩
instance : SizeIs Try.prog 44 1 := ⟨by kernel_rfl⟩
instance : AggIs Try.prog 44 false := ⟨by kernel_rfl⟩
instance : ZeroIs Try.prog 44 (Value.nilFunc) := ⟨by kernel_rfl⟩
instance : BytesIs Try.prog 44 1 8 := ⟨Try.t44, _, by kernel_rfl, rfl, rfl, rfl, rfl, by decide, by decide⟩
instance : SizeIs Try.prog 45 1 := ⟨by kernel_rfl⟩
instance : AggIs Try.prog 45 false := ⟨by kernel_rfl⟩
instance : ZeroIs Try.prog 45 (Value.nilFunc) := ⟨by kernel_rfl⟩
instance : BytesIs Try.prog 45 1 8 := ⟨Try.t45, _, by kernel_rfl, rfl, rfl, rfl, rfl, by decide, by decide⟩
instance : SizeIs Try.prog 46 1 := ⟨by kernel_rfl⟩
instance : AggIs Try.prog 46 false := ⟨by kernel_rfl⟩
instance : ZeroIs Try.prog 46 (Value.nilFunc) := ⟨by kernel_rfl⟩
instance : BytesIs Try.prog 46 1 8 := ⟨Try.t46, _, by kernel_rfl, rfl, rfl, rfl, rfl, by decide, by decide⟩
instance : SizeIs Try.prog 47 1 := ⟨by kernel_rfl⟩
instance : AggIs Try.prog 47 false := ⟨by kernel_rfl⟩
instance : ZeroIs Try.prog 47 (Value.nilFunc) := ⟨by kernel_rfl⟩
instance : BytesIs Try.prog 47 1 8 := ⟨Try.t47, _, by kernel_rfl, rfl, rfl, rfl, rfl, by decide, by decide⟩
instance : FieldIs Try.prog 48 0 0 24 2 := ⟨_, _, Try.underlying48, rfl, rfl, rfl, by kernel_rfl, by decide⟩
instance : FieldIs Try.prog 48 1 2 24 2 := ⟨_, _, Try.underlying48, rfl, rfl, rfl, by kernel_rfl, by decide⟩
instance : FieldIs Try.prog 48 2 4 24 2 := ⟨_, _, Try.underlying48, rfl, rfl, rfl, by kernel_rfl, by decide⟩
instance : FieldIs Try.prog 48 3 6 25 1 := ⟨_, _, Try.underlying48, rfl, rfl, rfl, by kernel_rfl, by decide⟩
instance : FieldIs Try.prog 48 4 7 25 1 := ⟨_, _, Try.underlying48, rfl, rfl, rfl, by kernel_rfl, by decide⟩
instance : StructOk Try.prog 48 := ⟨_, Try.underlying48, by kernel_rfl⟩
instance : SizeIs Try.prog 48 8 := ⟨by kernel_rfl⟩
instance : AggIs Try.prog 48 true := ⟨by kernel_rfl⟩
instance : ZeroIs Try.prog 48 ((Value.agg #[Value.int IntKind.i64 0, Value.slice none 0 0, Value.int IntKind.i64 0, Value.slice none 0 0, Value.int IntKind.i64 0, Value.slice none 0 0, Value.int IntKind.u64 0, Value.int IntKind.u64 0])) := ⟨by kernel_rfl⟩
instance : BytesIs Try.prog 48 8 112 := ⟨Try.t48, _, by kernel_rfl, rfl, rfl, rfl, rfl, by decide, by decide⟩
instance : FieldIs Try.prog 49 0 0 24 2 := ⟨_, _, Try.underlying49, rfl, rfl, rfl, by kernel_rfl, by decide⟩
instance : FieldIs Try.prog 49 1 2 24 2 := ⟨_, _, Try.underlying49, rfl, rfl, rfl, by kernel_rfl, by decide⟩
instance : FieldIs Try.prog 49 2 4 24 2 := ⟨_, _, Try.underlying49, rfl, rfl, rfl, by kernel_rfl, by decide⟩
instance : FieldIs Try.prog 49 3 6 25 1 := ⟨_, _, Try.underlying49, rfl, rfl, rfl, by kernel_rfl, by decide⟩
instance : FieldIs Try.prog 49 4 7 25 1 := ⟨_, _, Try.underlying49, rfl, rfl, rfl, by kernel_rfl, by decide⟩
instance : StructOk Try.prog 49 := ⟨_, Try.underlying49, by kernel_rfl⟩
instance : SizeIs Try.prog 49 8 := ⟨by kernel_rfl⟩
instance : AggIs Try.prog 49 true := ⟨by kernel_rfl⟩
instance : ZeroIs Try.prog 49 ((Value.agg #[Value.int IntKind.i64 0, Value.slice none 0 0, Value.int IntKind.i64 0, Value.slice none 0 0, Value.int IntKind.i64 0, Value.slice none 0 0, Value.int IntKind.u64 0, Value.int IntKind.u64 0])) := ⟨by kernel_rfl⟩
instance : BytesIs Try.prog 49 8 112 := ⟨Try.t49, _, by kernel_rfl, rfl, rfl, rfl, rfl, by decide, by decide⟩
instance : SizeIs Try.prog 50 1 := ⟨by kernel_rfl⟩
instance : AggIs Try.prog 50 false := ⟨by kernel_rfl⟩
instance : ZeroIs Try.prog 50 (Value.nilFunc) := ⟨by kernel_rfl⟩
instance : BytesIs Try.prog 50 1 8 := ⟨Try.t50, _, by kernel_rfl, rfl, rfl, rfl, rfl, by decide, by decide⟩
instance : SizeIs Try.prog 51 1 := ⟨by kernel_rfl⟩
instance : AggIs Try.prog 51 false := ⟨by kernel_rfl⟩
instance : ZeroIs Try.prog 51 (Value.nilFunc) := ⟨by kernel_rfl⟩
instance : BytesIs Try.prog 51 1 8 := ⟨Try.t51, _, by kernel_rfl, rfl, rfl, rfl, rfl, by decide, by decide⟩
instance : UnderIs Try.prog 52 (.slice 9) := ⟨Try.underlying52⟩
instance : SizeIs Try.prog 52 1 := ⟨by kernel_rfl⟩
instance : AggIs Try.prog 52 false := ⟨by kernel_rfl⟩
instance : ZeroIs Try.prog 52 ((Value.slice none 0 0)) := ⟨by kernel_rfl⟩
instance : BytesIs Try.prog 52 1 24 := ⟨Try.t52, _, by kernel_rfl, rfl, rfl, rfl, rfl, by decide, by decide⟩
instance : SizeIs Try.prog 53 1 := ⟨by kernel_rfl⟩
instance : AggIs Try.prog 53 false := ⟨by kernel_rfl⟩
instance : ZeroIs Try.prog 53 (Value.nilFunc) := ⟨by kernel_rfl⟩
instance : BytesIs Try.prog 53 1 8 := ⟨Try.t53, _, by kernel_rfl, rfl, rfl, rfl, rfl, by decide, by decide⟩
instance : SizeIs Try.prog 54 1 := ⟨by kernel_rfl⟩
instance : AggIs Try.prog 54 false := ⟨by kernel_rfl⟩
instance : ZeroIs Try.prog 54 (Value.nilFunc) := ⟨by kernel_rfl⟩
instance : BytesIs Try.prog 54 1 8 := ⟨Try.t54, _, by kernel_rfl, rfl, rfl, rfl, rfl, by decide, by decide⟩
instance : SizeIs Try.prog 55 1 := ⟨by kernel_rfl⟩
instance : AggIs Try.prog 55 false := ⟨by kernel_rfl⟩
instance : ZeroIs Try.prog 55 (Value.nilFunc) := ⟨by kernel_rfl⟩
instance : BytesIs Try.prog 55 1 8 := ⟨Try.t55, _, by kernel_rfl, rfl, rfl, rfl, rfl, by decide, by decide⟩
instance : SizeIs Try.prog 57 1 := ⟨by kernel_rfl⟩
instance : AggIs Try.prog 57 false := ⟨by kernel_rfl⟩
instance : ZeroIs Try.prog 57 (Value.nilFunc) := ⟨by kernel_rfl⟩
instance : BytesIs Try.prog 57 1 8 := ⟨Try.t57, _, by kernel_rfl, rfl, rfl, rfl, rfl, by decide, by decide⟩
instance : SizeIs Try.prog 59 1 := ⟨by kernel_rfl⟩
instance : AggIs Try.prog 59 false := ⟨by kernel_rfl⟩
instance : ZeroIs Try.prog 59 (Value.nilFunc) := ⟨by kernel_rfl⟩
instance : BytesIs Try.prog 59 1 8 := ⟨Try.t59, _, by kernel_rfl, rfl, rfl, rfl, rfl, by decide, by decide⟩
instance : UnderIs Try.prog 60 (.slice 67) := ⟨Try.underlying60⟩
instance : SizeIs Try.prog 60 1 := ⟨by kernel_rfl⟩
instance : AggIs Try.prog 60 false := ⟨by kernel_rfl⟩
instance : ZeroIs Try.prog 60 ((Value.slice none 0 0)) := ⟨by kernel_rfl⟩
instance : BytesIs Try.prog 60 1 24 := ⟨Try.t60, _, by kernel_rfl, rfl, rfl, rfl, rfl, by decide, by decide⟩
instance : SizeIs Try.prog 62 1 := ⟨by kernel_rfl⟩
instance : AggIs Try.prog 62 false := ⟨by kernel_rfl⟩
instance : ZeroIs Try.prog 62 (Value.nilFunc) := ⟨by kernel_rfl⟩
instance : BytesIs Try.prog 62 1 8 := ⟨Try.t62, _, by kernel_rfl, rfl, rfl, rfl, rfl, by decide, by decide⟩
instance : SizeIs Try.prog 64 1 := ⟨by kernel_rfl⟩
instance : AggIs Try.prog 64 false := ⟨by kernel_rfl⟩
instance : ZeroIs Try.prog 64 (Value.nilFunc) := ⟨by kernel_rfl⟩
instance : BytesIs Try.prog 64 1 8 := ⟨Try.t64, _, by kernel_rfl, rfl, rfl, rfl, rfl, by decide, by decide⟩
instance : SizeIs Try.prog 65 1 := ⟨by kernel_rfl⟩
instance : AggIs Try.prog 65 false := ⟨by kernel_rfl⟩
instance : ZeroIs Try.prog 65 (Value.nilFunc) := ⟨by kernel_rfl⟩
instance : BytesIs Try.prog 65 1 8 := ⟨Try.t65, _, by kernel_rfl, rfl, rfl, rfl, rfl, by decide, by decide⟩
instance : UnderIs Try.prog 66 (.slice 3) := ⟨Try.underlying66⟩
instance : SizeIs Try.prog 66 1 := ⟨by kernel_rfl⟩
instance : AggIs Try.prog 66 false := ⟨by kernel_rfl⟩
instance : ZeroIs Try.prog 66 ((Value.slice none 0 0)) := ⟨by kernel_rfl⟩
instance : BytesIs Try.prog 66 1 24 := ⟨Try.t66, _, by kernel_rfl, rfl, rfl, rfl, rfl, by decide, by decide⟩
instance : UnderIs Try.prog 67 (.slice 76) := ⟨Try.underlying67⟩
instance : SizeIs Try.prog 67 1 := ⟨by kernel_rfl⟩
instance : AggIs Try.prog 67 false := ⟨by kernel_rfl⟩
instance : ZeroIs Try.prog 67 ((Value.slice none 0 0)) := ⟨by kernel_rfl⟩
instance : BytesIs Try.prog 67 1 24 := ⟨Try.t67, _, by kernel_rfl, rfl, rfl, rfl, rfl, by decide, by decide⟩
instance : SizeIs Try.prog 69 1 := ⟨by kernel_rfl⟩
instance : AggIs Try.prog 69 false := ⟨by kernel_rfl⟩
instance : ZeroIs Try.prog 69 (Value.nilFunc) := ⟨by kernel_rfl⟩
instance : BytesIs Try.prog 69 1 8 := ⟨Try.t69, _, by kernel_rfl, rfl, rfl, rfl, rfl, by decide, by decide⟩
instance : SizeIs Try.prog 71 1 := ⟨by kernel_rfl⟩
instance : AggIs Try.prog 71 false := ⟨by kernel_rfl⟩
instance : ZeroIs Try.prog 71 (Value.nilFunc) := ⟨by kernel_rfl⟩
instance : BytesIs Try.prog 71 1 8 := ⟨Try.t71, _, by kernel_rfl, rfl, rfl, rfl, rfl, by decide, by decide⟩
instance : FieldIs Try.prog 73 0 0 72 1 := ⟨_, _, Try.underlying73, rfl, rfl, rfl, by kernel_rfl, by decide⟩
instance : FieldIs Try.prog 73 1 1 72 1 := ⟨_, _, Try.underlying73, rfl, rfl, rfl, by kernel_rfl, by decide⟩
instance : StructOk Try.prog 73 := ⟨_, Try.underlying73, by kernel_rfl⟩
instance : SizeIs Try.prog 73 2 := ⟨by kernel_rfl⟩
instance : AggIs Try.prog 73 true := ⟨by kernel_rfl⟩
instance : FieldIs Try.prog 74 0 0 72 1 := ⟨_, _, Try.underlying74, rfl, rfl, rfl, by kernel_rfl, by decide⟩
instance : FieldIs Try.prog 74 1 1 72 1 := ⟨_, _, Try.underlying74, rfl, rfl, rfl, by kernel_rfl, by decide⟩
instance : StructOk Try.prog 74 := ⟨_, Try.underlying74, by kernel_rfl⟩
instance : SizeIs Try.prog 74 2 := ⟨by kernel_rfl⟩
instance : AggIs Try.prog 74 true := ⟨by kernel_rfl⟩
instance : FieldIs Try.prog 75 0 0 74 2 := ⟨_, _, Try.underlying75, rfl, rfl, rfl, by kernel_rfl, by decide⟩
instance : FieldIs Try.prog 75 1 2 3 1 := ⟨_, _, Try.underlying75, rfl, rfl, rfl, by kernel_rfl, by decide⟩
instance : StructOk Try.prog 75 := ⟨_, Try.underlying75, by kernel_rfl⟩
instance : SizeIs Try.prog 75 3 := ⟨by kernel_rfl⟩
instance : AggIs Try.prog 75 true := ⟨by kernel_rfl⟩
instance : FieldIs Try.prog 76 0 0 74 2 := ⟨_, _, Try.underlying76, rfl, rfl, rfl, by kernel_rfl, by decide⟩
instance : FieldIs Try.prog 76 1 2 3 1 := ⟨_, _, Try.underlying76, rfl, rfl, rfl, by kernel_rfl, by decide⟩
instance : StructOk Try.prog 76 := ⟨_, Try.underlying76, by kernel_rfl⟩
instance : SizeIs Try.prog 76 3 := ⟨by kernel_rfl⟩
instance : AggIs Try.prog 76 true := ⟨by kernel_rfl⟩
instance : SizeIs Try.prog 77 1 := ⟨by kernel_rfl⟩
instance : AggIs Try.prog 77 false := ⟨by kernel_rfl⟩
instance : ZeroIs Try.prog 77 (Value.nilFunc) := ⟨by kernel_rfl⟩
instance : BytesIs Try.prog 77 1 8 := ⟨Try.t77, _, by kernel_rfl, rfl, rfl, rfl, rfl, by decide, by decide⟩
instance : SizeIs Try.prog 78 1 := ⟨by kernel_rfl⟩
instance : AggIs Try.prog 78 false := ⟨by kernel_rfl⟩
instance : ZeroIs Try.prog 78 (Value.nilFunc) := ⟨by kernel_rfl⟩
instance : BytesIs Try.prog 78 1 8 := ⟨Try.t78, _, by kernel_rfl, rfl, rfl, rfl, rfl, by decide, by decide⟩
instance : SizeIs Try.prog 79 1 := ⟨by kernel_rfl⟩
instance : AggIs Try.prog 79 false := ⟨by kernel_rfl⟩
instance : ZeroIs Try.prog 79 (Value.nilFunc) := ⟨by kernel_rfl⟩
instance : BytesIs Try.prog 79 1 8 := ⟨Try.t79, _, by kernel_rfl, rfl, rfl, rfl, rfl, by decide, by decide⟩
instance : UnderIs Try.prog 80 (.slice 122) := ⟨Try.underlying80⟩
instance : SizeIs Try.prog 80 1 := ⟨by kernel_rfl⟩
instance : AggIs Try.prog 80 false := ⟨by kernel_rfl⟩
instance : ZeroIs Try.prog 80 ((Value.slice none 0 0)) := ⟨by kernel_rfl⟩
instance : BytesIs Try.prog 80 1 24 := ⟨Try.t80, _, by kernel_rfl, rfl, rfl, rfl, rfl, by decide, by decide⟩
instance : FieldIs Try.prog 81 0 0 3 1 := ⟨_, _, Try.underlying81, rfl, rfl, rfl, by kernel_rfl, by decide⟩
instance : FieldIs Try.prog 81 1 1 3 1 := ⟨_, _, Try.underlying81, rfl, rfl, rfl, by kernel_rfl, by decide⟩
instance : FieldIs Try.prog 81 2 2 80 1 := ⟨_, _, Try.underlying81, rfl, rfl, rfl, by kernel_rfl, by decide⟩
instance : StructOk Try.prog 81 := ⟨_, Try.underlying81, by kernel_rfl⟩
instance : SizeIs Try.prog 81 3 := ⟨by kernel_rfl⟩
instance : AggIs Try.prog 81 true := ⟨by kernel_rfl⟩
instance : ZeroIs Try.prog 81 ((Value.agg #[Value.int IntKind.i64 0, Value.int IntKind.i64 0, Value.slice none 0 0])) := ⟨by kernel_rfl⟩
instance : BytesIs Try.prog 81 3 40 := ⟨Try.t81, _, by kernel_rfl, rfl, rfl, rfl, rfl, by decide, by decide⟩
instance : FieldIs Try.prog 82 0 0 3 1 := ⟨_, _, Try.underlying82, rfl, rfl, rfl, by kernel_rfl, by decide⟩
instance : FieldIs Try.prog 82 1 1 3 1 := ⟨_, _, Try.underlying82, rfl, rfl, rfl, by kernel_rfl, by decide⟩
instance : FieldIs Try.prog 82 2 2 80 1 := ⟨_, _, Try.underlying82, rfl, rfl, rfl, by kernel_rfl, by decide⟩
instance : StructOk Try.prog 82 := ⟨_, Try.underlying82, by kernel_rfl⟩
instance : SizeIs Try.prog 82 3 := ⟨by kernel_rfl⟩
instance : AggIs Try.prog 82 true := ⟨by kernel_rfl⟩
instance : ZeroIs Try.prog 82 ((Value.agg #[Value.int IntKind.i64 0, Value.int IntKind.i64 0, Value.slice none 0 0])) := ⟨by kernel_rfl⟩
instance : BytesIs Try.prog 82 3 40 := ⟨Try.t82, _, by kernel_rfl, rfl, rfl, rfl, rfl, by decide, by decide⟩
instance : SizeIs Try.prog 83 1 := ⟨by kernel_rfl⟩
instance : AggIs Try.prog 83 false := ⟨by kernel_rfl⟩
instance : ZeroIs Try.prog 83 (Value.nilFunc) := ⟨by kernel_rfl⟩
instance : BytesIs Try.prog 83 1 8 := ⟨Try.t83, _, by kernel_rfl, rfl, rfl, rfl, rfl, by decide, by decide⟩
instance : SizeIs Try.prog 85 1 := ⟨by kernel_rfl⟩
instance : AggIs Try.prog 85 false := ⟨by kernel_rfl⟩
instance : ZeroIs Try.prog 85 (Value.nilFunc) := ⟨by kernel_rfl⟩
instance : BytesIs Try.prog 85 1 8 := ⟨Try.t85, _, by kernel_rfl, rfl, rfl, rfl, rfl, by decide, by decide⟩
instance : SizeIs Try.prog 86 1 := ⟨by kernel_rfl⟩
instance : AggIs Try.prog 86 false := ⟨by kernel_rfl⟩
instance : ZeroIs Try.prog 86 (Value.nilFunc) := ⟨by kernel_rfl⟩
instance : BytesIs Try.prog 86 1 8 := ⟨Try.t86, _, by kernel_rfl, rfl, rfl, rfl, rfl, by decide, by decide⟩
instance : SizeIs Try.prog 88 1 := ⟨by kernel_rfl⟩
instance : AggIs Try.prog 88 false := ⟨by kernel_rfl⟩
instance : ZeroIs Try.prog 88 (Value.nilFunc) := ⟨by kernel_rfl⟩
instance : BytesIs Try.prog 88 1 8 := ⟨Try.t88, _, by kernel_rfl, rfl, rfl, rfl, rfl, by decide, by decide⟩
instance : SizeIs Try.prog 89 1 := ⟨by kernel_rfl⟩
instance : AggIs Try.prog 89 false := ⟨by kernel_rfl⟩
instance : ZeroIs Try.prog 89 (Value.nilFunc) := ⟨by kernel_rfl⟩
instance : BytesIs Try.prog 89 1 8 := ⟨Try.t89, _, by kernel_rfl, rfl, rfl, rfl, rfl, by decide, by decide⟩
instance : SizeIs Try.prog 91 1 := ⟨by kernel_rfl⟩
instance : AggIs Try.prog 91 false := ⟨by kernel_rfl⟩
instance : ZeroIs Try.prog 91 (Value.nilFunc) := ⟨by kernel_rfl⟩
instance : BytesIs Try.prog 91 1 8 := ⟨Try.t91, _, by kernel_rfl, rfl, rfl, rfl, rfl, by decide, by decide⟩
instance : SizeIs Try.prog 92 1 := ⟨by kernel_rfl⟩
instance : AggIs Try.prog 92 false := ⟨by kernel_rfl⟩
instance : ZeroIs Try.prog 92 (Value.nilFunc) := ⟨by kernel_rfl⟩
instance : BytesIs Try.prog 92 1 8 := ⟨Try.t92, _, by kernel_rfl, rfl, rfl, rfl, rfl, by decide, by decide⟩
instance : SizeIs Try.prog 93 1 := ⟨by kernel_rfl⟩
instance : AggIs Try.prog 93 false := ⟨by kernel_rfl⟩
instance : ZeroIs Try.prog 93 (Value.nilFunc) := ⟨by kernel_rfl⟩
instance : BytesIs Try.prog 93 1 8 := ⟨Try.t93, _, by kernel_rfl, rfl, rfl, rfl, rfl, by decide, by decide⟩
instance : SizeIs Try.prog 94 1 := ⟨by kernel_rfl⟩
instance : AggIs Try.prog 94 false := ⟨by kernel_rfl⟩
instance : ZeroIs Try.prog 94 (Value.nilFunc) := ⟨by kernel_rfl⟩
instance : BytesIs Try.prog 94 1 8 := ⟨Try.t94, _, by kernel_rfl, rfl, rfl, rfl, rfl, by decide, by decide⟩
instance : SizeIs Try.prog 95 1 := ⟨by kernel_rfl⟩
instance : AggIs Try.prog 95 false := ⟨by kernel_rfl⟩
instance : ZeroIs Try.prog 95 (Value.nilFunc) := ⟨by kernel_rfl⟩
instance : BytesIs Try.prog 95 1 8 := ⟨Try.t95, _, by kernel_rfl, rfl, rfl, rfl, rfl, by decide, by decide⟩
instance : SizeIs Try.prog 96 1 := ⟨by kernel_rfl⟩
instance : AggIs Try.prog 96 false := ⟨by kernel_rfl⟩
instance : ZeroIs Try.prog 96 (Value.nilFunc) := ⟨by kernel_rfl⟩
instance : BytesIs Try.prog 96 1 8 := ⟨Try.t96, _, by kernel_rfl, rfl, rfl, rfl, rfl, by decide, by decide⟩
instance : UnderIs Try.prog 97 (.slice 101) := ⟨Try.underlying97⟩
instance : SizeIs Try.prog 97 1 := ⟨by kernel_rfl⟩
instance : AggIs Try.prog 97 false := ⟨by kernel_rfl⟩
instance : ZeroIs Try.prog 97 ((Value.slice none 0 0)) := ⟨by kernel_rfl⟩
instance : BytesIs Try.prog 97 1 24 := ⟨Try.t97, _, by kernel_rfl, rfl, rfl, rfl, rfl, by decide, by decide⟩
instance : SizeIs Try.prog 99 1 := ⟨by kernel_rfl⟩
instance : AggIs Try.prog 99 false := ⟨by kernel_rfl⟩
instance : ZeroIs Try.prog 99 (Value.nilFunc) := ⟨by kernel_rfl⟩
instance : BytesIs Try.prog 99 1 8 := ⟨Try.t99, _, by kernel_rfl, rfl, rfl, rfl, rfl, by decide, by decide⟩
instance : FieldIs Try.prog 100 0 0 3 1 := ⟨_, _, Try.underlying100, rfl, rfl, rfl, by kernel_rfl, by decide⟩
instance : FieldIs Try.prog 100 1 1 3 1 := ⟨_, _, Try.underlying100, rfl, rfl, rfl, by kernel_rfl, by decide⟩
instance : StructOk Try.prog 100 := ⟨_, Try.underlying100, by kernel_rfl⟩
instance : SizeIs Try.prog 100 2 := ⟨by kernel_rfl⟩
instance : AggIs Try.prog 100 true := ⟨by kernel_rfl⟩
instance : ZeroIs Try.prog 100 ((Value.agg #[Value.int IntKind.i64 0, Value.int IntKind.i64 0])) := ⟨by kernel_rfl⟩
instance : BytesIs Try.prog 100 2 16 := ⟨Try.t100, _, by kernel_rfl, rfl, rfl, rfl, rfl, by decide, by decide⟩
instance : FieldIs Try.prog 101 0 0 3 1 := ⟨_, _, Try.underlying101, rfl, rfl, rfl, by kernel_rfl, by decide⟩
instance : FieldIs Try.prog 101 1 1 3 1 := ⟨_, _, Try.underlying101, rfl, rfl, rfl, by kernel_rfl, by decide⟩
instance : StructOk Try.prog 101 := ⟨_, Try.underlying101, by kernel_rfl⟩
instance : SizeIs Try.prog 101 2 := ⟨by kernel_rfl⟩
instance : AggIs Try.prog 101 true := ⟨by kernel_rfl⟩
instance : ZeroIs Try.prog 101 ((Value.agg #[Value.int IntKind.i64 0, Value.int IntKind.i64 0])) := ⟨by kernel_rfl⟩
instance : BytesIs Try.prog 101 2 16 := ⟨Try.t101, _, by kernel_rfl, rfl, rfl, rfl, rfl, by decide, by decide⟩
instance : SizeIs Try.prog 102 1 := ⟨by kernel_rfl⟩
instance : AggIs Try.prog 102 false := ⟨by kernel_rfl⟩
instance : ZeroIs Try.prog 102 (Value.nilFunc) := ⟨by kernel_rfl⟩
instance : BytesIs Try.prog 102 1 8 := ⟨Try.t102, _, by kernel_rfl, rfl, rfl, rfl, rfl, by decide, by decide⟩
instance : FieldIs Try.prog 103 0 0 3 1 := ⟨_, _, Try.underlying103, rfl, rfl, rfl, by kernel_rfl, by decide⟩
instance : FieldIs Try.prog 103 1 1 3 1 := ⟨_, _, Try.underlying103, rfl, rfl, rfl, by kernel_rfl, by decide⟩
instance : FieldIs Try.prog 103 2 2 4 1 := ⟨_, _, Try.underlying103, rfl, rfl, rfl, by kernel_rfl, by decide⟩
instance : FieldIs Try.prog 103 3 3 4 1 := ⟨_, _, Try.underlying103, rfl, rfl, rfl, by kernel_rfl, by decide⟩
instance : FieldIs Try.prog 103 4 4 9 1 := ⟨_, _, Try.underlying103, rfl, rfl, rfl, by kernel_rfl, by decide⟩
instance : FieldIs Try.prog 103 5 5 102 1 := ⟨_, _, Try.underlying103, rfl, rfl, rfl, by kernel_rfl, by decide⟩
instance : StructOk Try.prog 103 := ⟨_, Try.underlying103, by kernel_rfl⟩
instance : SizeIs Try.prog 103 6 := ⟨by kernel_rfl⟩
instance : AggIs Try.prog 103 true := ⟨by kernel_rfl⟩
instance : ZeroIs Try.prog 103 ((Value.agg #[Value.int IntKind.i64 0, Value.int IntKind.i64 0, Value.bool false, Value.bool false, Value.string ByteArray.empty, Value.nilFunc])) := ⟨by kernel_rfl⟩
instance : BytesIs Try.prog 103 6 48 := ⟨Try.t103, _, by kernel_rfl, rfl, rfl, rfl, rfl, by decide, by decide⟩
instance : FieldIs Try.prog 104 0 0 3 1 := ⟨_, _, Try.underlying104, rfl, rfl, rfl, by kernel_rfl, by decide⟩
instance : FieldIs Try.prog 104 1 1 3 1 := ⟨_, _, Try.underlying104, rfl, rfl, rfl, by kernel_rfl, by decide⟩
instance : FieldIs Try.prog 104 2 2 4 1 := ⟨_, _, Try.underlying104, rfl, rfl, rfl, by kernel_rfl, by decide⟩
instance : FieldIs Try.prog 104 3 3 4 1 := ⟨_, _, Try.underlying104, rfl, rfl, rfl, by kernel_rfl, by decide⟩
instance : FieldIs Try.prog 104 4 4 9 1 := ⟨_, _, Try.underlying104, rfl, rfl, rfl, by kernel_rfl, by decide⟩
instance : FieldIs Try.prog 104 5 5 102 1 := ⟨_, _, Try.underlying104, rfl, rfl, rfl, by kernel_rfl, by decide⟩
instance : StructOk Try.prog 104 := ⟨_, Try.underlying104, by kernel_rfl⟩
instance : SizeIs Try.prog 104 6 := ⟨by kernel_rfl⟩
instance : AggIs Try.prog 104 true := ⟨by kernel_rfl⟩
instance : ZeroIs Try.prog 104 ((Value.agg #[Value.int IntKind.i64 0, Value.int IntKind.i64 0, Value.bool false, Value.bool false, Value.string ByteArray.empty, Value.nilFunc])) := ⟨by kernel_rfl⟩
instance : BytesIs Try.prog 104 6 48 := ⟨Try.t104, _, by kernel_rfl, rfl, rfl, rfl, rfl, by decide, by decide⟩
instance : UnderIs Try.prog 105 (.map 9 104) := ⟨Try.underlying105⟩
instance : SizeIs Try.prog 105 1 := ⟨by kernel_rfl⟩
instance : AggIs Try.prog 105 false := ⟨by kernel_rfl⟩
instance : ZeroIs Try.prog 105 ((Value.map none)) := ⟨by kernel_rfl⟩
instance : BytesIs Try.prog 105 1 8 := ⟨Try.t105, _, by kernel_rfl, rfl, rfl, rfl, rfl, by decide, by decide⟩
instance : SizeIs Try.prog 106 1 := ⟨by kernel_rfl⟩
instance : AggIs Try.prog 106 false := ⟨by kernel_rfl⟩
instance : ZeroIs Try.prog 106 (Value.nilFunc) := ⟨by kernel_rfl⟩
instance : BytesIs Try.prog 106 1 8 := ⟨Try.t106, _, by kernel_rfl, rfl, rfl, rfl, rfl, by decide, by decide⟩
instance : UnderIs Try.prog 108 (.slice 110) := ⟨Try.underlying108⟩
instance : SizeIs Try.prog 108 1 := ⟨by kernel_rfl⟩
instance : AggIs Try.prog 108 false := ⟨by kernel_rfl⟩
instance : ZeroIs Try.prog 108 ((Value.slice none 0 0)) := ⟨by kernel_rfl⟩
instance : BytesIs Try.prog 108 1 24 := ⟨Try.t108, _, by kernel_rfl, rfl, rfl, rfl, rfl, by decide, by decide⟩
instance : FieldIs Try.prog 109 0 0 3 1 := ⟨_, _, Try.underlying109, rfl, rfl, rfl, by kernel_rfl, by decide⟩
instance : FieldIs Try.prog 109 1 1 3 1 := ⟨_, _, Try.underlying109, rfl, rfl, rfl, by kernel_rfl, by decide⟩
instance : FieldIs Try.prog 109 2 2 3 1 := ⟨_, _, Try.underlying109, rfl, rfl, rfl, by kernel_rfl, by decide⟩
instance : StructOk Try.prog 109 := ⟨_, Try.underlying109, by kernel_rfl⟩
instance : SizeIs Try.prog 109 3 := ⟨by kernel_rfl⟩
instance : AggIs Try.prog 109 true := ⟨by kernel_rfl⟩
instance : ZeroIs Try.prog 109 ((Value.agg #[Value.int IntKind.i64 0, Value.int IntKind.i64 0, Value.int IntKind.i64 0])) := ⟨by kernel_rfl⟩
instance : BytesIs Try.prog 109 3 24 := ⟨Try.t109, _, by kernel_rfl, rfl, rfl, rfl, rfl, by decide, by decide⟩
instance : FieldIs Try.prog 110 0 0 3 1 := ⟨_, _, Try.underlying110, rfl, rfl, rfl, by kernel_rfl, by decide⟩
instance : FieldIs Try.prog 110 1 1 3 1 := ⟨_, _, Try.underlying110, rfl, rfl, rfl, by kernel_rfl, by decide⟩
instance : FieldIs Try.prog 110 2 2 3 1 := ⟨_, _, Try.underlying110, rfl, rfl, rfl, by kernel_rfl, by decide⟩
instance : StructOk Try.prog 110 := ⟨_, Try.underlying110, by kernel_rfl⟩
instance : SizeIs Try.prog 110 3 := ⟨by kernel_rfl⟩
instance : AggIs Try.prog 110 true := ⟨by kernel_rfl⟩
instance : ZeroIs Try.prog 110 ((Value.agg #[Value.int IntKind.i64 0, Value.int IntKind.i64 0, Value.int IntKind.i64 0])) := ⟨by kernel_rfl⟩
instance : BytesIs Try.prog 110 3 24 := ⟨Try.t110, _, by kernel_rfl, rfl, rfl, rfl, rfl, by decide, by decide⟩
instance : SizeIs Try.prog 111 1 := ⟨by kernel_rfl⟩
instance : AggIs Try.prog 111 false := ⟨by kernel_rfl⟩
instance : ZeroIs Try.prog 111 (Value.nilFunc) := ⟨by kernel_rfl⟩
instance : BytesIs Try.prog 111 1 8 := ⟨Try.t111, _, by kernel_rfl, rfl, rfl, rfl, rfl, by decide, by decide⟩
instance : SizeIs Try.prog 112 1 := ⟨by kernel_rfl⟩
instance : AggIs Try.prog 112 false := ⟨by kernel_rfl⟩
instance : ZeroIs Try.prog 112 (Value.nilFunc) := ⟨by kernel_rfl⟩
instance : BytesIs Try.prog 112 1 8 := ⟨Try.t112, _, by kernel_rfl, rfl, rfl, rfl, rfl, by decide, by decide⟩
instance : SizeIs Try.prog 113 1 := ⟨by kernel_rfl⟩
instance : AggIs Try.prog 113 false := ⟨by kernel_rfl⟩
instance : ZeroIs Try.prog 113 (Value.nilFunc) := ⟨by kernel_rfl⟩
instance : BytesIs Try.prog 113 1 8 := ⟨Try.t113, _, by kernel_rfl, rfl, rfl, rfl, rfl, by decide, by decide⟩
instance : SizeIs Try.prog 115 1 := ⟨by kernel_rfl⟩
instance : AggIs Try.prog 115 false := ⟨by kernel_rfl⟩
instance : ZeroIs Try.prog 115 (Value.nilFunc) := ⟨by kernel_rfl⟩
instance : BytesIs Try.prog 115 1 8 := ⟨Try.t115, _, by kernel_rfl, rfl, rfl, rfl, rfl, by decide, by decide⟩
instance : SizeIs Try.prog 116 1 := ⟨by kernel_rfl⟩
instance : AggIs Try.prog 116 false := ⟨by kernel_rfl⟩
instance : ZeroIs Try.prog 116 (Value.nilFunc) := ⟨by kernel_rfl⟩
instance : BytesIs Try.prog 116 1 8 := ⟨Try.t116, _, by kernel_rfl, rfl, rfl, rfl, rfl, by decide, by decide⟩
instance : UnderIs Try.prog 117 (.slice 66) := ⟨Try.underlying117⟩
instance : SizeIs Try.prog 117 1 := ⟨by kernel_rfl⟩
instance : AggIs Try.prog 117 false := ⟨by kernel_rfl⟩
instance : ZeroIs Try.prog 117 ((Value.slice none 0 0)) := ⟨by kernel_rfl⟩
instance : BytesIs Try.prog 117 1 24 := ⟨Try.t117, _, by kernel_rfl, rfl, rfl, rfl, rfl, by decide, by decide⟩
instance : SizeIs Try.prog 119 1 := ⟨by kernel_rfl⟩
instance : AggIs Try.prog 119 false := ⟨by kernel_rfl⟩
instance : ZeroIs Try.prog 119 (Value.nilFunc) := ⟨by kernel_rfl⟩
instance : BytesIs Try.prog 119 1 8 := ⟨Try.t119, _, by kernel_rfl, rfl, rfl, rfl, rfl, by decide, by decide⟩
instance : SizeIs Try.prog 120 1 := ⟨by kernel_rfl⟩
instance : AggIs Try.prog 120 false := ⟨by kernel_rfl⟩
instance : ZeroIs Try.prog 120 (Value.nilFunc) := ⟨by kernel_rfl⟩
instance : BytesIs Try.prog 120 1 8 := ⟨Try.t120, _, by kernel_rfl, rfl, rfl, rfl, rfl, by decide, by decide⟩
instance : FieldIs Try.prog 121 0 0 3 1 := ⟨_, _, Try.underlying121, rfl, rfl, rfl, by kernel_rfl, by decide⟩
instance : FieldIs Try.prog 121 1 1 9 1 := ⟨_, _, Try.underlying121, rfl, rfl, rfl, by kernel_rfl, by decide⟩
instance : FieldIs Try.prog 121 2 2 66 1 := ⟨_, _, Try.underlying121, rfl, rfl, rfl, by kernel_rfl, by decide⟩
instance : FieldIs Try.prog 121 3 3 3 1 := ⟨_, _, Try.underlying121, rfl, rfl, rfl, by kernel_rfl, by decide⟩
instance : FieldIs Try.prog 121 4 4 4 1 := ⟨_, _, Try.underlying121, rfl, rfl, rfl, by kernel_rfl, by decide⟩
instance : FieldIs Try.prog 121 5 5 25 1 := ⟨_, _, Try.underlying121, rfl, rfl, rfl, by kernel_rfl, by decide⟩
instance : FieldIs Try.prog 121 6 6 25 1 := ⟨_, _, Try.underlying121, rfl, rfl, rfl, by kernel_rfl, by decide⟩
instance : StructOk Try.prog 121 := ⟨_, Try.underlying121, by kernel_rfl⟩
instance : SizeIs Try.prog 121 7 := ⟨by kernel_rfl⟩
instance : AggIs Try.prog 121 true := ⟨by kernel_rfl⟩
instance : ZeroIs Try.prog 121 ((Value.agg #[Value.int IntKind.i64 0, Value.string ByteArray.empty, Value.slice none 0 0, Value.int IntKind.i64 0, Value.bool false, Value.int IntKind.u64 0, Value.int IntKind.u64 0])) := ⟨by kernel_rfl⟩
instance : BytesIs Try.prog 121 7 80 := ⟨Try.t121, _, by kernel_rfl, rfl, rfl, rfl, rfl, by decide, by decide⟩
instance : FieldIs Try.prog 122 0 0 3 1 := ⟨_, _, Try.underlying122, rfl, rfl, rfl, by kernel_rfl, by decide⟩
instance : FieldIs Try.prog 122 1 1 9 1 := ⟨_, _, Try.underlying122, rfl, rfl, rfl, by kernel_rfl, by decide⟩
instance : FieldIs Try.prog 122 2 2 66 1 := ⟨_, _, Try.underlying122, rfl, rfl, rfl, by kernel_rfl, by decide⟩
instance : FieldIs Try.prog 122 3 3 3 1 := ⟨_, _, Try.underlying122, rfl, rfl, rfl, by kernel_rfl, by decide⟩
instance : FieldIs Try.prog 122 4 4 4 1 := ⟨_, _, Try.underlying122, rfl, rfl, rfl, by kernel_rfl, by decide⟩
instance : FieldIs Try.prog 122 5 5 25 1 := ⟨_, _, Try.underlying122, rfl, rfl, rfl, by kernel_rfl, by decide⟩
instance : FieldIs Try.prog 122 6 6 25 1 := ⟨_, _, Try.underlying122, rfl, rfl, rfl, by kernel_rfl, by decide⟩
instance : StructOk Try.prog 122 := ⟨_, Try.underlying122, by kernel_rfl⟩
instance : SizeIs Try.prog 122 7 := ⟨by kernel_rfl⟩
instance : AggIs Try.prog 122 true := ⟨by kernel_rfl⟩
instance : ZeroIs Try.prog 122 ((Value.agg #[Value.int IntKind.i64 0, Value.string ByteArray.empty, Value.slice none 0 0, Value.int IntKind.i64 0, Value.bool false, Value.int IntKind.u64 0, Value.int IntKind.u64 0])) := ⟨by kernel_rfl⟩
instance : BytesIs Try.prog 122 7 80 := ⟨Try.t122, _, by kernel_rfl, rfl, rfl, rfl, rfl, by decide, by decide⟩
instance : SizeIs Try.prog 123 1 := ⟨by kernel_rfl⟩
instance : AggIs Try.prog 123 false := ⟨by kernel_rfl⟩
instance : ZeroIs Try.prog 123 (Value.nilFunc) := ⟨by kernel_rfl⟩
instance : BytesIs Try.prog 123 1 8 := ⟨Try.t123, _, by kernel_rfl, rfl, rfl, rfl, rfl, by decide, by decide⟩
instance : SizeIs Try.prog 124 1 := ⟨by kernel_rfl⟩
instance : AggIs Try.prog 124 false := ⟨by kernel_rfl⟩
instance : ZeroIs Try.prog 124 (Value.nilFunc) := ⟨by kernel_rfl⟩
instance : BytesIs Try.prog 124 1 8 := ⟨Try.t124, _, by kernel_rfl, rfl, rfl, rfl, rfl, by decide, by decide⟩
instance : SizeIs Try.prog 125 1 := ⟨by kernel_rfl⟩
instance : AggIs Try.prog 125 false := ⟨by kernel_rfl⟩
instance : ZeroIs Try.prog 125 (Value.nilFunc) := ⟨by kernel_rfl⟩
instance : BytesIs Try.prog 125 1 8 := ⟨Try.t125, _, by kernel_rfl, rfl, rfl, rfl, rfl, by decide, by decide⟩
instance : SizeIs Try.prog 126 1 := ⟨by kernel_rfl⟩
instance : AggIs Try.prog 126 false := ⟨by kernel_rfl⟩
instance : ZeroIs Try.prog 126 (Value.nilFunc) := ⟨by kernel_rfl⟩
instance : BytesIs Try.prog 126 1 8 := ⟨Try.t126, _, by kernel_rfl, rfl, rfl, rfl, rfl, by decide, by decide⟩
instance : SizeIs Try.prog 127 1 := ⟨by kernel_rfl⟩
instance : AggIs Try.prog 127 false := ⟨by kernel_rfl⟩
instance : ZeroIs Try.prog 127 (Value.nilFunc) := ⟨by kernel_rfl⟩
instance : BytesIs Try.prog 127 1 8 := ⟨Try.t127, _, by kernel_rfl, rfl, rfl, rfl, rfl, by decide, by decide⟩
instance : SizeIs Try.prog 128 1 := ⟨by kernel_rfl⟩
instance : AggIs Try.prog 128 false := ⟨by kernel_rfl⟩
instance : ZeroIs Try.prog 128 (Value.nilFunc) := ⟨by kernel_rfl⟩
instance : BytesIs Try.prog 128 1 8 := ⟨Try.t128, _, by kernel_rfl, rfl, rfl, rfl, rfl, by decide, by decide⟩
instance : SizeIs Try.prog 129 1 := ⟨by kernel_rfl⟩
instance : AggIs Try.prog 129 false := ⟨by kernel_rfl⟩
instance : ZeroIs Try.prog 129 (Value.nilFunc) := ⟨by kernel_rfl⟩
instance : BytesIs Try.prog 129 1 8 := ⟨Try.t129, _, by kernel_rfl, rfl, rfl, rfl, rfl, by decide, by decide⟩
instance : SizeIs Try.prog 130 1 := ⟨by kernel_rfl⟩
instance : AggIs Try.prog 130 false := ⟨by kernel_rfl⟩
instance : ZeroIs Try.prog 130 (Value.nilFunc) := ⟨by kernel_rfl⟩
instance : BytesIs Try.prog 130 1 8 := ⟨Try.t130, _, by kernel_rfl, rfl, rfl, rfl, rfl, by decide, by decide⟩
instance : SizeIs Try.prog 131 1 := ⟨by kernel_rfl⟩
instance : AggIs Try.prog 131 false := ⟨by kernel_rfl⟩
instance : ZeroIs Try.prog 131 (Value.nilFunc) := ⟨by kernel_rfl⟩
instance : BytesIs Try.prog 131 1 8 := ⟨Try.t131, _, by kernel_rfl, rfl, rfl, rfl, rfl, by decide, by decide⟩
instance : UnderIs Try.prog 132 (.int IntKind.u64) := ⟨Try.underlying132⟩
instance : SizeIs Try.prog 132 1 := ⟨by kernel_rfl⟩
instance : AggIs Try.prog 132 false := ⟨by kernel_rfl⟩
instance : ZeroIs Try.prog 132 ((Value.int IntKind.u64 0)) := ⟨by kernel_rfl⟩
instance : BytesIs Try.prog 132 1 8 := ⟨Try.t132, _, by kernel_rfl, rfl, rfl, rfl, rfl, by decide, by decide⟩
instance : SizeIs Try.prog 133 1 := ⟨by kernel_rfl⟩
instance : AggIs Try.prog 133 false := ⟨by kernel_rfl⟩
instance : ZeroIs Try.prog 133 (Value.nilFunc) := ⟨by kernel_rfl⟩
instance : BytesIs Try.prog 133 1 8 := ⟨Try.t133, _, by kernel_rfl, rfl, rfl, rfl, rfl, by decide, by decide⟩
instance : SizeIs Try.prog 134 1 := ⟨by kernel_rfl⟩
instance : AggIs Try.prog 134 false := ⟨by kernel_rfl⟩
instance : ZeroIs Try.prog 134 (Value.nilFunc) := ⟨by kernel_rfl⟩
instance : BytesIs Try.prog 134 1 8 := ⟨Try.t134, _, by kernel_rfl, rfl, rfl, rfl, rfl, by decide, by decide⟩
instance : SizeIs Try.prog 135 1 := ⟨by kernel_rfl⟩
instance : AggIs Try.prog 135 false := ⟨by kernel_rfl⟩
instance : ZeroIs Try.prog 135 (Value.nilFunc) := ⟨by kernel_rfl⟩
instance : BytesIs Try.prog 135 1 8 := ⟨Try.t135, _, by kernel_rfl, rfl, rfl, rfl, rfl, by decide, by decide⟩
instance : SizeIs Try.prog 136 1 := ⟨by kernel_rfl⟩
instance : AggIs Try.prog 136 false := ⟨by kernel_rfl⟩
instance : ZeroIs Try.prog 136 (Value.nilFunc) := ⟨by kernel_rfl⟩
instance : BytesIs Try.prog 136 1 8 := ⟨Try.t136, _, by kernel_rfl, rfl, rfl, rfl, rfl, by decide, by decide⟩
instance : SizeIs Try.prog 138 1 := ⟨by kernel_rfl⟩
instance : AggIs Try.prog 138 false := ⟨by kernel_rfl⟩
instance : ZeroIs Try.prog 138 (Value.nilFunc) := ⟨by kernel_rfl⟩
instance : BytesIs Try.prog 138 1 8 := ⟨Try.t138, _, by kernel_rfl, rfl, rfl, rfl, rfl, by decide, by decide⟩
instance : SizeIs Try.prog 139 1 := ⟨by kernel_rfl⟩
instance : AggIs Try.prog 139 false := ⟨by kernel_rfl⟩
instance : ZeroIs Try.prog 139 (Value.nilFunc) := ⟨by kernel_rfl⟩
instance : BytesIs Try.prog 139 1 8 := ⟨Try.t139, _, by kernel_rfl, rfl, rfl, rfl, rfl, by decide, by decide⟩
instance : SizeIs Try.prog 141 1 := ⟨by kernel_rfl⟩
instance : AggIs Try.prog 141 false := ⟨by kernel_rfl⟩
instance : ZeroIs Try.prog 141 (Value.nilFunc) := ⟨by kernel_rfl⟩
instance : BytesIs Try.prog 141 1 8 := ⟨Try.t141, _, by kernel_rfl, rfl, rfl, rfl, rfl, by decide, by decide⟩
instance : SizeIs Try.prog 142 1 := ⟨by kernel_rfl⟩
instance : AggIs Try.prog 142 false := ⟨by kernel_rfl⟩
instance : ZeroIs Try.prog 142 (Value.nilFunc) := ⟨by kernel_rfl⟩
instance : BytesIs Try.prog 142 1 8 := ⟨Try.t142, _, by kernel_rfl, rfl, rfl, rfl, rfl, by decide, by decide⟩
instance : SizeIs Try.prog 143 1 := ⟨by kernel_rfl⟩
instance : AggIs Try.prog 143 false := ⟨by kernel_rfl⟩
instance : ZeroIs Try.prog 143 (Value.nilFunc) := ⟨by kernel_rfl⟩
instance : BytesIs Try.prog 143 1 8 := ⟨Try.t143, _, by kernel_rfl, rfl, rfl, rfl, rfl, by decide, by decide⟩
instance : SizeIs Try.prog 144 1 := ⟨by kernel_rfl⟩
instance : AggIs Try.prog 144 false := ⟨by kernel_rfl⟩
instance : ZeroIs Try.prog 144 (Value.nilFunc) := ⟨by kernel_rfl⟩
instance : BytesIs Try.prog 144 1 8 := ⟨Try.t144, _, by kernel_rfl, rfl, rfl, rfl, rfl, by decide, by decide⟩
instance : SizeIs Try.prog 145 1 := ⟨by kernel_rfl⟩
instance : AggIs Try.prog 145 false := ⟨by kernel_rfl⟩
instance : ZeroIs Try.prog 145 (Value.nilFunc) := ⟨by kernel_rfl⟩
instance : BytesIs Try.prog 145 1 8 := ⟨Try.t145, _, by kernel_rfl, rfl, rfl, rfl, rfl, by decide, by decide⟩
instance : SizeIs Try.prog 146 1 := ⟨by kernel_rfl⟩
instance : AggIs Try.prog 146 false := ⟨by kernel_rfl⟩
instance : ZeroIs Try.prog 146 (Value.nilFunc) := ⟨by kernel_rfl⟩
instance : BytesIs Try.prog 146 1 8 := ⟨Try.t146, _, by kernel_rfl, rfl, rfl, rfl, rfl, by decide, by decide⟩
instance : SizeIs Try.prog 147 1 := ⟨by kernel_rfl⟩
instance : AggIs Try.prog 147 false := ⟨by kernel_rfl⟩
instance : ZeroIs Try.prog 147 (Value.nilFunc) := ⟨by kernel_rfl⟩
instance : BytesIs Try.prog 147 1 8 := ⟨Try.t147, _, by kernel_rfl, rfl, rfl, rfl, rfl, by decide, by decide⟩
instance : SizeIs Try.prog 148 1 := ⟨by kernel_rfl⟩
instance : AggIs Try.prog 148 false := ⟨by kernel_rfl⟩
instance : ZeroIs Try.prog 148 (Value.nilFunc) := ⟨by kernel_rfl⟩
instance : BytesIs Try.prog 148 1 8 := ⟨Try.t148, _, by kernel_rfl, rfl, rfl, rfl, rfl, by decide, by decide⟩
instance : SizeIs Try.prog 149 1 := ⟨by kernel_rfl⟩
instance : AggIs Try.prog 149 false := ⟨by kernel_rfl⟩
instance : ZeroIs Try.prog 149 (Value.nilFunc) := ⟨by kernel_rfl⟩
instance : BytesIs Try.prog 149 1 8 := ⟨Try.t149, _, by kernel_rfl, rfl, rfl, rfl, rfl, by decide, by decide⟩
instance : SizeIs Try.prog 150 1 := ⟨by kernel_rfl⟩
instance : AggIs Try.prog 150 false := ⟨by kernel_rfl⟩
instance : ZeroIs Try.prog 150 (Value.nilFunc) := ⟨by kernel_rfl⟩
instance : BytesIs Try.prog 150 1 8 := ⟨Try.t150, _, by kernel_rfl, rfl, rfl, rfl, rfl, by decide, by decide⟩
instance : SizeIs Try.prog 151 1 := ⟨by kernel_rfl⟩
instance : AggIs Try.prog 151 false := ⟨by kernel_rfl⟩
instance : ZeroIs Try.prog 151 (Value.nilFunc) := ⟨by kernel_rfl⟩
instance : BytesIs Try.prog 151 1 8 := ⟨Try.t151, _, by kernel_rfl, rfl, rfl, rfl, rfl, by decide, by decide⟩
instance : SizeIs Try.prog 152 1 := ⟨by kernel_rfl⟩
instance : AggIs Try.prog 152 false := ⟨by kernel_rfl⟩
instance : ZeroIs Try.prog 152 (Value.nilFunc) := ⟨by kernel_rfl⟩
instance : BytesIs Try.prog 152 1 8 := ⟨Try.t152, _, by kernel_rfl, rfl, rfl, rfl, rfl, by decide, by decide⟩
instance : SizeIs Try.prog 154 1 := ⟨by kernel_rfl⟩
instance : AggIs Try.prog 154 false := ⟨by kernel_rfl⟩
instance : ZeroIs Try.prog 154 (Value.nilFunc) := ⟨by kernel_rfl⟩
instance : BytesIs Try.prog 154 1 8 := ⟨Try.t154, _, by kernel_rfl, rfl, rfl, rfl, rfl, by decide, by decide⟩
instance : SizeIs Try.prog 155 1 := ⟨by kernel_rfl⟩
instance : AggIs Try.prog 155 false := ⟨by kernel_rfl⟩
instance : ZeroIs Try.prog 155 (Value.nilFunc) := ⟨by kernel_rfl⟩
instance : BytesIs Try.prog 155 1 8 := ⟨Try.t155, _, by kernel_rfl, rfl, rfl, rfl, rfl, by decide, by decide⟩
instance : SizeIs Try.prog 156 1 := ⟨by kernel_rfl⟩
instance : AggIs Try.prog 156 false := ⟨by kernel_rfl⟩
instance : ZeroIs Try.prog 156 (Value.nilFunc) := ⟨by kernel_rfl⟩
instance : BytesIs Try.prog 156 1 8 := ⟨Try.t156, _, by kernel_rfl, rfl, rfl, rfl, rfl, by decide, by decide⟩
instance : SizeIs Try.prog 158 1 := ⟨by kernel_rfl⟩
instance : AggIs Try.prog 158 false := ⟨by kernel_rfl⟩
instance : ZeroIs Try.prog 158 (Value.nilFunc) := ⟨by kernel_rfl⟩
instance : BytesIs Try.prog 158 1 8 := ⟨Try.t158, _, by kernel_rfl, rfl, rfl, rfl, rfl, by decide, by decide⟩
instance : SizeIs Try.prog 159 1 := ⟨by kernel_rfl⟩
instance : AggIs Try.prog 159 false := ⟨by kernel_rfl⟩
instance : ZeroIs Try.prog 159 (Value.nilFunc) := ⟨by kernel_rfl⟩
instance : BytesIs Try.prog 159 1 8 := ⟨Try.t159, _, by kernel_rfl, rfl, rfl, rfl, rfl, by decide, by decide⟩
instance : SizeIs Try.prog 161 1 := ⟨by kernel_rfl⟩
instance : AggIs Try.prog 161 false := ⟨by kernel_rfl⟩
instance : ZeroIs Try.prog 161 (Value.nilFunc) := ⟨by kernel_rfl⟩
instance : BytesIs Try.prog 161 1 8 := ⟨Try.t161, _, by kernel_rfl, rfl, rfl, rfl, rfl, by decide, by decide⟩
instance : SizeIs Try.prog 162 1 := ⟨by kernel_rfl⟩
instance : AggIs Try.prog 162 false := ⟨by kernel_rfl⟩
instance : ZeroIs Try.prog 162 (Value.nilFunc) := ⟨by kernel_rfl⟩
instance : BytesIs Try.prog 162 1 8 := ⟨Try.t162, _, by kernel_rfl, rfl, rfl, rfl, rfl, by decide, by decide⟩
instance : SizeIs Try.prog 163 1 := ⟨by kernel_rfl⟩
instance : AggIs Try.prog 163 false := ⟨by kernel_rfl⟩
instance : ZeroIs Try.prog 163 (Value.nilFunc) := ⟨by kernel_rfl⟩
instance : BytesIs Try.prog 163 1 8 := ⟨Try.t163, _, by kernel_rfl, rfl, rfl, rfl, rfl, by decide, by decide⟩
instance : SizeIs Try.prog 164 1 := ⟨by kernel_rfl⟩
instance : AggIs Try.prog 164 false := ⟨by kernel_rfl⟩
instance : ZeroIs Try.prog 164 (Value.nilFunc) := ⟨by kernel_rfl⟩
instance : BytesIs Try.prog 164 1 8 := ⟨Try.t164, _, by kernel_rfl, rfl, rfl, rfl, rfl, by decide, by decide⟩
instance : SizeIs Try.prog 165 1 := ⟨by kernel_rfl⟩
instance : AggIs Try.prog 165 false := ⟨by kernel_rfl⟩
instance : ZeroIs Try.prog 165 (Value.nilFunc) := ⟨by kernel_rfl⟩
instance : BytesIs Try.prog 165 1 8 := ⟨Try.t165, _, by kernel_rfl, rfl, rfl, rfl, rfl, by decide, by decide⟩
instance : SizeIs Try.prog 166 1 := ⟨by kernel_rfl⟩
instance : AggIs Try.prog 166 false := ⟨by kernel_rfl⟩
instance : ZeroIs Try.prog 166 (Value.nilFunc) := ⟨by kernel_rfl⟩
instance : BytesIs Try.prog 166 1 8 := ⟨Try.t166, _, by kernel_rfl, rfl, rfl, rfl, rfl, by decide, by decide⟩
instance : SizeIs Try.prog 168 1 := ⟨by kernel_rfl⟩
instance : AggIs Try.prog 168 false := ⟨by kernel_rfl⟩
instance : ZeroIs Try.prog 168 (Value.nilFunc) := ⟨by kernel_rfl⟩
instance : BytesIs Try.prog 168 1 8 := ⟨Try.t168, _, by kernel_rfl, rfl, rfl, rfl, rfl, by decide, by decide⟩
instance : SizeIs Try.prog 169 1 := ⟨by kernel_rfl⟩
instance : AggIs Try.prog 169 false := ⟨by kernel_rfl⟩
instance : ZeroIs Try.prog 169 (Value.nilFunc) := ⟨by kernel_rfl⟩
instance : BytesIs Try.prog 169 1 8 := ⟨Try.t169, _, by kernel_rfl, rfl, rfl, rfl, rfl, by decide, by decide⟩
instance : SizeIs Try.prog 171 1 := ⟨by kernel_rfl⟩
instance : AggIs Try.prog 171 false := ⟨by kernel_rfl⟩
instance : ZeroIs Try.prog 171 (Value.nilFunc) := ⟨by kernel_rfl⟩
instance : BytesIs Try.prog 171 1 8 := ⟨Try.t171, _, by kernel_rfl, rfl, rfl, rfl, rfl, by decide, by decide⟩
instance : SizeIs Try.prog 173 1 := ⟨by kernel_rfl⟩
instance : AggIs Try.prog 173 false := ⟨by kernel_rfl⟩
instance : ZeroIs Try.prog 173 (Value.nilFunc) := ⟨by kernel_rfl⟩
instance : BytesIs Try.prog 173 1 8 := ⟨Try.t173, _, by kernel_rfl, rfl, rfl, rfl, rfl, by decide, by decide⟩
instance : SizeIs Try.prog 175 1 := ⟨by kernel_rfl⟩
instance : AggIs Try.prog 175 false := ⟨by kernel_rfl⟩
instance : ZeroIs Try.prog 175 (Value.nilFunc) := ⟨by kernel_rfl⟩
instance : BytesIs Try.prog 175 1 8 := ⟨Try.t175, _, by kernel_rfl, rfl, rfl, rfl, rfl, by decide, by decide⟩
instance : SizeIs Try.prog 176 1 := ⟨by kernel_rfl⟩
instance : AggIs Try.prog 176 false := ⟨by kernel_rfl⟩
instance : ZeroIs Try.prog 176 (Value.nilFunc) := ⟨by kernel_rfl⟩
instance : BytesIs Try.prog 176 1 8 := ⟨Try.t176, _, by kernel_rfl, rfl, rfl, rfl, rfl, by decide, by decide⟩
instance : SizeIs Try.prog 177 1 := ⟨by kernel_rfl⟩
instance : AggIs Try.prog 177 false := ⟨by kernel_rfl⟩
instance : ZeroIs Try.prog 177 (Value.nilFunc) := ⟨by kernel_rfl⟩
instance : BytesIs Try.prog 177 1 8 := ⟨Try.t177, _, by kernel_rfl, rfl, rfl, rfl, rfl, by decide, by decide⟩
instance : SizeIs Try.prog 178 1 := ⟨by kernel_rfl⟩
instance : AggIs Try.prog 178 false := ⟨by kernel_rfl⟩
instance : ZeroIs Try.prog 178 (Value.nilFunc) := ⟨by kernel_rfl⟩
instance : BytesIs Try.prog 178 1 8 := ⟨Try.t178, _, by kernel_rfl, rfl, rfl, rfl, rfl, by decide, by decide⟩
instance : SizeIs Try.prog 179 1 := ⟨by kernel_rfl⟩
instance : AggIs Try.prog 179 false := ⟨by kernel_rfl⟩
instance : ZeroIs Try.prog 179 (Value.nilFunc) := ⟨by kernel_rfl⟩
instance : BytesIs Try.prog 179 1 8 := ⟨Try.t179, _, by kernel_rfl, rfl, rfl, rfl, rfl, by decide, by decide⟩
instance : SizeIs Try.prog 180 1 := ⟨by kernel_rfl⟩
instance : AggIs Try.prog 180 false := ⟨by kernel_rfl⟩
instance : ZeroIs Try.prog 180 (Value.nilFunc) := ⟨by kernel_rfl⟩
instance : BytesIs Try.prog 180 1 8 := ⟨Try.t180, _, by kernel_rfl, rfl, rfl, rfl, rfl, by decide, by decide⟩
instance : SizeIs Try.prog 181 1 := ⟨by kernel_rfl⟩
instance : AggIs Try.prog 181 false := ⟨by kernel_rfl⟩
instance : ZeroIs Try.prog 181 (Value.nilFunc) := ⟨by kernel_rfl⟩
instance : BytesIs Try.prog 181 1 8 := ⟨Try.t181, _, by kernel_rfl, rfl, rfl, rfl, rfl, by decide, by decide⟩
instance : SizeIs Try.prog 182 1 := ⟨by kernel_rfl⟩
instance : AggIs Try.prog 182 false := ⟨by kernel_rfl⟩
instance : ZeroIs Try.prog 182 (Value.nilFunc) := ⟨by kernel_rfl⟩
instance : BytesIs Try.prog 182 1 8 := ⟨Try.t182, _, by kernel_rfl, rfl, rfl, rfl, rfl, by decide, by decide⟩
instance : SizeIs Try.prog 183 1 := ⟨by kernel_rfl⟩
instance : AggIs Try.prog 183 false := ⟨by kernel_rfl⟩
instance : ZeroIs Try.prog 183 (Value.nilFunc) := ⟨by kernel_rfl⟩
instance : BytesIs Try.prog 183 1 8 := ⟨Try.t183, _, by kernel_rfl, rfl, rfl, rfl, rfl, by decide, by decide⟩
instance : SizeIs Try.prog 184 1 := ⟨by kernel_rfl⟩
instance : AggIs Try.prog 184 false := ⟨by kernel_rfl⟩
instance : ZeroIs Try.prog 184 (Value.nilFunc) := ⟨by kernel_rfl⟩
instance : BytesIs Try.prog 184 1 8 := ⟨Try.t184, _, by kernel_rfl, rfl, rfl, rfl, rfl, by decide, by decide⟩
instance : FieldIs Try.prog 185 0 0 17 1 := ⟨_, _, Try.underlying185, rfl, rfl, rfl, by kernel_rfl, by decide⟩
instance : FieldIs Try.prog 185 1 1 17 1 := ⟨_, _, Try.underlying185, rfl, rfl, rfl, by kernel_rfl, by decide⟩
instance : FieldIs Try.prog 185 2 2 17 1 := ⟨_, _, Try.underlying185, rfl, rfl, rfl, by kernel_rfl, by decide⟩
instance : FieldIs Try.prog 185 3 3 9 1 := ⟨_, _, Try.underlying185, rfl, rfl, rfl, by kernel_rfl, by decide⟩
instance : StructOk Try.prog 185 := ⟨_, Try.underlying185, by kernel_rfl⟩
instance : SizeIs Try.prog 185 4 := ⟨by kernel_rfl⟩
instance : AggIs Try.prog 185 true := ⟨by kernel_rfl⟩
instance : ZeroIs Try.prog 185 ((Value.agg #[Value.pointer none, Value.pointer none, Value.pointer none, Value.string ByteArray.empty])) := ⟨by kernel_rfl⟩
instance : BytesIs Try.prog 185 4 40 := ⟨Try.t185, _, by kernel_rfl, rfl, rfl, rfl, rfl, by decide, by decide⟩
instance : FieldIs Try.prog 186 0 0 17 1 := ⟨_, _, Try.underlying186, rfl, rfl, rfl, by kernel_rfl, by decide⟩
instance : FieldIs Try.prog 186 1 1 17 1 := ⟨_, _, Try.underlying186, rfl, rfl, rfl, by kernel_rfl, by decide⟩
instance : FieldIs Try.prog 186 2 2 17 1 := ⟨_, _, Try.underlying186, rfl, rfl, rfl, by kernel_rfl, by decide⟩
instance : FieldIs Try.prog 186 3 3 9 1 := ⟨_, _, Try.underlying186, rfl, rfl, rfl, by kernel_rfl, by decide⟩
instance : StructOk Try.prog 186 := ⟨_, Try.underlying186, by kernel_rfl⟩
instance : SizeIs Try.prog 186 4 := ⟨by kernel_rfl⟩
instance : AggIs Try.prog 186 true := ⟨by kernel_rfl⟩
instance : ZeroIs Try.prog 186 ((Value.agg #[Value.pointer none, Value.pointer none, Value.pointer none, Value.string ByteArray.empty])) := ⟨by kernel_rfl⟩
instance : BytesIs Try.prog 186 4 40 := ⟨Try.t186, _, by kernel_rfl, rfl, rfl, rfl, rfl, by decide, by decide⟩
instance : UnderIs Try.prog 187 (.array 0 16) := ⟨Try.underlying187⟩
instance : SizeIs Try.prog 187 0 := ⟨by kernel_rfl⟩
instance : AggIs Try.prog 187 true := ⟨by kernel_rfl⟩
instance : StructOk Try.prog 188 := ⟨_, Try.underlying188, by kernel_rfl⟩
instance : SizeIs Try.prog 188 0 := ⟨by kernel_rfl⟩
instance : AggIs Try.prog 188 true := ⟨by kernel_rfl⟩
instance : StructOk Try.prog 189 := ⟨_, Try.underlying189, by kernel_rfl⟩
instance : SizeIs Try.prog 189 0 := ⟨by kernel_rfl⟩
instance : AggIs Try.prog 189 true := ⟨by kernel_rfl⟩
instance : SizeIs Try.prog 190 1 := ⟨by kernel_rfl⟩
instance : AggIs Try.prog 190 false := ⟨by kernel_rfl⟩
instance : ZeroIs Try.prog 190 (Value.nilFunc) := ⟨by kernel_rfl⟩
instance : BytesIs Try.prog 190 1 8 := ⟨Try.t190, _, by kernel_rfl, rfl, rfl, rfl, rfl, by decide, by decide⟩
instance : UnderIs Try.prog 191 (.int IntKind.u32) := ⟨Try.underlying191⟩
instance : SizeIs Try.prog 191 1 := ⟨by kernel_rfl⟩
instance : AggIs Try.prog 191 false := ⟨by kernel_rfl⟩
instance : ZeroIs Try.prog 191 ((Value.int IntKind.u32 0)) := ⟨by kernel_rfl⟩
instance : BytesIs Try.prog 191 1 4 := ⟨Try.t191, _, by kernel_rfl, rfl, rfl, rfl, rfl, by decide, by decide⟩
instance : UnderIs Try.prog 192 (.int IntKind.u8) := ⟨Try.underlying192⟩
instance : SizeIs Try.prog 192 1 := ⟨by kernel_rfl⟩
instance : AggIs Try.prog 192 false := ⟨by kernel_rfl⟩
instance : ZeroIs Try.prog 192 ((Value.int IntKind.u8 0)) := ⟨by kernel_rfl⟩
instance : BytesIs Try.prog 192 1 1 := ⟨Try.t192, _, by kernel_rfl, rfl, rfl, rfl, rfl, by decide, by decide⟩
instance : UnderIs Try.prog 193 (.int IntKind.u8) := ⟨Try.underlying193⟩
instance : SizeIs Try.prog 193 1 := ⟨by kernel_rfl⟩
instance : AggIs Try.prog 193 false := ⟨by kernel_rfl⟩
instance : ZeroIs Try.prog 193 ((Value.int IntKind.u8 0)) := ⟨by kernel_rfl⟩
instance : BytesIs Try.prog 193 1 1 := ⟨Try.t193, _, by kernel_rfl, rfl, rfl, rfl, rfl, by decide, by decide⟩
instance : SizeIs Try.prog 194 1 := ⟨by kernel_rfl⟩
instance : AggIs Try.prog 194 false := ⟨by kernel_rfl⟩
instance : ZeroIs Try.prog 194 (Value.nilFunc) := ⟨by kernel_rfl⟩
instance : BytesIs Try.prog 194 1 8 := ⟨Try.t194, _, by kernel_rfl, rfl, rfl, rfl, rfl, by decide, by decide⟩
instance : UnderIs Try.prog 195 (.pointer 5) := ⟨Try.underlying195⟩
instance : SizeIs Try.prog 195 1 := ⟨by kernel_rfl⟩
instance : AggIs Try.prog 195 false := ⟨by kernel_rfl⟩
instance : ZeroIs Try.prog 195 ((Value.pointer none)) := ⟨by kernel_rfl⟩
instance : BytesIs Try.prog 195 1 8 := ⟨Try.t195, _, by kernel_rfl, rfl, rfl, rfl, rfl, by decide, by decide⟩
instance : UnderIs Try.prog 196 (.int IntKind.i32) := ⟨Try.underlying196⟩
instance : SizeIs Try.prog 196 1 := ⟨by kernel_rfl⟩
instance : AggIs Try.prog 196 false := ⟨by kernel_rfl⟩
instance : ZeroIs Try.prog 196 ((Value.int IntKind.i32 0)) := ⟨by kernel_rfl⟩
instance : BytesIs Try.prog 196 1 4 := ⟨Try.t196, _, by kernel_rfl, rfl, rfl, rfl, rfl, by decide, by decide⟩
instance : UnderIs Try.prog 197 (.int IntKind.i32) := ⟨Try.underlying197⟩
instance : SizeIs Try.prog 197 1 := ⟨by kernel_rfl⟩
instance : AggIs Try.prog 197 false := ⟨by kernel_rfl⟩
instance : ZeroIs Try.prog 197 ((Value.int IntKind.i32 0)) := ⟨by kernel_rfl⟩
instance : BytesIs Try.prog 197 1 4 := ⟨Try.t197, _, by kernel_rfl, rfl, rfl, rfl, rfl, by decide, by decide⟩
instance : FieldIs Try.prog 198 0 0 12 1 := ⟨_, _, Try.underlying198, rfl, rfl, rfl, by kernel_rfl, by decide⟩
instance : FieldIs Try.prog 198 1 1 12 1 := ⟨_, _, Try.underlying198, rfl, rfl, rfl, by kernel_rfl, by decide⟩
instance : FieldIs Try.prog 198 2 2 191 1 := ⟨_, _, Try.underlying198, rfl, rfl, rfl, by kernel_rfl, by decide⟩
instance : FieldIs Try.prog 198 3 3 192 1 := ⟨_, _, Try.underlying198, rfl, rfl, rfl, by kernel_rfl, by decide⟩
instance : FieldIs Try.prog 198 4 4 5 1 := ⟨_, _, Try.underlying198, rfl, rfl, rfl, by kernel_rfl, by decide⟩
instance : FieldIs Try.prog 198 5 5 5 1 := ⟨_, _, Try.underlying198, rfl, rfl, rfl, by kernel_rfl, by decide⟩
instance : FieldIs Try.prog 198 6 6 193 1 := ⟨_, _, Try.underlying198, rfl, rfl, rfl, by kernel_rfl, by decide⟩
instance : FieldIs Try.prog 198 7 7 194 1 := ⟨_, _, Try.underlying198, rfl, rfl, rfl, by kernel_rfl, by decide⟩
instance : FieldIs Try.prog 198 8 8 195 1 := ⟨_, _, Try.underlying198, rfl, rfl, rfl, by kernel_rfl, by decide⟩
instance : FieldIs Try.prog 198 9 9 196 1 := ⟨_, _, Try.underlying198, rfl, rfl, rfl, by kernel_rfl, by decide⟩
instance : FieldIs Try.prog 198 10 10 197 1 := ⟨_, _, Try.underlying198, rfl, rfl, rfl, by kernel_rfl, by decide⟩
instance : StructOk Try.prog 198 := ⟨_, Try.underlying198, by kernel_rfl⟩
instance : SizeIs Try.prog 198 11 := ⟨by kernel_rfl⟩
instance : AggIs Try.prog 198 true := ⟨by kernel_rfl⟩
instance : ZeroIs Try.prog 198 ((Value.agg #[Value.int IntKind.u64 0, Value.int IntKind.u64 0, Value.int IntKind.u32 0, Value.int IntKind.u8 0, Value.int IntKind.u8 0, Value.int IntKind.u8 0, Value.int IntKind.u8 0, Value.nilFunc, Value.pointer none, Value.int IntKind.i32 0, Value.int IntKind.i32 0])) := ⟨by kernel_rfl⟩
instance : BytesIs Try.prog 198 11 48 := ⟨Try.t198, _, by kernel_rfl, rfl, rfl, rfl, rfl, by decide, by decide⟩
instance : FieldIs Try.prog 199 0 0 12 1 := ⟨_, _, Try.underlying199, rfl, rfl, rfl, by kernel_rfl, by decide⟩
instance : FieldIs Try.prog 199 1 1 12 1 := ⟨_, _, Try.underlying199, rfl, rfl, rfl, by kernel_rfl, by decide⟩
instance : FieldIs Try.prog 199 2 2 191 1 := ⟨_, _, Try.underlying199, rfl, rfl, rfl, by kernel_rfl, by decide⟩
instance : FieldIs Try.prog 199 3 3 192 1 := ⟨_, _, Try.underlying199, rfl, rfl, rfl, by kernel_rfl, by decide⟩
instance : FieldIs Try.prog 199 4 4 5 1 := ⟨_, _, Try.underlying199, rfl, rfl, rfl, by kernel_rfl, by decide⟩
instance : FieldIs Try.prog 199 5 5 5 1 := ⟨_, _, Try.underlying199, rfl, rfl, rfl, by kernel_rfl, by decide⟩
instance : FieldIs Try.prog 199 6 6 193 1 := ⟨_, _, Try.underlying199, rfl, rfl, rfl, by kernel_rfl, by decide⟩
instance : FieldIs Try.prog 199 7 7 194 1 := ⟨_, _, Try.underlying199, rfl, rfl, rfl, by kernel_rfl, by decide⟩
instance : FieldIs Try.prog 199 8 8 195 1 := ⟨_, _, Try.underlying199, rfl, rfl, rfl, by kernel_rfl, by decide⟩
instance : FieldIs Try.prog 199 9 9 196 1 := ⟨_, _, Try.underlying199, rfl, rfl, rfl, by kernel_rfl, by decide⟩
instance : FieldIs Try.prog 199 10 10 197 1 := ⟨_, _, Try.underlying199, rfl, rfl, rfl, by kernel_rfl, by decide⟩
instance : StructOk Try.prog 199 := ⟨_, Try.underlying199, by kernel_rfl⟩
instance : SizeIs Try.prog 199 11 := ⟨by kernel_rfl⟩
instance : AggIs Try.prog 199 true := ⟨by kernel_rfl⟩
instance : ZeroIs Try.prog 199 ((Value.agg #[Value.int IntKind.u64 0, Value.int IntKind.u64 0, Value.int IntKind.u32 0, Value.int IntKind.u8 0, Value.int IntKind.u8 0, Value.int IntKind.u8 0, Value.int IntKind.u8 0, Value.nilFunc, Value.pointer none, Value.int IntKind.i32 0, Value.int IntKind.i32 0])) := ⟨by kernel_rfl⟩
instance : BytesIs Try.prog 199 11 48 := ⟨Try.t199, _, by kernel_rfl, rfl, rfl, rfl, rfl, by decide, by decide⟩
end Go.Ideal

-- La
set_option linter.unusedSimpArgs false
set_option linter.unusedVariables false
namespace Go.Ideal
open Go Go.Proofs
/-! ### Words of 64 bits -/
def w64 (x : Nat) : Value := .int .u64 x
def u64s (xs : List Nat) : List Value := xs.map fun (x : Nat) => Value.int .u64 (x : Int)
theorem u64s_len (xs : List Nat) : (u64s xs).length = xs.length := by simp [u64s]
theorem u64s_at {xs : List Nat} {i : Nat} {v : Value} (h : (u64s xs)[i]? = some v) : ∃ x : Nat, v = .int .u64 x ∧ xs[i]? = some x := by
  simp only [u64s, List.getElem?_map, Option.map_eq_some_iff] at h
  obtain ⟨x, h1, rfl⟩ := h
  exact ⟨x, rfl, h1⟩
theorem wrap_u64_id {z : Int} (h0 : 0 ≤ z) (h : z < 2 ^ 64) : IntKind.u64.wrap z = z := by
  simp only [IntKind.wrap, IntKind.bits, IntKind.signed]; simp; omega
theorem bvNat {x : Nat} (h : x < 2 ^ 64) : (BitVec.ofInt IntKind.u64.bits (x : Int)).toNat = x := by
  have hb : IntKind.u64.bits = 64 := rfl
  simp only [BitVec.toNat_ofInt, hb]
  omega
theorem and_u64 {a b : Nat} (ha : a < 2 ^ 64) (hb : b < 2 ^ 64) : ibits .and .u64 a b = (a &&& b : Nat) := by
  show IntKind.u64.wrap (((BitVec.ofInt IntKind.u64.bits a) &&& (BitVec.ofInt IntKind.u64.bits b)).toNat : Int) = _
  rw [BitVec.toNat_and, bvNat ha, bvNat hb]
  have := Nat.and_lt_two_pow a hb
  exact wrap_u64_id (by omega) (by omega)
theorem or_u64 {a b : Nat} (ha : a < 2 ^ 64) (hb : b < 2 ^ 64) : ibits .or .u64 a b = (a ||| b : Nat) := by
  show IntKind.u64.wrap (((BitVec.ofInt IntKind.u64.bits a) ||| (BitVec.ofInt IntKind.u64.bits b)).toNat : Int) = _
  rw [BitVec.toNat_or, bvNat ha, bvNat hb]
  have := Nat.or_lt_two_pow ha hb
  exact wrap_u64_id (by omega) (by omega)
theorem xor_u64 {a b : Nat} (ha : a < 2 ^ 64) (hb : b < 2 ^ 64) : ibits .xor .u64 a b = (a ^^^ b : Nat) := by
  show IntKind.u64.wrap (((BitVec.ofInt IntKind.u64.bits a) ^^^ (BitVec.ofInt IntKind.u64.bits b)).toNat : Int) = _
  rw [BitVec.toNat_xor, bvNat ha, bvNat hb]
  have := Nat.xor_lt_two_pow ha hb
  exact wrap_u64_id (by omega) (by omega)
theorem shr_u64 {a : Nat} {n : Int} (h0 : 0 ≤ n) (ha : a < 2 ^ 64) : ((a : Int)).fdiv (2 ^ min n.toNat IntKind.u64.bits) = (a >>> n.toNat : Nat) := by
  have hb : IntKind.u64.bits = 64 := rfl
  rw [hb, Nat.shiftRight_eq_div_pow]
  have h2 : (2 : Int) ^ min n.toNat 64 = ((2 ^ min n.toNat 64 : Nat) : Int) := by simp
  rw [h2, Int.fdiv_eq_ediv_of_nonneg _ (Int.natCast_nonneg _), ← Int.natCast_ediv]
  congr 1
  by_cases hn : n.toNat ≤ 64
  · rw [Nat.min_eq_left hn]
  · rw [Nat.min_eq_right (by omega), Nat.div_eq_of_lt ha, Nat.div_eq_of_lt]
    exact Nat.lt_of_lt_of_le ha (Nat.pow_le_pow_right (by decide) (by omega))
def belowS (n : Int) (x : Nat) : Bool := decide (64 ≤ n) || decide (x >>> n.toNat = 0)
theorem below_spec (x : Nat) (hx : x < 2 ^ 64) (n : Int) (hn : 0 ≤ n) (h : IHp) : EvX Try.prog 53 [.int .u64 x, .int .i64 n].toArray h (fun v h' => v = .bool (belowS n x) ∧ h' = h) := by
  refine EvX_of Try.func53 rfl (by show 2 ≤ 13; decide) ?_
  repeat' (first | (first | refine V_seq ?_ | refine V_region ?_ | refine WS_nil ?_ | refine S_normal ?_ | refine V_block ?_ | refine B_normal ?_ | refine V_skip ?_ | refine V_exit ?_ | refine V_ret ?_ | refine S_exit ?_ | refine S_ret ?_ | refine B_exit ?_ | refine B_ret ?_ | refine B_pass rfl ?_ | refine WS_off rfl (by first | rfl | assumption) ?_ | refine WS_on rfl (by first | rfl | assumption) ?_ | refine WS_move ?_ | refine WS_assign ?_ | refine WS_pick_t (by first | rfl | assumption) ?_ | refine WS_pick_f (by first | rfl | assumption) ?_ | refine WS_isnil ?_ | refine WS_notnil ?_ | refine WS_cmp rfl ?_ | refine WS_addi (by omega) ?_ | refine WS_subi (by omega) ?_ | refine WS_arith rfl ?_ | refine WS_not ?_ | refine WS_neg ?_ | refine WS_convert ?_ | refine WS_len_slice ?_ | refine WS_len_string ?_ | refine WS_fieldAddr ?_ | refine WS_load ?_ | refine WS_load_agg ?_ | refine WS_box_agg rfl ?_ | refine WS_box rfl ?_ | refine WS_makeFunc ?_ | refine WS_extract ?_ | refine WS_field ?_ | refine WS_build ?_ | refine WS_zero ?_ | refine WS_shift (by first | decide | omega) rfl ?_ | refine WS_strcmp rfl ?_ | refine WS_indexAddr (by first | decide | omega) ?_ | refine WS_alloc ?_ | refine WS_store rfl ?_ | refine WS_buildSlice (by decide) rfl rfl (by simp [Value.cells]) ?_ | refine WDK_go ?_ | refine WDT_go ?_ | refine WD_nil ?_ | refine WD_take_off rfl rfl (by first | rfl | assumption) ?_ | refine WD_load rfl ?_ | refine WD_load_on rfl rfl (by first | rfl | assumption) ?_ | refine WD_load_agg rfl ?_ | refine WD_load_agg_on rfl rfl (by first | rfl | assumption) ?_ | refine WD_take rfl rfl ?_ | refine WD_take_on rfl rfl (by first | rfl | assumption) rfl ?_ | refine WD_drop rfl rfl ?_ | refine WD_one rfl ?_) | (refine WS_guard rfl ?_ ?_ <;> intro hg) | (refine V_cond ?_ ?_ <;> intro hc <;> try (cases hc; done)))
  · refine retK_1 ⟨?_, rfl⟩ (.inr rfl)
    rw [shr_u64 hn hx]
    simp only [belowS, hg, Bool.false_or]
    exact congrArg Value.bool (decide_eq_decide.2 Int.natCast_eq_zero)
  · refine retK_1 ⟨?_, rfl⟩ (.inr rfl)
    simp at hg
    simp [hg, belowS]
theorem below_ref (x : Nat) (hx : x < 2 ^ 64) (n : Int) (hn : 0 ≤ n ∧ n ≤ 64) (h : IHp) : EvX Try.prog 54 [.int .u64 x, .int .i64 n].toArray h (fun v h' => v = .bool (belowS n x) ∧ h' = h) := by
  refine EvX_of Try.func54 rfl (by show 2 ≤ 13; decide) ?_
  repeat' (first | (first | refine V_seq ?_ | refine V_region ?_ | refine WS_nil ?_ | refine S_normal ?_ | refine V_block ?_ | refine B_normal ?_ | refine V_skip ?_ | refine V_exit ?_ | refine V_ret ?_ | refine S_exit ?_ | refine S_ret ?_ | refine B_exit ?_ | refine B_ret ?_ | refine B_pass rfl ?_ | refine WS_off rfl (by first | rfl | assumption) ?_ | refine WS_on rfl (by first | rfl | assumption) ?_ | refine WS_move ?_ | refine WS_assign ?_ | refine WS_pick_t (by first | rfl | assumption) ?_ | refine WS_pick_f (by first | rfl | assumption) ?_ | refine WS_isnil ?_ | refine WS_notnil ?_ | refine WS_cmp rfl ?_ | refine WS_addi (by omega) ?_ | refine WS_subi (by omega) ?_ | refine WS_arith rfl ?_ | refine WS_not ?_ | refine WS_neg ?_ | refine WS_convert ?_ | refine WS_len_slice ?_ | refine WS_len_string ?_ | refine WS_fieldAddr ?_ | refine WS_load ?_ | refine WS_load_agg ?_ | refine WS_box_agg rfl ?_ | refine WS_box rfl ?_ | refine WS_makeFunc ?_ | refine WS_extract ?_ | refine WS_field ?_ | refine WS_build ?_ | refine WS_zero ?_ | refine WS_shift (by first | decide | omega) rfl ?_ | refine WS_strcmp rfl ?_ | refine WS_indexAddr (by first | decide | omega) ?_ | refine WS_alloc ?_ | refine WS_store rfl ?_ | refine WS_buildSlice (by decide) rfl rfl (by simp [Value.cells]) ?_ | refine WDK_go ?_ | refine WDT_go ?_ | refine WD_nil ?_ | refine WD_take_off rfl rfl (by first | rfl | assumption) ?_ | refine WD_load rfl ?_ | refine WD_load_on rfl rfl (by first | rfl | assumption) ?_ | refine WD_load_agg rfl ?_ | refine WD_load_agg_on rfl rfl (by first | rfl | assumption) ?_ | refine WD_take rfl rfl ?_ | refine WD_take_on rfl rfl (by first | rfl | assumption) rfl ?_ | refine WD_drop rfl rfl ?_ | refine WD_one rfl ?_) | (refine WS_guard rfl ?_ ?_ <;> intro hg) | (refine V_cond ?_ ?_ <;> intro hc <;> try (cases hc; done)))
  · refine retK_1 ⟨?_, rfl⟩ (.inr rfl)
    rw [shr_u64 hn.1 hx]
    simp at hg
    have : ¬ 64 ≤ n := by omega
    simp only [belowS, this, decide_false, Bool.false_or]
    exact congrArg Value.bool (decide_eq_decide.2 Int.natCast_eq_zero)
  · refine retK_1 ⟨?_, rfl⟩ (.inr rfl)
    simp at hg
    simp [hg, belowS]
instance : CallIs Try.prog 54 := .of Try.func54 rfl rfl
instance : CallIs Try.prog 53 := .of Try.func53 rfl rfl
def checkS (N : Int) (xs : List Nat) : Int := if N < 0 ∨ 64 < N ∨ (xs.length : Int) ≠ N then 2 else if xs.all (belowS N) then 0 else 2
theorem Check_spec (N : Int) (a : Option Addr) (len cap : Nat) (xs : List Nat) (h : IHp) (hx : SlIs h a len cap (u64s xs)) (h64 : ∀ x ∈ xs, x < 2 ^ 64) :
    EvX Try.prog 10 [.agg [.int .i64 N, .slice a len cap].toArray].toArray h (fun v h' => v = .int .i64 (checkS N xs) ∧ Ext h h') := by
  have hlen : xs.length = len := by have := hx.1; simpa [u64s] using this
  refine EvX_of Try.func10 rfl (by show 1 ≤ 34; decide) ?_
  repeat' (first | (first | refine V_seq ?_ | refine V_region ?_ | refine WS_nil ?_ | refine S_normal ?_ | refine V_block ?_ | refine B_normal ?_ | refine V_skip ?_ | refine V_exit ?_ | refine V_ret ?_ | refine S_exit ?_ | refine S_ret ?_ | refine B_exit ?_ | refine B_ret ?_ | refine B_pass rfl ?_ | refine WS_off rfl (by first | rfl | assumption) ?_ | refine WS_on rfl (by first | rfl | assumption) ?_ | refine WS_move ?_ | refine WS_assign ?_ | refine WS_pick_t (by first | rfl | assumption) ?_ | refine WS_pick_f (by first | rfl | assumption) ?_ | refine WS_isnil ?_ | refine WS_notnil ?_ | refine WS_cmp rfl ?_ | refine WS_addi (by omega) ?_ | refine WS_subi (by omega) ?_ | refine WS_arith rfl ?_ | refine WS_not ?_ | refine WS_neg ?_ | refine WS_convert ?_ | refine WS_len_slice ?_ | refine WS_len_string ?_ | refine WS_fieldAddr ?_ | refine WS_load ?_ | refine WS_load_agg ?_ | refine WS_box_agg rfl ?_ | refine WS_box rfl ?_ | refine WS_makeFunc ?_ | refine WS_extract ?_ | refine WS_field ?_ | refine WS_build ?_ | refine WS_zero ?_ | refine WS_shift (by first | decide | omega) rfl ?_ | refine WS_strcmp rfl ?_ | refine WS_indexAddr (by first | decide | omega) ?_ | refine WS_alloc ?_ | refine WS_store rfl ?_ | refine WS_buildSlice (by decide) rfl rfl (by simp [Value.cells]) ?_ | refine WDK_go ?_ | refine WDT_go ?_ | refine WD_nil ?_ | refine WD_take_off rfl rfl (by first | rfl | assumption) ?_ | refine WD_load rfl ?_ | refine WD_load_on rfl rfl (by first | rfl | assumption) ?_ | refine WD_load_agg rfl ?_ | refine WD_load_agg_on rfl rfl (by first | rfl | assumption) ?_ | refine WD_take rfl rfl ?_ | refine WD_take_on rfl rfl (by first | rfl | assumption) rfl ?_ | refine WD_drop rfl rfl ?_ | refine WD_one rfl ?_) | (refine WS_guard rfl ?_ ?_ <;> intro hg) | (refine V_cond ?_ ?_ <;> intro hc <;> try (cases hc; done)))
  · refine retK_1 ⟨?_, Ext.push _ _⟩ (.inr rfl)
    simp only [checkS]; rw [if_pos]; simp at hc; omega
  · have hN : ¬ N < 0 ∧ ¬ 64 < N ∧ (len : Int) = N := by simp_all
    obtain ⟨H, hH⟩ : ∃ H, H = h.push (IObj.cells [Value.int IntKind.i64 N, Value.slice a len cap] 24 true) := ⟨_, rfl⟩
    have eH : Ext h H := hH ▸ Ext.push _ _
    have c0 : CellIs H h.fresh (0 + 0) (.int .i64 N) := hH ▸ inferInstance
    rw [← hH]
    refine V_loop (fun d s h' => ∃ i : Int, d = (len - i).toNat ∧ 0 ≤ i ∧ i ≤ len ∧ Get s 24 (.int .i64 i) ∧ Get s 23 (.int .i64 len) ∧ Get s 22 (.slice a len cap) ∧ Get s 1 (.pointer (some (ad h.fresh 0))) ∧ h' = H ∧ (xs.take i.toNat).all (belowS N) = true) len ⟨0, by omega, by omega, by omega, inferInstance, inferInstance, inferInstance, inferInstance, rfl, by simp⟩ ?_
    rintro d s h' ⟨i, rfl, hi0, hi1, g24, g23, g22, g1, rfl, hP⟩
    repeat' (first | (first | refine V_seq ?_ | refine V_region ?_ | refine WS_nil ?_ | refine S_normal ?_ | refine V_block ?_ | refine B_normal ?_ | refine V_skip ?_ | refine V_exit ?_ | refine V_ret ?_ | refine S_exit ?_ | refine S_ret ?_ | refine B_exit ?_ | refine B_ret ?_ | refine B_pass rfl ?_ | refine WS_off rfl (by first | rfl | assumption) ?_ | refine WS_on rfl (by first | rfl | assumption) ?_ | refine WS_move ?_ | refine WS_assign ?_ | refine WS_pick_t (by first | rfl | assumption) ?_ | refine WS_pick_f (by first | rfl | assumption) ?_ | refine WS_isnil ?_ | refine WS_notnil ?_ | refine WS_cmp rfl ?_ | refine WS_addi (by omega) ?_ | refine WS_subi (by omega) ?_ | refine WS_arith rfl ?_ | refine WS_not ?_ | refine WS_neg ?_ | refine WS_convert ?_ | refine WS_len_slice ?_ | refine WS_len_string ?_ | refine WS_fieldAddr ?_ | refine WS_load ?_ | refine WS_load_agg ?_ | refine WS_box_agg rfl ?_ | refine WS_box rfl ?_ | refine WS_makeFunc ?_ | refine WS_extract ?_ | refine WS_field ?_ | refine WS_build ?_ | refine WS_zero ?_ | refine WS_shift (by first | decide | omega) rfl ?_ | refine WS_strcmp rfl ?_ | refine WS_indexAddr (by first | decide | omega) ?_ | refine WS_alloc ?_ | refine WS_store rfl ?_ | refine WS_buildSlice (by decide) rfl rfl (by simp [Value.cells]) ?_ | refine WDK_go ?_ | refine WDT_go ?_ | refine WD_nil ?_ | refine WD_take_off rfl rfl (by first | rfl | assumption) ?_ | refine WD_load rfl ?_ | refine WD_load_on rfl rfl (by first | rfl | assumption) ?_ | refine WD_load_agg rfl ?_ | refine WD_load_agg_on rfl rfl (by first | rfl | assumption) ?_ | refine WD_take rfl rfl ?_ | refine WD_take_on rfl rfl (by first | rfl | assumption) rfl ?_ | refine WD_drop rfl rfl ?_ | refine WD_one rfl ?_) | (refine WS_guard rfl ?_ ?_ <;> intro hg) | (refine V_cond ?_ ?_ <;> intro hc <;> try (cases hc; done)))
    · have hi : i < len := by simpa using hc
      obtain ⟨b, v, rfl, hv, c1⟩ := (hx.ext eH).at hi0 hi
      obtain ⟨x, rfl, hx1⟩ := u64s_at hv
      repeat' (first | (first | refine V_seq ?_ | refine V_region ?_ | refine WS_nil ?_ | refine S_normal ?_ | refine V_block ?_ | refine B_normal ?_ | refine V_skip ?_ | refine V_exit ?_ | refine V_ret ?_ | refine S_exit ?_ | refine S_ret ?_ | refine B_exit ?_ | refine B_ret ?_ | refine B_pass rfl ?_ | refine WS_off rfl (by first | rfl | assumption) ?_ | refine WS_on rfl (by first | rfl | assumption) ?_ | refine WS_move ?_ | refine WS_assign ?_ | refine WS_pick_t (by first | rfl | assumption) ?_ | refine WS_pick_f (by first | rfl | assumption) ?_ | refine WS_isnil ?_ | refine WS_notnil ?_ | refine WS_cmp rfl ?_ | refine WS_addi (by omega) ?_ | refine WS_subi (by omega) ?_ | refine WS_arith rfl ?_ | refine WS_not ?_ | refine WS_neg ?_ | refine WS_convert ?_ | refine WS_len_slice ?_ | refine WS_len_string ?_ | refine WS_fieldAddr ?_ | refine WS_load ?_ | refine WS_load_agg ?_ | refine WS_box_agg rfl ?_ | refine WS_box rfl ?_ | refine WS_makeFunc ?_ | refine WS_extract ?_ | refine WS_field ?_ | refine WS_build ?_ | refine WS_zero ?_ | refine WS_shift (by first | decide | omega) rfl ?_ | refine WS_strcmp rfl ?_ | refine WS_indexAddr (by first | decide | omega) ?_ | refine WS_alloc ?_ | refine WS_store rfl ?_ | refine WS_buildSlice (by decide) rfl rfl (by simp [Value.cells]) ?_ | refine WDK_go ?_ | refine WDT_go ?_ | refine WD_nil ?_ | refine WD_take_off rfl rfl (by first | rfl | assumption) ?_ | refine WD_load rfl ?_ | refine WD_load_on rfl rfl (by first | rfl | assumption) ?_ | refine WD_load_agg rfl ?_ | refine WD_load_agg_on rfl rfl (by first | rfl | assumption) ?_ | refine WD_take rfl rfl ?_ | refine WD_take_on rfl rfl (by first | rfl | assumption) rfl ?_ | refine WD_drop rfl rfl ?_ | refine WD_one rfl ?_) | (refine WS_guard rfl ?_ ?_ <;> intro hg) | (refine V_cond ?_ ?_ <;> intro hc <;> try (cases hc; done)))
      refine WS_call (below_spec x (h64 x (List.mem_of_getElem? hx1)) N (by omega) _) ?_
      rintro _ _ ⟨rfl, rfl⟩
      repeat' (first | (first | refine V_seq ?_ | refine V_region ?_ | refine WS_nil ?_ | refine S_normal ?_ | refine V_block ?_ | refine B_normal ?_ | refine V_skip ?_ | refine V_exit ?_ | refine V_ret ?_ | refine S_exit ?_ | refine S_ret ?_ | refine B_exit ?_ | refine B_ret ?_ | refine B_pass rfl ?_ | refine WS_off rfl (by first | rfl | assumption) ?_ | refine WS_on rfl (by first | rfl | assumption) ?_ | refine WS_move ?_ | refine WS_assign ?_ | refine WS_pick_t (by first | rfl | assumption) ?_ | refine WS_pick_f (by first | rfl | assumption) ?_ | refine WS_isnil ?_ | refine WS_notnil ?_ | refine WS_cmp rfl ?_ | refine WS_addi (by omega) ?_ | refine WS_subi (by omega) ?_ | refine WS_arith rfl ?_ | refine WS_not ?_ | refine WS_neg ?_ | refine WS_convert ?_ | refine WS_len_slice ?_ | refine WS_len_string ?_ | refine WS_fieldAddr ?_ | refine WS_load ?_ | refine WS_load_agg ?_ | refine WS_box_agg rfl ?_ | refine WS_box rfl ?_ | refine WS_makeFunc ?_ | refine WS_extract ?_ | refine WS_field ?_ | refine WS_build ?_ | refine WS_zero ?_ | refine WS_shift (by first | decide | omega) rfl ?_ | refine WS_strcmp rfl ?_ | refine WS_indexAddr (by first | decide | omega) ?_ | refine WS_alloc ?_ | refine WS_store rfl ?_ | refine WS_buildSlice (by decide) rfl rfl (by simp [Value.cells]) ?_ | refine WDK_go ?_ | refine WDT_go ?_ | refine WD_nil ?_ | refine WD_take_off rfl rfl (by first | rfl | assumption) ?_ | refine WD_load rfl ?_ | refine WD_load_on rfl rfl (by first | rfl | assumption) ?_ | refine WD_load_agg rfl ?_ | refine WD_load_agg_on rfl rfl (by first | rfl | assumption) ?_ | refine WD_take rfl rfl ?_ | refine WD_take_on rfl rfl (by first | rfl | assumption) rfl ?_ | refine WD_drop rfl rfl ?_ | refine WD_one rfl ?_) | (refine WS_guard rfl ?_ ?_ <;> intro hg) | (refine V_cond ?_ ?_ <;> intro hc <;> try (cases hc; done)))
      · refine retK_1 ⟨?_, eH⟩ (.inr rfl)
        simp only [checkS]; rw [if_neg (by omega), if_neg]
        intro hall
        rw [List.all_eq_true] at hall
        have := hall x (List.mem_of_getElem? hx1)
        simp_all
      · refine ⟨_, ?_, i + 1, rfl, by omega, by omega, inferInstance, inferInstance, inferInstance, inferInstance, rfl, ?_⟩
        · omega
        · have : (i + 1).toNat = i.toNat + 1 := by omega
          rw [this, List.take_add_one, hx1]
          simp_all
    · have hi : i = len := by simp at hc; omega
      refine retK_1 ⟨?_, eH⟩ (.inr rfl)
      simp only [checkS]; rw [if_neg (by omega), if_pos]
      rw [hi, Int.toNat_natCast, List.take_of_length_le (by omega)] at hP
      exact hP
  · refine retK_1 ⟨?_, Ext.push _ _⟩ (.inr rfl)
    simp only [checkS]; rw [if_pos]; simp at hg; omega
  · refine retK_1 ⟨?_, Ext.push _ _⟩ (.inr rfl)
    simp only [checkS]; rw [if_pos]; simp at hg; omega
instance : CallIs Try.prog 10 := .of Try.func10 rfl rfl
def eyeS (n : Int) : List Nat := (List.range n.toNat).map fun i => 2 ^ i
theorem eyeS_succ {i : Int} (h : 0 ≤ i) : u64s (eyeS (i + 1)) = u64s (eyeS i) ++ [.int .u64 (2 ^ i.toNat : Nat)] := by
  have : (i + 1).toNat = i.toNat + 1 := by omega
  simp [u64s, eyeS, this, List.range_succ]
theorem eyeS_len {i : Int} : (u64s (eyeS i)).length = i.toNat := by simp [u64s, eyeS]
theorem shl_one {i : Int} (h0 : 0 ≤ i) (h1 : i < 64) : IntKind.u64.wrap (1 * 2 ^ min i.toNat IntKind.u64.bits) = (2 ^ i.toNat : Nat) := by
  have h2 : min i.toNat IntKind.u64.bits = i.toNat := by simp only [IntKind.bits]; omega
  have h3 : (2 : Int) ^ i.toNat < 2 ^ 64 := Int.pow_lt_pow_of_lt (by decide) (by omega)
  have h4 : (0 : Int) ≤ 2 ^ i.toNat := Int.pow_nonneg (by decide)
  rw [h2, Int.one_mul, wrap_u64_id h4 h3]
  simp
theorem Eye_spec (n : Int) (h : IHp) : EvX Try.prog 12 [.int .i64 n].toArray h (fun v h' => Ext h h' ∧ if 0 ≤ n ∧ n ≤ 64 then ∃ sl, v = .tuple [.agg [.int .i64 n, sl].toArray, .int .i64 0].toArray ∧ Lst h.fresh h' sl (u64s (eyeS n)) 25 else v = .tuple [.agg [.int .i64 0, .slice none 0 0].toArray, .int .i64 2].toArray) := by
  refine EvX_of Try.func12 rfl (by show 1 ≤ 28; decide) ?_
  repeat' (first | (first | refine V_seq ?_ | refine V_region ?_ | refine WS_nil ?_ | refine S_normal ?_ | refine V_block ?_ | refine B_normal ?_ | refine V_skip ?_ | refine V_exit ?_ | refine V_ret ?_ | refine S_exit ?_ | refine S_ret ?_ | refine B_exit ?_ | refine B_ret ?_ | refine B_pass rfl ?_ | refine WS_off rfl (by first | rfl | assumption) ?_ | refine WS_on rfl (by first | rfl | assumption) ?_ | refine WS_move ?_ | refine WS_assign ?_ | refine WS_pick_t (by first | rfl | assumption) ?_ | refine WS_pick_f (by first | rfl | assumption) ?_ | refine WS_isnil ?_ | refine WS_notnil ?_ | refine WS_cmp rfl ?_ | refine WS_addi (by omega) ?_ | refine WS_subi (by omega) ?_ | refine WS_arith rfl ?_ | refine WS_not ?_ | refine WS_neg ?_ | refine WS_convert ?_ | refine WS_len_slice ?_ | refine WS_len_string ?_ | refine WS_fieldAddr ?_ | refine WS_load ?_ | refine WS_load_agg ?_ | refine WS_box_agg rfl ?_ | refine WS_box rfl ?_ | refine WS_makeFunc ?_ | refine WS_extract ?_ | refine WS_field ?_ | refine WS_build ?_ | refine WS_zero ?_ | refine WS_shift (by first | decide | omega) rfl ?_ | refine WS_strcmp rfl ?_ | refine WS_indexAddr (by first | decide | omega) ?_ | refine WS_alloc ?_ | refine WS_store rfl ?_ | refine WS_buildSlice (by decide) rfl rfl (by simp [Value.cells]) ?_ | refine WDK_go ?_ | refine WDT_go ?_ | refine WD_nil ?_ | refine WD_take_off rfl rfl (by first | rfl | assumption) ?_ | refine WD_load rfl ?_ | refine WD_load_on rfl rfl (by first | rfl | assumption) ?_ | refine WD_load_agg rfl ?_ | refine WD_load_agg_on rfl rfl (by first | rfl | assumption) ?_ | refine WD_take rfl rfl ?_ | refine WD_take_on rfl rfl (by first | rfl | assumption) rfl ?_ | refine WD_drop rfl rfl ?_ | refine WD_one rfl ?_) | (refine WS_guard rfl ?_ ?_ <;> intro hg) | (refine V_cond ?_ ?_ <;> intro hc <;> try (cases hc; done)))
  · refine retK_ct ⟨(Ext.push h _).putObj (Nat.le_refl _), ?_⟩ (.inr rfl)
    rw [if_neg (by simp at hc; omega)]
  · have hn : 0 ≤ n ∧ n ≤ 64 := by simp at hc hg; omega
    refine V_loop (fun d s h' => ∃ (i : Int) (sl : Value), d = (n - i).toNat ∧ 0 ≤ i ∧ i ≤ n ∧ Get s 16 (.int .i64 i) ∧ Get s 15 (.int .i64 n) ∧ Get s 4 (.pointer (some (ad (h.fresh + 2) 0))) ∧ Get s 2 (.pointer (some (ad h.fresh 0))) ∧ Ext h h' ∧ ObjIs h' h.fresh [.int .i64 0, .slice none 0 0] 24 true ∧ ObjIs h' (h.fresh + 2) [.int .i64 n, sl] 24 true ∧ Lst h.fresh h' sl (u64s (eyeS i)) 25 ∧ blockOf sl ≠ some h.fresh ∧ blockOf sl ≠ some (h.fresh + 2)) n.toNat ?_ ?_
    · rw [push_fresh]
      have nb : NeB h.fresh (h.fresh + 2) := ⟨by unfold IHp.fresh; omega⟩
      have ob : ObjIs ((h.push (IObj.cells [Value.int IntKind.i64 0, Value.slice none 0 0] 24 true)).push (IObj.cells [Value.int IntKind.i64 0, Value.slice none 0 0] 24 true)) (h.fresh + 2) [Value.int IntKind.i64 0, Value.slice none 0 0] 24 true := by
        rw [← push_fresh h (IObj.cells [Value.int IntKind.i64 0, Value.slice none 0 0] 24 true)]; infer_instance
      exact ⟨0, .slice none 0 0, by omega, by omega, by omega, inferInstance, inferInstance, inferInstance, inferInstance, (((Ext.push h _).push' _).putObj (by omega)), inferInstance, inferInstance, .inl ⟨rfl, rfl⟩, by simp [blockOf], by simp [blockOf]⟩
    rintro d s h' ⟨i, sl, rfl, hi0, hi1, g16, g15, g4, g2, eX, o2, o4, hL, hb2, hb4⟩
    repeat' (first | (first | refine V_seq ?_ | refine V_region ?_ | refine WS_nil ?_ | refine S_normal ?_ | refine V_block ?_ | refine B_normal ?_ | refine V_skip ?_ | refine V_exit ?_ | refine V_ret ?_ | refine S_exit ?_ | refine S_ret ?_ | refine B_exit ?_ | refine B_ret ?_ | refine B_pass rfl ?_ | refine WS_off rfl (by first | rfl | assumption) ?_ | refine WS_on rfl (by first | rfl | assumption) ?_ | refine WS_move ?_ | refine WS_assign ?_ | refine WS_pick_t (by first | rfl | assumption) ?_ | refine WS_pick_f (by first | rfl | assumption) ?_ | refine WS_isnil ?_ | refine WS_notnil ?_ | refine WS_cmp rfl ?_ | refine WS_addi (by omega) ?_ | refine WS_subi (by omega) ?_ | refine WS_arith rfl ?_ | refine WS_not ?_ | refine WS_neg ?_ | refine WS_convert ?_ | refine WS_len_slice ?_ | refine WS_len_string ?_ | refine WS_fieldAddr ?_ | refine WS_load ?_ | refine WS_load_agg ?_ | refine WS_box_agg rfl ?_ | refine WS_box rfl ?_ | refine WS_makeFunc ?_ | refine WS_extract ?_ | refine WS_field ?_ | refine WS_build ?_ | refine WS_zero ?_ | refine WS_shift (by first | decide | omega) rfl ?_ | refine WS_strcmp rfl ?_ | refine WS_indexAddr (by first | decide | omega) ?_ | refine WS_alloc ?_ | refine WS_store rfl ?_ | refine WS_buildSlice (by decide) rfl rfl (by simp [Value.cells]) ?_ | refine WDK_go ?_ | refine WDT_go ?_ | refine WD_nil ?_ | refine WD_take_off rfl rfl (by first | rfl | assumption) ?_ | refine WD_load rfl ?_ | refine WD_load_on rfl rfl (by first | rfl | assumption) ?_ | refine WD_load_agg rfl ?_ | refine WD_load_agg_on rfl rfl (by first | rfl | assumption) ?_ | refine WD_take rfl rfl ?_ | refine WD_take_on rfl rfl (by first | rfl | assumption) rfl ?_ | refine WD_drop rfl rfl ?_ | refine WD_one rfl ?_) | (refine WS_guard rfl ?_ ?_ <;> intro hg) | (refine V_cond ?_ ?_ <;> intro hc <;> try (cases hc; done)))
    · have hi : i < n := by simpa using hc
      obtain ⟨a, rfl⟩ := hL.isSlice
      refine V_draw (plan := [.take 0, .take 1, .take 2, .take 3, .one 4, .one 5, .take 6, .one 7]) (by kernel_rfl) ?_
      repeat' (first | (first | refine V_seq ?_ | refine V_region ?_ | refine WS_nil ?_ | refine S_normal ?_ | refine V_block ?_ | refine B_normal ?_ | refine V_skip ?_ | refine V_exit ?_ | refine V_ret ?_ | refine S_exit ?_ | refine S_ret ?_ | refine B_exit ?_ | refine B_ret ?_ | refine B_pass rfl ?_ | refine WS_off rfl (by first | rfl | assumption) ?_ | refine WS_on rfl (by first | rfl | assumption) ?_ | refine WS_move ?_ | refine WS_assign ?_ | refine WS_pick_t (by first | rfl | assumption) ?_ | refine WS_pick_f (by first | rfl | assumption) ?_ | refine WS_isnil ?_ | refine WS_notnil ?_ | refine WS_cmp rfl ?_ | refine WS_addi (by omega) ?_ | refine WS_subi (by omega) ?_ | refine WS_arith rfl ?_ | refine WS_not ?_ | refine WS_neg ?_ | refine WS_convert ?_ | refine WS_len_slice ?_ | refine WS_len_string ?_ | refine WS_fieldAddr ?_ | refine WS_load ?_ | refine WS_load_agg ?_ | refine WS_box_agg rfl ?_ | refine WS_box rfl ?_ | refine WS_makeFunc ?_ | refine WS_extract ?_ | refine WS_field ?_ | refine WS_build ?_ | refine WS_zero ?_ | refine WS_shift (by first | decide | omega) rfl ?_ | refine WS_strcmp rfl ?_ | refine WS_indexAddr (by first | decide | omega) ?_ | refine WS_alloc ?_ | refine WS_store rfl ?_ | refine WS_buildSlice (by decide) rfl rfl (by simp [Value.cells]) ?_ | refine WDK_go ?_ | refine WDT_go ?_ | refine WD_nil ?_ | refine WD_take_off rfl rfl (by first | rfl | assumption) ?_ | refine WD_load rfl ?_ | refine WD_load_on rfl rfl (by first | rfl | assumption) ?_ | refine WD_load_agg rfl ?_ | refine WD_load_agg_on rfl rfl (by first | rfl | assumption) ?_ | refine WD_take rfl rfl ?_ | refine WD_take_on rfl rfl (by first | rfl | assumption) rfl ?_ | refine WD_drop rfl rfl ?_ | refine WD_one rfl ?_) | (refine WS_guard rfl ?_ ?_ <;> intro hg) | (refine V_cond ?_ ?_ <;> intro hc <;> try (cases hc; done)))
      have h64 : i < 64 := by omega
      rw [shl_one hi0 h64]
      refine WS_append1 (lo := h.fresh) (hL.ext (Ext.push _ _)) (by rw [push_fresh]; have := eX.fresh; omega) (by rw [eyeS_len]; omega) ?_
      intro v' h2 hL2 m2 hb
      have p2 : ObjIs h2 h.fresh [.int .i64 0, .slice none 0 0] 24 true := m2.obj inferInstance hb2
      have p4 : ObjIs h2 (h.fresh + 2) _ 24 true := m2.obj inferInstance hb4
      have e2 : Ext h h2 := m2.ext (eX.push' _) (hL.ext (Ext.push _ _))
      have hn4 : h.fresh + 2 < (h'.push (IObj.cells [Value.int IntKind.u64 (2 ^ i.toNat : Nat)] 25 true)).fresh := by have := o4.lt; rw [push_fresh]; omega
      obtain ⟨a', rfl⟩ := hL2.isSlice
      have nb : NeB h.fresh (h.fresh + 2) := ⟨by unfold IHp.fresh; omega⟩
      repeat' (first | (first | refine V_seq ?_ | refine V_region ?_ | refine WS_nil ?_ | refine S_normal ?_ | refine V_block ?_ | refine B_normal ?_ | refine V_skip ?_ | refine V_exit ?_ | refine V_ret ?_ | refine S_exit ?_ | refine S_ret ?_ | refine B_exit ?_ | refine B_ret ?_ | refine B_pass rfl ?_ | refine WS_off rfl (by first | rfl | assumption) ?_ | refine WS_on rfl (by first | rfl | assumption) ?_ | refine WS_move ?_ | refine WS_assign ?_ | refine WS_pick_t (by first | rfl | assumption) ?_ | refine WS_pick_f (by first | rfl | assumption) ?_ | refine WS_isnil ?_ | refine WS_notnil ?_ | refine WS_cmp rfl ?_ | refine WS_addi (by omega) ?_ | refine WS_subi (by omega) ?_ | refine WS_arith rfl ?_ | refine WS_not ?_ | refine WS_neg ?_ | refine WS_convert ?_ | refine WS_len_slice ?_ | refine WS_len_string ?_ | refine WS_fieldAddr ?_ | refine WS_load ?_ | refine WS_load_agg ?_ | refine WS_box_agg rfl ?_ | refine WS_box rfl ?_ | refine WS_makeFunc ?_ | refine WS_extract ?_ | refine WS_field ?_ | refine WS_build ?_ | refine WS_zero ?_ | refine WS_shift (by first | decide | omega) rfl ?_ | refine WS_strcmp rfl ?_ | refine WS_indexAddr (by first | decide | omega) ?_ | refine WS_alloc ?_ | refine WS_store rfl ?_ | refine WS_buildSlice (by decide) rfl rfl (by simp [Value.cells]) ?_ | refine WDK_go ?_ | refine WDT_go ?_ | refine WD_nil ?_ | refine WD_take_off rfl rfl (by first | rfl | assumption) ?_ | refine WD_load rfl ?_ | refine WD_load_on rfl rfl (by first | rfl | assumption) ?_ | refine WD_load_agg rfl ?_ | refine WD_load_agg_on rfl rfl (by first | rfl | assumption) ?_ | refine WD_take rfl rfl ?_ | refine WD_take_on rfl rfl (by first | rfl | assumption) rfl ?_ | refine WD_drop rfl rfl ?_ | refine WD_one rfl ?_) | (refine WS_guard rfl ?_ ?_ <;> intro hg) | (refine V_cond ?_ ?_ <;> intro hc <;> try (cases hc; done)))
      refine ⟨_, ?_, i + 1, _, rfl, by omega, by omega, inferInstance, inferInstance, inferInstance, inferInstance, e2.putObj (by omega), inferInstance, inferInstance, ?_, ?_, ?_⟩
      · omega
      · rw [eyeS_succ hi0]; exact hL2.put (by rw [hb]; intro hh; have := Option.some.inj hh; omega) o4.even
      · rw [hb]; intro hh; have := Option.some.inj hh; omega
      · rw [hb]; intro hh; have := Option.some.inj hh; omega
    · have hi : i = n := by simp at hc; omega
      subst hi
      obtain ⟨a, rfl⟩ := hL.isSlice
      repeat' (first | (first | refine V_seq ?_ | refine V_region ?_ | refine WS_nil ?_ | refine S_normal ?_ | refine V_block ?_ | refine B_normal ?_ | refine V_skip ?_ | refine V_exit ?_ | refine V_ret ?_ | refine S_exit ?_ | refine S_ret ?_ | refine B_exit ?_ | refine B_ret ?_ | refine B_pass rfl ?_ | refine WS_off rfl (by first | rfl | assumption) ?_ | refine WS_on rfl (by first | rfl | assumption) ?_ | refine WS_move ?_ | refine WS_assign ?_ | refine WS_pick_t (by first | rfl | assumption) ?_ | refine WS_pick_f (by first | rfl | assumption) ?_ | refine WS_isnil ?_ | refine WS_notnil ?_ | refine WS_cmp rfl ?_ | refine WS_addi (by omega) ?_ | refine WS_subi (by omega) ?_ | refine WS_arith rfl ?_ | refine WS_not ?_ | refine WS_neg ?_ | refine WS_convert ?_ | refine WS_len_slice ?_ | refine WS_len_string ?_ | refine WS_fieldAddr ?_ | refine WS_load ?_ | refine WS_load_agg ?_ | refine WS_box_agg rfl ?_ | refine WS_box rfl ?_ | refine WS_makeFunc ?_ | refine WS_extract ?_ | refine WS_field ?_ | refine WS_build ?_ | refine WS_zero ?_ | refine WS_shift (by first | decide | omega) rfl ?_ | refine WS_strcmp rfl ?_ | refine WS_indexAddr (by first | decide | omega) ?_ | refine WS_alloc ?_ | refine WS_store rfl ?_ | refine WS_buildSlice (by decide) rfl rfl (by simp [Value.cells]) ?_ | refine WDK_go ?_ | refine WDT_go ?_ | refine WD_nil ?_ | refine WD_take_off rfl rfl (by first | rfl | assumption) ?_ | refine WD_load rfl ?_ | refine WD_load_on rfl rfl (by first | rfl | assumption) ?_ | refine WD_load_agg rfl ?_ | refine WD_load_agg_on rfl rfl (by first | rfl | assumption) ?_ | refine WD_take rfl rfl ?_ | refine WD_take_on rfl rfl (by first | rfl | assumption) rfl ?_ | refine WD_drop rfl rfl ?_ | refine WD_one rfl ?_) | (refine WS_guard rfl ?_ ?_ <;> intro hg) | (refine V_cond ?_ ?_ <;> intro hc <;> try (cases hc; done)))
      have nb : NeB (h.fresh + 2) h.fresh := ⟨by unfold IHp.fresh; omega⟩
      refine retK_ct ⟨eX.putObj (Nat.le_refl _), ?_⟩ (.inr rfl)
      rw [if_pos hn]
      exact ⟨_, rfl, hL.put hb2 o2.even⟩
  · refine retK_ct ⟨(Ext.push h _).putObj (Nat.le_refl _), ?_⟩ (.inr rfl)
    rw [if_neg (by simp at hg; omega)]
instance : CallIs Try.prog 12 := .of Try.func12 rfl rfl
end Go.Ideal

-- Lb
set_option linter.unusedSimpArgs false
set_option linter.unusedVariables false
namespace Go.Ideal
open Go Go.Proofs
theorem Check_ref (N : Int) (a : Option Addr) (len cap : Nat) (xs : List Nat) (h : IHp) (hx : SlIs h a len cap (u64s xs)) (h64 : ∀ x ∈ xs, x < 2 ^ 64) :
    EvX Try.prog 11 [.agg [.int .i64 N, .slice a len cap].toArray].toArray h (fun v h' => v = .int .i64 (checkS N xs) ∧ Ext h h') := by
  have hlen : xs.length = len := by have := hx.1; simpa [u64s] using this
  refine EvX_of Try.func11 rfl (by show 1 ≤ 35; decide) ?_
  repeat' (first | (first | refine V_seq ?_ | refine V_region ?_ | refine WS_nil ?_ | refine S_normal ?_ | refine V_block ?_ | refine B_normal ?_ | refine V_skip ?_ | refine V_exit ?_ | refine V_ret ?_ | refine S_exit ?_ | refine S_ret ?_ | refine B_exit ?_ | refine B_ret ?_ | refine B_pass rfl ?_ | refine WS_off rfl (by first | rfl | assumption) ?_ | refine WS_on rfl (by first | rfl | assumption) ?_ | refine WS_move ?_ | refine WS_assign ?_ | refine WS_pick_t (by first | rfl | assumption) ?_ | refine WS_pick_f (by first | rfl | assumption) ?_ | refine WS_isnil ?_ | refine WS_notnil ?_ | refine WS_cmp rfl ?_ | refine WS_addi (by omega) ?_ | refine WS_subi (by omega) ?_ | refine WS_arith rfl ?_ | refine WS_not ?_ | refine WS_neg ?_ | refine WS_convert ?_ | refine WS_len_slice ?_ | refine WS_len_string ?_ | refine WS_fieldAddr ?_ | refine WS_load ?_ | refine WS_load_agg ?_ | refine WS_box_agg rfl ?_ | refine WS_box rfl ?_ | refine WS_makeFunc ?_ | refine WS_extract ?_ | refine WS_field ?_ | refine WS_build ?_ | refine WS_zero ?_ | refine WS_shift (by first | decide | omega) rfl ?_ | refine WS_strcmp rfl ?_ | refine WS_indexAddr (by first | decide | omega) ?_ | refine WS_alloc ?_ | refine WS_store rfl ?_ | refine WS_buildSlice (by decide) rfl rfl (by simp [Value.cells]) ?_ | refine WDK_go ?_ | refine WDT_go ?_ | refine WD_nil ?_ | refine WD_take_off rfl rfl (by first | rfl | assumption) ?_ | refine WD_load rfl ?_ | refine WD_load_on rfl rfl (by first | rfl | assumption) ?_ | refine WD_load_agg rfl ?_ | refine WD_load_agg_on rfl rfl (by first | rfl | assumption) ?_ | refine WD_take rfl rfl ?_ | refine WD_take_on rfl rfl (by first | rfl | assumption) rfl ?_ | refine WD_drop rfl rfl ?_ | refine WD_one rfl ?_) | (refine WS_guard rfl ?_ ?_ <;> intro hg) | (refine V_cond ?_ ?_ <;> intro hc <;> try (cases hc; done)))
  · refine retK_1 ⟨?_, Ext.push _ _⟩ (.inr rfl)
    simp only [checkS]; rw [if_pos]; simp at hc; omega
  · have hN : ¬ N < 0 ∧ ¬ 64 < N ∧ (len : Int) = N := by simp_all
    obtain ⟨H, hH⟩ : ∃ H, H = h.push (IObj.cells [Value.int IntKind.i64 N, Value.slice a len cap] 24 true) := ⟨_, rfl⟩
    have eH : Ext h H := hH ▸ Ext.push _ _
    have c0 : CellIs H h.fresh (0 + 0) (.int .i64 N) := hH ▸ inferInstance
    have c1 : CellIs H h.fresh (0 + 1) (.slice a len cap) := hH ▸ inferInstance
    rw [← hH]
    refine V_loop (fun d s h' => ∃ i : Int, d = (len - i).toNat ∧ 0 ≤ i ∧ i ≤ len ∧ Get s 3 (.int .i64 i) ∧ Get s 1 (.pointer (some (ad h.fresh 0))) ∧ h' = H ∧ (xs.take i.toNat).all (belowS N) = true) len ⟨0, by omega, by omega, by omega, inferInstance, inferInstance, rfl, by simp⟩ ?_
    rintro d s h' ⟨i, rfl, hi0, hi1, g3, g1, rfl, hP⟩
    repeat' (first | (first | refine V_seq ?_ | refine V_region ?_ | refine WS_nil ?_ | refine S_normal ?_ | refine V_block ?_ | refine B_normal ?_ | refine V_skip ?_ | refine V_exit ?_ | refine V_ret ?_ | refine S_exit ?_ | refine S_ret ?_ | refine B_exit ?_ | refine B_ret ?_ | refine B_pass rfl ?_ | refine WS_off rfl (by first | rfl | assumption) ?_ | refine WS_on rfl (by first | rfl | assumption) ?_ | refine WS_move ?_ | refine WS_assign ?_ | refine WS_pick_t (by first | rfl | assumption) ?_ | refine WS_pick_f (by first | rfl | assumption) ?_ | refine WS_isnil ?_ | refine WS_notnil ?_ | refine WS_cmp rfl ?_ | refine WS_addi (by omega) ?_ | refine WS_subi (by omega) ?_ | refine WS_arith rfl ?_ | refine WS_not ?_ | refine WS_neg ?_ | refine WS_convert ?_ | refine WS_len_slice ?_ | refine WS_len_string ?_ | refine WS_fieldAddr ?_ | refine WS_load ?_ | refine WS_load_agg ?_ | refine WS_box_agg rfl ?_ | refine WS_box rfl ?_ | refine WS_makeFunc ?_ | refine WS_extract ?_ | refine WS_field ?_ | refine WS_build ?_ | refine WS_zero ?_ | refine WS_shift (by first | decide | omega) rfl ?_ | refine WS_strcmp rfl ?_ | refine WS_indexAddr (by first | decide | omega) ?_ | refine WS_alloc ?_ | refine WS_store rfl ?_ | refine WS_buildSlice (by decide) rfl rfl (by simp [Value.cells]) ?_ | refine WDK_go ?_ | refine WDT_go ?_ | refine WD_nil ?_ | refine WD_take_off rfl rfl (by first | rfl | assumption) ?_ | refine WD_load rfl ?_ | refine WD_load_on rfl rfl (by first | rfl | assumption) ?_ | refine WD_load_agg rfl ?_ | refine WD_load_agg_on rfl rfl (by first | rfl | assumption) ?_ | refine WD_take rfl rfl ?_ | refine WD_take_on rfl rfl (by first | rfl | assumption) rfl ?_ | refine WD_drop rfl rfl ?_ | refine WD_one rfl ?_) | (refine WS_guard rfl ?_ ?_ <;> intro hg) | (refine V_cond ?_ ?_ <;> intro hc <;> try (cases hc; done)))
    · have hi : i < len := by simp at hc; omega
      obtain ⟨b, v, rfl, hv, c2⟩ := (hx.ext eH).at hi0 hi
      obtain ⟨x, rfl, hx1⟩ := u64s_at hv
      refine V_draw (plan := [.take 0, .take 1, .take 2, .take 3, .take 4, .take 5, .take 6, .one 7, .take 8]) (by kernel_rfl) ?_
      repeat' (first | (first | refine V_seq ?_ | refine V_region ?_ | refine WS_nil ?_ | refine S_normal ?_ | refine V_block ?_ | refine B_normal ?_ | refine V_skip ?_ | refine V_exit ?_ | refine V_ret ?_ | refine S_exit ?_ | refine S_ret ?_ | refine B_exit ?_ | refine B_ret ?_ | refine B_pass rfl ?_ | refine WS_off rfl (by first | rfl | assumption) ?_ | refine WS_on rfl (by first | rfl | assumption) ?_ | refine WS_move ?_ | refine WS_assign ?_ | refine WS_pick_t (by first | rfl | assumption) ?_ | refine WS_pick_f (by first | rfl | assumption) ?_ | refine WS_isnil ?_ | refine WS_notnil ?_ | refine WS_cmp rfl ?_ | refine WS_addi (by omega) ?_ | refine WS_subi (by omega) ?_ | refine WS_arith rfl ?_ | refine WS_not ?_ | refine WS_neg ?_ | refine WS_convert ?_ | refine WS_len_slice ?_ | refine WS_len_string ?_ | refine WS_fieldAddr ?_ | refine WS_load ?_ | refine WS_load_agg ?_ | refine WS_box_agg rfl ?_ | refine WS_box rfl ?_ | refine WS_makeFunc ?_ | refine WS_extract ?_ | refine WS_field ?_ | refine WS_build ?_ | refine WS_zero ?_ | refine WS_shift (by first | decide | omega) rfl ?_ | refine WS_strcmp rfl ?_ | refine WS_indexAddr (by first | decide | omega) ?_ | refine WS_alloc ?_ | refine WS_store rfl ?_ | refine WS_buildSlice (by decide) rfl rfl (by simp [Value.cells]) ?_ | refine WDK_go ?_ | refine WDT_go ?_ | refine WD_nil ?_ | refine WD_take_off rfl rfl (by first | rfl | assumption) ?_ | refine WD_load rfl ?_ | refine WD_load_on rfl rfl (by first | rfl | assumption) ?_ | refine WD_load_agg rfl ?_ | refine WD_load_agg_on rfl rfl (by first | rfl | assumption) ?_ | refine WD_take rfl rfl ?_ | refine WD_take_on rfl rfl (by first | rfl | assumption) rfl ?_ | refine WD_drop rfl rfl ?_ | refine WD_one rfl ?_) | (refine WS_guard rfl ?_ ?_ <;> intro hg) | (refine V_cond ?_ ?_ <;> intro hc <;> try (cases hc; done)))
      refine WS_call (below_ref x (h64 x (List.mem_of_getElem? hx1)) N (by omega) _) ?_
      rintro _ _ ⟨rfl, rfl⟩
      repeat' (first | (first | refine V_seq ?_ | refine V_region ?_ | refine WS_nil ?_ | refine S_normal ?_ | refine V_block ?_ | refine B_normal ?_ | refine V_skip ?_ | refine V_exit ?_ | refine V_ret ?_ | refine S_exit ?_ | refine S_ret ?_ | refine B_exit ?_ | refine B_ret ?_ | refine B_pass rfl ?_ | refine WS_off rfl (by first | rfl | assumption) ?_ | refine WS_on rfl (by first | rfl | assumption) ?_ | refine WS_move ?_ | refine WS_assign ?_ | refine WS_pick_t (by first | rfl | assumption) ?_ | refine WS_pick_f (by first | rfl | assumption) ?_ | refine WS_isnil ?_ | refine WS_notnil ?_ | refine WS_cmp rfl ?_ | refine WS_addi (by omega) ?_ | refine WS_subi (by omega) ?_ | refine WS_arith rfl ?_ | refine WS_not ?_ | refine WS_neg ?_ | refine WS_convert ?_ | refine WS_len_slice ?_ | refine WS_len_string ?_ | refine WS_fieldAddr ?_ | refine WS_load ?_ | refine WS_load_agg ?_ | refine WS_box_agg rfl ?_ | refine WS_box rfl ?_ | refine WS_makeFunc ?_ | refine WS_extract ?_ | refine WS_field ?_ | refine WS_build ?_ | refine WS_zero ?_ | refine WS_shift (by first | decide | omega) rfl ?_ | refine WS_strcmp rfl ?_ | refine WS_indexAddr (by first | decide | omega) ?_ | refine WS_alloc ?_ | refine WS_store rfl ?_ | refine WS_buildSlice (by decide) rfl rfl (by simp [Value.cells]) ?_ | refine WDK_go ?_ | refine WDT_go ?_ | refine WD_nil ?_ | refine WD_take_off rfl rfl (by first | rfl | assumption) ?_ | refine WD_load rfl ?_ | refine WD_load_on rfl rfl (by first | rfl | assumption) ?_ | refine WD_load_agg rfl ?_ | refine WD_load_agg_on rfl rfl (by first | rfl | assumption) ?_ | refine WD_take rfl rfl ?_ | refine WD_take_on rfl rfl (by first | rfl | assumption) rfl ?_ | refine WD_drop rfl rfl ?_ | refine WD_one rfl ?_) | (refine WS_guard rfl ?_ ?_ <;> intro hg) | (refine V_cond ?_ ?_ <;> intro hc <;> try (cases hc; done)))
      · refine retK_1 ⟨?_, eH⟩ (.inr rfl)
        simp only [checkS]; rw [if_neg (by omega), if_neg]
        intro hall
        rw [List.all_eq_true] at hall
        have := hall x (List.mem_of_getElem? hx1)
        simp_all
      · refine ⟨_, ?_, i + 1, rfl, by omega, by omega, inferInstance, inferInstance, rfl, ?_⟩
        · omega
        · have : (i + 1).toNat = i.toNat + 1 := by omega
          rw [this, List.take_add_one, hx1]
          simp_all
    · have hi : i = len := by simp at hc; omega
      refine retK_1 ⟨?_, eH⟩ (.inr rfl)
      simp only [checkS]; rw [if_neg (by omega), if_pos]
      rw [hi, Int.toNat_natCast, List.take_of_length_le (by omega)] at hP
      exact hP
  · refine retK_1 ⟨?_, Ext.push _ _⟩ (.inr rfl)
    simp only [checkS]; rw [if_pos]; simp at hg; omega
  · refine retK_1 ⟨?_, Ext.push _ _⟩ (.inr rfl)
    simp only [checkS]; rw [if_pos]; simp at hg; omega
instance : CallIs Try.prog 11 := .of Try.func11 rfl rfl

theorem Eye_ref (n : Int) (h : IHp) : EvX Try.prog 13 [.int .i64 n].toArray h (fun v h' => Ext h h' ∧ if 0 ≤ n ∧ n ≤ 64 then ∃ sl, v = .tuple [.agg [.int .i64 n, sl].toArray, .int .i64 0].toArray ∧ Lst h.fresh h' sl (u64s (eyeS n)) 25 else v = .tuple [.agg [.int .i64 0, .slice none 0 0].toArray, .int .i64 2].toArray) := by
  refine EvX_of Try.func13 rfl (by show 1 ≤ 28; decide) ?_
  repeat' (first | (first | refine V_seq ?_ | refine V_region ?_ | refine WS_nil ?_ | refine S_normal ?_ | refine V_block ?_ | refine B_normal ?_ | refine V_skip ?_ | refine V_exit ?_ | refine V_ret ?_ | refine S_exit ?_ | refine S_ret ?_ | refine B_exit ?_ | refine B_ret ?_ | refine B_pass rfl ?_ | refine WS_off rfl (by first | rfl | assumption) ?_ | refine WS_on rfl (by first | rfl | assumption) ?_ | refine WS_move ?_ | refine WS_assign ?_ | refine WS_pick_t (by first | rfl | assumption) ?_ | refine WS_pick_f (by first | rfl | assumption) ?_ | refine WS_isnil ?_ | refine WS_notnil ?_ | refine WS_cmp rfl ?_ | refine WS_addi (by omega) ?_ | refine WS_subi (by omega) ?_ | refine WS_arith rfl ?_ | refine WS_not ?_ | refine WS_neg ?_ | refine WS_convert ?_ | refine WS_len_slice ?_ | refine WS_len_string ?_ | refine WS_fieldAddr ?_ | refine WS_load ?_ | refine WS_load_agg ?_ | refine WS_box_agg rfl ?_ | refine WS_box rfl ?_ | refine WS_makeFunc ?_ | refine WS_extract ?_ | refine WS_field ?_ | refine WS_build ?_ | refine WS_zero ?_ | refine WS_shift (by first | decide | omega) rfl ?_ | refine WS_strcmp rfl ?_ | refine WS_indexAddr (by first | decide | omega) ?_ | refine WS_alloc ?_ | refine WS_store rfl ?_ | refine WS_buildSlice (by decide) rfl rfl (by simp [Value.cells]) ?_ | refine WDK_go ?_ | refine WDT_go ?_ | refine WD_nil ?_ | refine WD_take_off rfl rfl (by first | rfl | assumption) ?_ | refine WD_load rfl ?_ | refine WD_load_on rfl rfl (by first | rfl | assumption) ?_ | refine WD_load_agg rfl ?_ | refine WD_load_agg_on rfl rfl (by first | rfl | assumption) ?_ | refine WD_take rfl rfl ?_ | refine WD_take_on rfl rfl (by first | rfl | assumption) rfl ?_ | refine WD_drop rfl rfl ?_ | refine WD_one rfl ?_) | (refine WS_guard rfl ?_ ?_ <;> intro hg) | (refine V_cond ?_ ?_ <;> intro hc <;> try (cases hc; done)))
  · refine retK_ct ⟨(Ext.push h _).putObj (Nat.le_refl _), ?_⟩ (.inr rfl)
    rw [if_neg (by simp at hc; omega)]
  · have hn : 0 ≤ n ∧ n ≤ 64 := by simp at hc hg; omega
    refine V_loop (fun d s h' => ∃ (i : Int) (sl : Value), d = (n - i).toNat ∧ 0 ≤ i ∧ i ≤ n ∧ Get s 5 (.int .i64 i) ∧ Get s 0 (.int .i64 n) ∧ Get s 4 (.pointer (some (ad (h.fresh + 2) 0))) ∧ Get s 2 (.pointer (some (ad h.fresh 0))) ∧ Ext h h' ∧ ObjIs h' h.fresh [.int .i64 0, .slice none 0 0] 24 true ∧ ObjIs h' (h.fresh + 2) [.int .i64 n, sl] 24 true ∧ Lst h.fresh h' sl (u64s (eyeS i)) 25 ∧ blockOf sl ≠ some h.fresh ∧ blockOf sl ≠ some (h.fresh + 2)) n.toNat ?_ ?_
    · rw [push_fresh]
      have nb : NeB h.fresh (h.fresh + 2) := ⟨by unfold IHp.fresh; omega⟩
      have ob : ObjIs ((h.push (IObj.cells [Value.int IntKind.i64 0, Value.slice none 0 0] 24 true)).push (IObj.cells [Value.int IntKind.i64 0, Value.slice none 0 0] 24 true)) (h.fresh + 2) [Value.int IntKind.i64 0, Value.slice none 0 0] 24 true := by
        rw [← push_fresh h (IObj.cells [Value.int IntKind.i64 0, Value.slice none 0 0] 24 true)]; infer_instance
      exact ⟨0, .slice none 0 0, by omega, by omega, by omega, inferInstance, inferInstance, inferInstance, inferInstance, (((Ext.push h _).push' _).putObj (by omega)), inferInstance, inferInstance, .inl ⟨rfl, rfl⟩, by simp [blockOf], by simp [blockOf]⟩
    rintro d s h' ⟨i, sl, rfl, hi0, hi1, g5, g0, g4, g2, eX, o2, o4, hL, hb2, hb4⟩
    repeat' (first | (first | refine V_seq ?_ | refine V_region ?_ | refine WS_nil ?_ | refine S_normal ?_ | refine V_block ?_ | refine B_normal ?_ | refine V_skip ?_ | refine V_exit ?_ | refine V_ret ?_ | refine S_exit ?_ | refine S_ret ?_ | refine B_exit ?_ | refine B_ret ?_ | refine B_pass rfl ?_ | refine WS_off rfl (by first | rfl | assumption) ?_ | refine WS_on rfl (by first | rfl | assumption) ?_ | refine WS_move ?_ | refine WS_assign ?_ | refine WS_pick_t (by first | rfl | assumption) ?_ | refine WS_pick_f (by first | rfl | assumption) ?_ | refine WS_isnil ?_ | refine WS_notnil ?_ | refine WS_cmp rfl ?_ | refine WS_addi (by omega) ?_ | refine WS_subi (by omega) ?_ | refine WS_arith rfl ?_ | refine WS_not ?_ | refine WS_neg ?_ | refine WS_convert ?_ | refine WS_len_slice ?_ | refine WS_len_string ?_ | refine WS_fieldAddr ?_ | refine WS_load ?_ | refine WS_load_agg ?_ | refine WS_box_agg rfl ?_ | refine WS_box rfl ?_ | refine WS_makeFunc ?_ | refine WS_extract ?_ | refine WS_field ?_ | refine WS_build ?_ | refine WS_zero ?_ | refine WS_shift (by first | decide | omega) rfl ?_ | refine WS_strcmp rfl ?_ | refine WS_indexAddr (by first | decide | omega) ?_ | refine WS_alloc ?_ | refine WS_store rfl ?_ | refine WS_buildSlice (by decide) rfl rfl (by simp [Value.cells]) ?_ | refine WDK_go ?_ | refine WDT_go ?_ | refine WD_nil ?_ | refine WD_take_off rfl rfl (by first | rfl | assumption) ?_ | refine WD_load rfl ?_ | refine WD_load_on rfl rfl (by first | rfl | assumption) ?_ | refine WD_load_agg rfl ?_ | refine WD_load_agg_on rfl rfl (by first | rfl | assumption) ?_ | refine WD_take rfl rfl ?_ | refine WD_take_on rfl rfl (by first | rfl | assumption) rfl ?_ | refine WD_drop rfl rfl ?_ | refine WD_one rfl ?_) | (refine WS_guard rfl ?_ ?_ <;> intro hg) | (refine V_cond ?_ ?_ <;> intro hc <;> try (cases hc; done)))
    · have hi : i < n := by simpa using hc
      obtain ⟨a, rfl⟩ := hL.isSlice
      refine V_draw (plan := [.take 0, .take 1, .take 2, .take 3, .one 4, .one 5, .take 6, .one 7]) (by kernel_rfl) ?_
      repeat' (first | (first | refine V_seq ?_ | refine V_region ?_ | refine WS_nil ?_ | refine S_normal ?_ | refine V_block ?_ | refine B_normal ?_ | refine V_skip ?_ | refine V_exit ?_ | refine V_ret ?_ | refine S_exit ?_ | refine S_ret ?_ | refine B_exit ?_ | refine B_ret ?_ | refine B_pass rfl ?_ | refine WS_off rfl (by first | rfl | assumption) ?_ | refine WS_on rfl (by first | rfl | assumption) ?_ | refine WS_move ?_ | refine WS_assign ?_ | refine WS_pick_t (by first | rfl | assumption) ?_ | refine WS_pick_f (by first | rfl | assumption) ?_ | refine WS_isnil ?_ | refine WS_notnil ?_ | refine WS_cmp rfl ?_ | refine WS_addi (by omega) ?_ | refine WS_subi (by omega) ?_ | refine WS_arith rfl ?_ | refine WS_not ?_ | refine WS_neg ?_ | refine WS_convert ?_ | refine WS_len_slice ?_ | refine WS_len_string ?_ | refine WS_fieldAddr ?_ | refine WS_load ?_ | refine WS_load_agg ?_ | refine WS_box_agg rfl ?_ | refine WS_box rfl ?_ | refine WS_makeFunc ?_ | refine WS_extract ?_ | refine WS_field ?_ | refine WS_build ?_ | refine WS_zero ?_ | refine WS_shift (by first | decide | omega) rfl ?_ | refine WS_strcmp rfl ?_ | refine WS_indexAddr (by first | decide | omega) ?_ | refine WS_alloc ?_ | refine WS_store rfl ?_ | refine WS_buildSlice (by decide) rfl rfl (by simp [Value.cells]) ?_ | refine WDK_go ?_ | refine WDT_go ?_ | refine WD_nil ?_ | refine WD_take_off rfl rfl (by first | rfl | assumption) ?_ | refine WD_load rfl ?_ | refine WD_load_on rfl rfl (by first | rfl | assumption) ?_ | refine WD_load_agg rfl ?_ | refine WD_load_agg_on rfl rfl (by first | rfl | assumption) ?_ | refine WD_take rfl rfl ?_ | refine WD_take_on rfl rfl (by first | rfl | assumption) rfl ?_ | refine WD_drop rfl rfl ?_ | refine WD_one rfl ?_) | (refine WS_guard rfl ?_ ?_ <;> intro hg) | (refine V_cond ?_ ?_ <;> intro hc <;> try (cases hc; done)))
      have h64 : i < 64 := by omega
      rw [shl_one hi0 h64]
      refine WS_append1 (lo := h.fresh) (hL.ext (Ext.push _ _)) (by rw [push_fresh]; have := eX.fresh; omega) (by rw [eyeS_len]; omega) ?_
      intro v' h2 hL2 m2 hb
      have p2 : ObjIs h2 h.fresh [.int .i64 0, .slice none 0 0] 24 true := m2.obj inferInstance hb2
      have p4 : ObjIs h2 (h.fresh + 2) _ 24 true := m2.obj inferInstance hb4
      have e2 : Ext h h2 := m2.ext (eX.push' _) (hL.ext (Ext.push _ _))
      have hn4 : h.fresh + 2 < (h'.push (IObj.cells [Value.int IntKind.u64 (2 ^ i.toNat : Nat)] 25 true)).fresh := by have := o4.lt; rw [push_fresh]; omega
      obtain ⟨a', rfl⟩ := hL2.isSlice
      have nb : NeB h.fresh (h.fresh + 2) := ⟨by unfold IHp.fresh; omega⟩
      repeat' (first | (first | refine V_seq ?_ | refine V_region ?_ | refine WS_nil ?_ | refine S_normal ?_ | refine V_block ?_ | refine B_normal ?_ | refine V_skip ?_ | refine V_exit ?_ | refine V_ret ?_ | refine S_exit ?_ | refine S_ret ?_ | refine B_exit ?_ | refine B_ret ?_ | refine B_pass rfl ?_ | refine WS_off rfl (by first | rfl | assumption) ?_ | refine WS_on rfl (by first | rfl | assumption) ?_ | refine WS_move ?_ | refine WS_assign ?_ | refine WS_pick_t (by first | rfl | assumption) ?_ | refine WS_pick_f (by first | rfl | assumption) ?_ | refine WS_isnil ?_ | refine WS_notnil ?_ | refine WS_cmp rfl ?_ | refine WS_addi (by omega) ?_ | refine WS_subi (by omega) ?_ | refine WS_arith rfl ?_ | refine WS_not ?_ | refine WS_neg ?_ | refine WS_convert ?_ | refine WS_len_slice ?_ | refine WS_len_string ?_ | refine WS_fieldAddr ?_ | refine WS_load ?_ | refine WS_load_agg ?_ | refine WS_box_agg rfl ?_ | refine WS_box rfl ?_ | refine WS_makeFunc ?_ | refine WS_extract ?_ | refine WS_field ?_ | refine WS_build ?_ | refine WS_zero ?_ | refine WS_shift (by first | decide | omega) rfl ?_ | refine WS_strcmp rfl ?_ | refine WS_indexAddr (by first | decide | omega) ?_ | refine WS_alloc ?_ | refine WS_store rfl ?_ | refine WS_buildSlice (by decide) rfl rfl (by simp [Value.cells]) ?_ | refine WDK_go ?_ | refine WDT_go ?_ | refine WD_nil ?_ | refine WD_take_off rfl rfl (by first | rfl | assumption) ?_ | refine WD_load rfl ?_ | refine WD_load_on rfl rfl (by first | rfl | assumption) ?_ | refine WD_load_agg rfl ?_ | refine WD_load_agg_on rfl rfl (by first | rfl | assumption) ?_ | refine WD_take rfl rfl ?_ | refine WD_take_on rfl rfl (by first | rfl | assumption) rfl ?_ | refine WD_drop rfl rfl ?_ | refine WD_one rfl ?_) | (refine WS_guard rfl ?_ ?_ <;> intro hg) | (refine V_cond ?_ ?_ <;> intro hc <;> try (cases hc; done)))
      refine ⟨_, ?_, i + 1, _, rfl, by omega, by omega, inferInstance, inferInstance, inferInstance, inferInstance, e2.putObj (by omega), inferInstance, inferInstance, ?_, ?_, ?_⟩
      · omega
      · rw [eyeS_succ hi0]; exact hL2.put (by rw [hb]; intro hh; have := Option.some.inj hh; omega) o4.even
      · rw [hb]; intro hh; have := Option.some.inj hh; omega
      · rw [hb]; intro hh; have := Option.some.inj hh; omega
    · have hi : i = n := by simp at hc; omega
      subst hi
      obtain ⟨a, rfl⟩ := hL.isSlice
      repeat' (first | (first | refine V_seq ?_ | refine V_region ?_ | refine WS_nil ?_ | refine S_normal ?_ | refine V_block ?_ | refine B_normal ?_ | refine V_skip ?_ | refine V_exit ?_ | refine V_ret ?_ | refine S_exit ?_ | refine S_ret ?_ | refine B_exit ?_ | refine B_ret ?_ | refine B_pass rfl ?_ | refine WS_off rfl (by first | rfl | assumption) ?_ | refine WS_on rfl (by first | rfl | assumption) ?_ | refine WS_move ?_ | refine WS_assign ?_ | refine WS_pick_t (by first | rfl | assumption) ?_ | refine WS_pick_f (by first | rfl | assumption) ?_ | refine WS_isnil ?_ | refine WS_notnil ?_ | refine WS_cmp rfl ?_ | refine WS_addi (by omega) ?_ | refine WS_subi (by omega) ?_ | refine WS_arith rfl ?_ | refine WS_not ?_ | refine WS_neg ?_ | refine WS_convert ?_ | refine WS_len_slice ?_ | refine WS_len_string ?_ | refine WS_fieldAddr ?_ | refine WS_load ?_ | refine WS_load_agg ?_ | refine WS_box_agg rfl ?_ | refine WS_box rfl ?_ | refine WS_makeFunc ?_ | refine WS_extract ?_ | refine WS_field ?_ | refine WS_build ?_ | refine WS_zero ?_ | refine WS_shift (by first | decide | omega) rfl ?_ | refine WS_strcmp rfl ?_ | refine WS_indexAddr (by first | decide | omega) ?_ | refine WS_alloc ?_ | refine WS_store rfl ?_ | refine WS_buildSlice (by decide) rfl rfl (by simp [Value.cells]) ?_ | refine WDK_go ?_ | refine WDT_go ?_ | refine WD_nil ?_ | refine WD_take_off rfl rfl (by first | rfl | assumption) ?_ | refine WD_load rfl ?_ | refine WD_load_on rfl rfl (by first | rfl | assumption) ?_ | refine WD_load_agg rfl ?_ | refine WD_load_agg_on rfl rfl (by first | rfl | assumption) ?_ | refine WD_take rfl rfl ?_ | refine WD_take_on rfl rfl (by first | rfl | assumption) rfl ?_ | refine WD_drop rfl rfl ?_ | refine WD_one rfl ?_) | (refine WS_guard rfl ?_ ?_ <;> intro hg) | (refine V_cond ?_ ?_ <;> intro hc <;> try (cases hc; done)))
      have nb : NeB (h.fresh + 2) h.fresh := ⟨by unfold IHp.fresh; omega⟩
      refine retK_ct ⟨eX.putObj (Nat.le_refl _), ?_⟩ (.inr rfl)
      rw [if_pos hn]
      exact ⟨_, rfl, hL.put hb2 o2.even⟩
  · refine retK_ct ⟨(Ext.push h _).putObj (Nat.le_refl _), ?_⟩ (.inr rfl)
    rw [if_neg (by simp at hg; omega)]
instance : CallIs Try.prog 13 := .of Try.func13 rfl rfl

theorem Same_spec (M N : Int) (a b : Option Addr) (la ca lb cb : Nat) (xs ys : List Nat) (h : IHp) (hx : SlIs h a la ca (u64s xs)) (hy : SlIs h b lb cb (u64s ys)) (hla : la < 2 ^ 62) :
    EvX Try.prog 14 [.agg [.int .i64 M, .slice a la ca].toArray, .agg [.int .i64 N, .slice b lb cb].toArray].toArray h (fun v h' => v = .bool (decide (M = N ∧ xs = ys)) ∧ Ext h h') := by
  have hlx : xs.length = la := by have := hx.1; simpa [u64s] using this
  have hly : ys.length = lb := by have := hy.1; simpa [u64s] using this
  refine EvX_of Try.func14 rfl (by show 2 ≤ 38; decide) ?_
  repeat' (first | (first | refine V_seq ?_ | refine V_region ?_ | refine WS_nil ?_ | refine S_normal ?_ | refine V_block ?_ | refine B_normal ?_ | refine V_skip ?_ | refine V_exit ?_ | refine V_ret ?_ | refine S_exit ?_ | refine S_ret ?_ | refine B_exit ?_ | refine B_ret ?_ | refine B_pass rfl ?_ | refine WS_off rfl (by first | rfl | assumption) ?_ | refine WS_on rfl (by first | rfl | assumption) ?_ | refine WS_move ?_ | refine WS_assign ?_ | refine WS_pick_t (by first | rfl | assumption) ?_ | refine WS_pick_f (by first | rfl | assumption) ?_ | refine WS_isnil ?_ | refine WS_notnil ?_ | refine WS_cmp rfl ?_ | refine WS_addi (by omega) ?_ | refine WS_subi (by omega) ?_ | refine WS_arith rfl ?_ | refine WS_not ?_ | refine WS_neg ?_ | refine WS_convert ?_ | refine WS_len_slice ?_ | refine WS_len_string ?_ | refine WS_fieldAddr ?_ | refine WS_load ?_ | refine WS_load_agg ?_ | refine WS_box_agg rfl ?_ | refine WS_box rfl ?_ | refine WS_makeFunc ?_ | refine WS_extract ?_ | refine WS_field ?_ | refine WS_build ?_ | refine WS_zero ?_ | refine WS_shift (by first | decide | omega) rfl ?_ | refine WS_strcmp rfl ?_ | refine WS_indexAddr (by first | decide | omega) ?_ | refine WS_alloc ?_ | refine WS_store rfl ?_ | refine WS_buildSlice (by decide) rfl rfl (by simp [Value.cells]) ?_ | refine WDK_go ?_ | refine WDT_go ?_ | refine WD_nil ?_ | refine WD_take_off rfl rfl (by first | rfl | assumption) ?_ | refine WD_load rfl ?_ | refine WD_load_on rfl rfl (by first | rfl | assumption) ?_ | refine WD_load_agg rfl ?_ | refine WD_load_agg_on rfl rfl (by first | rfl | assumption) ?_ | refine WD_take rfl rfl ?_ | refine WD_take_on rfl rfl (by first | rfl | assumption) rfl ?_ | refine WD_drop rfl rfl ?_ | refine WD_one rfl ?_) | (refine WS_guard rfl ?_ ?_ <;> intro hg) | (refine V_cond ?_ ?_ <;> intro hc <;> try (cases hc; done)))
  · refine retK_1 ⟨?_, (Ext.push _ _).push' _⟩ (.inr rfl)
    congr 1
    symm; rw [decide_eq_false_iff_not]
    rintro ⟨rfl, rfl⟩
    simp at hc; omega
  · have hN : M = N ∧ la = lb := by simp at hc hg; omega
    obtain ⟨rfl, rfl⟩ := hN
    obtain ⟨H1, hH1⟩ : ∃ H, H = h.push (IObj.cells [Value.int IntKind.i64 M, Value.slice a la ca] 24 true) := ⟨_, rfl⟩
    rw [← hH1]
    have d0 : CellIs H1 h.fresh (0 + 1) (.slice a la ca) := hH1 ▸ inferInstance
    obtain ⟨H, hH⟩ : ∃ H, H = H1.push (IObj.cells [Value.int IntKind.i64 M, Value.slice b la cb] 24 true) := ⟨_, rfl⟩
    rw [← hH]
    have eH : Ext h H := by rw [hH, hH1]; exact (Ext.push _ _).push' _
    have c0 : CellIs H h.fresh (0 + 1) (.slice a la ca) := hH ▸ inferInstance
    have c1 : CellIs H H1.fresh (0 + 1) (.slice b la cb) := hH ▸ inferInstance
    refine V_loop (fun d s h' => ∃ i : Int, d = (la - i).toNat ∧ 0 ≤ i ∧ i ≤ la ∧ Get s 5 (.int .i64 i) ∧ Get s 2 (.pointer (some (ad h.fresh 0))) ∧ Get s 3 (.pointer (some (ad H1.fresh 0))) ∧ h' = H ∧ xs.take i.toNat = ys.take i.toNat) la ⟨0, by omega, by omega, by omega, inferInstance, inferInstance, inferInstance, rfl, by simp⟩ ?_
    rintro d s h' ⟨i, rfl, hi0, hi1, g5, g2, g3, rfl, hP⟩
    repeat' (first | (first | refine V_seq ?_ | refine V_region ?_ | refine WS_nil ?_ | refine S_normal ?_ | refine V_block ?_ | refine B_normal ?_ | refine V_skip ?_ | refine V_exit ?_ | refine V_ret ?_ | refine S_exit ?_ | refine S_ret ?_ | refine B_exit ?_ | refine B_ret ?_ | refine B_pass rfl ?_ | refine WS_off rfl (by first | rfl | assumption) ?_ | refine WS_on rfl (by first | rfl | assumption) ?_ | refine WS_move ?_ | refine WS_assign ?_ | refine WS_pick_t (by first | rfl | assumption) ?_ | refine WS_pick_f (by first | rfl | assumption) ?_ | refine WS_isnil ?_ | refine WS_notnil ?_ | refine WS_cmp rfl ?_ | refine WS_addi (by omega) ?_ | refine WS_subi (by omega) ?_ | refine WS_arith rfl ?_ | refine WS_not ?_ | refine WS_neg ?_ | refine WS_convert ?_ | refine WS_len_slice ?_ | refine WS_len_string ?_ | refine WS_fieldAddr ?_ | refine WS_load ?_ | refine WS_load_agg ?_ | refine WS_box_agg rfl ?_ | refine WS_box rfl ?_ | refine WS_makeFunc ?_ | refine WS_extract ?_ | refine WS_field ?_ | refine WS_build ?_ | refine WS_zero ?_ | refine WS_shift (by first | decide | omega) rfl ?_ | refine WS_strcmp rfl ?_ | refine WS_indexAddr (by first | decide | omega) ?_ | refine WS_alloc ?_ | refine WS_store rfl ?_ | refine WS_buildSlice (by decide) rfl rfl (by simp [Value.cells]) ?_ | refine WDK_go ?_ | refine WDT_go ?_ | refine WD_nil ?_ | refine WD_take_off rfl rfl (by first | rfl | assumption) ?_ | refine WD_load rfl ?_ | refine WD_load_on rfl rfl (by first | rfl | assumption) ?_ | refine WD_load_agg rfl ?_ | refine WD_load_agg_on rfl rfl (by first | rfl | assumption) ?_ | refine WD_take rfl rfl ?_ | refine WD_take_on rfl rfl (by first | rfl | assumption) rfl ?_ | refine WD_drop rfl rfl ?_ | refine WD_one rfl ?_) | (refine WS_guard rfl ?_ ?_ <;> intro hg) | (refine V_cond ?_ ?_ <;> intro hc <;> try (cases hc; done)))
    · have hi : i < la := by simp at hc; omega
      obtain ⟨b1, v, rfl, hv, c2⟩ := (hx.ext eH).at hi0 hi
      obtain ⟨x, rfl, hx1⟩ := u64s_at hv
      obtain ⟨b2, w, rfl, hw, c3⟩ := (hy.ext eH).at hi0 hi
      obtain ⟨y, rfl, hy1⟩ := u64s_at hw
      refine V_draw (plan := [.take 0, .take 1, .take 2, .take 3, .take 4, .take 5, .take 6, .take 7, .take 8, .take 9, .take 10]) (by kernel_rfl) ?_
      repeat' (first | (first | refine V_seq ?_ | refine V_region ?_ | refine WS_nil ?_ | refine S_normal ?_ | refine V_block ?_ | refine B_normal ?_ | refine V_skip ?_ | refine V_exit ?_ | refine V_ret ?_ | refine S_exit ?_ | refine S_ret ?_ | refine B_exit ?_ | refine B_ret ?_ | refine B_pass rfl ?_ | refine WS_off rfl (by first | rfl | assumption) ?_ | refine WS_on rfl (by first | rfl | assumption) ?_ | refine WS_move ?_ | refine WS_assign ?_ | refine WS_pick_t (by first | rfl | assumption) ?_ | refine WS_pick_f (by first | rfl | assumption) ?_ | refine WS_isnil ?_ | refine WS_notnil ?_ | refine WS_cmp rfl ?_ | refine WS_addi (by omega) ?_ | refine WS_subi (by omega) ?_ | refine WS_arith rfl ?_ | refine WS_not ?_ | refine WS_neg ?_ | refine WS_convert ?_ | refine WS_len_slice ?_ | refine WS_len_string ?_ | refine WS_fieldAddr ?_ | refine WS_load ?_ | refine WS_load_agg ?_ | refine WS_box_agg rfl ?_ | refine WS_box rfl ?_ | refine WS_makeFunc ?_ | refine WS_extract ?_ | refine WS_field ?_ | refine WS_build ?_ | refine WS_zero ?_ | refine WS_shift (by first | decide | omega) rfl ?_ | refine WS_strcmp rfl ?_ | refine WS_indexAddr (by first | decide | omega) ?_ | refine WS_alloc ?_ | refine WS_store rfl ?_ | refine WS_buildSlice (by decide) rfl rfl (by simp [Value.cells]) ?_ | refine WDK_go ?_ | refine WDT_go ?_ | refine WD_nil ?_ | refine WD_take_off rfl rfl (by first | rfl | assumption) ?_ | refine WD_load rfl ?_ | refine WD_load_on rfl rfl (by first | rfl | assumption) ?_ | refine WD_load_agg rfl ?_ | refine WD_load_agg_on rfl rfl (by first | rfl | assumption) ?_ | refine WD_take rfl rfl ?_ | refine WD_take_on rfl rfl (by first | rfl | assumption) rfl ?_ | refine WD_drop rfl rfl ?_ | refine WD_one rfl ?_) | (refine WS_guard rfl ?_ ?_ <;> intro hg) | (refine V_cond ?_ ?_ <;> intro hc <;> try (cases hc; done)))
      · refine retK_1 ⟨?_, eH⟩ (.inr rfl)
        congr 1
        symm; rw [decide_eq_false_iff_not]
        rintro ⟨_, rfl⟩
        rw [hx1] at hy1
        simp at hy1; subst hy1
        simp at hc
      · refine ⟨_, ?_, i + 1, rfl, by omega, by omega, inferInstance, inferInstance, inferInstance, rfl, ?_⟩
        · omega
        · have : (i + 1).toNat = i.toNat + 1 := by omega
          have hxy : x = y := by simp at hc; omega
          rw [this, List.take_add_one, List.take_add_one, hx1, hy1, hP, hxy]
    · have hi : i = la := by simp at hc; omega
      refine retK_1 ⟨?_, eH⟩ (.inr rfl)
      congr 1
      symm; rw [decide_eq_true_iff]
      rw [hi, Int.toNat_natCast, List.take_of_length_le (by omega), List.take_of_length_le (by omega)] at hP
      exact ⟨rfl, hP⟩
  · refine retK_1 ⟨?_, (Ext.push _ _).push' _⟩ (.inr rfl)
    congr 1
    symm; rw [decide_eq_false_iff_not]
    rintro ⟨rfl, rfl⟩
    simp at hg
instance : CallIs Try.prog 14 := .of Try.func14 rfl rfl
end Go.Ideal

-- Lc
set_option linter.unusedSimpArgs false
set_option linter.unusedVariables false
namespace Go.Ideal
open Go Go.Proofs
/-! ### Parity; bits put side by side -/
def oddK (x : Nat) : Nat → Nat
  | 0 => 0
  | k + 1 => oddK x k ^^^ ((x >>> k) &&& 1)
def oddS (x : Nat) : Nat := oddK x 64
theorem bit_le (x : Nat) : x &&& 1 ≤ 1 := Nat.and_le_right
theorem oddK_le (x : Nat) : ∀ k, oddK x k ≤ 1 := by
  intro k
  induction k with
  | zero => exact Nat.zero_le _
  | succ k ih =>
    have h1 := bit_le (x >>> k)
    have := Nat.xor_lt_two_pow (n := 1) (show oddK x k < 2 ^ 1 by omega) (show (x >>> k) &&& 1 < 2 ^ 1 by omega)
    simp only [oddK]; omega
def orK (f : Nat → Nat) : Nat → Nat
  | 0 => 0
  | k + 1 => orK f k ||| (f k <<< k)
theorem orK_lt {f : Nat → Nat} : ∀ k, (∀ j, j < k → f j ≤ 1) → orK f k < 2 ^ k := by
  intro k
  induction k with
  | zero => intro _; simp [orK]
  | succ k ih =>
    intro hf
    have h1 := ih fun j hj => hf j (by omega)
    have h2 := hf k (by omega)
    refine Nat.or_lt_two_pow (Nat.lt_of_lt_of_le h1 (Nat.pow_le_pow_right (by decide) (by omega))) ?_
    rw [Nat.shiftLeft_eq, Nat.pow_succ]
    have : 0 < 2 ^ k := Nat.pow_pos (by decide)
    have : f k * 2 ^ k ≤ 1 * 2 ^ k := Nat.mul_le_mul_right _ h2
    omega
theorem orK_congr {f g : Nat → Nat} : ∀ k, (∀ j, j < k → f j = g j) → orK f k = orK g k := by
  intro k
  induction k with
  | zero => intro _; rfl
  | succ k ih => intro h; simp only [orK, ih fun j hj => h j (by omega), h k (by omega)]
theorem and1_u64 {a : Nat} (ha : a < 2 ^ 64) : ibits .and .u64 a 1 = (a &&& 1 : Nat) := and_u64 (b := 1) ha (by decide)
theorem shl_bit {b : Nat} (hb : b ≤ 1) {k : Int} (h0 : 0 ≤ k) (h1 : k < 64) : IntKind.u64.wrap ((b : Int) * 2 ^ min k.toNat IntKind.u64.bits) = (b <<< k.toNat : Nat) := by
  have h2 : min k.toNat IntKind.u64.bits = k.toNat := by simp only [IntKind.bits]; omega
  rw [h2, Nat.shiftLeft_eq]
  have h3 : (2 : Nat) ^ k.toNat < 2 ^ 64 := Nat.pow_lt_pow_right (by decide) (by omega)
  have h4 : b * 2 ^ k.toNat ≤ 1 * 2 ^ k.toNat := Nat.mul_le_mul_right _ hb
  have h5 : ((b : Int) * 2 ^ k.toNat) = ((b * 2 ^ k.toNat : Nat) : Int) := by simp
  rw [h5]
  exact wrap_u64_id (by omega) (by omega)
theorem bit_shl_lt {b : Nat} (hb : b ≤ 1) {k : Nat} (h1 : k < 64) : b <<< k < 2 ^ 64 := by
  rw [Nat.shiftLeft_eq]
  have h3 : (2 : Nat) ^ k < 2 ^ 64 := Nat.pow_lt_pow_right (by decide) (by omega)
  have h4 : b * 2 ^ k ≤ 1 * 2 ^ k := Nat.mul_le_mul_right _ hb
  omega
theorem shr_lt {a : Nat} (n : Nat) (ha : a < 2 ^ 64) : a >>> n < 2 ^ 64 := Nat.lt_of_le_of_lt (Nat.shiftRight_le _ _) ha
theorem toNat_succ {i : Int} (h : 0 ≤ i) : (i + 1).toNat = i.toNat + 1 := by omega

theorem odd_ref (x : Nat) (hx : x < 2 ^ 64) (h : IHp) : EvX Try.prog 55 [.int .u64 x].toArray h (fun v h' => v = .int .u64 (oddS x : Nat) ∧ h' = h) := by
  refine EvX_of Try.func55 rfl (by show 1 ≤ 16; decide) ?_
  repeat' (first | (first | refine V_seq ?_ | refine V_region ?_ | refine WS_nil ?_ | refine S_normal ?_ | refine V_block ?_ | refine B_normal ?_ | refine V_skip ?_ | refine V_exit ?_ | refine V_ret ?_ | refine S_exit ?_ | refine S_ret ?_ | refine B_exit ?_ | refine B_ret ?_ | refine B_pass rfl ?_ | refine WS_off rfl (by first | rfl | assumption) ?_ | refine WS_on rfl (by first | rfl | assumption) ?_ | refine WS_move ?_ | refine WS_assign ?_ | refine WS_pick_t (by first | rfl | assumption) ?_ | refine WS_pick_f (by first | rfl | assumption) ?_ | refine WS_isnil ?_ | refine WS_notnil ?_ | refine WS_cmp rfl ?_ | refine WS_addi (by omega) ?_ | refine WS_subi (by omega) ?_ | refine WS_arith rfl ?_ | refine WS_not ?_ | refine WS_neg ?_ | refine WS_convert ?_ | refine WS_len_slice ?_ | refine WS_len_string ?_ | refine WS_fieldAddr ?_ | refine WS_load ?_ | refine WS_load_agg ?_ | refine WS_box_agg rfl ?_ | refine WS_box rfl ?_ | refine WS_makeFunc ?_ | refine WS_extract ?_ | refine WS_field ?_ | refine WS_build ?_ | refine WS_zero ?_ | refine WS_shift (by first | decide | omega) rfl ?_ | refine WS_strcmp rfl ?_ | refine WS_indexAddr (by first | decide | omega) ?_ | refine WS_alloc ?_ | refine WS_store rfl ?_ | refine WS_buildSlice (by decide) rfl rfl (by simp [Value.cells]) ?_ | refine WDK_go ?_ | refine WDT_go ?_ | refine WD_nil ?_ | refine WD_take_off rfl rfl (by first | rfl | assumption) ?_ | refine WD_load rfl ?_ | refine WD_load_on rfl rfl (by first | rfl | assumption) ?_ | refine WD_load_agg rfl ?_ | refine WD_load_agg_on rfl rfl (by first | rfl | assumption) ?_ | refine WD_take rfl rfl ?_ | refine WD_take_on rfl rfl (by first | rfl | assumption) rfl ?_ | refine WD_drop rfl rfl ?_ | refine WD_one rfl ?_) | (refine WS_guard rfl ?_ ?_ <;> intro hg) | (refine V_cond ?_ ?_ <;> intro hc <;> try (cases hc; done)))
  refine V_loop (fun d s h' => ∃ i : Int, d = (64 - i).toNat ∧ 0 ≤ i ∧ i ≤ 64 ∧ Get s 4 (.int .i64 i) ∧ Get s 0 (.int .u64 x) ∧ h' = h ∧ Get s 3 (.int .u64 (oddK x i.toNat : Nat))) 64 ⟨0, by omega, by omega, by omega, inferInstance, inferInstance, rfl, inferInstanceAs (Get _ 3 (.int .u64 (0 : Int)))⟩ ?_
  rintro d s h' ⟨i, rfl, hi0, hi1, g4, g0, rfl, g3⟩
  repeat' (first | (first | refine V_seq ?_ | refine V_region ?_ | refine WS_nil ?_ | refine S_normal ?_ | refine V_block ?_ | refine B_normal ?_ | refine V_skip ?_ | refine V_exit ?_ | refine V_ret ?_ | refine S_exit ?_ | refine S_ret ?_ | refine B_exit ?_ | refine B_ret ?_ | refine B_pass rfl ?_ | refine WS_off rfl (by first | rfl | assumption) ?_ | refine WS_on rfl (by first | rfl | assumption) ?_ | refine WS_move ?_ | refine WS_assign ?_ | refine WS_pick_t (by first | rfl | assumption) ?_ | refine WS_pick_f (by first | rfl | assumption) ?_ | refine WS_isnil ?_ | refine WS_notnil ?_ | refine WS_cmp rfl ?_ | refine WS_addi (by omega) ?_ | refine WS_subi (by omega) ?_ | refine WS_arith rfl ?_ | refine WS_not ?_ | refine WS_neg ?_ | refine WS_convert ?_ | refine WS_len_slice ?_ | refine WS_len_string ?_ | refine WS_fieldAddr ?_ | refine WS_load ?_ | refine WS_load_agg ?_ | refine WS_box_agg rfl ?_ | refine WS_box rfl ?_ | refine WS_makeFunc ?_ | refine WS_extract ?_ | refine WS_field ?_ | refine WS_build ?_ | refine WS_zero ?_ | refine WS_shift (by first | decide | omega) rfl ?_ | refine WS_strcmp rfl ?_ | refine WS_indexAddr (by first | decide | omega) ?_ | refine WS_alloc ?_ | refine WS_store rfl ?_ | refine WS_buildSlice (by decide) rfl rfl (by simp [Value.cells]) ?_ | refine WDK_go ?_ | refine WDT_go ?_ | refine WD_nil ?_ | refine WD_take_off rfl rfl (by first | rfl | assumption) ?_ | refine WD_load rfl ?_ | refine WD_load_on rfl rfl (by first | rfl | assumption) ?_ | refine WD_load_agg rfl ?_ | refine WD_load_agg_on rfl rfl (by first | rfl | assumption) ?_ | refine WD_take rfl rfl ?_ | refine WD_take_on rfl rfl (by first | rfl | assumption) rfl ?_ | refine WD_drop rfl rfl ?_ | refine WD_one rfl ?_) | (refine WS_guard rfl ?_ ?_ <;> intro hg) | (refine V_cond ?_ ?_ <;> intro hc <;> try (cases hc; done)))
  · have hi : i < 64 := by simpa using hc
    have hk := oddK_le x i.toNat
    rw [shr_u64 hi0 hx, and1_u64 (shr_lt _ hx), xor_u64 (by omega) (by have := bit_le (x >>> i.toNat); omega)]
    refine ⟨_, ?_, i + 1, rfl, by omega, by omega, inferInstance, inferInstance, rfl, ?_⟩
    · omega
    · rw [toNat_succ hi0]; exact inferInstanceAs (Get _ 3 (.int .u64 ((oddK x i.toNat ^^^ x >>> i.toNat &&& 1 : Nat) : Int)))
  · have hi : i = 64 := by simp at hc; omega
    subst hi
    exact retK_1 ⟨rfl, rfl⟩ (.inr rfl)
instance : CallIs Try.prog 55 := .of Try.func55 rfl rfl
/-- the number that a matrix makes of x -/
def applyS (n : Nat) (xs : List Nat) (x : Nat) : Nat := orK (fun i => oddS (xs.getD i 0 &&& x)) n
theorem Apply_ref (N : Int) (a : Option Addr) (len cap : Nat) (xs : List Nat) (x : Nat) (hx64 : x < 2 ^ 64) (h : IHp) (hx : SlIs h a len cap (u64s xs)) (h64 : ∀ x ∈ xs, x < 2 ^ 64) :
    EvX Try.prog 18 [.agg [.int .i64 N, .slice a len cap].toArray, .int .u64 x].toArray h (fun v h' => Ext h h' ∧ v = if checkS N xs = 0 ∧ belowS N x = true then .tuple [.int .u64 (applyS N.toNat xs x : Nat), .int .i64 0].toArray else .tuple [.int .u64 0, .int .i64 2].toArray) := by
  have hlen : xs.length = len := by have := hx.1; simpa [u64s] using this
  refine EvX_of Try.func18 rfl (by show 2 ≤ 37; decide) ?_
  repeat' (first | (first | refine V_seq ?_ | refine V_region ?_ | refine WS_nil ?_ | refine S_normal ?_ | refine V_block ?_ | refine B_normal ?_ | refine V_skip ?_ | refine V_exit ?_ | refine V_ret ?_ | refine S_exit ?_ | refine S_ret ?_ | refine B_exit ?_ | refine B_ret ?_ | refine B_pass rfl ?_ | refine WS_off rfl (by first | rfl | assumption) ?_ | refine WS_on rfl (by first | rfl | assumption) ?_ | refine WS_move ?_ | refine WS_assign ?_ | refine WS_pick_t (by first | rfl | assumption) ?_ | refine WS_pick_f (by first | rfl | assumption) ?_ | refine WS_isnil ?_ | refine WS_notnil ?_ | refine WS_cmp rfl ?_ | refine WS_addi (by omega) ?_ | refine WS_subi (by omega) ?_ | refine WS_arith rfl ?_ | refine WS_not ?_ | refine WS_neg ?_ | refine WS_convert ?_ | refine WS_len_slice ?_ | refine WS_len_string ?_ | refine WS_fieldAddr ?_ | refine WS_load ?_ | refine WS_load_agg ?_ | refine WS_box_agg rfl ?_ | refine WS_box rfl ?_ | refine WS_makeFunc ?_ | refine WS_extract ?_ | refine WS_field ?_ | refine WS_build ?_ | refine WS_zero ?_ | refine WS_shift (by first | decide | omega) rfl ?_ | refine WS_strcmp rfl ?_ | refine WS_indexAddr (by first | decide | omega) ?_ | refine WS_alloc ?_ | refine WS_store rfl ?_ | refine WS_buildSlice (by decide) rfl rfl (by simp [Value.cells]) ?_ | refine WDK_go ?_ | refine WDT_go ?_ | refine WD_nil ?_ | refine WD_take_off rfl rfl (by first | rfl | assumption) ?_ | refine WD_load rfl ?_ | refine WD_load_on rfl rfl (by first | rfl | assumption) ?_ | refine WD_load_agg rfl ?_ | refine WD_load_agg_on rfl rfl (by first | rfl | assumption) ?_ | refine WD_take rfl rfl ?_ | refine WD_take_on rfl rfl (by first | rfl | assumption) rfl ?_ | refine WD_drop rfl rfl ?_ | refine WD_one rfl ?_) | (refine WS_guard rfl ?_ ?_ <;> intro hg) | (refine V_cond ?_ ?_ <;> intro hc <;> try (cases hc; done)))
  have eX0 : Ext h (h.push (IObj.cells [Value.int IntKind.i64 N, Value.slice a len cap] 24 true)) := Ext.push _ _
  refine WS_call (Check_ref N a len cap xs _ (hx.ext eX0) h64) ?_
  rintro _ H ⟨rfl, eX1⟩
  have eX : Ext h H := eX0.trans eX1
  have c0 : CellIs H h.fresh (0 + 0) (.int .i64 N) := ⟨cell_ext eX1 (inferInstance : CellIs (h.push (IObj.cells [Value.int IntKind.i64 N, Value.slice a len cap] 24 true)) h.fresh (0 + 0) _).eq⟩
  have c1 : CellIs H h.fresh (0 + 1) (.slice a len cap) := ⟨cell_ext eX1 (inferInstance : CellIs (h.push (IObj.cells [Value.int IntKind.i64 N, Value.slice a len cap] 24 true)) h.fresh (0 + 1) _).eq⟩
  repeat' (first | (first | refine V_seq ?_ | refine V_region ?_ | refine WS_nil ?_ | refine S_normal ?_ | refine V_block ?_ | refine B_normal ?_ | refine V_skip ?_ | refine V_exit ?_ | refine V_ret ?_ | refine S_exit ?_ | refine S_ret ?_ | refine B_exit ?_ | refine B_ret ?_ | refine B_pass rfl ?_ | refine WS_off rfl (by first | rfl | assumption) ?_ | refine WS_on rfl (by first | rfl | assumption) ?_ | refine WS_move ?_ | refine WS_assign ?_ | refine WS_pick_t (by first | rfl | assumption) ?_ | refine WS_pick_f (by first | rfl | assumption) ?_ | refine WS_isnil ?_ | refine WS_notnil ?_ | refine WS_cmp rfl ?_ | refine WS_addi (by omega) ?_ | refine WS_subi (by omega) ?_ | refine WS_arith rfl ?_ | refine WS_not ?_ | refine WS_neg ?_ | refine WS_convert ?_ | refine WS_len_slice ?_ | refine WS_len_string ?_ | refine WS_fieldAddr ?_ | refine WS_load ?_ | refine WS_load_agg ?_ | refine WS_box_agg rfl ?_ | refine WS_box rfl ?_ | refine WS_makeFunc ?_ | refine WS_extract ?_ | refine WS_field ?_ | refine WS_build ?_ | refine WS_zero ?_ | refine WS_shift (by first | decide | omega) rfl ?_ | refine WS_strcmp rfl ?_ | refine WS_indexAddr (by first | decide | omega) ?_ | refine WS_alloc ?_ | refine WS_store rfl ?_ | refine WS_buildSlice (by decide) rfl rfl (by simp [Value.cells]) ?_ | refine WDK_go ?_ | refine WDT_go ?_ | refine WD_nil ?_ | refine WD_take_off rfl rfl (by first | rfl | assumption) ?_ | refine WD_load rfl ?_ | refine WD_load_on rfl rfl (by first | rfl | assumption) ?_ | refine WD_load_agg rfl ?_ | refine WD_load_agg_on rfl rfl (by first | rfl | assumption) ?_ | refine WD_take rfl rfl ?_ | refine WD_take_on rfl rfl (by first | rfl | assumption) rfl ?_ | refine WD_drop rfl rfl ?_ | refine WD_one rfl ?_) | (refine WS_guard rfl ?_ ?_ <;> intro hg) | (refine V_cond ?_ ?_ <;> intro hc <;> try (cases hc; done)))
  · have hck : checkS N xs = 0 := by simpa using hg
    have hN : 0 ≤ N ∧ N ≤ 64 ∧ (len : Int) = N := by
      unfold checkS at hck
      split at hck
      · simp at hck
      · rename_i hn; omega
    refine WS_call (below_ref x hx64 N (by omega) _) ?_
    rintro _ H ⟨rfl, rfl⟩
    repeat' (first | (first | refine V_seq ?_ | refine V_region ?_ | refine WS_nil ?_ | refine S_normal ?_ | refine V_block ?_ | refine B_normal ?_ | refine V_skip ?_ | refine V_exit ?_ | refine V_ret ?_ | refine S_exit ?_ | refine S_ret ?_ | refine B_exit ?_ | refine B_ret ?_ | refine B_pass rfl ?_ | refine WS_off rfl (by first | rfl | assumption) ?_ | refine WS_on rfl (by first | rfl | assumption) ?_ | refine WS_move ?_ | refine WS_assign ?_ | refine WS_pick_t (by first | rfl | assumption) ?_ | refine WS_pick_f (by first | rfl | assumption) ?_ | refine WS_isnil ?_ | refine WS_notnil ?_ | refine WS_cmp rfl ?_ | refine WS_addi (by omega) ?_ | refine WS_subi (by omega) ?_ | refine WS_arith rfl ?_ | refine WS_not ?_ | refine WS_neg ?_ | refine WS_convert ?_ | refine WS_len_slice ?_ | refine WS_len_string ?_ | refine WS_fieldAddr ?_ | refine WS_load ?_ | refine WS_load_agg ?_ | refine WS_box_agg rfl ?_ | refine WS_box rfl ?_ | refine WS_makeFunc ?_ | refine WS_extract ?_ | refine WS_field ?_ | refine WS_build ?_ | refine WS_zero ?_ | refine WS_shift (by first | decide | omega) rfl ?_ | refine WS_strcmp rfl ?_ | refine WS_indexAddr (by first | decide | omega) ?_ | refine WS_alloc ?_ | refine WS_store rfl ?_ | refine WS_buildSlice (by decide) rfl rfl (by simp [Value.cells]) ?_ | refine WDK_go ?_ | refine WDT_go ?_ | refine WD_nil ?_ | refine WD_take_off rfl rfl (by first | rfl | assumption) ?_ | refine WD_load rfl ?_ | refine WD_load_on rfl rfl (by first | rfl | assumption) ?_ | refine WD_load_agg rfl ?_ | refine WD_load_agg_on rfl rfl (by first | rfl | assumption) ?_ | refine WD_take rfl rfl ?_ | refine WD_take_on rfl rfl (by first | rfl | assumption) rfl ?_ | refine WD_drop rfl rfl ?_ | refine WD_one rfl ?_) | (refine WS_guard rfl ?_ ?_ <;> intro hg) | (refine V_cond ?_ ?_ <;> intro hc <;> try (cases hc; done)))
    · refine retK_2 ⟨eX, ?_⟩ (.inr rfl)
      rw [if_neg]
      simp at hc; simp [hc]
    · have hbl : belowS N x = true := by simpa using hc
      refine V_loop (fun d s h' => ∃ i : Int, d = (N - i).toNat ∧ 0 ≤ i ∧ i ≤ N ∧ Get s 7 (.int .i64 i) ∧ Get s 1 (.int .u64 x) ∧ Get s 2 (.pointer (some (ad h.fresh 0))) ∧ h' = H ∧ Get s 6 (.int .u64 (applyS i.toNat xs x : Nat))) N.toNat ⟨0, by omega, by omega, by omega, inferInstance, inferInstance, inferInstance, rfl, inferInstanceAs (Get _ 6 (.int .u64 (0 : Int)))⟩ ?_
      rintro d s h' ⟨i, rfl, hi0, hi1, g7, g1, g2, rfl, g6⟩
      repeat' (first | (first | refine V_seq ?_ | refine V_region ?_ | refine WS_nil ?_ | refine S_normal ?_ | refine V_block ?_ | refine B_normal ?_ | refine V_skip ?_ | refine V_exit ?_ | refine V_ret ?_ | refine S_exit ?_ | refine S_ret ?_ | refine B_exit ?_ | refine B_ret ?_ | refine B_pass rfl ?_ | refine WS_off rfl (by first | rfl | assumption) ?_ | refine WS_on rfl (by first | rfl | assumption) ?_ | refine WS_move ?_ | refine WS_assign ?_ | refine WS_pick_t (by first | rfl | assumption) ?_ | refine WS_pick_f (by first | rfl | assumption) ?_ | refine WS_isnil ?_ | refine WS_notnil ?_ | refine WS_cmp rfl ?_ | refine WS_addi (by omega) ?_ | refine WS_subi (by omega) ?_ | refine WS_arith rfl ?_ | refine WS_not ?_ | refine WS_neg ?_ | refine WS_convert ?_ | refine WS_len_slice ?_ | refine WS_len_string ?_ | refine WS_fieldAddr ?_ | refine WS_load ?_ | refine WS_load_agg ?_ | refine WS_box_agg rfl ?_ | refine WS_box rfl ?_ | refine WS_makeFunc ?_ | refine WS_extract ?_ | refine WS_field ?_ | refine WS_build ?_ | refine WS_zero ?_ | refine WS_shift (by first | decide | omega) rfl ?_ | refine WS_strcmp rfl ?_ | refine WS_indexAddr (by first | decide | omega) ?_ | refine WS_alloc ?_ | refine WS_store rfl ?_ | refine WS_buildSlice (by decide) rfl rfl (by simp [Value.cells]) ?_ | refine WDK_go ?_ | refine WDT_go ?_ | refine WD_nil ?_ | refine WD_take_off rfl rfl (by first | rfl | assumption) ?_ | refine WD_load rfl ?_ | refine WD_load_on rfl rfl (by first | rfl | assumption) ?_ | refine WD_load_agg rfl ?_ | refine WD_load_agg_on rfl rfl (by first | rfl | assumption) ?_ | refine WD_take rfl rfl ?_ | refine WD_take_on rfl rfl (by first | rfl | assumption) rfl ?_ | refine WD_drop rfl rfl ?_ | refine WD_one rfl ?_) | (refine WS_guard rfl ?_ ?_ <;> intro hg) | (refine V_cond ?_ ?_ <;> intro hc <;> try (cases hc; done)))
      · have hi : i < N := by simpa using hc
        obtain ⟨b, v, rfl, hv, c2⟩ := (hx.ext eX).at hi0 (show i < (len : Int) by omega)
        obtain ⟨r, rfl, hr⟩ := u64s_at hv
        have hr64 := h64 r (List.mem_of_getElem? hr)
        repeat' (first | (first | refine V_seq ?_ | refine V_region ?_ | refine WS_nil ?_ | refine S_normal ?_ | refine V_block ?_ | refine B_normal ?_ | refine V_skip ?_ | refine V_exit ?_ | refine V_ret ?_ | refine S_exit ?_ | refine S_ret ?_ | refine B_exit ?_ | refine B_ret ?_ | refine B_pass rfl ?_ | refine WS_off rfl (by first | rfl | assumption) ?_ | refine WS_on rfl (by first | rfl | assumption) ?_ | refine WS_move ?_ | refine WS_assign ?_ | refine WS_pick_t (by first | rfl | assumption) ?_ | refine WS_pick_f (by first | rfl | assumption) ?_ | refine WS_isnil ?_ | refine WS_notnil ?_ | refine WS_cmp rfl ?_ | refine WS_addi (by omega) ?_ | refine WS_subi (by omega) ?_ | refine WS_arith rfl ?_ | refine WS_not ?_ | refine WS_neg ?_ | refine WS_convert ?_ | refine WS_len_slice ?_ | refine WS_len_string ?_ | refine WS_fieldAddr ?_ | refine WS_load ?_ | refine WS_load_agg ?_ | refine WS_box_agg rfl ?_ | refine WS_box rfl ?_ | refine WS_makeFunc ?_ | refine WS_extract ?_ | refine WS_field ?_ | refine WS_build ?_ | refine WS_zero ?_ | refine WS_shift (by first | decide | omega) rfl ?_ | refine WS_strcmp rfl ?_ | refine WS_indexAddr (by first | decide | omega) ?_ | refine WS_alloc ?_ | refine WS_store rfl ?_ | refine WS_buildSlice (by decide) rfl rfl (by simp [Value.cells]) ?_ | refine WDK_go ?_ | refine WDT_go ?_ | refine WD_nil ?_ | refine WD_take_off rfl rfl (by first | rfl | assumption) ?_ | refine WD_load rfl ?_ | refine WD_load_on rfl rfl (by first | rfl | assumption) ?_ | refine WD_load_agg rfl ?_ | refine WD_load_agg_on rfl rfl (by first | rfl | assumption) ?_ | refine WD_take rfl rfl ?_ | refine WD_take_on rfl rfl (by first | rfl | assumption) rfl ?_ | refine WD_drop rfl rfl ?_ | refine WD_one rfl ?_) | (refine WS_guard rfl ?_ ?_ <;> intro hg) | (refine V_cond ?_ ?_ <;> intro hc <;> try (cases hc; done)))
        rw [and_u64 hr64 hx64]
        have hand := Nat.and_lt_two_pow r hx64
        refine WS_call (odd_ref (r &&& x) hand _) ?_
        rintro _ _ ⟨rfl, rfl⟩
        repeat' (first | (first | refine V_seq ?_ | refine V_region ?_ | refine WS_nil ?_ | refine S_normal ?_ | refine V_block ?_ | refine B_normal ?_ | refine V_skip ?_ | refine V_exit ?_ | refine V_ret ?_ | refine S_exit ?_ | refine S_ret ?_ | refine B_exit ?_ | refine B_ret ?_ | refine B_pass rfl ?_ | refine WS_off rfl (by first | rfl | assumption) ?_ | refine WS_on rfl (by first | rfl | assumption) ?_ | refine WS_move ?_ | refine WS_assign ?_ | refine WS_pick_t (by first | rfl | assumption) ?_ | refine WS_pick_f (by first | rfl | assumption) ?_ | refine WS_isnil ?_ | refine WS_notnil ?_ | refine WS_cmp rfl ?_ | refine WS_addi (by omega) ?_ | refine WS_subi (by omega) ?_ | refine WS_arith rfl ?_ | refine WS_not ?_ | refine WS_neg ?_ | refine WS_convert ?_ | refine WS_len_slice ?_ | refine WS_len_string ?_ | refine WS_fieldAddr ?_ | refine WS_load ?_ | refine WS_load_agg ?_ | refine WS_box_agg rfl ?_ | refine WS_box rfl ?_ | refine WS_makeFunc ?_ | refine WS_extract ?_ | refine WS_field ?_ | refine WS_build ?_ | refine WS_zero ?_ | refine WS_shift (by first | decide | omega) rfl ?_ | refine WS_strcmp rfl ?_ | refine WS_indexAddr (by first | decide | omega) ?_ | refine WS_alloc ?_ | refine WS_store rfl ?_ | refine WS_buildSlice (by decide) rfl rfl (by simp [Value.cells]) ?_ | refine WDK_go ?_ | refine WDT_go ?_ | refine WD_nil ?_ | refine WD_take_off rfl rfl (by first | rfl | assumption) ?_ | refine WD_load rfl ?_ | refine WD_load_on rfl rfl (by first | rfl | assumption) ?_ | refine WD_load_agg rfl ?_ | refine WD_load_agg_on rfl rfl (by first | rfl | assumption) ?_ | refine WD_take rfl rfl ?_ | refine WD_take_on rfl rfl (by first | rfl | assumption) rfl ?_ | refine WD_drop rfl rfl ?_ | refine WD_one rfl ?_) | (refine WS_guard rfl ?_ ?_ <;> intro hg) | (refine V_cond ?_ ?_ <;> intro hc <;> try (cases hc; done)))
        have hodd : oddS (r &&& x) ≤ 1 := oddK_le _ _
        have hlt : applyS i.toNat xs x < 2 ^ 64 := Nat.lt_of_lt_of_le (orK_lt _ fun _ _ => oddK_le _ _) (Nat.pow_le_pow_right (by decide) (by omega))
        rw [shl_bit hodd hi0 (by omega), or_u64 hlt (bit_shl_lt hodd (by omega))]
        refine ⟨_, ?_, i + 1, rfl, by omega, by omega, inferInstance, inferInstance, inferInstance, rfl, ?_⟩
        · omega
        · rw [toNat_succ hi0]
          have : applyS (i.toNat + 1) xs x = applyS i.toNat xs x ||| oddS (r &&& x) <<< i.toNat := by
            simp only [applyS, orK]
            rw [List.getD_eq_getElem?_getD, hr]; rfl
          rw [this]; infer_instance
      · have hi : i = N := by simp at hc; omega
        subst hi
        refine retK_2 ⟨eX, ?_⟩ (.inr rfl)
        rw [if_pos ⟨hck, hbl⟩]
  · refine retK_2 ⟨eX, ?_⟩ (.inr rfl)
    rw [if_neg]
    simp at hg; simp [hg]
instance : CallIs Try.prog 18 := .of Try.func18 rfl rfl
end Go.Ideal

-- Ld
set_option linter.unusedSimpArgs false
set_option linter.unusedVariables false
namespace Go.Ideal
open Go Go.Proofs
theorem NeB.fresh {h h' : IHp} (hlt : h.fresh < h'.fresh) : NeB h.fresh h'.fresh := ⟨by unfold IHp.fresh at *; omega⟩
theorem NeB.fresh' {h h' : IHp} (hlt : h.fresh < h'.fresh) : NeB h'.fresh h.fresh := (NeB.fresh hlt).symm
theorem checkS_zero {N : Int} {xs : List Nat} (h : checkS N xs = 0) : 0 ≤ N ∧ N ≤ 64 ∧ (xs.length : Int) = N ∧ ∀ x ∈ xs, belowS N x = true := by
  unfold checkS at h
  split at h
  · simp at h
  · rename_i hn
    split at h
    · rename_i ha; exact ⟨by omega, by omega, by omega, List.all_eq_true.1 ha⟩
    · simp at h
/-- a slice of one's own is a slice -/
theorem Lst.getSl {lo : Nat} {h : IHp} {a : Option Addr} {n m : Nat} {vs : List Value} {t : TypeId} (x : Lst lo h (.slice a n m) vs t) : SlIs h a n m vs := by
  obtain ⟨a', h1, h2⟩ := x.sl
  simp only [Value.slice.injEq] at h1
  obtain ⟨rfl, rfl, rfl⟩ := h1
  exact h2

def turnedRow (n : Nat) (xs : List Nat) (i : Nat) : Nat := orK (fun j => (xs.getD j 0 >>> i) &&& 1) n
def turnedS (n : Nat) (xs : List Nat) (k : Nat) : List Nat := (List.range k).map (turnedRow n xs)
theorem turnedS_succ (n : Nat) (xs : List Nat) (k : Nat) : u64s (turnedS n xs (k + 1)) = u64s (turnedS n xs k) ++ [.int .u64 (turnedRow n xs k : Nat)] := by
  simp [u64s, turnedS, List.range_succ]
theorem turnedS_len (n : Nat) (xs : List Nat) (k : Nat) : (u64s (turnedS n xs k)).length = k := by simp [u64s, turnedS]
theorem Turned_ref (N : Int) (a : Option Addr) (len cap : Nat) (xs : List Nat) (h : IHp) (hx : SlIs h a len cap (u64s xs)) (h64 : ∀ x ∈ xs, x < 2 ^ 64) (hck : checkS N xs = 0) :
    EvX Try.prog 23 [.agg [.int .i64 N, .slice a len cap].toArray].toArray h (fun v h' => Ext h h' ∧ ∃ sl, v = .agg [.int .i64 N, sl].toArray ∧ Lst h.fresh h' sl (u64s (turnedS N.toNat xs N.toNat)) 25) := by
  have hlen : xs.length = len := by have := hx.1; simpa [u64s] using this
  obtain ⟨hN0, hN1, hN2, hbel⟩ := checkS_zero hck
  refine EvX_of Try.func23 rfl (by show 1 ≤ 41; decide) ?_
  repeat' (first | (first | refine V_seq ?_ | refine V_region ?_ | refine WS_nil ?_ | refine S_normal ?_ | refine V_block ?_ | refine B_normal ?_ | refine V_skip ?_ | refine V_exit ?_ | refine V_ret ?_ | refine S_exit ?_ | refine S_ret ?_ | refine B_exit ?_ | refine B_ret ?_ | refine B_pass rfl ?_ | refine WS_off rfl (by first | rfl | assumption) ?_ | refine WS_on rfl (by first | rfl | assumption) ?_ | refine WS_move ?_ | refine WS_assign ?_ | refine WS_pick_t (by first | rfl | assumption) ?_ | refine WS_pick_f (by first | rfl | assumption) ?_ | refine WS_isnil ?_ | refine WS_notnil ?_ | refine WS_cmp rfl ?_ | refine WS_addi (by omega) ?_ | refine WS_subi (by omega) ?_ | refine WS_arith rfl ?_ | refine WS_not ?_ | refine WS_neg ?_ | refine WS_convert ?_ | refine WS_len_slice ?_ | refine WS_len_string ?_ | refine WS_fieldAddr ?_ | refine WS_load ?_ | refine WS_load_agg ?_ | refine WS_box_agg rfl ?_ | refine WS_box rfl ?_ | refine WS_makeFunc ?_ | refine WS_extract ?_ | refine WS_field ?_ | refine WS_build ?_ | refine WS_zero ?_ | refine WS_shift (by first | decide | omega) rfl ?_ | refine WS_strcmp rfl ?_ | refine WS_indexAddr (by first | decide | omega) ?_ | refine WS_alloc ?_ | refine WS_store rfl ?_ | refine WS_buildSlice (by decide) rfl rfl (by simp [Value.cells]) ?_ | refine WDK_go ?_ | refine WDT_go ?_ | refine WD_nil ?_ | refine WD_take_off rfl rfl (by first | rfl | assumption) ?_ | refine WD_load rfl ?_ | refine WD_load_on rfl rfl (by first | rfl | assumption) ?_ | refine WD_load_agg rfl ?_ | refine WD_load_agg_on rfl rfl (by first | rfl | assumption) ?_ | refine WD_take rfl rfl ?_ | refine WD_take_on rfl rfl (by first | rfl | assumption) rfl ?_ | refine WD_drop rfl rfl ?_ | refine WD_one rfl ?_) | (refine WS_guard rfl ?_ ?_ <;> intro hg) | (refine V_cond ?_ ?_ <;> intro hc <;> try (cases hc; done)))
  obtain ⟨H1, hH1⟩ : ∃ H, H = h.push (IObj.cells [Value.int IntKind.i64 N, Value.slice a len cap] 24 true) := ⟨_, rfl⟩
  have f1 : H1.fresh = h.fresh + 2 := by rw [hH1, push_fresh]
  have e1 : Ext h H1 := hH1 ▸ Ext.push _ _
  have c0 : CellIs H1 h.fresh (0 + 0) (.int .i64 N) := hH1 ▸ inferInstance
  have c1 : CellIs H1 h.fresh (0 + 1) (.slice a len cap) := hH1 ▸ inferInstance
  rw [← hH1]
  obtain ⟨H2, hH2⟩ : ∃ H, H = H1.push (IObj.cells [Value.int IntKind.i64 0, Value.slice none 0 0] 24 true) := ⟨_, rfl⟩
  have f2 : H2.fresh = h.fresh + 4 := by rw [hH2, push_fresh, f1]
  have e2 : Ext H1 H2 := hH2 ▸ Ext.push _ _
  have o2 : ObjIs H2 H1.fresh [.int .i64 0, .slice none 0 0] 24 true := hH2 ▸ inferInstance
  rw [← hH2]
  have n12 : NeB H1.fresh H2.fresh := .fresh (by omega)
  have n21 : NeB H2.fresh H1.fresh := .fresh' (by omega)
  have n02 : NeB h.fresh H2.fresh := .fresh (by omega)
  have n01 : NeB h.fresh H1.fresh := .fresh (by omega)
  refine V_loop (fun d s h' => ∃ (i : Int) (sl : Value), d = (N - i).toNat ∧ 0 ≤ i ∧ i ≤ N ∧ Get s 4 (.int .i64 i) ∧ Get s 1 (.pointer (some (ad h.fresh 0))) ∧ Get s 2 (.pointer (some (ad H1.fresh 0))) ∧ Get s 3 (.pointer (some (ad H2.fresh 0))) ∧ Ext H1 h' ∧ ObjIs h' H1.fresh [.int .i64 0, .slice none 0 0] 24 true ∧ ObjIs h' H2.fresh [.int .i64 N, sl] 24 true ∧ Lst H1.fresh h' sl (u64s (turnedS N.toNat xs i.toNat)) 25 ∧ blockOf sl ≠ some H1.fresh ∧ blockOf sl ≠ some H2.fresh) N.toNat
    ⟨0, .slice none 0 0, by omega, by omega, by omega, inferInstance, inferInstance, inferInstance, inferInstance, (e2.push' _).putObj (by omega), inferInstance, inferInstance, .inl ⟨rfl, rfl⟩, by simp [blockOf], by simp [blockOf]⟩ ?_
  rintro d s h' ⟨i, sl, rfl, hi0, hi1, g4, g1, g2, g3, eX, p2, p3, hL, hb2, hb3⟩
  repeat' (first | (first | refine V_seq ?_ | refine V_region ?_ | refine WS_nil ?_ | refine S_normal ?_ | refine V_block ?_ | refine B_normal ?_ | refine V_skip ?_ | refine V_exit ?_ | refine V_ret ?_ | refine S_exit ?_ | refine S_ret ?_ | refine B_exit ?_ | refine B_ret ?_ | refine B_pass rfl ?_ | refine WS_off rfl (by first | rfl | assumption) ?_ | refine WS_on rfl (by first | rfl | assumption) ?_ | refine WS_move ?_ | refine WS_assign ?_ | refine WS_pick_t (by first | rfl | assumption) ?_ | refine WS_pick_f (by first | rfl | assumption) ?_ | refine WS_isnil ?_ | refine WS_notnil ?_ | refine WS_cmp rfl ?_ | refine WS_addi (by omega) ?_ | refine WS_subi (by omega) ?_ | refine WS_arith rfl ?_ | refine WS_not ?_ | refine WS_neg ?_ | refine WS_convert ?_ | refine WS_len_slice ?_ | refine WS_len_string ?_ | refine WS_fieldAddr ?_ | refine WS_load ?_ | refine WS_load_agg ?_ | refine WS_box_agg rfl ?_ | refine WS_box rfl ?_ | refine WS_makeFunc ?_ | refine WS_extract ?_ | refine WS_field ?_ | refine WS_build ?_ | refine WS_zero ?_ | refine WS_shift (by first | decide | omega) rfl ?_ | refine WS_strcmp rfl ?_ | refine WS_indexAddr (by first | decide | omega) ?_ | refine WS_alloc ?_ | refine WS_store rfl ?_ | refine WS_buildSlice (by decide) rfl rfl (by simp [Value.cells]) ?_ | refine WDK_go ?_ | refine WDT_go ?_ | refine WD_nil ?_ | refine WD_take_off rfl rfl (by first | rfl | assumption) ?_ | refine WD_load rfl ?_ | refine WD_load_on rfl rfl (by first | rfl | assumption) ?_ | refine WD_load_agg rfl ?_ | refine WD_load_agg_on rfl rfl (by first | rfl | assumption) ?_ | refine WD_take rfl rfl ?_ | refine WD_take_on rfl rfl (by first | rfl | assumption) rfl ?_ | refine WD_drop rfl rfl ?_ | refine WD_one rfl ?_) | (refine WS_guard rfl ?_ ?_ <;> intro hg) | (refine V_cond ?_ ?_ <;> intro hc <;> try (cases hc; done)))
  · have hi : i < N := by simpa using hc
    refine V_loop (fun d s h'' => ∃ (j : Int), d = (N - j).toNat ∧ 0 ≤ j ∧ j ≤ N ∧ Get s 6 (.int .i64 j) ∧ Get s 4 (.int .i64 i) ∧ Get s 1 (.pointer (some (ad h.fresh 0))) ∧ Get s 2 (.pointer (some (ad H1.fresh 0))) ∧ Get s 3 (.pointer (some (ad H2.fresh 0))) ∧ h'' = h' ∧ Get s 5 (.int .u64 (orK (fun j => (xs.getD j 0 >>> i.toNat) &&& 1) j.toNat : Nat))) N.toNat
      ⟨0, by omega, by omega, by omega, inferInstance, inferInstance, inferInstance, inferInstance, inferInstance, rfl, inferInstanceAs (Get _ 5 (.int .u64 (0 : Int)))⟩ ?_
    rintro d s h'' ⟨j, rfl, hj0, hj1, g6, g4, g1, g2, g3, rfl, g5⟩
    repeat' (first | (first | refine V_seq ?_ | refine V_region ?_ | refine WS_nil ?_ | refine S_normal ?_ | refine V_block ?_ | refine B_normal ?_ | refine V_skip ?_ | refine V_exit ?_ | refine V_ret ?_ | refine S_exit ?_ | refine S_ret ?_ | refine B_exit ?_ | refine B_ret ?_ | refine B_pass rfl ?_ | refine WS_off rfl (by first | rfl | assumption) ?_ | refine WS_on rfl (by first | rfl | assumption) ?_ | refine WS_move ?_ | refine WS_assign ?_ | refine WS_pick_t (by first | rfl | assumption) ?_ | refine WS_pick_f (by first | rfl | assumption) ?_ | refine WS_isnil ?_ | refine WS_notnil ?_ | refine WS_cmp rfl ?_ | refine WS_addi (by omega) ?_ | refine WS_subi (by omega) ?_ | refine WS_arith rfl ?_ | refine WS_not ?_ | refine WS_neg ?_ | refine WS_convert ?_ | refine WS_len_slice ?_ | refine WS_len_string ?_ | refine WS_fieldAddr ?_ | refine WS_load ?_ | refine WS_load_agg ?_ | refine WS_box_agg rfl ?_ | refine WS_box rfl ?_ | refine WS_makeFunc ?_ | refine WS_extract ?_ | refine WS_field ?_ | refine WS_build ?_ | refine WS_zero ?_ | refine WS_shift (by first | decide | omega) rfl ?_ | refine WS_strcmp rfl ?_ | refine WS_indexAddr (by first | decide | omega) ?_ | refine WS_alloc ?_ | refine WS_store rfl ?_ | refine WS_buildSlice (by decide) rfl rfl (by simp [Value.cells]) ?_ | refine WDK_go ?_ | refine WDT_go ?_ | refine WD_nil ?_ | refine WD_take_off rfl rfl (by first | rfl | assumption) ?_ | refine WD_load rfl ?_ | refine WD_load_on rfl rfl (by first | rfl | assumption) ?_ | refine WD_load_agg rfl ?_ | refine WD_load_agg_on rfl rfl (by first | rfl | assumption) ?_ | refine WD_take rfl rfl ?_ | refine WD_take_on rfl rfl (by first | rfl | assumption) rfl ?_ | refine WD_drop rfl rfl ?_ | refine WD_one rfl ?_) | (refine WS_guard rfl ?_ ?_ <;> intro hg) | (refine V_cond ?_ ?_ <;> intro hc <;> try (cases hc; done)))
    · have hj : j < N := by simpa using hc
      obtain ⟨b, v, rfl, hv, c2⟩ := ((hx.ext e1).ext eX).at hj0 (show j < (len : Int) by omega)
      obtain ⟨r, rfl, hr⟩ := u64s_at hv
      have hr64 := h64 r (List.mem_of_getElem? hr)
      repeat' (first | (first | refine V_seq ?_ | refine V_region ?_ | refine WS_nil ?_ | refine S_normal ?_ | refine V_block ?_ | refine B_normal ?_ | refine V_skip ?_ | refine V_exit ?_ | refine V_ret ?_ | refine S_exit ?_ | refine S_ret ?_ | refine B_exit ?_ | refine B_ret ?_ | refine B_pass rfl ?_ | refine WS_off rfl (by first | rfl | assumption) ?_ | refine WS_on rfl (by first | rfl | assumption) ?_ | refine WS_move ?_ | refine WS_assign ?_ | refine WS_pick_t (by first | rfl | assumption) ?_ | refine WS_pick_f (by first | rfl | assumption) ?_ | refine WS_isnil ?_ | refine WS_notnil ?_ | refine WS_cmp rfl ?_ | refine WS_addi (by omega) ?_ | refine WS_subi (by omega) ?_ | refine WS_arith rfl ?_ | refine WS_not ?_ | refine WS_neg ?_ | refine WS_convert ?_ | refine WS_len_slice ?_ | refine WS_len_string ?_ | refine WS_fieldAddr ?_ | refine WS_load ?_ | refine WS_load_agg ?_ | refine WS_box_agg rfl ?_ | refine WS_box rfl ?_ | refine WS_makeFunc ?_ | refine WS_extract ?_ | refine WS_field ?_ | refine WS_build ?_ | refine WS_zero ?_ | refine WS_shift (by first | decide | omega) rfl ?_ | refine WS_strcmp rfl ?_ | refine WS_indexAddr (by first | decide | omega) ?_ | refine WS_alloc ?_ | refine WS_store rfl ?_ | refine WS_buildSlice (by decide) rfl rfl (by simp [Value.cells]) ?_ | refine WDK_go ?_ | refine WDT_go ?_ | refine WD_nil ?_ | refine WD_take_off rfl rfl (by first | rfl | assumption) ?_ | refine WD_load rfl ?_ | refine WD_load_on rfl rfl (by first | rfl | assumption) ?_ | refine WD_load_agg rfl ?_ | refine WD_load_agg_on rfl rfl (by first | rfl | assumption) ?_ | refine WD_take rfl rfl ?_ | refine WD_take_on rfl rfl (by first | rfl | assumption) rfl ?_ | refine WD_drop rfl rfl ?_ | refine WD_one rfl ?_) | (refine WS_guard rfl ?_ ?_ <;> intro hg) | (refine V_cond ?_ ?_ <;> intro hc <;> try (cases hc; done)))
      have hbit := bit_le (r >>> i.toNat)
      have hlt : orK (fun j => (xs.getD j 0 >>> i.toNat) &&& 1) j.toNat < 2 ^ 64 := Nat.lt_of_lt_of_le (orK_lt _ fun _ _ => bit_le _) (Nat.pow_le_pow_right (by decide) (by omega))
      rw [shr_u64 hi0 hr64, and1_u64 (shr_lt _ hr64), shl_bit hbit hj0 (by omega), or_u64 hlt (bit_shl_lt hbit (by omega))]
      refine ⟨_, ?_, j + 1, rfl, by omega, by omega, inferInstance, inferInstance, inferInstance, inferInstance, inferInstance, rfl, ?_⟩
      · omega
      · rw [toNat_succ hj0]
        have : orK (fun j => (xs.getD j 0 >>> i.toNat) &&& 1) (j.toNat + 1) = orK (fun j => (xs.getD j 0 >>> i.toNat) &&& 1) j.toNat ||| (r >>> i.toNat &&& 1) <<< j.toNat := by
          simp only [orK]
          rw [List.getD_eq_getElem?_getD, hr]; rfl
        rw [this]; infer_instance
    · have hj : j = N := by simp at hc; omega
      subst hj
      obtain ⟨a', rfl⟩ := hL.isSlice
      repeat' (first | (first | refine V_seq ?_ | refine V_region ?_ | refine WS_nil ?_ | refine S_normal ?_ | refine V_block ?_ | refine B_normal ?_ | refine V_skip ?_ | refine V_exit ?_ | refine V_ret ?_ | refine S_exit ?_ | refine S_ret ?_ | refine B_exit ?_ | refine B_ret ?_ | refine B_pass rfl ?_ | refine WS_off rfl (by first | rfl | assumption) ?_ | refine WS_on rfl (by first | rfl | assumption) ?_ | refine WS_move ?_ | refine WS_assign ?_ | refine WS_pick_t (by first | rfl | assumption) ?_ | refine WS_pick_f (by first | rfl | assumption) ?_ | refine WS_isnil ?_ | refine WS_notnil ?_ | refine WS_cmp rfl ?_ | refine WS_addi (by omega) ?_ | refine WS_subi (by omega) ?_ | refine WS_arith rfl ?_ | refine WS_not ?_ | refine WS_neg ?_ | refine WS_convert ?_ | refine WS_len_slice ?_ | refine WS_len_string ?_ | refine WS_fieldAddr ?_ | refine WS_load ?_ | refine WS_load_agg ?_ | refine WS_box_agg rfl ?_ | refine WS_box rfl ?_ | refine WS_makeFunc ?_ | refine WS_extract ?_ | refine WS_field ?_ | refine WS_build ?_ | refine WS_zero ?_ | refine WS_shift (by first | decide | omega) rfl ?_ | refine WS_strcmp rfl ?_ | refine WS_indexAddr (by first | decide | omega) ?_ | refine WS_alloc ?_ | refine WS_store rfl ?_ | refine WS_buildSlice (by decide) rfl rfl (by simp [Value.cells]) ?_ | refine WDK_go ?_ | refine WDT_go ?_ | refine WD_nil ?_ | refine WD_take_off rfl rfl (by first | rfl | assumption) ?_ | refine WD_load rfl ?_ | refine WD_load_on rfl rfl (by first | rfl | assumption) ?_ | refine WD_load_agg rfl ?_ | refine WD_load_agg_on rfl rfl (by first | rfl | assumption) ?_ | refine WD_take rfl rfl ?_ | refine WD_take_on rfl rfl (by first | rfl | assumption) rfl ?_ | refine WD_drop rfl rfl ?_ | refine WD_one rfl ?_) | (refine WS_guard rfl ?_ ?_ <;> intro hg) | (refine V_cond ?_ ?_ <;> intro hc <;> try (cases hc; done)))
      refine WS_append1 (lo := H1.fresh) (hL.ext (Ext.push _ _)) (by rw [push_fresh]; have := eX.fresh; omega) (by rw [turnedS_len]; omega) ?_
      intro v' h2 hL2 m2 hb
      have q2 : ObjIs h2 H1.fresh _ 24 true := m2.obj inferInstance hb2
      have q3 : ObjIs h2 H2.fresh _ 24 true := m2.obj inferInstance hb3
      have e3 : Ext H1 h2 := m2.ext (eX.push' _) (hL.ext (Ext.push _ _))
      have l2 := p2.lt
      have l3 := p3.lt
      rw [push_fresh] at hb
      obtain ⟨a'', rfl⟩ := hL2.isSlice
      repeat' (first | (first | refine V_seq ?_ | refine V_region ?_ | refine WS_nil ?_ | refine S_normal ?_ | refine V_block ?_ | refine B_normal ?_ | refine V_skip ?_ | refine V_exit ?_ | refine V_ret ?_ | refine S_exit ?_ | refine S_ret ?_ | refine B_exit ?_ | refine B_ret ?_ | refine B_pass rfl ?_ | refine WS_off rfl (by first | rfl | assumption) ?_ | refine WS_on rfl (by first | rfl | assumption) ?_ | refine WS_move ?_ | refine WS_assign ?_ | refine WS_pick_t (by first | rfl | assumption) ?_ | refine WS_pick_f (by first | rfl | assumption) ?_ | refine WS_isnil ?_ | refine WS_notnil ?_ | refine WS_cmp rfl ?_ | refine WS_addi (by omega) ?_ | refine WS_subi (by omega) ?_ | refine WS_arith rfl ?_ | refine WS_not ?_ | refine WS_neg ?_ | refine WS_convert ?_ | refine WS_len_slice ?_ | refine WS_len_string ?_ | refine WS_fieldAddr ?_ | refine WS_load ?_ | refine WS_load_agg ?_ | refine WS_box_agg rfl ?_ | refine WS_box rfl ?_ | refine WS_makeFunc ?_ | refine WS_extract ?_ | refine WS_field ?_ | refine WS_build ?_ | refine WS_zero ?_ | refine WS_shift (by first | decide | omega) rfl ?_ | refine WS_strcmp rfl ?_ | refine WS_indexAddr (by first | decide | omega) ?_ | refine WS_alloc ?_ | refine WS_store rfl ?_ | refine WS_buildSlice (by decide) rfl rfl (by simp [Value.cells]) ?_ | refine WDK_go ?_ | refine WDT_go ?_ | refine WD_nil ?_ | refine WD_take_off rfl rfl (by first | rfl | assumption) ?_ | refine WD_load rfl ?_ | refine WD_load_on rfl rfl (by first | rfl | assumption) ?_ | refine WD_load_agg rfl ?_ | refine WD_load_agg_on rfl rfl (by first | rfl | assumption) ?_ | refine WD_take rfl rfl ?_ | refine WD_take_on rfl rfl (by first | rfl | assumption) rfl ?_ | refine WD_drop rfl rfl ?_ | refine WD_one rfl ?_) | (refine WS_guard rfl ?_ ?_ <;> intro hg) | (refine V_cond ?_ ?_ <;> intro hc <;> try (cases hc; done)))
      refine ⟨_, ?_, i + 1, _, rfl, by omega, by omega, inferInstance, inferInstance, inferInstance, inferInstance, e3.putObj (by omega), inferInstance, inferInstance, ?_, ?_, ?_⟩
      · omega
      · rw [toNat_succ hi0, turnedS_succ]; exact hL2.put (by rw [hb]; intro hh; have := Option.some.inj hh; omega) p3.even
      · rw [hb]; intro hh; have := Option.some.inj hh; omega
      · rw [hb]; intro hh; have := Option.some.inj hh; omega
  · have hi : i = N := by simp at hc; omega
    subst hi
    obtain ⟨a', rfl⟩ := hL.isSlice
    repeat' (first | (first | refine V_seq ?_ | refine V_region ?_ | refine WS_nil ?_ | refine S_normal ?_ | refine V_block ?_ | refine B_normal ?_ | refine V_skip ?_ | refine V_exit ?_ | refine V_ret ?_ | refine S_exit ?_ | refine S_ret ?_ | refine B_exit ?_ | refine B_ret ?_ | refine B_pass rfl ?_ | refine WS_off rfl (by first | rfl | assumption) ?_ | refine WS_on rfl (by first | rfl | assumption) ?_ | refine WS_move ?_ | refine WS_assign ?_ | refine WS_pick_t (by first | rfl | assumption) ?_ | refine WS_pick_f (by first | rfl | assumption) ?_ | refine WS_isnil ?_ | refine WS_notnil ?_ | refine WS_cmp rfl ?_ | refine WS_addi (by omega) ?_ | refine WS_subi (by omega) ?_ | refine WS_arith rfl ?_ | refine WS_not ?_ | refine WS_neg ?_ | refine WS_convert ?_ | refine WS_len_slice ?_ | refine WS_len_string ?_ | refine WS_fieldAddr ?_ | refine WS_load ?_ | refine WS_load_agg ?_ | refine WS_box_agg rfl ?_ | refine WS_box rfl ?_ | refine WS_makeFunc ?_ | refine WS_extract ?_ | refine WS_field ?_ | refine WS_build ?_ | refine WS_zero ?_ | refine WS_shift (by first | decide | omega) rfl ?_ | refine WS_strcmp rfl ?_ | refine WS_indexAddr (by first | decide | omega) ?_ | refine WS_alloc ?_ | refine WS_store rfl ?_ | refine WS_buildSlice (by decide) rfl rfl (by simp [Value.cells]) ?_ | refine WDK_go ?_ | refine WDT_go ?_ | refine WD_nil ?_ | refine WD_take_off rfl rfl (by first | rfl | assumption) ?_ | refine WD_load rfl ?_ | refine WD_load_on rfl rfl (by first | rfl | assumption) ?_ | refine WD_load_agg rfl ?_ | refine WD_load_agg_on rfl rfl (by first | rfl | assumption) ?_ | refine WD_take rfl rfl ?_ | refine WD_take_on rfl rfl (by first | rfl | assumption) rfl ?_ | refine WD_drop rfl rfl ?_ | refine WD_one rfl ?_) | (refine WS_guard rfl ?_ ?_ <;> intro hg) | (refine V_cond ?_ ?_ <;> intro hc <;> try (cases hc; done)))
    refine retK_c ⟨(e1.trans eX).putObj (by omega), _, rfl, ?_⟩ (.inr rfl)
    have := hL.put (o := IObj.cells [Value.int IntKind.i64 i, Value.slice a' (u64s (turnedS i.toNat xs i.toNat)).length (u64s (turnedS i.toNat xs i.toNat)).length] 24 true) hb2 p2.even
    rcases this with ⟨h1, h2⟩ | ⟨b, h1, h2⟩
    · exact .inl ⟨h1, h2⟩
    · exact .inr ⟨b, by omega, h2⟩
instance : CallIs Try.prog 23 := .of Try.func23 rfl rfl
end Go.Ideal
