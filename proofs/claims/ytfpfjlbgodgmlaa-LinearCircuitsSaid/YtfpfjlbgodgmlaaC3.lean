/- Part 3 of what the proof stands on: an interpreter over an ideal memory that is proved sound, steps over it, and contracts of the functions that are called. No condition: no law is claimed here. -/
import Derived.Test.YtfpfjlbgodgmlaaC2
import Derived.Laws.Strings
-- IdealW
set_option linter.unusedSimpArgs false
set_option linter.unusedVariables false
namespace Go.Ideal
open Go Go.RowKit
variable {P : Program} {E : Env} {s : Nat → Value} {h : IHp} {ops : Array Oper} {K : SK} {l : List Oper} {d : Option Tmp} {ty : TypeId} {pos : String} {af : Array Edge}

/-! ### Objects of one's own -/
class ObjIs (h : IHp) (b : Nat) (c : outParam (List Value)) (t : outParam TypeId) (x : outParam Bool) : Prop where
  even : b % 2 = 0
  eq : h.new[b / 2]? = some (.cells c t x)
def IHp.putObj (h : IHp) (b : Nat) (o : IObj) : IHp := { h with new := h.new.set (b / 2) o }
abbrev IHp.put (h : IHp) (b : Nat) (c : List Value) (t : TypeId) (x : Bool) : IHp := h.putObj b (.cells c t x)
theorem ObjIs.lt {b : Nat} {c : List Value} {t : TypeId} {x : Bool} (o : ObjIs h b c t x) : b < h.fresh := by
  have := (List.getElem?_eq_some_iff.1 o.eq).1
  have := o.even
  unfold IHp.fresh; omega
instance (priority := 1000) ObjIs.pushed {c : List Value} {t : TypeId} {x : Bool} : ObjIs (h.push (.cells c t x)) h.fresh c t x := ⟨by unfold IHp.fresh; omega, obj_push h _⟩
instance (priority := 900) ObjIs.push {o : IObj} {b : Nat} {c : List Value} {t : TypeId} {x : Bool} [i : ObjIs h b c t x] : ObjIs (h.push o) b c t x := ⟨i.even, (Ext.push h o).new _ _ i.eq⟩
instance (priority := 500) ObjIs.ext {h' : IHp} {b : Nat} {c : List Value} {t : TypeId} {x : Bool} [e : Ext h h'] [i : ObjIs h b c t x] : ObjIs h' b c t x := ⟨i.even, e.new _ _ i.eq⟩
theorem ObjIs.put {b : Nat} {c c' : List Value} {t t' : TypeId} {x x' : Bool} (i : ObjIs h b c' t' x') : ObjIs (h.put b c t x) b c t x := ⟨i.even, by
  have := (List.getElem?_eq_some_iff.1 i.eq).1
  simp [IHp.put, IHp.putObj, this]⟩
instance (priority := 1000) ObjIs.putI {b : Nat} {c c' : List Value} {t t' : TypeId} {x x' : Bool} [i : ObjIs h b c' t' x'] : ObjIs (h.put b c t x) b c t x := i.put
/-- two blocks are two -/
class NeB (a b : Nat) : Prop where eq : a / 2 ≠ b / 2
theorem NeB.of {a b : Nat} (ha : a % 2 = 0) (hb : b % 2 = 0) (h : a ≠ b) : NeB a b := ⟨by omega⟩
theorem NeB.lt {h : IHp} {a b : Nat} {c : List Value} {t : TypeId} {x : Bool} (o : ObjIs h a c t x) (hb : h.fresh ≤ b) : NeB a b := ⟨by have := o.lt; have := o.even; unfold IHp.fresh at *; omega⟩
theorem NeB.symm {a b : Nat} (n : NeB a b) : NeB b a := ⟨fun h => n.eq h.symm⟩
instance (priority := 800) ObjIs.put_ne {b b' : Nat} {c : List Value} {t : TypeId} {x : Bool} {o : IObj} [n : NeB b' b] [i : ObjIs h b' c t x] : ObjIs (h.putObj b o) b' c t x := ⟨i.even, by
  have h1 := i.eq
  have h3 := n.eq
  simp only [IHp.putObj]
  rw [List.getElem?_set_ne (fun h => h3 h.symm)]; exact h1⟩
theorem putObj_fresh (h : IHp) (b : Nat) (o : IObj) : (h.putObj b o).fresh = h.fresh := by simp [IHp.fresh, IHp.putObj]
theorem push_fresh (h : IHp) (o : IObj) : (h.push o).fresh = h.fresh + 2 := by simp [IHp.fresh, IHp.push]; omega
theorem Ext.putObj {h0 h : IHp} (e : Ext h0 h) {b : Nat} {o : IObj} (hb : h0.fresh ≤ b) : Ext h0 (h.putObj b o) := ⟨e.old, fun i o' hi => by
  have h1 := (List.getElem?_eq_some_iff.1 hi).1
  simp only [IHp.putObj]
  rw [List.getElem?_set_ne (by unfold IHp.fresh at hb; omega)]
  exact e.new i o' hi⟩
theorem Ext.push' {h0 h : IHp} (e : Ext h0 h) (o : IObj) : Ext h0 (h.push o) := e.trans (Ext.push h o)
theorem ObjIs.cell {b off : Nat} {c : List Value} {t : TypeId} {x : Bool} (i : ObjIs h b c t x) : h.cell? b off = c[off]? := by
  unfold IHp.cell?
  have := i.even
  rw [if_neg (by omega), i.eq]
instance (priority := 400) CellIs.obj {b off : Nat} {c : List Value} {t : TypeId} {x : Bool} {v : Value} [i : ObjIs h b c t x] [n : Nth c off v] : CellIs h b off v := ⟨by rw [i.cell]; exact n.eq⟩
instance (priority := 700) CellIs.put_ne {b b' off : Nat} {v : Value} {o : IObj} [n : NeB b' b] [i : CellIs h b' off v] : CellIs (h.putObj b o) b' off v := ⟨by
  have h1 := i.eq
  unfold IHp.cell? at *
  simp only [IHp.putObj]
  split
  · rename_i hb; rw [if_pos hb] at h1; exact h1
  · rename_i hb; rw [if_neg hb] at h1; rw [List.getElem?_set_ne (fun h => n.eq h.symm)]; exact h1⟩
theorem row_obj {b n : Nat} {c : List Value} {t : TypeId} {x : Bool} (i : ObjIs h b c t x) : ∀ off, off + n ≤ c.length → h.row b off n = some ((c.drop off).take n) := by
  induction n with
  | zero => intro off _; simp [IHp.row]
  | succ n ih =>
    intro off ho
    have hd : c.drop off = c[off] :: c.drop (off + 1) := by rw [List.drop_eq_getElem_cons (by omega)]
    simp only [IHp.row, i.cell, List.getElem?_eq_getElem (show off < c.length by omega), Option.bind_some, ih (off + 1) (by omega), hd, List.take_succ_cons]

/-! ### Changes -/
def setAll (c : List Value) : Nat → List Value → List Value
  | _, [] => c
  | off, w :: ws => setAll (c.set off w) (off + 1) ws
theorem setRow_obj : ∀ (ws : List Value) {h : IHp} {b : Nat} {c : List Value} {t : TypeId} {x : Bool} (i : ObjIs h b c t x) (off : Nat), off + ws.length ≤ c.length → h.setRow b off ws = some (h.put b (setAll c off ws) t x) := by
  intro ws
  induction ws with
  | nil =>
    intro h b c t x i off _
    simp only [IHp.setRow, setAll, IHp.put, IHp.putObj]
    congr 1
    cases h with | mk o n =>
    simp only [IHp.mk.injEq, true_and]
    have h1 := i.eq
    apply List.ext_getElem?
    intro j
    by_cases hj : j = b / 2
    · subst hj
      have := (List.getElem?_eq_some_iff.1 h1).1
      rw [List.getElem?_set_self this]; exact h1
    · rw [List.getElem?_set_ne (fun h => hj h.symm)]
  | cons w ws ih =>
    intro h b c t x i off ho
    have he := i.even
    simp only [List.length_cons] at ho
    have h1 : h.setCell b off w = some (h.put b (c.set off w) t x) := by
      unfold IHp.setCell
      rw [if_neg (by omega), i.eq]
      simp only
      rw [if_pos (by omega)]
      rfl
    simp only [IHp.setRow, h1, Option.bind_some]
    rw [ih i.put (off + 1) (by simp; omega)]
    simp [setAll, IHp.put, IHp.putObj]
theorem setAll_cons {v : Value} : ∀ (ws c : List Value) (off : Nat), setAll (v :: c) (off + 1) ws = v :: setAll c off ws := by
  intro ws
  induction ws with
  | nil => intro c off; rfl
  | cons w ws ih => intro c off; simp only [setAll, List.set_cons_succ, ih]
class SetIs (c : List Value) (off : Nat) (ws : List Value) (r : outParam (List Value)) : Prop where
  eq : setAll c off ws = r
  le : off + ws.length ≤ c.length
instance (priority := 900) SetIs.step {v : Value} {c ws r : List Value} {off : Nat} [i : SetIs c off ws r] : SetIs (v :: c) (no_index (off + 1)) ws (v :: r) := ⟨by rw [setAll_cons, i.eq], by have := i.le; show (off + 1) + ws.length ≤ c.length + 1; omega⟩
instance (priority := 1000) SetIs.put {v w : Value} {c ws r : List Value} [i : SetIs c 0 ws r] : SetIs (v :: c) (no_index 0) (w :: ws) (w :: r) := ⟨by simp only [setAll, List.set_cons_zero]; rw [setAll_cons, i.eq], by have := i.le; simp only [List.length_cons]; omega⟩
instance (priority := 1100) SetIs.nil {c : List Value} : SetIs c (no_index 0) [] c := ⟨rfl, Nat.zero_le _⟩
class CellsOf (v : Value) (ws : outParam (List Value)) : Prop where
  eq : v.cells = ws.toArray
  ok : ws.all isCellV = true
instance CellsOf.bool {b : Bool} : CellsOf (.bool b) [.bool b] := ⟨rfl, rfl⟩
instance CellsOf.int {k : IntKind} {a : Int} : CellsOf (.int k a) [.int k a] := ⟨rfl, rfl⟩
instance CellsOf.string {a : ByteArray} : CellsOf (.string a) [.string a] := ⟨rfl, rfl⟩
instance CellsOf.pointer {a : Option Addr} : CellsOf (.pointer a) [.pointer a] := ⟨rfl, rfl⟩
instance CellsOf.slice {a : Option Addr} {n m : Nat} : CellsOf (.slice a n m) [.slice a n m] := ⟨rfl, rfl⟩
instance CellsOf.map {a : Option Nat} : CellsOf (.map a) [.map a] := ⟨rfl, rfl⟩
instance CellsOf.func {f : Fn} {a b : Array Value} : CellsOf (.func f a b) [.func f a b] := ⟨rfl, rfl⟩
instance CellsOf.nilFunc : CellsOf .nilFunc [.nilFunc] := ⟨rfl, rfl⟩
class AllCells (ws : List Value) : Prop where eq : ws.all isCellV = true
instance AllCells.nil : AllCells [] := ⟨rfl⟩
instance AllCells.cons {v : Value} {ws : List Value} [c : CellsOf v [v]] [a : AllCells ws] : AllCells (v :: ws) := ⟨by
  have h1 := c.ok
  simp only [List.all_cons, List.all_nil, Bool.and_true] at h1
  simp [h1, a.eq]⟩
instance CellsOf.agg {ws : List Value} [a : AllCells ws] : CellsOf (.agg ws.toArray) ws := ⟨rfl, a.eq⟩
theorem WS_store {x y : Operand} {t : TypeId} {b off n : Nat} {v : Value} {ws c : List Value} {t' : TypeId} {ex : Bool} [e1 : EvalIs s x (.pointer (some (ad b off)))] [e2 : EvalIs s y v] [z : SizeIs P t n] [cs : CellsOf v ws] {r : List Value} [o : ObjIs h b c t' ex] [si : SetIs c off ws r] (hn : ws.length = n) (k : WS P E ops K l (putS s d undef) (h.put b r t' ex)) :
    WS P E ops K (⟨d, .store t x y, ty, pos, af, none⟩ :: l) s h := by
  refine WS_heap rfl ?_ k
  have h1 := ev_eq (E := E) (h := h) (x := x) (s := s)
  have h2 := ev_eq (E := E) (h := h) (x := y) (s := s)
  have h3 : v.cells.size = n := by rw [cs.eq]; simpa using hn
  have h4 : v.cells.toList = ws := by rw [cs.eq]
  simp only [iheap, h1, h2, isRowV, h4, cs.ok, if_true, istore, z.eq, Option.bind_some, h3, setRow_obj ws o off si.le, si.eq, Option.map_some]
theorem WS_alloc {t : TypeId} {z : Value} {ws : List Value} [zi : ZeroIs P t z] [cs : CellsOf z ws] (k : WS P E ops K l (putS s d (.pointer (some (ad h.fresh 0)))) (h.push (.cells ws t true))) :
    WS P E ops K (⟨d, .alloc t, ty, pos, af, none⟩ :: l) s h := by
  refine WS_heap rfl ?_ k
  have h4 : z.cells.toList = ws := by rw [cs.eq]
  simp only [iheap, zi.eq, Option.bind_some, isRowV, h4, cs.ok, if_true]

/-! ### Slices made here -/
theorem fill_row (m : Nat) : ∀ (vs : List Value) (pre post : List Value) (i : Nat), (∀ v ∈ vs, ∃ ws : List Value, v.cells = ws.toArray ∧ ws.length = m) → pre.length = i * m → post.length = vs.length * m →
    Instr.fill (fun i => some (i * m, m)) (pre ++ post).toArray ((vs.zipIdx i).map fun p => (p.2, p.1)) = some (pre ++ (vs.map fun v => v.cells.toList).flatten).toArray := by
  intro vs
  induction vs with
  | nil => intro pre post i _ _ hp; have : post = [] := by apply List.eq_nil_of_length_eq_zero; simpa using hp
           subst this; simp [Instr.fill]
  | cons v vs ih =>
    intro pre post i hv hpre hpost
    obtain ⟨ws, hws, hlen⟩ := hv v List.mem_cons_self
    simp only [List.length_cons, Nat.add_one_mul] at hpost
    have hsz : v.cells.size = m := by rw [hws]; simpa using hlen
    simp only [List.zipIdx_cons, List.map_cons, Instr.fill]
    rw [if_neg (by simp [hsz, hpre, hpost])]
    have hput : ∀ (ws : List Value) (a b : List Value) (j : Nat), a.length = i * m + j → b.length ≥ ws.length → (ws.zipIdx j).foldl (fun cs (x : Value × Nat) => cs.setIfInBounds (i * m + x.2) x.1) (a ++ b).toArray = (a ++ ws ++ b.drop ws.length).toArray := by
      intro ws
      induction ws with
      | nil => intro a b j _ _; simp
      | cons w ws ihw =>
        intro a b j ha hb
        cases b with
        | nil => simp at hb
        | cons b0 b =>
          have := ihw (a ++ [w]) b (j + 1) (by simp [ha]; omega) (by simpa using hb)
          simp only [List.zipIdx_cons, List.foldl_cons]
          rw [show ((a ++ b0 :: b).toArray.setIfInBounds (i * m + j) w) = ((a ++ [w]) ++ b).toArray by
            rw [List.setIfInBounds_toArray]; simp [← ha, List.set_append_right]]
          rw [this]; simp
    have h1 := hput ws pre post 0 (by omega) (by rw [hlen, hpost]; omega)
    rw [hws, ← Array.foldl_toList, Array.toList_zipIdx]
    refine (congrArg (fun z => Instr.fill _ z _) h1).trans ?_
    have h2 := ih (pre ++ ws) (post.drop ws.length) (i + 1) (fun u hu => hv u (List.mem_cons_of_mem _ hu)) (by simp [hpre, hlen, Nat.add_one_mul]) (by simp [hlen]; omega)
    rw [h2]
    simp [hws]
class EnumIs (i : Nat) (pv : List (Nat × Value)) (vs : outParam (List Value)) : Prop where eq : pv = (vs.zipIdx i).map fun p => (p.2, p.1)
instance EnumIs.nil {i : Nat} : EnumIs i [] [] := ⟨rfl⟩
instance EnumIs.cons {i : Nat} {v : Value} {pv : List (Nat × Value)} {vs : List Value} [e : EnumIs (i + 1) pv vs] : EnumIs i ((no_index i, v) :: pv) (v :: vs) := ⟨by rw [e.eq]; simp [List.zipIdx_cons]⟩
class AppIs (a b : List Value) (r : outParam (List Value)) : Prop where eq : a ++ b = r
instance AppIs.nil {b : List Value} : AppIs [] b b := ⟨rfl⟩
instance AppIs.cons {v : Value} {a b r : List Value} [i : AppIs a b r] : AppIs (v :: a) b (v :: r) := ⟨by rw [List.cons_append, i.eq]⟩
/-- the cells of values one behind the other -/
class RowsOf (vs : List Value) (cells : outParam (List Value)) : Prop where
  eq : cells = (vs.map fun v => v.cells.toList).flatten
  ok : cells.all isCellV = true
instance RowsOf.nil : RowsOf [] [] := ⟨rfl, rfl⟩
instance RowsOf.cons {v : Value} {vs ws cells r : List Value} [c : CellsOf v ws] [rs : RowsOf vs cells] [a : AppIs ws cells r] : RowsOf (v :: vs) r := ⟨by rw [← a.eq, rs.eq]; simp [c.eq], by rw [← a.eq]; simp only [List.all_append, c.ok, rs.ok, Bool.and_self]⟩
theorem izeros_len (z : Array Value) (n : Nat) : (izeros z n).length = n := by simp [izeros]
theorem WS_buildSlice {t e : TypeId} {len m : Nat} {ps : List (Nat × Operand)} {pv : List (Nat × Value)} {vs cells wz : List Value} {z : Value} [u : UnderIs P t (.slice e)] [zi : SizeIs P e m] [ze : ZeroIs P e z] [cz : CellsOf z wz] [p : PartsIs s ps pv] [en : EnumIs 0 pv vs] [ro : RowsOf vs cells]
    (hm : (m != 0 && decide (len * m ≤ 2 ^ 24)) = true) (h1 : wz.length = m) (h2 : vs.length = len) (h3 : ∀ v ∈ vs, v.cells.size = m) (k : WS P E ops K l (putS s d (.slice (some (ad h.fresh 0)) len len)) (h.push (.cells cells e true))) :
    WS P E ops K (⟨d, .buildSlice t len ps.toArray, ty, pos, af, none⟩ :: l) s h := by
  refine WS_heap rfl ?_ k
  simp only [Bool.and_eq_true, bne_iff_ne, ne_eq, decide_eq_true_eq] at hm
  have hz : z.cells.size = m := by rw [cz.eq]; simpa using h1
  have hp : (ps.toArray.map (fun (x : Nat × Operand) => (x.1, (E.st s h).eval x.2))).toList = (vs.zipIdx 0).map fun p => (p.2, p.1) := by
    rw [List.map_toArray]; exact (p.eq h E.nt E.marks E.rd).trans en.eq
  have hf := fill_row m vs [] (izeros z.cells (len * m)) 0 (fun v hv => ⟨v.cells.toList, by simp, by simpa using h3 v hv⟩) (by simp) (by rw [izeros_len, h2])
  simp only [iheap, u.eq, zi.eq, ze.eq, Option.bind_some, hz]
  rw [if_neg (by simp; omega)]
  simp only [ne_eq, not_true_eq_false, if_false]
  refine (congrArg (fun z => Option.bind z _) ((congrArg (Instr.fill _ _) hp).trans hf)).trans ?_
  simp only [Option.bind_some, List.nil_append, ← ro.eq, ro.ok, if_true]
end Go.Ideal

-- IdealX
set_option linter.unusedSimpArgs false
set_option linter.unusedVariables false
namespace Go.Ideal
open Go Go.RowKit
variable {P : Program} {E : Env} {s : Nat → Value} {h : IHp} {ops : Array Oper} {K : SK} {l : List Oper} {d : Option Tmp} {ty : TypeId} {pos : String} {af : Array Edge}

/-! ### Appending -/
def blockOf : Value → Option Nat
  | .slice (some a) _ _ => some a.block
  | _ => none
/-- all but one's own block is as it was -/
structure Mod (v : Value) (h h' : IHp) : Prop where
  old : h'.old = h.old
  new : ∀ (i : Nat) (o : IObj), h.new[i]? = some o → blockOf v ≠ some (2 * i) → h'.new[i]? = some o
  len : h.new.length ≤ h'.new.length
theorem Mod.obj {v : Value} {h h' : IHp} (m : Mod v h h') {b : Nat} {c : List Value} {t : TypeId} {x : Bool} (o : ObjIs h b c t x) (hb : blockOf v ≠ some b) : ObjIs h' b c t x :=
  ⟨o.even, m.new _ _ o.eq (by have := o.even; rw [show 2 * (b / 2) = b by omega]; exact hb)⟩
/-- a slice that grows, of cells of one: nothing yet, or a block of its own (not below lo) that is full -/
def Lst (lo : Nat) (h : IHp) (v : Value) (vs : List Value) (t : TypeId) : Prop :=
  (v = .slice none 0 0 ∧ vs = []) ∨ ∃ b, lo ≤ b ∧ v = .slice (some (ad b 0)) vs.length vs.length ∧ ObjIs h b vs t false ∧ vs ≠ []
theorem Lst.block {lo : Nat} {h : IHp} {v : Value} {vs : List Value} {t : TypeId} (x : Lst lo h v vs t) {b : Nat} (hb : blockOf v = some b) : lo ≤ b := by
  rcases x with ⟨rfl, rfl⟩ | ⟨c, h1, rfl, h2, h3⟩
  · simp [blockOf] at hb
  · simp only [blockOf, Option.some.injEq] at hb; omega
theorem Mod.ext {h0 h h' : IHp} {v : Value} {vs : List Value} {t : TypeId} (m : Mod v h h') (e : Ext h0 h) (x : Lst h0.fresh h v vs t) : Ext h0 h' :=
  ⟨m.old.trans e.old, fun i o hi => m.new i o (e.new i o hi) (fun hb => by
    have h1 := x.block hb
    have := (List.getElem?_eq_some_iff.1 hi).1
    unfold IHp.fresh at h1; omega)⟩
theorem Lst.sl {lo : Nat} {h : IHp} {v : Value} {vs : List Value} {t : TypeId} (x : Lst lo h v vs t) : ∃ a, v = .slice a vs.length vs.length ∧ SlIs h a vs.length vs.length vs := by
  rcases x with ⟨rfl, rfl⟩ | ⟨b, h1, rfl, h2, h3⟩
  · exact ⟨none, rfl, rfl, Nat.le_refl _, rfl⟩
  · refine ⟨_, rfl, rfl, Nat.le_refl _, ?_⟩
    have := row_obj (n := vs.length) h2 0 (by omega)
    simpa using this
theorem Lst.ext {lo : Nat} {h h' : IHp} (e : Ext h h') {v : Value} {vs : List Value} {t : TypeId} (x : Lst lo h v vs t) : Lst lo h' v vs t := by
  rcases x with ⟨rfl, rfl⟩ | ⟨b, h1, rfl, h2, h3⟩
  · exact .inl ⟨rfl, rfl⟩
  · exact .inr ⟨b, h1, rfl, ⟨h2.even, e.new _ _ h2.eq⟩, h3⟩
theorem Lst.put {lo : Nat} {h : IHp} {v : Value} {vs : List Value} {t : TypeId} (x : Lst lo h v vs t) {b : Nat} {o : IObj} (hb : blockOf v ≠ some b) (he : b % 2 = 0) : Lst lo (h.putObj b o) v vs t := by
  rcases x with ⟨rfl, rfl⟩ | ⟨c, h1, rfl, h2, h3⟩
  · exact .inl ⟨rfl, rfl⟩
  · refine .inr ⟨c, h1, rfl, ?_, h3⟩
    have : NeB c b := .of h2.even he (fun hc => hb (by simp [blockOf, hc]))
    infer_instance
/-- it is a slice -/
theorem Lst.isSlice {lo : Nat} {h : IHp} {v : Value} {vs : List Value} {t : TypeId} (x : Lst lo h v vs t) : ∃ a, v = .slice a vs.length vs.length := by
  rcases x with ⟨rfl, rfl⟩ | ⟨b, h1, rfl, h2, h3⟩
  · exact ⟨_, rfl⟩
  · exact ⟨_, rfl⟩
theorem append_lst {lo : Nat} {v w : Value} {vs : List Value} {e t by_ bx : Nat} [u : UnderIs P t (.slice e)] [bi : BytesIs P e 1 by_] [c : CellIs h bx 0 w] (x : Lst lo h v vs e) (hlo : lo ≤ h.fresh) (hr : (vs.length + 1) * by_ ≤ 2 ^ 47 + 2 ^ 20) :
    ∃ v' h', iappend P h #[t, t] #[v, .slice (some (ad bx 0)) 1 1] = some (v', h') ∧ Lst lo h' v' (vs ++ [w]) e ∧ Mod v h h' ∧ blockOf v' = some h.fresh := by
  obtain ⟨ei, z, h1, h2, h3, h4, h5, h6, h7⟩ := bi.eq
  have hrow : h.rowAt (some (ad bx 0)) 1 1 = some [w] := by simp [IHp.rowAt, IHp.row, c.eq]
  have hroom : roomOk ((vs.length + 1) * by_) = true := by simp [roomOk]; omega
  rcases x with ⟨rfl, rfl⟩ | ⟨b, hb, rfl, ho, hne⟩
  · refine ⟨_, h.push (.cells [w] e false), ?_, .inr ⟨h.fresh, hlo, rfl, inferInstance, by simp⟩, ⟨rfl, fun i o hi _ => (Ext.push h _).new i o hi, by simp [IHp.push]⟩, rfl⟩
    simp only [List.length_nil, Nat.zero_add, Nat.one_mul] at hroom
    simp [iappend, u.eq, h1, h2, h3, h4, h5, hrow, h7, hroom, spotted]
  · have hl := ho.lt
    have he := ho.even
    refine ⟨_, ⟨h.old, (h.new.set (b / 2) .dead) ++ [IObj.cells (vs ++ [w]) e false]⟩, ?_, .inr ⟨h.fresh, hlo, rfl, ⟨by unfold IHp.fresh; omega, ?_⟩, by simp⟩, ⟨rfl, fun i o hi hn => ?_, by simp⟩, rfl⟩
    · have hrow2 : h.rowAt (some (ad b 0)) vs.length 1 = some vs := by
        have := row_obj (n := vs.length) ho 0 (by omega)
        simp [IHp.rowAt, this]
      have hex : iexact h b = false := by unfold iexact; rw [if_neg (by omega), ho.eq]
      simp only [iappend, List.getElem?_toArray, List.getElem?_cons_zero, List.getElem?_cons_succ, u.eq, h1, h2, h3, h4, h5, h7, hrow, hrow2, hex, ho.eq, hroom, Option.bind_some]
      simp [spotted, hroom]
    · have : (IHp.fresh h) / 2 = h.new.length := by unfold IHp.fresh; omega
      rw [this]; simp
    · have : b / 2 ≠ i := by
        intro hbi; apply hn; simp only [blockOf]; congr 1; omega
      have hi2 := (List.getElem?_eq_some_iff.1 hi).1
      simp only
      rw [List.getElem?_append_left (by simpa using hi2), List.getElem?_set_ne this]; exact hi
theorem WS_append1 {lo : Nat} {x y : Operand} {v w : Value} {vs : List Value} {e t by_ bx : Nat} [e1 : EvalIs s x v] [e2 : EvalIs s y (.slice (some (ad bx 0)) 1 1)] [u : UnderIs P t (.slice e)] [bi : BytesIs P e 1 by_] [c : CellIs h bx 0 w] (hx : Lst lo h v vs e) (hlo : lo ≤ h.fresh) (hr : (vs.length + 1) * by_ ≤ 2 ^ 47 + 2 ^ 20)
    (k : ∀ v' h', Lst lo h' v' (vs ++ [w]) e → Mod v h h' → blockOf v' = some h.fresh → WS P E ops K l (putS s d v') h') : WS P E ops K (⟨d, .call ⟨.builtin .append, #[x, y], #[t, t]⟩, ty, pos, af, none⟩ :: l) s h := by
  obtain ⟨v', h', h1, h2, h3, h4⟩ := append_lst (P := P) (t := t) (bx := bx) (w := w) hx hlo hr
  refine WS_heap rfl ?_ (k v' h' h2 h3 h4)
  have e1' := ev_eq (E := E) (h := h) (x := x) (s := s)
  have e2' := ev_eq (E := E) (h := h) (x := y) (s := s)
  show (if (#[x, y].size = 2) then iappend P h #[t, t] (#[x, y].map (E.st s h).eval) else none) = _
  rw [if_pos (show #[x, y].size = 2 from rfl)]
  simp only [List.map_toArray, List.map_cons, List.map_nil, e1', e2']
  exact h1

/-! ### Regions that draw their order -/
@[irreducible] def WD (P : Program) (E : Env) (ops : Array Oper) (K : SK) (plan : List PStep) (held : Held) (snaps : List IHp) : SK := fun s h => ∃ n st', iplan P (icall P n) ops plan (E.st s h) held snaps = some st' ∧ ∃ s' h', st' = E.st s' h' ∧ K s' h'
theorem V_draw {id : Nat} {l : List Oper} {Q : IExit → SK} {plan : List PStep} (hp : planOf l.toArray = some plan) (k : WD P E l.toArray (Q .normal) plan [] [h] s h) : V P E (.region id l.toArray true) Q s h := by
  unfold WD at k
  obtain ⟨n, st', h1, s', h', rfl, h2⟩ := k
  unfold V
  refine ⟨n + 1, .normal, _, ?_, s', h', rfl, h2⟩
  rw [icode]
  simp only [if_true, idraw, hp, Option.bind_some]
  exact congrArg (Option.map _) h1
theorem WD_nil {held : Held} {snaps : List IHp} (k : K s h) : WD P E ops K [] held snaps s h := by
  unfold WD; exact ⟨0, _, rfl, s, h, rfl, k⟩
class HeldIs (h : IHp) (l : Held) : Prop where eq : heldIn h l = true
instance HeldIs.nil : HeldIs h [] := ⟨rfl⟩
class VRefl (v : Value) : Prop where eq : veq v v = true
instance VRefl.bool {b : Bool} : VRefl (.bool b) := ⟨by simp [veq]⟩
instance VRefl.int {k : IntKind} {a : Int} : VRefl (.int k a) := ⟨by simp [veq]⟩
instance VRefl.string {a : ByteArray} : VRefl (.string a) := ⟨by simp [veq]⟩
instance VRefl.pointer {a : Option Addr} : VRefl (.pointer a) := ⟨by simp [veq]⟩
instance VRefl.slice {a : Option Addr} {n m : Nat} : VRefl (.slice a n m) := ⟨by simp [veq]⟩
instance HeldIs.cons {i b off : Nat} {v : Value} {l : Held} [c : CellIs h b off v] [r : VRefl v] [t : HeldIs h l] : HeldIs h ((i, b, off, v) :: l) := ⟨by
  have := t.eq
  simp only [heldIn, List.all_cons, c.eq, r.eq, Bool.true_and] at *
  exact this⟩
class SnapsIs (snaps : List IHp) (l : Held) : Prop where eq : snaps.all (heldIn · l) = true
instance SnapsIs.nil {l : Held} : SnapsIs [] l := ⟨rfl⟩
instance SnapsIs.cons {l : Held} {snaps : List IHp} [c : HeldIs h l] [t : SnapsIs snaps l] : SnapsIs (h :: snaps) l := ⟨by simp only [List.all_cons, c.eq, t.eq, Bool.and_self]⟩
@[irreducible] def WDK (P : Program) (E : Env) (ops : Array Oper) (K : SK) (plan : List PStep) (held : Held) (snaps : List IHp) : SK := fun s h => heldIn h held = true ∧ WD P E ops K plan held (h :: snaps) s h
@[irreducible] def WDT (P : Program) (E : Env) (ops : Array Oper) (K : SK) (plan : List PStep) (held : Held) (snaps : List IHp) (h0 : IHp) : SK := fun s _ => WD P E ops K plan held snaps s h0
theorem WDK_go {plan : List PStep} {held : Held} {snaps : List IHp} [hi : HeldIs h held] (k : WD P E ops K plan held (h :: snaps) s h) : WDK P E ops K plan held snaps s h := by unfold WDK; exact ⟨hi.eq, k⟩
theorem WDT_go {plan : List PStep} {held : Held} {snaps : List IHp} {h0 : IHp} (k : WD P E ops K plan held snaps s h0) : WDT P E ops K plan held snaps h0 s h := by unfold WDT; exact k
def isLoad : Op → Bool
  | .load .. => true
  | _ => false
/-- no string is made of bytes -/
def ibtsOp (P : Program) (h : IHp) (ev : Operand → Value) : Op → Option (Nat × Nat × List Value)
  | .convert src dst x => ibtsRow P h src dst (ev x)
  | _ => none
class NoBts (P : Program) (op : Op) : Prop where eq : ∀ h ev, ibtsOp P h ev op = none
instance {x} : NoBts P (.move x) := ⟨fun _ _ => rfl⟩
instance {x} : NoBts P (.assign x) := ⟨fun _ _ => rfl⟩
instance {x y z} : NoBts P (.pick x y z) := ⟨fun _ _ => rfl⟩
instance {x y} : NoBts P (.extract x y) := ⟨fun _ _ => rfl⟩
instance {x y z} : NoBts P (.field x y z) := ⟨fun _ _ => rfl⟩
instance {x y z} : NoBts P (.fieldAddr x y z) := ⟨fun _ _ => rfl⟩
instance {x y z} : NoBts P (.indexAddr x y z) := ⟨fun _ _ => rfl⟩
instance {x y z} : NoBts P (.index x y z) := ⟨fun _ _ => rfl⟩
instance {x y} : NoBts P (.build x y) := ⟨fun _ _ => rfl⟩
instance {x} : NoBts P (.nilCheck x) := ⟨fun _ _ => rfl⟩
instance {a b c d e} : NoBts P (.slice a b c d e) := ⟨fun _ _ => rfl⟩
instance {a b c d e} : NoBts P (.binOp a b c d e) := ⟨fun _ _ => rfl⟩
instance {a b c} : NoBts P (.unOp a b c) := ⟨fun _ _ => rfl⟩
instance {c} : NoBts P (.call c) := ⟨fun _ _ => rfl⟩
instance {a b c} : NoBts P (.makeFunc a b c) := ⟨fun _ _ => rfl⟩
theorem noBts_src {src dst : TypeId} {x : Operand} {u : TypeDesc} [us : UnderIs P src u] (hu : ∀ e, u ≠ .slice e) : NoBts P (.convert src dst x) := ⟨fun h ev => by
  simp only [ibtsOp, ibtsRow]
  split
  · split
    · rw [us.eq]
      split
      · rename_i h1 _
        exact absurd (Option.some.inj h1) (hu _)
      · rfl
    · rfl
  · rfl⟩
instance {src dst : TypeId} {x : Operand} {k : IntKind} [us : UnderIs P src (.int k)] : NoBts P (.convert src dst x) := noBts_src (us := us) (fun e h => by cases h)
instance {src dst : TypeId} {x : Operand} {k : FloatKind} [us : UnderIs P src (.float k)] : NoBts P (.convert src dst x) := noBts_src (us := us) (fun e h => by cases h)
instance {src dst : TypeId} {x : Operand} [us : UnderIs P src .string] : NoBts P (.convert src dst x) := noBts_src (us := us) (fun e h => by cases h)
/-- it is taken first; it reads no memory -/
theorem WD_takeG {i : Nat} {plan : List PStep} {held : Held} {snaps : List IHp} {o : Oper} (ho : ops[i]? = some o) (hn : (isQuiet o.op && !isLoad o.op && o.guard.isNone) = true) (nb : NoBts P o.op) (k : WS P E ops (WDT P E ops K plan held snaps h) [o] s h) : WD P E ops K (.take i :: plan) held snaps s h := by
  simp only [Bool.and_eq_true, Bool.not_eq_true', Option.isNone_iff_eq_none] at hn
  obtain ⟨⟨hq, hl⟩, hg⟩ := hn
  have hw : ∀ s, iwanted ops s o = true := fun s => by simp [iwanted, Region.wanted, hg]
  rw [WS_cons_eq, if_pos (hw s)] at k
  have hc : icallee P (E.st s h).eval o = none := by
    unfold icallee
    split
    · rename_i he; rw [he] at hq; simp [isQuiet] at hq
    · rfl
  unfold WO at k
  rw [hc] at k
  obtain ⟨⟨v, h'⟩, h1, s2, h2, h3, h4⟩ := k
  rw [WS_nil_eq] at h4
  unfold WDT at h4
  unfold WD at h4 ⊢
  obtain ⟨n, st', h5, h6⟩ := h4
  refine ⟨n, st', ?_, h6⟩
  have hs2 : s2 = putS s o.dst v := by
    have := congrArg St.s h3; exact this.symm
  subst hs2
  have hh : heldOf P h (E.st s h).eval i o = some [] := by
    have hb := nb.eq h (E.st s h).eval
    unfold heldOf
    split
    · rename_i he; rw [he] at hl; simp [isLoad] at hl
    · rename_i he
      rw [he] at hb
      simp only [ibtsOp] at hb
      rw [hb]
    · rfl
  simp only [iplan, ho, Option.bind_some]
  rw [if_pos (hw _)]
  simp only [Env.st] at hh h1 h5 ⊢
  rw [hh]
  simp only [Option.bind_some, h1, List.nil_append]
  rw [if_pos (by simp [heldIn])]
  exact h5
theorem WD_take {i : Nat} {plan : List PStep} {held : Held} {snaps : List IHp} {op : Op} (ho : ops[i]? = some ⟨d, op, ty, pos, af, none⟩) (hn : (isQuiet op && !isLoad op) = true) [nb : NoBts P op] (k : WS P E ops (WDT P E ops K plan held snaps h) [⟨d, op, ty, pos, af, none⟩] s h) : WD P E ops K (.take i :: plan) held snaps s h :=
  WD_takeG ho (by simp [hn]) nb k
/-- a load that is taken first -/
theorem WD_load {i : Nat} {plan : List PStep} {held : Held} {snaps : List IHp} {x : Operand} {t : TypeId} {b off : Nat} {v : Value} (ho : ops[i]? = some ⟨d, .load t x, ty, pos, af, none⟩) [e : EvalIs s x (.pointer (some (ad b off)))] [u : AggIs P t false] [c : CellIs h b off v] [sn : SnapsIs snaps [(i, b, off, v)]]
    (k : WD P E ops K plan ((i, b, off, v) :: held) snaps (putS s d v) h) : WD P E ops K (.take i :: plan) held snaps s h := by
  unfold WD at k ⊢
  obtain ⟨n, st', h5, h6⟩ := k
  refine ⟨n, st', ?_, h6⟩
  have he := ev_eq (E := E) (h := h) (x := x) (s := s)
  simp only [iplan, ho, Option.bind_some]
  rw [if_pos (by simp [iwanted, Region.wanted])]
  simp only [Env.st] at he h5 ⊢
  simp only [heldOf, he, u.eq, Option.bind_some, c.eq, Option.map_some, sn.eq, if_true, iheap, iload]
  exact h5
theorem WD_take_on {i j : Nat} {plan : List PStep} {held : Held} {snaps : List IHp} {op : Op} {u t : Bool} {x : Tmp} (ho : ops[i]? = some ⟨d, op, ty, pos, af, some (j, u)⟩) (hd : (ops[j]?).bind (·.dst) = some x) [g : Get s x (.bool t)] (ht : t = u) (hn : (isQuiet op && !isLoad op) = true) [nb : NoBts P op]
    (k : WS P E ops (WDT P E ops K plan held snaps h) [⟨d, op, ty, pos, af, none⟩] s h) : WD P E ops K (.take i :: plan) held snaps s h := by
  simp only [Bool.and_eq_true, Bool.not_eq_true'] at hn
  obtain ⟨hq, hl⟩ := hn
  rw [WS_cons_eq, if_pos (by simp [iwanted, Region.wanted])] at k
  have hc : icallee P (E.st s h).eval ⟨d, op, ty, pos, af, none⟩ = none := by
    unfold icallee
    split
    · rename_i he; simp only at he; rw [he] at hq; simp [isQuiet] at hq
    · rfl
  unfold WO at k
  rw [hc] at k
  obtain ⟨⟨v, h'⟩, h1, s2, h2, h3, h4⟩ := k
  rw [WS_nil_eq] at h4
  unfold WDT at h4
  unfold WD at h4 ⊢
  obtain ⟨n, st', h5, h6⟩ := h4
  refine ⟨n, st', ?_, h6⟩
  have hs2 : s2 = putS s d v := by
    have := congrArg St.s h3; exact this.symm
  subst hs2
  have hh : heldOf P h (E.st s h).eval i ⟨d, op, ty, pos, af, some (j, u)⟩ = some [] := by
    have hb := nb.eq h (E.st s h).eval
    unfold heldOf
    split
    · rename_i he; simp only at he; rw [he] at hl; simp [isLoad] at hl
    · rename_i he
      simp only at he
      rw [he] at hb
      simp only [ibtsOp] at hb
      rw [hb]
    · rfl
  simp only [iplan, ho, Option.bind_some]
  rw [if_pos (by simp [iwanted, Region.wanted, iyielded, hd, Env.st, g.eq, ht])]
  have h1' : iheap P h (E.st s h).eval ⟨d, op, ty, pos, af, some (j, u)⟩ = some (v, h') := h1
  simp only [Env.st] at hh h1' h5 ⊢
  rw [hh]
  simp only [Option.bind_some, h1', List.nil_append]
  rw [if_pos (by simp [heldIn])]
  exact h5
/-- fewer cells are asked of less -/
theorem iplan_fewer {call : ICall} : ∀ {plan : List PStep} {st st' : St} {held held' : Held} {snaps : List IHp}, (∀ e ∈ held', e ∈ held) → iplan P call ops plan st held snaps = some st' → iplan P call ops plan st held' snaps = some st' := by
  intro plan
  induction plan with
  | nil => intro st st' held held' snaps _ hs; exact hs
  | cons x plan ih =>
    intro st st' held held' snaps hsub hs
    cases x with
    | take i =>
      simp only [iplan, Option.bind_eq_some_iff] at hs ⊢
      obtain ⟨o, ho, hs⟩ := hs
      refine ⟨o, ho, ?_⟩
      split at hs
      · rename_i hw
        rw [if_pos hw]
        simp only [Option.bind_eq_some_iff] at hs ⊢
        obtain ⟨m, hm, hs⟩ := hs
        refine ⟨m, hm, ?_⟩
        split at hs
        · rename_i ha
          rw [if_pos ha]
          simp only [Option.bind_eq_some_iff] at hs ⊢
          obtain ⟨r, hr, hs⟩ := hs
          refine ⟨r, hr, ih ?_ hs⟩
          intro e he
          rcases List.mem_append.1 he with h1 | h1
          · exact List.mem_append_left _ h1
          · exact List.mem_append_right _ (hsub e h1)
        · cases hs
      · rename_i hw; rw [if_neg hw]; exact ih hsub hs
    | one i =>
      simp only [iplan, Option.bind_eq_some_iff] at hs ⊢
      obtain ⟨s1, h1, h2⟩ := hs
      refine ⟨s1, h1, ?_⟩
      have hsub' : ∀ e ∈ heldBut ops i held', e ∈ heldBut ops i held := by
        intro e he
        unfold heldBut at *
        split at he
        · rename_i hq; rw [if_pos hq]; exact hsub e he
        · rename_i hq; rw [if_neg hq]
          rw [List.mem_filter] at he ⊢
          exact ⟨hsub e he.1, he.2⟩
      split at h2
      · rename_i hh
        rw [if_pos]
        · exact ih hsub' h2
        · simp only [heldIn, List.all_eq_true] at *
          intro x hx
          exact hh x (hsub' x hx)
      · cases h2
    | virt i =>
      simp only [iplan, Option.bind_eq_some_iff] at hs ⊢
      obtain ⟨o, ho, m, hm, hs⟩ := hs
      refine ⟨o, ho, m, hm, ?_⟩
      split at hs
      · rename_i hc
        rw [Bool.and_eq_true] at hc
        have hsub' : ∀ e ∈ cellsOf i st.h.fresh 0 m.2.1 ++ held', e ∈ cellsOf i st.h.fresh 0 m.2.1 ++ held := by
          intro e he
          rcases List.mem_append.1 he with h1 | h1
          · exact List.mem_append_left _ h1
          · exact List.mem_append_right _ (hsub e h1)
        rw [if_pos]
        · exact ih hsub' hs
        · rw [Bool.and_eq_true]
          refine ⟨hc.1, ?_⟩
          have hh := hc.2
          simp only [heldIn, List.all_eq_true] at hh ⊢
          intro x hx
          exact hh x (hsub' x hx)
      · cases hs
theorem WD_one_of {i : Nat} {plan : List PStep} {held held' : Held} {snaps : List IHp} {o : Oper} (ho : ops[i]? = some o) (hsub : ∀ e ∈ heldBut ops i held, e ∈ held') (k : WS P E ops (WDK P E ops K plan held' snaps) [o] s h) : WD P E ops K (.one i :: plan) held snaps s h := by
  rw [WS_cons_eq] at k
  have key : ∀ (s2 : Nat → Value) (h2 : IHp), WS P E ops (WDK P E ops K plan held' snaps) [] s2 h2 → ∃ n st', iplan P (icall P n) ops plan (E.st s2 h2) (heldBut ops i held) (h2 :: snaps) = some st' ∧ (heldIn h2 (heldBut ops i held) = true) ∧ ∃ s' h', st' = E.st s' h' ∧ K s' h' := by
    intro s2 h2 hk
    rw [WS_nil_eq] at hk
    unfold WDK at hk
    obtain ⟨hh, hk⟩ := hk
    unfold WD at hk
    obtain ⟨n, st', h5, h6⟩ := hk
    refine ⟨n, st', iplan_fewer hsub h5, ?_, h6⟩
    simp only [heldIn, List.all_eq_true] at *
    intro x hx
    exact hh x (hsub x hx)
  unfold WD
  by_cases hw : iwanted ops s o = true
  · rw [if_pos hw] at k
    unfold WO at k
    cases hc : icallee P (E.st s h).eval o with
    | none =>
      rw [hc] at k
      obtain ⟨⟨v, h'⟩, h1, s2, h2, h3, h4⟩ := k
      obtain ⟨n, st', h5, h6, h7⟩ := key s2 h2 h4
      refine ⟨n, st', ?_, h7⟩
      simp only [iplan, iop, ho]
      rw [if_pos (show iwanted ops (E.st s h).s o = true from hw)]
      simp only [hc]
      have h1' : iheap P (E.st s h).h (E.st s h).eval o = some (v, h') := h1
      rw [h1']
      simp only [Option.map_some, Option.bind_some]
      simp only at h3
      have hh2 : h' = h2 := congrArg St.h h3
      subst hh2
      rw [h3, if_pos h6]
      exact h5
    | some x =>
      obtain ⟨c, args⟩ := x
      rw [hc] at k
      obtain ⟨m, v, h', h1, s2, h2, h3, h4⟩ := k
      obtain ⟨n, st', h5, h6, h7⟩ := key s2 h2 h4
      refine ⟨max n m, st', ?_, h7⟩
      simp only [iplan, iop, ho]
      rw [if_pos (show iwanted ops (E.st s h).s o = true from hw)]
      simp only [hc]
      rw [icall_mono (Nat.le_max_right n m) _ _ _ _ h1]
      simp only [Option.map_some, Option.bind_some]
      have hh2 : h' = h2 := congrArg St.h h3
      subst hh2
      rw [h3, if_pos h6]
      exact iplan_le (icall_mono (Nat.le_max_left n m)) h5
  · rw [if_neg hw] at k
    obtain ⟨n, st', h5, h6, h7⟩ := key _ _ k
    refine ⟨n, st', ?_, h7⟩
    simp only [iplan, iop, ho]
    rw [if_neg (show ¬ iwanted ops (E.st s h).s o = true from hw)]
    simp only [Option.bind_some]
    exact (if_pos (show heldIn (E.st s h).h (heldBut ops i held) = true from h6)).trans h5
theorem WD_one {i : Nat} {plan : List PStep} {held : Held} {snaps : List IHp} {o : Oper} (ho : ops[i]? = some o) (k : WS P E ops (WDK P E ops K plan held snaps) [o] s h) : WD P E ops K (.one i :: plan) held snaps s h :=
  WD_one_of ho (fun e he => by unfold heldBut at he; split at he; exact he; exact (List.mem_filter.1 he).1) k
def waitsL (ops : Array Oper) (j i : Nat) : Bool := ((ops[j]?).map fun o => o.after.toList.any fun e => Region.binds .any e && Nat.beq e.on i).getD false
theorem waitsL_eq (ops : Array Oper) (j i : Nat) : waitsL ops j i = waitsFor ops j i := by
  unfold waitsL waitsFor
  cases ops[j]? with
  | none => rfl
  | some o =>
    simp only [Option.map_some, Option.getD_some, Array.any_toList]
    have : ∀ e : Edge, Nat.beq e.on i = (e.on == i) := fun e => by
      by_cases he : e.on = i
      · subst he; simp
      · have h1 : Nat.beq e.on i = false := by
          cases hb : Nat.beq e.on i with
          | false => rfl
          | true => exact absurd (Nat.eq_of_beq_eq_true hb) he
        rw [h1]; simp [he]
    simp only [this]
/-- the cells that were held are held no more -/
theorem WD_drop {i : Nat} {plan : List PStep} {held : Held} {snaps : List IHp} {o : Oper} (ho : ops[i]? = some o) (hd : (held.all fun e => !quietAt ops i && waitsL ops i e.1) = true) (k : WS P E ops (WDK P E ops K plan [] snaps) [o] s h) : WD P E ops K (.one i :: plan) held snaps s h :=
  WD_one_of ho (fun e he => by
    unfold heldBut at he
    simp only [waitsL_eq] at hd
    rw [List.all_eq_true] at hd
    split at he
    · rename_i hq; have := hd e he; simp [hq] at this
    · have h1 := List.mem_filter.1 he
      have := hd e h1.1
      simp only [Bool.and_eq_true] at this
      have h2 := h1.2
      simp [this.2] at h2) k

/-! ### Structs out of parts -/
class StructOk (P : Program) (t : TypeId) : Prop where eq : ∃ fs, P.underlying t = some (.struct fs) ∧ (fs.all fun f => (isz P f.type).isSome) = true
class LenIs (ws : List Value) (n : Nat) : Prop where eq : ws.length = n
instance LenIs.nil : LenIs [] (no_index 0) := ⟨rfl⟩
instance LenIs.cons {w : Value} {ws : List Value} {n : Nat} [i : LenIs ws n] : LenIs (w :: ws) (no_index (n + 1)) := ⟨by simp [i.eq]⟩
theorem fold_setAll (off : Nat) : ∀ (ws c : List Value) (j : Nat), (ws.zipIdx j).foldl (fun cs (x : Value × Nat) => cs.setIfInBounds (off + x.2) x.1) c.toArray = (setAll c (off + j) ws).toArray := by
  intro ws
  induction ws with
  | nil => intro c j; rfl
  | cons w ws ih =>
    intro c j
    simp only [List.zipIdx_cons, List.foldl_cons, setAll]
    have := ih (c.set (off + j) w) (j + 1)
    rw [show off + (j + 1) = off + j + 1 by omega] at this
    rw [← this, List.setIfInBounds_toArray]
class FillIs (P : Program) (t : TypeId) (c : List Value) (parts : List (Nat × Value)) (r : outParam (List Value)) : Prop where
  eq : ∀ fs, P.underlying t = some (.struct fs) → Instr.fill (fun i => (fs[i]?).bind fun f => (isz P f.type).map fun s => (f.offset, s)) c.toArray parts = some r.toArray
instance FillIs.nil {t : TypeId} {c : List Value} : FillIs P t c [] c := ⟨fun _ _ => rfl⟩
instance FillIs.cons {t : TypeId} {c c1 r ws : List Value} {i off ft n : Nat} {v : Value} {rest : List (Nat × Value)} [f : FieldIs P t i off ft n] [cs : CellsOf v ws] [ln : LenIs ws n] [si : SetIs c off ws c1] [fi : FillIs P t c1 rest r] : FillIs P t c ((i, v) :: rest) r := ⟨fun fs hfs => by
  obtain ⟨fs', fd, h1, h2, h3, h4, h5, h6⟩ := f.eq
  rw [hfs] at h1
  obtain rfl := TypeDesc.struct.inj (Option.some.inj h1)
  have hsz : v.cells.size = n := by rw [cs.eq]; simpa using ln.eq
  simp only [Instr.fill, h2, Option.bind_some, h4, h5, Option.map_some, h3]
  have hle := si.le
  have hln := ln.eq
  rw [if_neg (by simp [hsz]; omega), cs.eq, ← Array.foldl_toList, Array.toList_zipIdx]
  refine (congrArg (fun z => Instr.fill _ z _) (fold_setAll off ws c 0)).trans ?_
  rw [Nat.add_zero, si.eq]
  exact fi.eq fs hfs⟩
instance BuildIs.of {t : TypeId} {z r : List Value} {parts : List (Nat × Value)} [zi : ZeroIs P t (.agg z.toArray)] [so : StructOk P t] [fi : FillIs P t z parts r] : BuildIs P t parts r := ⟨by
  obtain ⟨fs, h1, h2⟩ := so.eq
  simp only [ibuild, zi.eq, Option.bind_some, h1, h2, if_true, ifill, Value.cells]
  rw [fi.eq fs h1]; rfl⟩

theorem retK_ct {t u : Tmp} {b off n : Nat} {ct : TypeId} {vs : List Value} {w : Value} {Φ : Value → IHp → Prop} [g : Get s t (.pointer (some (ad b off)))] [a : AggIs P ct true] [z : SizeIs P ct n] [r : RowIs h b off n vs] [g2 : Get s u w] (k : Φ (.tuple [.agg vs.toArray, w].toArray) h) {e : IExit} (he : e = .normal ∨ e = .ret) : retK P E [.cell t ct, .tmp u] Φ e s h := by
  unfold retK
  refine ⟨he, [.agg vs.toArray, w], ?_, k⟩
  simp [iresults, Env.st, g.eq, g2.eq, iload, a.eq, z.eq, r.eq]
end Go.Ideal

-- IdealY
set_option linter.unusedSimpArgs false
set_option linter.unusedVariables false
namespace Go.Ideal
open Go Go.RowKit
variable {P : Program} {E : Env} {s : Nat → Value} {h : IHp} {ops : Array Oper} {K : SK} {l : List Oper} {d : Option Tmp} {ty : TypeId} {pos : String} {af : Array Edge}
/-! ### nil; a slice of one's own of a fixed length -/
theorem WS_isnil {x : Operand} {t yt te : TypeId} {a : Option Addr} {n c : Nat} [e : EvalIs s x (.slice a n c)] [u : UnderIs P t (.slice te)] (k : WS P E ops K l (putS s d (.bool a.isNone)) h) : WS P E ops K (⟨d, .binOp .eql t x (.const (.slice none 0 0)) yt, ty, pos, af, none⟩ :: l) s h := by
  refine WS_pure rfl rfl ?_ k
  have h1 := ev_eq (E := E) (h := h) (x := x) (s := s)
  have h2 : (E.st s h).eval (.const (.slice none 0 0)) = .slice none 0 0 := rfl
  simp only [ipure, isNilConst, if_true, inil, u.eq, h1, h2]
/-- a slice of cells of one that is all of a block of one's own (not below lo), or nil -/
def Own (lo : Nat) (h : IHp) (v : Value) (vs : List Value) (t : TypeId) : Prop :=
  (v = .slice none 0 0 ∧ vs = []) ∨ ∃ b x, lo ≤ b ∧ v = .slice (some (ad b 0)) vs.length vs.length ∧ ObjIs h b vs t x
theorem Lst.own {lo : Nat} {h : IHp} {v : Value} {vs : List Value} {t : TypeId} (x : Lst lo h v vs t) : Own lo h v vs t := by
  rcases x with ⟨h1, h2⟩ | ⟨b, h1, h2, h3, h4⟩
  · exact .inl ⟨h1, h2⟩
  · exact .inr ⟨b, _, h1, h2, h3⟩
theorem Own.ext {lo : Nat} {h h' : IHp} (e : Ext h h') {v : Value} {vs : List Value} {t : TypeId} (x : Own lo h v vs t) : Own lo h' v vs t := by
  rcases x with ⟨h1, h2⟩ | ⟨b, y, h1, h2, h3⟩
  · exact .inl ⟨h1, h2⟩
  · exact .inr ⟨b, y, h1, h2, ⟨h3.even, e.new _ _ h3.eq⟩⟩
theorem Own.lower {lo lo' : Nat} {h : IHp} {v : Value} {vs : List Value} {t : TypeId} (x : Own lo h v vs t) (hl : lo' ≤ lo) : Own lo' h v vs t := by
  rcases x with ⟨h1, h2⟩ | ⟨b, y, h1, h2⟩
  · exact .inl ⟨h1, h2⟩
  · exact .inr ⟨b, y, by omega, h2⟩
theorem Own.put_ne {lo : Nat} {h : IHp} {v : Value} {vs : List Value} {t : TypeId} (x : Own lo h v vs t) {b : Nat} {o : IObj} (hb : blockOf v ≠ some b) (he : b % 2 = 0) : Own lo (h.putObj b o) v vs t := by
  rcases x with ⟨h1, h2⟩ | ⟨c, y, h1, rfl, h3⟩
  · exact .inl ⟨h1, h2⟩
  · refine .inr ⟨c, y, h1, rfl, ?_⟩
    have : NeB c b := .of h3.even he (fun hc => hb (by simp [blockOf, hc]))
    infer_instance
theorem Own.block {lo : Nat} {h : IHp} {v : Value} {vs : List Value} {t : TypeId} (x : Own lo h v vs t) {b : Nat} (hb : blockOf v = some b) : lo ≤ b ∧ b < h.fresh := by
  rcases x with ⟨rfl, rfl⟩ | ⟨c, y, h1, rfl, h3⟩
  · simp [blockOf] at hb
  · simp only [blockOf, Option.some.injEq] at hb; subst hb; exact ⟨h1, h3.lt⟩
theorem Own.isSlice {lo : Nat} {h : IHp} {v : Value} {vs : List Value} {t : TypeId} (x : Own lo h v vs t) : ∃ a, v = .slice a vs.length vs.length := by
  rcases x with ⟨rfl, rfl⟩ | ⟨b, y, h1, rfl, h3⟩
  · exact ⟨_, rfl⟩
  · exact ⟨_, rfl⟩
/-- where there is an element, there is a block -/
theorem Own.at {lo : Nat} {h : IHp} {v : Value} {vs : List Value} {t : TypeId} (x : Own lo h v vs t) (hn : 0 < vs.length) : ∃ b y, lo ≤ b ∧ v = .slice (some (ad b 0)) vs.length vs.length ∧ ObjIs h b vs t y := by
  rcases x with ⟨rfl, rfl⟩ | hx
  · simp at hn
  · exact hx
theorem Own.getSl {lo : Nat} {h : IHp} {a : Option Addr} {n m : Nat} {vs : List Value} {t : TypeId} (x : Own lo h (.slice a n m) vs t) : SlIs h a n m vs := by
  rcases x with ⟨h1, rfl⟩ | ⟨b, y, h1, h2, h3⟩
  · simp only [Value.slice.injEq] at h1
    obtain ⟨rfl, rfl, rfl⟩ := h1
    exact ⟨rfl, Nat.le_refl _, rfl⟩
  · simp only [Value.slice.injEq] at h2
    obtain ⟨rfl, rfl, rfl⟩ := h2
    refine ⟨rfl, Nat.le_refl _, ?_⟩
    have := row_obj (n := vs.length) h3 0 (by omega)
    simpa using this
theorem cell_at {b i : Nat} {c : List Value} {t : TypeId} {x : Bool} {v : Value} (o : ObjIs h b c t x) (hv : c[i]? = some v) : CellIs h b (0 + i * 1) v := ⟨by rw [o.cell]; simpa using hv⟩
theorem set_at {c : List Value} {i : Nat} (w : Value) (hi : i < c.length) : SetIs c (0 + i * 1) [w] (c.set i w) := ⟨by simp [setAll], by simp; omega⟩
/-- append to an empty literal: a copy -/
theorem WS_append_copy {lo : Nat} {x y : Operand} {b0 : Nat} {a : Option Addr} {len cap : Nat} {vs : List Value} {e t by_ : Nat} [e1 : EvalIs s x (.slice (some (ad b0 0)) 0 0)] [e2 : EvalIs s y (.slice a len cap)] [u : UnderIs P t (.slice e)] [bi : BytesIs P e 1 by_] [o : ObjIs h b0 [] e true] (hx : SlIs h a len cap vs) (hb0 : lo ≤ b0) (hr : len * by_ ≤ 2 ^ 47 + 2 ^ 20)
    (k : ∀ v' h', Own lo h' v' vs e → Ext h h' → WS P E ops K l (putS s d v') h') : WS P E ops K (⟨d, .call ⟨.builtin .append, #[x, y], #[t, t]⟩, ty, pos, af, none⟩ :: l) s h := by
  obtain ⟨ei, z, h1, h2, h3, h4, h5, h6, h7⟩ := bi.eq
  obtain ⟨g1, g2, g3⟩ := hx
  have hroom : roomOk ((0 + len) * by_) = true := by simp [roomOk]; omega
  have hrow : h.rowAt a len 1 = some vs := by
    cases a with
    | none => simp only at g3; have : len = 0 := by omega
              subst this; have : vs = [] := List.eq_nil_of_length_eq_zero g1
              subst this; rfl
    | some a => simpa [IHp.rowAt] using g3
  have hex : iexact h b0 = true := by unfold iexact; rw [if_neg (by have := o.even; omega), o.eq]
  have e1' := ev_eq (E := E) (h := h) (x := x) (s := s)
  have e2' := ev_eq (E := E) (h := h) (x := y) (s := s)
  have hop : ∀ v' h', iappend P h #[t, t] #[.slice (some (ad b0 0)) 0 0, .slice a len cap] = some (v', h') → iheap P h (E.st s h).eval ⟨d, .call ⟨.builtin .append, #[x, y], #[t, t]⟩, ty, pos, af, none⟩ = some (v', h') := by
    intro v' h' hh
    show (if (#[x, y].size = 2) then iappend P h #[t, t] (#[x, y].map (E.st s h).eval) else none) = _
    rw [if_pos (show #[x, y].size = 2 from rfl)]
    simp only [List.map_toArray, List.map_cons, List.map_nil, e1', e2']
    exact hh
  by_cases hl : len = 0
  · subst hl
    have hvs : vs = [] := List.eq_nil_of_length_eq_zero g1
    subst hvs
    refine WS_heap rfl (hop (.slice (some (ad b0 0)) 0 0) h ?_) (k _ _ (.inr ⟨b0, true, hb0, rfl, o⟩) (Ext.refl h))
    simp only [iappend, List.getElem?_toArray, List.getElem?_cons_zero, List.getElem?_cons_succ, u.eq, h1, h2, h3, h4, h5, h7, hrow, hroom, Option.bind_some]
    simp [spotted, hroom, IHp.setRow]
  · refine WS_heap rfl (hop (.slice (some (ad h.fresh 0)) len len) (h.push (.cells vs e false)) ?_) (k _ _ (.inr ⟨h.fresh, false, by have := o.lt; omega, by rw [g1], inferInstance⟩) (Ext.push h _))
    simp only [iappend, List.getElem?_toArray, List.getElem?_cons_zero, List.getElem?_cons_succ, u.eq, h1, h2, h3, h4, h5, h7, hrow, hroom, hex, Option.bind_some]
    simp [spotted, hroom, hl, IHp.rowAt, IHp.row]
end Go.Ideal

-- IdealZ
set_option linter.unusedSimpArgs false
set_option linter.unusedVariables false
namespace Go.Ideal
open Go Go.RowKit
variable {P : Program} {E : Env} {s : Nat → Value} {h : IHp} {ops : Array Oper} {K : SK} {l : List Oper} {d : Option Tmp} {ty : TypeId} {pos : String} {af : Array Edge}
/-- a slice that grows, n elements of m cells: nothing yet, or a block of its own (not below lo) that is full -/
def LstM (m lo : Nat) (h : IHp) (v : Value) (n : Nat) (vs : List Value) (t : TypeId) : Prop :=
  (v = .slice none 0 0 ∧ n = 0 ∧ vs = []) ∨ ∃ b, lo ≤ b ∧ v = .slice (some (ad b 0)) n n ∧ ObjIs h b vs t false ∧ n ≠ 0 ∧ vs.length = n * m
theorem LstM.block {m lo : Nat} {h : IHp} {v : Value} {n : Nat} {vs : List Value} {t : TypeId} (x : LstM m lo h v n vs t) {b : Nat} (hb : blockOf v = some b) : lo ≤ b ∧ b < h.fresh := by
  rcases x with ⟨rfl, rfl, rfl⟩ | ⟨c, h1, rfl, h2, h3⟩
  · simp [blockOf] at hb
  · simp only [blockOf, Option.some.injEq] at hb; subst hb; exact ⟨h1, h2.lt⟩
theorem LstM.isSlice {m lo : Nat} {h : IHp} {v : Value} {n : Nat} {vs : List Value} {t : TypeId} (x : LstM m lo h v n vs t) : ∃ a, v = .slice a n n := by
  rcases x with ⟨rfl, rfl, rfl⟩ | ⟨c, h1, rfl, h2, h3⟩
  · exact ⟨_, rfl⟩
  · exact ⟨_, rfl⟩
theorem LstM.ext {m lo : Nat} {h h' : IHp} (e : Ext h h') {v : Value} {n : Nat} {vs : List Value} {t : TypeId} (x : LstM m lo h v n vs t) : LstM m lo h' v n vs t := by
  rcases x with ⟨h1, h2, h3⟩ | ⟨b, h1, h2, h3, h4⟩
  · exact .inl ⟨h1, h2, h3⟩
  · exact .inr ⟨b, h1, h2, ⟨h3.even, e.new _ _ h3.eq⟩, h4⟩
theorem LstM.put {m lo : Nat} {h : IHp} {v : Value} {n : Nat} {vs : List Value} {t : TypeId} (x : LstM m lo h v n vs t) {b : Nat} {o : IObj} (hb : blockOf v ≠ some b) (he : b % 2 = 0) : LstM m lo (h.putObj b o) v n vs t := by
  rcases x with ⟨h1, h2, h3⟩ | ⟨c, h1, rfl, h2, h3⟩
  · exact .inl ⟨h1, h2, h3⟩
  · refine .inr ⟨c, h1, rfl, ?_, h3⟩
    have : NeB c b := .of h2.even he (fun hc => hb (by simp [blockOf, hc]))
    infer_instance
theorem LstM.lower {m lo lo' : Nat} {h : IHp} {v : Value} {n : Nat} {vs : List Value} {t : TypeId} (x : LstM m lo h v n vs t) (hl : lo' ≤ lo) : LstM m lo' h v n vs t := by
  rcases x with h1 | ⟨b, h1, h2⟩
  · exact .inl h1
  · exact .inr ⟨b, by omega, h2⟩
theorem Mod.extM {h0 h h' : IHp} {v : Value} {m n : Nat} {vs : List Value} {t : TypeId} (md : Mod v h h') (e : Ext h0 h) (x : LstM m h0.fresh h v n vs t) : Ext h0 h' :=
  ⟨md.old.trans e.old, fun i o hi => md.new i o (e.new i o hi) (fun hb => by
    have h1 := (x.block hb).1
    have := (List.getElem?_eq_some_iff.1 hi).1
    unfold IHp.fresh at h1; omega)⟩
theorem append_lstM {m lo : Nat} {v : Value} {n : Nat} {vs ws : List Value} {e t by_ bx : Nat} [u : UnderIs P t (.slice e)] [bi : BytesIs P e m by_] (c : h.row bx 0 m = some ws) (x : LstM m lo h v n vs e) (hlo : lo ≤ h.fresh) (hr : (n + 1) * by_ ≤ 2 ^ 47 + 2 ^ 20) :
    ∃ v' h', iappend P h #[t, t] #[v, .slice (some (ad bx 0)) 1 1] = some (v', h') ∧ LstM m lo h' v' (n + 1) (vs ++ ws) e ∧ Mod v h h' ∧ blockOf v' = some h.fresh := by
  obtain ⟨ei, z, h1, h2, h3, h4, h5, h6, h7⟩ := bi.eq
  have rlen : ∀ (k off : Nat) (l : List Value), h.row bx off k = some l → l.length = k := by
    intro k
    induction k with
    | zero => intro off l hl; simp [IHp.row] at hl; subst hl; rfl
    | succ k ih =>
      intro off l hl
      simp only [IHp.row, Option.bind_eq_some_iff] at hl
      obtain ⟨w, _, l', h2, h3⟩ := hl
      obtain rfl := Option.some.inj h3
      simp [ih _ _ h2]
  have hwl := rlen _ _ _ c
  have hrow : h.rowAt (some (ad bx 0)) 1 m = some ws := by simp [IHp.rowAt, c]
  have hroom : roomOk ((n + 1) * by_) = true := by simp [roomOk]; omega
  rcases x with ⟨rfl, rfl, rfl⟩ | ⟨b, hb, rfl, ho, hne, hvl⟩
  · refine ⟨_, h.push (.cells ws e false), ?_, .inr ⟨h.fresh, hlo, rfl, by rw [List.nil_append]; infer_instance, by simp, by simp [hwl]⟩, ⟨rfl, fun i o hi _ => (Ext.push h _).new i o hi, by simp [IHp.push]⟩, rfl⟩
    simp only [Nat.zero_add, Nat.one_mul] at hroom
    simp [iappend, u.eq, h1, h2, h3, h4, h5, hrow, h6, h7, hroom, spotted]
  · have hl := ho.lt
    have he := ho.even
    refine ⟨_, ⟨h.old, (h.new.set (b / 2) .dead) ++ [IObj.cells (vs ++ ws) e false]⟩, ?_, .inr ⟨h.fresh, hlo, rfl, ⟨by unfold IHp.fresh; omega, ?_⟩, by simp, by simp [hwl, hvl, Nat.add_mul]⟩, ⟨rfl, fun i o hi hn => ?_, by simp⟩, rfl⟩
    · have hrow2 : h.rowAt (some (ad b 0)) n m = some vs := by
        have := row_obj (n := n * m) ho 0 (by omega)
        simp only [IHp.rowAt, this]
        rw [← hvl]; simp
      have hex : iexact h b = false := by unfold iexact; rw [if_neg (by omega), ho.eq]
      simp only [iappend, List.getElem?_toArray, List.getElem?_cons_zero, List.getElem?_cons_succ, u.eq, h1, h2, h3, h4, h5, h6, h7, hrow, hrow2, hex, ho.eq, hroom, Option.bind_some]
      simp [spotted, hroom, h6, hvl]
    · have : (IHp.fresh h) / 2 = h.new.length := by unfold IHp.fresh; omega
      rw [this]; simp
    · have : b / 2 ≠ i := by
        intro hbi; apply hn; simp only [blockOf]; congr 1; omega
      have hi2 := (List.getElem?_eq_some_iff.1 hi).1
      simp only
      rw [List.getElem?_append_left (by simpa using hi2), List.getElem?_set_ne this]; exact hi
theorem WS_appendM {m lo : Nat} {x y : Operand} {v : Value} {n : Nat} {vs ws : List Value} {e t by_ bx : Nat} [e1 : EvalIs s x v] [e2 : EvalIs s y (.slice (some (ad bx 0)) 1 1)] [u : UnderIs P t (.slice e)] [bi : BytesIs P e m by_] [c : RowIs h bx 0 m ws] (hx : LstM m lo h v n vs e) (hlo : lo ≤ h.fresh) (hr : (n + 1) * by_ ≤ 2 ^ 47 + 2 ^ 20)
    (k : ∀ v' h', LstM m lo h' v' (n + 1) (vs ++ ws) e → Mod v h h' → blockOf v' = some h.fresh → WS P E ops K l (putS s d v') h') : WS P E ops K (⟨d, .call ⟨.builtin .append, #[x, y], #[t, t]⟩, ty, pos, af, none⟩ :: l) s h := by
  obtain ⟨v', h', h1, h2, h3, h4⟩ := append_lstM (P := P) (t := t) (bx := bx) (ws := ws) c.eq hx hlo hr
  refine WS_heap rfl ?_ (k v' h' h2 h3 h4)
  have e1' := ev_eq (E := E) (h := h) (x := x) (s := s)
  have e2' := ev_eq (E := E) (h := h) (x := y) (s := s)
  show (if (#[x, y].size = 2) then iappend P h #[t, t] (#[x, y].map (E.st s h).eval) else none) = _
  rw [if_pos (show #[x, y].size = 2 from rfl)]
  simp only [List.map_toArray, List.map_cons, List.map_nil, e1', e2']
  exact h1
/-- closures -/
theorem WS_makeFunc {f : FuncId} {ac bs : List Operand} {va vb : List Value} [e1 : EvalsIs s ac va] [e2 : EvalsIs s bs vb] (k : WS P E ops K l (putS s d (.func (.func f) va.toArray vb.toArray)) h) : WS P E ops K (⟨d, .makeFunc (.func f) ac.toArray bs.toArray, ty, pos, af, none⟩ :: l) s h := by
  refine WS_pure rfl rfl ?_ k
  have h1 : ac.map (E.st s h).eval = va := e1.eq h E.nt E.marks E.rd
  have h2 : bs.map (E.st s h).eval = vb := e2.eq h E.nt E.marks E.rd
  simp only [ipure, List.map_toArray, h1, h2]
end Go.Ideal

-- IdealZa
set_option linter.unusedSimpArgs false
set_option linter.unusedVariables false
namespace Go.Ideal
open Go Go.RowKit
variable {P : Program} {E : Env} {s : Nat → Value} {h : IHp} {ops : Array Oper} {K : SK} {l : List Oper} {d : Option Tmp} {ty : TypeId} {pos : String} {af : Array Edge}
/-! ### Aggregates that are loaded first in a region that draws its order -/
class CellsL (i b off : Nat) (vs : List Value) (held : Held) (r : outParam Held) : Prop where eq : cellsOf i b off vs ++ held = r
instance CellsL.nil {i b off : Nat} {held : Held} : CellsL i b off [] held held := ⟨rfl⟩
instance CellsL.cons {i b off : Nat} {v : Value} {vs : List Value} {held r : Held} [c : CellsL i b (off + 1) vs held r] : CellsL i b off (v :: vs) held ((i, b, off, v) :: r) := ⟨by simp only [cellsOf, List.cons_append, c.eq]⟩
/-- an alloc ahead of its time -/
theorem WD_virtG {i : Nat} {plan : List PStep} {held r : Held} {snaps : List IHp} {op : Op} {t : TypeId} {ws : List Value} {len : Option Nat} (ho : ops[i]? = some ⟨d, op, ty, pos, af, none⟩) (hm : imade P (E.st s h).eval ⟨d, op, ty, pos, af, none⟩ = some (t, ws, len)) (hpos : ws.isEmpty = false)
    [l1 : CellsL i h.fresh 0 ws held r] [hh : HeldIs (h.push (.cells ws t true)) r]
    (k : WD P E ops K plan r (h.push (.cells ws t true) :: snaps) (putS s d (madeV len h.fresh)) (h.push (.cells ws t true))) : WD P E ops K (.virt i :: plan) held snaps s h := by
  unfold WD at k ⊢
  obtain ⟨n, st', h5, h6⟩ := k
  refine ⟨n, st', ?_, h6⟩
  have hsz : decide (0 < ws.length) = true := by
    cases ws with
    | nil => cases hpos
    | cons a l => simp
  have hck := hh.eq
  simp only [Env.st] at hm
  simp only [iplan, ho, Option.bind_some, Env.st, hm, l1.eq, hck, hsz, Bool.true_and, if_true]
  exact h5
theorem WD_virt {i : Nat} {plan : List PStep} {held r : Held} {snaps : List IHp} {t : TypeId} {z : Value} {ws : List Value} (ho : ops[i]? = some ⟨d, .alloc t, ty, pos, af, none⟩) [zi : ZeroIs P t z] [cs : CellsOf z ws] (hpos : ws.isEmpty = false)
    [l1 : CellsL i h.fresh 0 ws held r] [hh : HeldIs (h.push (.cells ws t true)) r]
    (k : WD P E ops K plan r (h.push (.cells ws t true) :: snaps) (putS s d (.pointer (some (ad h.fresh 0)))) (h.push (.cells ws t true))) : WD P E ops K (.virt i :: plan) held snaps s h := by
  refine WD_virtG (len := none) ho ?_ hpos k
  have h4 : z.cells.toList = ws := by rw [cs.eq]
  simp only [imade, zi.eq, Option.bind_some, isRowV, h4, cs.ok, if_true]
end Go.Ideal

-- IdealZb
set_option linter.unusedSimpArgs false
set_option linter.unusedVariables false
namespace Go.Ideal
open Go Go.RowKit
variable {P : Program} {E : Env} {s : Nat → Value} {h : IHp} {ops : Array Oper} {K : SK} {l : List Oper} {d : Option Tmp} {ty : TypeId} {pos : String} {af : Array Edge}
/-! ### The same number twice; contracts that say less; closed calls -/
theorem EvX.mono {f : FuncId} {args : Array Value} {Φ Ψ : Value → IHp → Prop} (e : EvX P f args h Φ) (k : ∀ v h', Φ v h' → Ψ v h') : EvX P f args h Ψ := by
  unfold EvX at *
  obtain ⟨v, h', h1, h2⟩ := e
  exact ⟨v, h', h1, k v h' h2⟩
theorem ext_of_take {h h' : IHp} (ho : h'.old = h.old) (ht : h'.new.take h.new.length = h.new) : Ext h h' := ⟨ho, fun i o hi => by
  have h1 : i < h.new.length := (List.getElem?_eq_some_iff.1 hi).1
  rw [← ht, List.getElem?_take] at hi
  rw [if_pos h1] at hi
  exact hi⟩
/-- a closed call, evaluated by the kernel -/
theorem EvX_ran {n f : Nat} {args : Array Value} {v : Value} (hr : (icall P n (.fn f) args h).map (fun r => (veq r.1 v, r.2.old, r.2.new.take h.new.length)) = some (true, h.old, h.new)) : EvX P f args h (fun w h' => w = v ∧ Ext h h') := by
  unfold EvX
  obtain ⟨⟨w, h'⟩, h1, h2⟩ := Option.map_eq_some_iff.1 hr
  simp only [Prod.mk.injEq] at h2
  obtain ⟨h3, h4, h5⟩ := h2
  exact ⟨w, h', ⟨n, h1⟩, veq_eq h3, ext_of_take h4 h5⟩
/-- the heap gets a name -/
theorem WS_gen (k : ∀ H, H = h → WS P E ops K l s H) : WS P E ops K l s h := k h rfl
theorem V_gen {c : Code} {Q : IExit → SK} (k : ∀ H, H = h → V P E c Q s H) : V P E c Q s h := k h rfl
/-! ### The slots that are still needed -/
theorem WS_live1 (i1 : Nat) {v1 : Value} [g1 : Get s i1 v1] (k : ∀ s', Get s' i1 v1 → WS P E ops K l s' h) : WS P E ops K l s h := k s g1
end Go.Ideal

-- IdealZc
set_option linter.unusedSimpArgs false
set_option linter.unusedVariables false
namespace Go.Ideal
open Go Go.RowKit
variable {P : Program} {E : Env} {s : Nat → Value} {h : IHp} {ops : Array Oper} {K : SK} {l : List Oper} {d : Option Tmp} {ty : TypeId} {pos : String} {af : Array Edge}
/-! ### Strings and bools, compared -/
def beqS (a b : ByteArray) : Bool := a.data.toList == b.data.toList
theorem beqS_iff {a b : ByteArray} : beqS a b = true ↔ a = b := by
  unfold beqS
  constructor
  · intro h; cases a; cases b; simp_all
  · rintro rfl; simp
theorem WS_streq {t yt : TypeId} {x y : Operand} {a b : ByteArray} [e1 : EvalIs s x (.string a)] [e2 : EvalIs s y (.string b)] (kk : WS P E ops K l (putS s d (.bool (beqS a b))) h) :
    WS P E ops K (⟨d, .binOp .eql t x y yt, ty, pos, af, none⟩ :: l) s h := by
  have hn : isNilConst y = false := by
    cases y with
    | const c => have h2 := e2.eq h 0 [] false; simp only [St.eval] at h2; subst h2; rfl
    | _ => rfl
  refine WS_pure rfl rfl (ipure_bin (ev_eq (E := E) (h := h) (x := x)) (ev_eq (E := E) (h := h) (x := y)) rfl rfl hn h ?_ rfl) kk
  simp [eqGuard, binOp, Op.stringOp, beqS, ByteArray.toList_eq]; rfl
theorem WS_strne {t yt : TypeId} {x y : Operand} {a b : ByteArray} [e1 : EvalIs s x (.string a)] [e2 : EvalIs s y (.string b)] (kk : WS P E ops K l (putS s d (.bool (!beqS a b))) h) :
    WS P E ops K (⟨d, .binOp .neq t x y yt, ty, pos, af, none⟩ :: l) s h := by
  have hn : isNilConst y = false := by
    cases y with
    | const c => have h2 := e2.eq h 0 [] false; simp only [St.eval] at h2; subst h2; rfl
    | _ => rfl
  refine WS_pure rfl rfl (ipure_bin (ev_eq (E := E) (h := h) (x := x)) (ev_eq (E := E) (h := h) (x := y)) rfl rfl hn h ?_ rfl) kk
  simp [eqGuard, binOp, Op.stringOp, beqS, ByteArray.toList_eq]; rfl
theorem equal_bool {t : TypeId} (u : P.underlying t = some .bool) (a b : Bool) : pureOf P (Op.equal t (.bool a) (.bool b)) = some (a == b) := by
  rw [equal_succ]
  generalize 9999 = d
  simp only [Op.equalIn, underlying, program]
  show pureOf P (Sem.bind _ _) = _
  simp [pureOf, bind, pure, Sem.bind, u]
theorem WS_booleq {t yt : TypeId} {x y : Operand} {a b : Bool} [u : UnderIs P t .bool] [e1 : EvalIs s x (.bool a)] [e2 : EvalIs s y (.bool b)] (kk : WS P E ops K l (putS s d (.bool (a == b))) h) :
    WS P E ops K (⟨d, .binOp .eql t x y yt, ty, pos, af, none⟩ :: l) s h := by
  have hn : isNilConst y = false := by
    cases y with
    | const c => have h2 := e2.eq h 0 [] false; simp only [St.eval] at h2; subst h2; rfl
    | _ => rfl
  refine WS_pure rfl rfl (ipure_bin (ev_eq (E := E) (h := h) (x := x)) (ev_eq (E := E) (h := h) (x := y)) rfl rfl hn h ?_ rfl) kk
  have h1 := pureOf_map (P := P) (fun b => Value.bool b) (equal_bool u.eq a b)
  simpa [eqGuard, binOp] using h1
theorem WS_boolne {t yt : TypeId} {x y : Operand} {a b : Bool} [u : UnderIs P t .bool] [e1 : EvalIs s x (.bool a)] [e2 : EvalIs s y (.bool b)] (kk : WS P E ops K l (putS s d (.bool (!(a == b)))) h) :
    WS P E ops K (⟨d, .binOp .neq t x y yt, ty, pos, af, none⟩ :: l) s h := by
  have hn : isNilConst y = false := by
    cases y with
    | const c => have h2 := e2.eq h 0 [] false; simp only [St.eval] at h2; subst h2; rfl
    | _ => rfl
  refine WS_pure rfl rfl (ipure_bin (ev_eq (E := E) (h := h) (x := x)) (ev_eq (E := E) (h := h) (x := y)) rfl rfl hn h ?_ rfl) kk
  have h1 := pureOf_map (P := P) (fun b => Value.bool (!b)) (equal_bool u.eq a b)
  simpa [eqGuard, binOp] using h1

/-! ### Maps from strings -/
def ents : List (ByteArray × Value) → Nat → List MapEntry
  | [], _ => []
  | (b, v) :: l, i => { key := .string b, val := v, born := i } :: ents l (i + 1)
def lookB (b : ByteArray) : List (ByteArray × Value) → Option Value
  | [] => none
  | (k, v) :: l => if beqS b k then some v else lookB b l
theorem ents_append : ∀ (l r : List (ByteArray × Value)) (i : Nat), ents (l ++ r) i = ents l i ++ ents r (i + l.length) := by
  intro l
  induction l with
  | nil => intro r i; simp [ents]
  | cons p l ih => intro r i; obtain ⟨b, v⟩ := p; simp only [List.cons_append, ents, ih, List.length_cons]; rw [show i + 1 + l.length = i + (l.length + 1) by omega]
theorem find_ents (b : ByteArray) : ∀ (ks : List (ByteArray × Value)) (i j : Nat), Instr.findNow .string (.string b) (ents ks i) j = match lookB b ks with | none => some none | some v => some (some ((Instr.findNow .string (.string b) (ents ks i) j).bind id |>.map (·.1) |>.getD 0, v)) := by
  intro ks
  induction ks with
  | nil => intro i j; rfl
  | cons p ks ih =>
    intro i j
    obtain ⟨k, v⟩ := p
    have hb : (b == k) = beqS b k := by
      have h0 : (b == k) = (b.data == k.data) := rfl
      rw [h0, beqS]
      cases h1 : (b.data.toList == k.data.toList) with
      | true => have h2 := eq_of_beq h1; simp [Array.ext' h2]
      | false => rw [beq_eq_false_iff_ne] at h1 ⊢; exact fun h3 => h1 (by rw [h3])
    cases h1 : beqS b k with
    | true => simp only [ents, Instr.findNow, Instr.sameNow, lookB, hb, h1, if_true]; rfl
    | false =>
      have h2 := ih (i + 1) (j + 1)
      simp only [ents, Instr.findNow, Instr.sameNow, lookB, hb, h1, Bool.false_eq_true, if_false]
      exact h2
class MapIs (h : IHp) (m : Nat) (ks : outParam (List (ByteArray × Value))) : Prop where
  even : m % 2 = 0
  eq : h.new[m / 2]? = some (.map (ents ks 0) ks.length)
theorem MapIs.ext {h h' : IHp} (e : Ext h h') {m : Nat} {ks : List (ByteArray × Value)} (i : MapIs h m ks) : MapIs h' m ks := ⟨i.even, e.new _ _ i.eq⟩
instance (priority := 500) MapIs.extI {h h' : IHp} [e : Ext h h'] {m : Nat} {ks : List (ByteArray × Value)} [i : MapIs h m ks] : MapIs h' m ks := i.ext e
theorem WS_makeMap {t : TypeId} (k : WS P E ops K l (putS s d (.map (some h.fresh))) (h.push (.map [] 0))) : WS P E ops K (⟨d, .makeMap t none, ty, pos, af, none⟩ :: l) s h :=
  WS_heap rfl rfl k
theorem WS_insert {t kt et : TypeId} {m x y : Operand} {r : Nat} {b : ByteArray} {v : Value} {ks : List (ByteArray × Value)} [em : EvalIs s m (.map (some r))] [ex : EvalIs s x (.string b)] [ey : EvalIs s y v] [u : UnderIs P t (.map kt et)] [uk : UnderIs P kt .string] [mi : MapIs h r ks] (hb : lookB b ks = none)
    (k : WS P E ops K l (putS s d undef) (h.putObj r (.map (ents (ks ++ [(b, v)]) 0) (ks ++ [(b, v)]).length))) : WS P E ops K (⟨d, .insert t m x y, ty, pos, af, none⟩ :: l) s h := by
  refine WS_heap rfl ?_ k
  have h1 := ev_eq (E := E) (h := h) (x := m) (s := s)
  have h2 := ev_eq (E := E) (h := h) (x := x) (s := s)
  have h3 := ev_eq (E := E) (h := h) (x := y) (s := s)
  have hf := find_ents b ks 0 0
  rw [hb] at hf
  have he := mi.even
  simp only [iheap, iinsert, h1, h2, h3, u.eq, uk.eq, mi.eq, plainKey, flat, flatN, Bool.and_self, if_true, hf]
  rw [if_neg (by omega)]
  simp [ents_append, ents, IHp.putObj]
theorem WS_lookup {t kt et : TypeId} {m x : Operand} {r : Nat} {b : ByteArray} {z : Value} {ks : List (ByteArray × Value)} [em : EvalIs s m (.map (some r))] [ex : EvalIs s x (.string b)] [u : UnderIs P t (.map kt et)] [uk : UnderIs P kt .string] [mi : MapIs h r ks] [zi : ZeroIs P et z]
    (k : WS P E ops K l (putS s d ((lookB b ks).getD z)) h) : WS P E ops K (⟨d, .lookup t m x false, ty, pos, af, none⟩ :: l) s h := by
  refine WS_heap rfl ?_ k
  have h1 := ev_eq (E := E) (h := h) (x := m) (s := s)
  have h2 := ev_eq (E := E) (h := h) (x := x) (s := s)
  have hf := find_ents b ks 0 0
  have he := mi.even
  simp only [iheap, ilookup, h1, h2, u.eq, uk.eq, mi.eq, plainKey, flat, flatN, Bool.and_self, if_true]
  rw [if_neg (by omega)]
  cases hl : lookB b ks with
  | none => rw [hl] at hf; simp only at hf; rw [hf]; simp [zi.eq]
  | some v => rw [hl] at hf; simp only at hf; rw [hf]; simp
theorem WS_lookup_ok {t kt et : TypeId} {m x : Operand} {r : Nat} {b : ByteArray} {z : Value} {ks : List (ByteArray × Value)} [em : EvalIs s m (.map (some r))] [ex : EvalIs s x (.string b)] [u : UnderIs P t (.map kt et)] [uk : UnderIs P kt .string] [mi : MapIs h r ks] [zi : ZeroIs P et z]
    (k : WS P E ops K l (putS s d (.tuple [(lookB b ks).getD z, .bool (lookB b ks).isSome].toArray)) h) : WS P E ops K (⟨d, .lookup t m x true, ty, pos, af, none⟩ :: l) s h := by
  refine WS_heap rfl ?_ k
  have h1 := ev_eq (E := E) (h := h) (x := m) (s := s)
  have h2 := ev_eq (E := E) (h := h) (x := x) (s := s)
  have hf := find_ents b ks 0 0
  have he := mi.even
  simp only [iheap, ilookup, h1, h2, u.eq, uk.eq, mi.eq, plainKey, flat, flatN, Bool.and_self, if_true]
  rw [if_neg (by omega)]
  cases hl : lookB b ks with
  | none => rw [hl] at hf; simp only at hf; rw [hf]; simp [zi.eq]
  | some v => rw [hl] at hf; simp only at hf; rw [hf]; simp

/-! ### A place where ways meet -/
theorem WS_mono {K' : SK} (hk : ∀ s h, K s h → K' s h) : ∀ {l : List Oper} {s : Nat → Value} {h : IHp}, WS P E ops K l s h → WS P E ops K' l s h := by
  intro l
  induction l with
  | nil => intro s h hw; rw [WS_nil_eq] at *; exact hk _ _ hw
  | cons o l ih =>
    intro s h hw
    rw [WS_cons_eq] at *
    split
    · rename_i hwn
      rw [if_pos hwn] at hw
      unfold WO at *
      split
      · rename_i c args hc
        rw [hc] at hw
        obtain ⟨n, v, h', h1, s2, h2, h3, h4⟩ := hw
        exact ⟨n, v, h', h1, s2, h2, h3, ih h4⟩
      · rename_i hc
        rw [hc] at hw
        obtain ⟨r, h1, s2, h2, h3, h4⟩ := hw
        exact ⟨r, h1, s2, h2, h3, ih h4⟩
    · rename_i hwn
      rw [if_neg hwn] at hw
      exact ih hw
/-- ways meet behind the region at hand -/
theorem WS_cut {b : Code} {Q : IExit → SK} (I : SK) (k1 : WS P E ops I l s h) (k2 : ∀ s' h', I s' h' → V P E b Q s' h') : WS P E ops (VseqK P E b Q .normal) l s h :=
  WS_mono (fun s' h' hi => by unfold VseqK; exact k2 s' h' hi) k1
theorem V_mono {c : Code} {Q Q' : IExit → SK} (hq : ∀ e s' h', Q e s' h' → Q' e s' h') (k : V P E c Q s h) : V P E c Q' s h := by
  unfold V at *
  refine W_mono ?_ k
  rintro e st ⟨s', h', rfl, h1⟩
  exact ⟨s', h', rfl, hq _ _ _ h1⟩
@[irreducible] def cutK (I : SK) (K : IExit → SK) : IExit → SK
  | .normal, s, h => I s h
  | e, s, h => K e s h
theorem C_normal {I : SK} {K : IExit → SK} (k : I s h) : cutK I K .normal s h := by unfold cutK; exact k
theorem C_ret {I : SK} {K : IExit → SK} (k : K .ret s h) : cutK I K .ret s h := by unfold cutK; exact k
/-- ways meet behind the code at hand -/
theorem V_cut {a b : Code} {Q : IExit → SK} (I : SK) (k1 : V P E a (cutK I (VseqK P E b Q)) s h) (k2 : ∀ s' h', I s' h' → V P E b Q s' h') : V P E a (VseqK P E b Q) s h :=
  V_mono (fun e s' h' hi => by
    unfold cutK at hi
    cases e with
    | normal => unfold VseqK; exact k2 s' h' hi
    | exit j => exact hi
    | ret => exact hi) k1
theorem V_cond_t {c : Operand} {a b : Code} {Q : IExit → SK} {t : Bool} [ev : EvalIs s c (.bool t)] (ht : t = true) (k : V P E a Q s h) : V P E (.cond c a b) Q s h := V_cond (fun _ => k) (fun h2 => by rw [ht] at h2; cases h2)
theorem V_cond_f {c : Operand} {a b : Code} {Q : IExit → SK} {t : Bool} [ev : EvalIs s c (.bool t)] (ht : t = false) (k : V P E b Q s h) : V P E (.cond c a b) Q s h := V_cond (fun h2 => by rw [ht] at h2; cases h2) (fun _ => k)
theorem get_as {s : Nat → Value} {i : Nat} {v w : Value} [g : Get s i v] (h : v = w) : Get s i w := ⟨g.eq.trans h⟩
/-- the guard's operation was passed over itself -/
theorem WS_off_undef {op : Op} {j : Nat} {u : Bool} {x : Tmp} (hd : (ops[j]?).bind (·.dst) = some x) [g : Get s x undef] (k : WS P E ops K l (putS s d undef) h) : WS P E ops K (⟨d, op, ty, pos, af, some (j, u)⟩ :: l) s h := by
  rw [WS_cons_eq, if_neg]
  · exact k
  · simp [iwanted, Region.wanted, iyielded, hd, g.eq, undef]
/-- the first part of a slice -/
theorem WS_slice_hi {x y : Operand} {t e : TypeId} {a : Addr} {len cap m : Nat} {k : IntKind} {i : Int} [e1 : EvalIs s x (.slice (some a) len cap)] [e2 : EvalIs s y (.int k i)] [u : UnderIs P t (.slice e)] [z : SizeIs P e m] (hs : a.spot = none) (hi : 0 ≤ i ∧ i ≤ cap)
    (kk : WS P E ops K l (putS s d (.slice (some (ad a.block a.off)) i.toNat cap)) h) : WS P E ops K (⟨d, .slice t x none (some y) none, ty, pos, af, none⟩ :: l) s h := by
  refine WS_pure rfl rfl ?_ kk
  have h1 := ev_eq (E := E) (h := h) (x := x) (s := s)
  have h2 := ev_eq (E := E) (h := h) (x := y) (s := s)
  have h3 : ibounds len cap none (some (.int k i)) = some (0, i.toNat, cap) := by
    simp only [ibounds, ibound, if_pos hi, Option.bind_some]
    rw [if_pos (by omega)]
  simp only [ipure, islice, h1, h2, u.eq, Option.map_none, Option.map_some]
  rw [if_neg (by simp [spotted, hs])]
  simp only [h3, Option.bind_some, z.eq]
  rw [if_neg (by rintro ⟨_, h⟩; exact h rfl)]
  simp
theorem row_take {h : IHp} {b : Nat} : ∀ {n off : Nat} {vs : List Value}, h.row b off n = some vs → ∀ {k : Nat}, k ≤ n → h.row b off k = some (vs.take k) := by
  intro n
  induction n with
  | zero =>
    intro off vs hr k hk
    cases k with
    | zero => simp [IHp.row]
    | succ k => omega
  | succ n ih =>
    intro off vs hr k hk
    simp only [IHp.row, Option.bind_eq_some_iff] at hr
    obtain ⟨v, hv, vs', hvs, h3⟩ := hr
    obtain rfl := Option.some.inj h3
    cases k with
    | zero => simp [IHp.row]
    | succ k => simp only [IHp.row, hv, Option.bind_some, ih hvs (show k ≤ n by omega), List.take_succ_cons]
/-- what was held and is waited for is held no more -/
def keptL (ops : Array Oper) (i : Nat) (e : Nat × Nat × Nat × Value) : Bool := quietAt ops i || !waitsL ops i e.1
@[irreducible] def Filt (ops : Array Oper) (i : Nat) (l : Held) (C : Held → Prop) : Prop := C (l.filter (keptL ops i))
theorem Filt_nil {i : Nat} {C : Held → Prop} (k : C []) : Filt ops i [] C := by unfold Filt; exact k
theorem Filt_drop {i j b off : Nat} {v : Value} {l : Held} {C : Held → Prop} (hk : keptL ops i (j, b, off, v) = false) (k : Filt ops i l C) : Filt ops i ((j, b, off, v) :: l) C := by
  unfold Filt at *; rw [List.filter_cons, if_neg (by rw [hk]; decide)]; exact k
theorem Filt_keep {i j b off : Nat} {v : Value} {l : Held} {C : Held → Prop} (hk : keptL ops i (j, b, off, v) = true) (k : Filt ops i l (fun r => C ((j, b, off, v) :: r))) : Filt ops i ((j, b, off, v) :: l) C := by
  unfold Filt at *; rw [List.filter_cons, if_pos hk]; exact k
theorem WD_filt {i : Nat} {plan : List PStep} {held : Held} {snaps : List IHp} {o : Oper} (ho : ops[i]? = some o) (k : Filt ops i held (fun r => WS P E ops (WDK P E ops K plan r snaps) [o] s h)) : WD P E ops K (.one i :: plan) held snaps s h :=
  WD_one_of (held' := held.filter (keptL ops i)) ho (fun e he => by
    unfold heldBut at he
    rw [List.mem_filter]
    unfold keptL
    split at he
    · rename_i hq; exact ⟨he, by rw [hq]; rfl⟩
    · have h1 := List.mem_filter.1 he
      refine ⟨h1.1, ?_⟩
      have h2 := h1.2
      rw [← waitsL_eq] at h2
      rw [h2]; simp) (by unfold Filt at k; exact k)
end Go.Ideal

-- IdealZd
set_option linter.unusedSimpArgs false
set_option linter.unusedVariables false
namespace Go.Ideal
open Go Go.RowKit
variable {P : Program} {E : Env} {s : Nat → Value} {h : IHp} {ops : Array Oper} {K : SK} {l : List Oper} {d : Option Tmp} {ty : TypeId} {pos : String} {af : Array Edge}

/-! ### Loops over functions -/
/-- what lies at a block, whatever it is -/
class AtIs (h : IHp) (b : Nat) (o : outParam IObj) : Prop where
  even : b % 2 = 0
  eq : h.new[b / 2]? = some o
theorem AtIs.lt {b : Nat} {o : IObj} (a : AtIs h b o) : b < h.fresh := by
  have := (List.getElem?_eq_some_iff.1 a.eq).1
  have := a.even
  unfold IHp.fresh; omega
instance (priority := 1000) AtIs.pushed {o : IObj} : AtIs (h.push o) h.fresh o := ⟨by unfold IHp.fresh; omega, obj_push h _⟩
instance (priority := 900) AtIs.push {o o' : IObj} {b : Nat} [i : AtIs h b o] : AtIs (h.push o') b o := ⟨i.even, (Ext.push h o').new _ _ i.eq⟩
instance (priority := 500) AtIs.ext {h' : IHp} {b : Nat} {o : IObj} [e : Ext h h'] [i : AtIs h b o] : AtIs h' b o := ⟨i.even, e.new _ _ i.eq⟩
theorem AtIs.put {b : Nat} {o o' : IObj} (i : AtIs h b o') : AtIs (h.putObj b o) b o := ⟨i.even, by
  have := (List.getElem?_eq_some_iff.1 i.eq).1
  simp [IHp.putObj, this]⟩
instance (priority := 1000) AtIs.putI {b : Nat} {o o' : IObj} [i : AtIs h b o'] : AtIs (h.putObj b o) b o := i.put
instance (priority := 800) AtIs.put_ne {b b' : Nat} {o o' : IObj} [n : NeB b' b] [i : AtIs h b' o'] : AtIs (h.putObj b o) b' o' := ⟨i.even, by
  have h1 := i.eq
  have h3 := n.eq
  simp only [IHp.putObj]
  rw [List.getElem?_set_ne (fun h => h3 h.symm)]; exact h1⟩
/-- a block of cells and one that is none are two -/
theorem AtIs.ne {b b' : Nat} {o : IObj} {c : List Value} {t : TypeId} {x : Bool} (i : AtIs h b o) (j : ObjIs h b' c t x) (hn : ∀ c e x, o ≠ .cells c e x) : NeB b' b := ⟨fun he => by
  have h1 := i.eq
  have h2 := j.eq
  rw [he, h1] at h2
  exact hn _ _ _ (Option.some.inj h2)⟩

/-- the round of a loop over a function -/
def EvY (P : Program) (b : Nat) (args : Array Value) (h : IHp) (Φ : Value → IHp → Prop) : Prop := ∃ n v h', icall P n (.yld b) args h = some (v, h') ∧ Φ v h'
theorem EvY.mono {b : Nat} {args : Array Value} {Φ Ψ : Value → IHp → Prop} (hy : EvY P b args h Φ) (hi : ∀ v h', Φ v h' → Ψ v h') : EvY P b args h Ψ :=
  let ⟨n, v, h', h1, h2⟩ := hy; ⟨n, v, h', h1, hi _ _ h2⟩
theorem WS_yield {fv : Operand} {b : Nat} {ps : List Operand} {vs : List Value} {at_ : Array TypeId} {Φ : Value → IHp → Prop} [ef : EvalIs s fv (.func (.yield b) #[] #[])] [e : EvalsIs s ps vs] (hc : EvY P b vs.toArray h Φ) (k : ∀ v h', Φ v h' → WS P E ops K l (putS s d v) h') :
    WS P E ops K (⟨d, .call ⟨.value fv, ps.toArray, at_⟩, ty, pos, af, none⟩ :: l) s h := by
  obtain ⟨n, v, h', hn, hp⟩ := hc
  rw [WS_cons_eq]
  rw [if_pos (by simp [iwanted, Region.wanted])]
  unfold WO
  have h1 : icallee P (E.st s h).eval ⟨d, .call ⟨.value fv, ps.toArray, at_⟩, ty, pos, af, none⟩ = some (.yld b, vs.toArray) := by
    simp only [icallee, List.map_toArray]
    have h2 : ps.map (E.st s h).eval = vs := e.eq h E.nt E.marks E.rd
    rw [h2, ev_eq (E := E) (h := h) (x := fv)]
    simp [icalleeV]
  rw [h1]
  exact ⟨n, v, h', hn, _, _, rfl, k v h' hp⟩

@[irreducible] def roundK2 (P : Program) (b : Nat) (Φ : Value → IHp → Prop) : IExit → SK := fun e s h =>
  e = .normal ∧ ∃ nt T ps ac bd st p, AtIs h b (.loop nt T ps ac bd st p) ∧ Φ (.bool true) (h.putObj b (.loop nt T ps ac bd .ready none))
@[irreducible] def roundK (P : Program) (nt b : Nat) (body : Code) (Φ : Value → IHp → Prop) : IExit → SK := fun e s h =>
  e = .normal ∧ ∃ nt1 T ps ac bd p, AtIs h b (.loop nt1 T ps ac bd .ready p) ∧ V P ⟨nt, [], true⟩ body (roundK2 P b Φ) s (h.putObj b (.loop nt1 T ps ac bd .busy p))
theorem roundK2_go {b nt : Nat} {T : Nat → Value} {ps : Array Tmp} {ac bd : Code} {st : LoopState} {p : Option Code} {Φ : Value → IHp → Prop} [i : AtIs h b (.loop nt T ps ac bd st p)] (k : Φ (.bool true) (h.putObj b (.loop nt T ps ac bd .ready none))) : roundK2 P b Φ .normal s h := by
  unfold roundK2; exact ⟨rfl, nt, T, ps, ac, bd, st, p, i, k⟩
theorem roundK_go {b nt nt1 : Nat} {body : Code} {T : Nat → Value} {ps : Array Tmp} {ac bd : Code} {p : Option Code} {Φ : Value → IHp → Prop} [i : AtIs h b (.loop nt1 T ps ac bd .ready p)] (k : V P ⟨nt, [], true⟩ body (roundK2 P b Φ) s (h.putObj b (.loop nt1 T ps ac bd .busy p))) : roundK P nt b body Φ .normal s h := by
  unfold roundK; exact ⟨rfl, nt1, T, ps, ac, bd, p, i, k⟩
theorem EvY_of {b nt : Nat} {T : Nat → Value} {ps : Array Tmp} {ac body : Code} {p : Option Code} {args : List Value} {Φ : Value → IHp → Prop} (i : AtIs h b (.loop nt T ps ac body .ready p)) (hsz : args.length = ps.size)
    (k : V P ⟨nt, [], true⟩ ac (roundK P nt b body Φ) (putAll T (ps.toList.zip args)) h) : EvY P b args.toArray h Φ := by
  unfold V at k
  obtain ⟨n1, e1, st1, hi1, s1, h1, rfl, k⟩ := k
  unfold roundK at k
  obtain ⟨rfl, nt1, T1, ps1, as1, bd1, p1, i1, k⟩ := k
  unfold V at k
  obtain ⟨n2, e2, st2, hi2, s2, h2, rfl, k⟩ := k
  unfold roundK2 at k
  obtain ⟨rfl, nt2, T2, ps2, as2, bd2, st2, p2, i2, k⟩ := k
  refine ⟨max n1 n2, .bool true, _, ?_, k⟩
  have hi1' := icode_mono (Nat.le_max_left n1 n2) _ _ _ hi1
  have hi2' := icode_mono (Nat.le_max_right n1 n2) _ _ _ hi2
  simp only [icall, icallBy, iround]
  rw [if_neg (by have := i.even; omega)]
  simp only [i.eq]
  rw [if_pos (by simpa using hsz)]
  have e0 : icode P (max n1 n2) ac { s := putAll T (ps.toList.zip args.toArray.toList), h, nt, rd := true } = some (.normal, (⟨nt, [], true⟩ : Env).st s1 h1) := hi1'
  simp only [e0, Env.st, i1.eq]
  have e3 : icode P (max n1 n2) body ⟨s1, { h1 with new := h1.new.set (b / 2) (.loop nt1 T1 ps1 as1 bd1 .busy p1) }, nt, [], true⟩ = some (.normal, (⟨nt, [], true⟩ : Env).st s2 h2) := hi2'
  simp only [e3, Env.st, i2.eq]
  rfl

/-- a statement that ends with a loop over a function -/
def splitL : Code → Option (Code × Nat × Operand × Array Tmp × Code × Code)
  | .block id (.rangeFunc f ps ac bd) => some (.skip, id, f, ps, ac, bd)
  | .seq a b => (splitL b).map fun r => (.seq a r.1, r.2)
  | _ => none
/-- the code up to a loop over a function, that loop, and what comes behind it -/
def splitR : Code → Option (Code × Nat × Operand × Array Tmp × Code × Code × Code)
  | .seq a b =>
    match splitL a with
    | some r => some (r.1, r.2.1, r.2.2.1, r.2.2.2.1, r.2.2.2.2.1, r.2.2.2.2.2, b)
    | none => (splitR b).map fun r => (.seq a r.1, r.2)
  | _ => none
def splitK (P : Program) (c : Code) (Q : IExit → St → Prop) : IExit → St → Prop
  | .normal, st => W P c Q st
  | e, st => Q e st
theorem W_splitL {t : Code} {Q : IExit → St → Prop} (a : Code) : ∀ {r : Code × Nat × Operand × Array Tmp × Code × Code} {st : St}, splitL a = some r → W P r.1 (splitK P (.seq (.block r.2.1 (.rangeFunc r.2.2.1 r.2.2.2.1 r.2.2.2.2.1 r.2.2.2.2.2)) t) Q) st → W P (.seq a t) Q st := by
  induction a with
  | block id b _ =>
    intro r st hs hw
    cases b <;> simp only [splitL] at hs <;> try (cases hs; done)
    cases hs
    rw [W_skip] at hw
    exact hw
  | seq x y _ ih =>
    intro r st hs hw
    simp only [splitL, Option.map_eq_some_iff] at hs
    obtain ⟨r', h1, rfl⟩ := hs
    rw [W_seq] at hw
    rw [W_seq, W_seq]
    refine W_mono (fun e st hq => ?_) hw
    cases e with
    | normal =>
      have := ih h1 hq
      rw [W_seq] at this
      exact this
    | exit j => exact hq
    | ret => exact hq
  | _ => intro r st hs; simp [splitL] at hs
theorem W_split {Q : IExit → St → Prop} (c : Code) : ∀ {r : Code × Nat × Operand × Array Tmp × Code × Code × Code} {st : St}, splitR c = some r → W P r.1 (splitK P (.seq (.block r.2.1 (.rangeFunc r.2.2.1 r.2.2.2.1 r.2.2.2.2.1 r.2.2.2.2.2.1)) r.2.2.2.2.2.2) Q) st → W P c Q st := by
  induction c with
  | seq x y _ ih =>
    intro r st hs hw
    simp only [splitR] at hs
    split at hs
    · rename_i r' hl
      cases hs
      exact W_splitL x hl hw
    · simp only [Option.map_eq_some_iff] at hs
      obtain ⟨r', h1, rfl⟩ := hs
      rw [W_seq] at hw ⊢
      refine W_mono (fun e st hq => ?_) hw
      cases e with
      | normal => exact ih h1 hq
      | exit j => exact hq
      | ret => exact hq
  | _ => intro r st hs; simp [splitR] at hs

/-- the loop's own block is given up where the function ends -/
@[irreducible] def tailK (P : Program) (E : Env) (b : Nat) (rs : List ResultVar) (Φ : Value → IHp → Prop) : IExit → SK := fun e s h => AtIs h b .defr ∧ retK P E rs Φ e s (h.putObj b .dead)
theorem tailK_go {b : Nat} {rs : List ResultVar} {Φ : Value → IHp → Prop} {e : IExit} [i : AtIs h b .defr] (k : retK P E rs Φ e s (h.putObj b .dead)) : tailK P E b rs Φ e s h := by unfold tailK; exact ⟨i, k⟩
@[irreducible] def rangeK (P : Program) (nt : Nat) (rs : List ResultVar) (f : Operand) (ps : Array Tmp) (ac bd t : Code) (Φ : Value → IHp → Prop) : IExit → SK
  | .normal, s, h => ∃ g a c, EvalIs s f (.func (.func g) a c) ∧ CallIs P g ∧ EvX P g ((a ++ #[.func (.yield (h.fresh + 2)) #[] #[]]) ++ c) ((h.push .defr).push (.loop nt s ps ac bd .ready none))
      (fun _ h3 => ∃ T3 ps3 as3 bd3 st3, AtIs h3 (h.fresh + 2) (.loop nt T3 ps3 as3 bd3 st3 none) ∧ notBusy st3 = true ∧ V P ⟨nt, [h.fresh / 2], false⟩ t (tailK P ⟨nt, [h.fresh / 2], false⟩ h.fresh rs Φ) s (h3.putObj (h.fresh + 2) (.loop nt T3 ps3 as3 bd3 .exhausted none)))
  | e, s, h => retK P ⟨nt, [], false⟩ rs Φ e s h
theorem rangeK_go {nt g : Nat} {rs : List ResultVar} {f : Operand} {ps : Array Tmp} {ac bd t : Code} {a c : Array Value} {Φ Ψ : Value → IHp → Prop} [ef : EvalIs s f (.func (.func g) a c)] [cg : CallIs P g]
    (hc : EvX P g ((a ++ #[.func (.yield (h.fresh + 2)) #[] #[]]) ++ c) ((h.push .defr).push (.loop nt s ps ac bd .ready none)) Ψ)
    (k : ∀ v h3, Ψ v h3 → ∃ T3 ps3 as3 bd3 st3, AtIs h3 (h.fresh + 2) (.loop nt T3 ps3 as3 bd3 st3 none) ∧ notBusy st3 = true ∧ V P ⟨nt, [h.fresh / 2], false⟩ t (tailK P ⟨nt, [h.fresh / 2], false⟩ h.fresh rs Φ) s (h3.putObj (h.fresh + 2) (.loop nt T3 ps3 as3 bd3 .exhausted none))) :
    rangeK P nt rs f ps ac bd t Φ .normal s h := by
  unfold rangeK
  refine ⟨g, a, c, ef, cg, ?_⟩
  unfold EvX at hc ⊢
  obtain ⟨v, h', h1, h2⟩ := hc
  exact ⟨v, h', h1, k _ _ h2⟩
theorem rangeK_ret {nt : Nat} {rs : List ResultVar} {f : Operand} {ps : Array Tmp} {ac bd t : Code} {Φ : Value → IHp → Prop} (k : retK P ⟨nt, [], false⟩ rs Φ .ret s h) : rangeK P nt rs f ps ac bd t Φ .ret s h := by unfold rangeK; exact k
theorem EvX_of_range {fid : FuncId} {fn : Func} {c a : Code} {id : Nat} {f : Operand} {ps : Array Tmp} {ac bd t : Code} {args : List Value} {Φ : Value → IHp → Prop} (hf : P.funcs[fid]? = some fn) (hb : fn.body = some c)
    (hs : splitR c = some (a, id, f, ps, ac, bd, t)) (hsz : args.length ≤ fn.ntmps)
    (hw : V P ⟨fn.ntmps, [], false⟩ a (rangeK P fn.ntmps fn.results.toList f ps ac bd t Φ) (argS args) h) : EvX P fid args.toArray h Φ := by
  unfold V at hw
  have hw2 : W P c (fun e st => (e = .normal ∨ e = .ret) ∧ ∃ h1 vs, ishut st.h st.marks = some h1 ∧ iresults P { st with h := h1 } fn.results.toList = some vs ∧ Φ (iret vs) h1) { s := fun i => args.toArray.getD i undef, h, nt := fn.ntmps } := by
    refine W_split c hs (W_mono ?_ hw)
    rintro e st ⟨s, h, rfl, hk⟩
    unfold rangeK at hk
    cases e with
    | exit j => unfold retK at hk; obtain ⟨he, _⟩ := hk; rcases he with he | he <;> cases he
    | ret =>
      unfold retK at hk
      obtain ⟨he, vs, h1, h2⟩ := hk
      exact ⟨he, h, vs, rfl, h1, h2⟩
    | normal =>
      obtain ⟨g, x, y, ef, cg, hx⟩ := hk
      unfold EvX at hx
      obtain ⟨v, h3, ⟨n, hn⟩, T3, ps3, as3, bd3, st3, i3, hnb, hv⟩ := hx
      simp only [splitK]
      rw [W_seq, W_block]
      have hd2 : 2 * (h.new.length + 1) = h.fresh + 2 := by unfold IHp.fresh; omega
      have hd3 : (h.fresh + 2) / 2 = h.new.length + 1 := by unfold IHp.fresh; omega
      have hd4 : h.fresh / 2 = h.new.length := by unfold IHp.fresh; omega
      refine ⟨n + 1, .normal, ⟨s, { h3 with new := h3.new.set (h.new.length + 1) (.loop fn.ntmps T3 ps3 as3 bd3 .exhausted none) }, fn.ntmps, [h.new.length], false⟩, ?_, ?_⟩
      · have hcal : icalleeV P (St.eval ⟨s, h, fn.ntmps, [], false⟩ f) #[.func (.yield (2 * (h.new.length + 1))) #[] #[]] = some (.fn g, (x ++ #[.func (.yield (h.fresh + 2)) #[] #[]]) ++ y) := by
          rw [ef.eq, cg.eq, hd2]
        have h3e := i3.eq
        rw [hd3] at h3e
        rw [icode]
        simp only [irange, Env.st, Bool.false_eq_true, if_false, hcal]
        have hn' : icallBy P (icode P n) (.fn g) ((x ++ #[.func (.yield (h.fresh + 2)) #[] #[]]) ++ y) ((h.push .defr).push (.loop fn.ntmps s ps ac bd .ready none)) = some (v, h3) := hn
        simp only [hn', Option.bind_some, h3e, hnb, if_true]
      · simp only [blockK, seqK]
        have hst : (⟨s, { h3 with new := h3.new.set (h.new.length + 1) (.loop fn.ntmps T3 ps3 as3 bd3 .exhausted none) }, fn.ntmps, [h.new.length], false⟩ : St) = (⟨fn.ntmps, [h.fresh / 2], false⟩ : Env).st s (h3.putObj (h.fresh + 2) (.loop fn.ntmps T3 ps3 as3 bd3 .exhausted none)) := by
          simp only [Env.st, IHp.putObj, hd3, hd4]
        rw [hst]
        unfold V at hv
        refine W_mono ?_ hv
        rintro e st ⟨s2, h2, rfl, hk⟩
        unfold tailK retK at hk
        obtain ⟨hdf, he, vs, h4, h5⟩ := hk
        refine ⟨he, h2.putObj h.fresh .dead, vs, ?_, h4, h5⟩
        have h6 := hdf.eq
        simp only [Env.st, ishut, h6, IHp.putObj]
  obtain ⟨n, e, st, hi, he, h1, vs, h2, h3, h4⟩ := hw2
  unfold EvX
  exact ⟨iret vs, h1, Ev_of hf hb (by simpa using hsz) ⟨n, e, st, hi, he, h1, vs, h2, h3, rfl, rfl⟩, h4⟩
end Go.Ideal

-- IdealTa
set_option linter.unusedSimpArgs false
set_option linter.unusedVariables false
namespace Go.Ideal
open Go Go.RowKit

/-! ### Trees: values without addresses -/
abbrev Mem := Nat → Nat → Option Value
/-- v: this very value; sl: a slice that is read alone (rows of m cells); pf: a pointer to cells that are read alone; fn: a closure -/
inductive Tr where
  | v (x : Value)
  | sl (m : Nat) (rows : List (List Tr))
  | pf (cells : List Tr)
  | fn (f : Nat) (a b : List Tr)
  | agg (cs : List Tr)
  | tup (cs : List Tr)
def rowM (F : Mem) (b : Nat) : Nat → Nat → Option (List Value)
  | _, 0 => some []
  | off, n + 1 => (F b off).bind fun v => (rowM F b (off + 1) n).bind fun vs => some (v :: vs)
theorem row_rowM (h : IHp) (b : Nat) : ∀ (n off : Nat), h.row b off n = rowM h.cell? b off n := by
  intro n
  induction n with
  | zero => intro off; rfl
  | succ n ih => intro off; simp only [IHp.row, rowM, ih]
def SpotOk' (a : Option Addr) (c : Nat) : Prop := ∀ d, a = some d → d.spot = none ∨ c = 0
mutual
def Rep (F : Mem) : Tr → Value → Prop
  | .v x, y => y = x
  | .sl m rows, y => ∃ a n c, y = .slice a n c ∧ rows.length = n ∧ n ≤ c ∧ c < 2 ^ 63 ∧ SpotOk' a c ∧ (match a with | none => c = 0 | some d => RepR F d.block m rows d.off)
  | .pf cells, y => ∃ b off vs, y = .pointer (some (ad b off)) ∧ rowM F b off cells.length = some vs ∧ RepL F cells vs
  | .fn f a b, y => ∃ va vb, y = .func (.func f) va.toArray vb.toArray ∧ RepL F a va ∧ RepL F b vb
  | .agg cs, y => ∃ vs, y = .agg vs.toArray ∧ RepL F cs vs
  | .tup cs, y => ∃ vs, y = .tuple vs.toArray ∧ RepL F cs vs
def RepL (F : Mem) : List Tr → List Value → Prop
  | [], vs => vs = []
  | t :: ts, vs => ∃ v ws, vs = v :: ws ∧ Rep F t v ∧ RepL F ts ws
def RepR (F : Mem) (b m : Nat) : List (List Tr) → Nat → Prop
  | [], _ => True
  | row :: rows, off => (∃ vs, rowM F b off m = some vs ∧ RepL F row vs) ∧ RepR F b m rows (off + m)
end
def Sub (F G : Mem) : Prop := ∀ b off v, F b off = some v → G b off = some v
theorem Sub.refl (F : Mem) : Sub F F := fun _ _ _ h => h
theorem Sub.trans {F G H : Mem} (x : Sub F G) (y : Sub G H) : Sub F H := fun b o v h => y b o v (x b o v h)
theorem rowM_sub {F G : Mem} (e : Sub F G) {b : Nat} : ∀ {n off : Nat} {vs : List Value}, rowM F b off n = some vs → rowM G b off n = some vs := by
  intro n
  induction n with
  | zero => intro off vs h; exact h
  | succ n ih =>
    intro off vs hr
    simp only [rowM, Option.bind_eq_some_iff] at hr ⊢
    obtain ⟨v, hv, vs', hvs, h3⟩ := hr
    exact ⟨v, e _ _ _ hv, vs', ih hvs, h3⟩
mutual
theorem Rep.sub {F G : Mem} (e : Sub F G) : ∀ {t : Tr} {v : Value}, Rep F t v → Rep G t v
  | .v x, y, h => by simp only [Rep] at *; exact h
  | .sl m rows, y, h => by
    simp only [Rep] at *
    obtain ⟨a, n, c, h1, h2, h3, h4, h5, h6⟩ := h
    refine ⟨a, n, c, h1, h2, h3, h4, h5, ?_⟩
    cases a with
    | none => exact h6
    | some d => exact RepR.sub e h6
  | .pf cells, y, h => by
    simp only [Rep] at *
    obtain ⟨b, off, vs, h1, h2, h3⟩ := h
    exact ⟨b, off, vs, h1, rowM_sub e h2, RepL.sub e h3⟩
  | .fn f a b, y, h => by
    simp only [Rep] at *
    obtain ⟨va, vb, h1, h2, h3⟩ := h
    exact ⟨va, vb, h1, RepL.sub e h2, RepL.sub e h3⟩
  | .agg cs, y, h => by
    simp only [Rep] at *
    obtain ⟨vs, h1, h2⟩ := h
    exact ⟨vs, h1, RepL.sub e h2⟩
  | .tup cs, y, h => by
    simp only [Rep] at *
    obtain ⟨vs, h1, h2⟩ := h
    exact ⟨vs, h1, RepL.sub e h2⟩
theorem RepL.sub {F G : Mem} (e : Sub F G) : ∀ {ts : List Tr} {vs : List Value}, RepL F ts vs → RepL G ts vs
  | [], vs, h => by simp only [RepL] at *; exact h
  | t :: ts, vs, h => by
    simp only [RepL] at *
    obtain ⟨v, ws, h1, h2, h3⟩ := h
    exact ⟨v, ws, h1, Rep.sub e h2, RepL.sub e h3⟩
theorem RepR.sub {F G : Mem} (e : Sub F G) {b m : Nat} : ∀ {rows : List (List Tr)} {off : Nat}, RepR F b m rows off → RepR G b m rows off
  | [], off, h => by simp only [RepR]
  | row :: rows, off, h => by
    simp only [RepR] at *
    obtain ⟨⟨vs, h1, h2⟩, h3⟩ := h
    exact ⟨⟨vs, rowM_sub e h1, RepL.sub e h2⟩, RepR.sub e h3⟩
end
theorem Rep.val {F : Mem} {x y : Value} : Rep F (.v x) y ↔ y = x := by simp only [Rep]
theorem RepL.nil {F : Mem} : RepL F [] [] := by simp only [RepL]
theorem RepL.cons {F : Mem} {t : Tr} {ts : List Tr} {v : Value} {vs : List Value} (h : Rep F t v) (hs : RepL F ts vs) : RepL F (t :: ts) (v :: vs) := by
  simp only [RepL]; exact ⟨v, vs, rfl, h, hs⟩
theorem RepL.len {F : Mem} : ∀ {ts : List Tr} {vs : List Value}, RepL F ts vs → vs.length = ts.length := by
  intro ts
  induction ts with
  | nil => intro vs h; simp only [RepL] at h; subst h; rfl
  | cons t ts ih =>
    intro vs h
    simp only [RepL] at h
    obtain ⟨v, ws, rfl, _, h3⟩ := h
    simp [ih h3]
theorem RepL.get {F : Mem} : ∀ {ts : List Tr} {vs : List Value} {i : Nat} {t : Tr}, RepL F ts vs → ts[i]? = some t → ∃ v, vs[i]? = some v ∧ Rep F t v := by
  intro ts
  induction ts with
  | nil => intro vs i t _ h; simp at h
  | cons u ts ih =>
    intro vs i t h hi
    simp only [RepL] at h
    obtain ⟨v, ws, rfl, h2, h3⟩ := h
    cases i with
    | zero => simp at hi; subst hi; exact ⟨v, rfl, h2⟩
    | succ i => simpa using ih h3 (by simpa using hi)
theorem RepL.append {F : Mem} : ∀ {ts us : List Tr} {vs ws : List Value}, RepL F ts vs → RepL F us ws → RepL F (ts ++ us) (vs ++ ws) := by
  intro ts
  induction ts with
  | nil => intro us vs ws h hu; simp only [RepL] at h; subst h; exact hu
  | cons t ts ih =>
    intro us vs ws h hu
    simp only [RepL] at h
    obtain ⟨v, vs', rfl, h2, h3⟩ := h
    exact RepL.cons h2 (ih h3 hu)
theorem RepL.split {F : Mem} : ∀ {ts us : List Tr} {vs : List Value}, RepL F (ts ++ us) vs → ∃ a b, vs = a ++ b ∧ RepL F ts a ∧ RepL F us b := by
  intro ts
  induction ts with
  | nil => intro us vs h; exact ⟨[], vs, rfl, RepL.nil, h⟩
  | cons t ts ih =>
    intro us vs h
    simp only [List.cons_append, RepL] at h
    obtain ⟨v, ws, rfl, h2, h3⟩ := h
    obtain ⟨a, b, rfl, h4, h5⟩ := ih h3
    exact ⟨v :: a, b, rfl, RepL.cons h2 h4, h5⟩
theorem RepL.take {F : Mem} {ts : List Tr} {vs : List Value} (h : RepL F ts vs) (n : Nat) : RepL F (ts.take n) (vs.take n) := by
  induction n generalizing ts vs with
  | zero => simpa using RepL.nil
  | succ n ih =>
    cases ts with
    | nil => simp only [RepL] at h; subst h; simpa using RepL.nil
    | cons t ts => simp only [RepL] at h; obtain ⟨v, ws, rfl, h2, h3⟩ := h; exact RepL.cons h2 (ih h3)
theorem RepL.drop {F : Mem} {ts : List Tr} {vs : List Value} (h : RepL F ts vs) (n : Nat) : RepL F (ts.drop n) (vs.drop n) := by
  induction n generalizing ts vs with
  | zero => simpa using h
  | succ n ih =>
    cases ts with
    | nil => simp only [RepL] at h; subst h; simpa using RepL.nil
    | cons t ts => simp only [RepL] at h; obtain ⟨v, ws, rfl, h2, h3⟩ := h; exact ih h3
theorem RepL.set {F : Mem} {ts : List Tr} {vs : List Value} (h : RepL F ts vs) {t : Tr} {v : Value} (hv : Rep F t v) (n : Nat) : RepL F (ts.set n t) (vs.set n v) := by
  induction n generalizing ts vs with
  | zero =>
    cases ts with
    | nil => simp only [RepL] at h; subst h; exact RepL.nil
    | cons u ts => simp only [RepL] at h; obtain ⟨w, ws, rfl, h2, h3⟩ := h; exact RepL.cons hv h3
  | succ n ih =>
    cases ts with
    | nil => simp only [RepL] at h; subst h; exact RepL.nil
    | cons u ts => simp only [RepL] at h; obtain ⟨w, ws, rfl, h2, h3⟩ := h; exact RepL.cons h2 (ih h3)
theorem RepR.get {F : Mem} {b m : Nat} : ∀ {rows : List (List Tr)} {off i : Nat} {row : List Tr}, RepR F b m rows off → rows[i]? = some row → ∃ vs, rowM F b (off + i * m) m = some vs ∧ RepL F row vs := by
  intro rows
  induction rows with
  | nil => intro off i row _ h; simp at h
  | cons r rows ih =>
    intro off i row h hi
    simp only [RepR] at h
    obtain ⟨h1, h2⟩ := h
    cases i with
    | zero => simp at hi; subst hi; simpa using h1
    | succ i =>
      have := ih h2 (by simpa using hi)
      rw [show off + m + i * m = off + (i + 1) * m by rw [Nat.add_mul]; omega] at this
      exact this
theorem RepR.drop {F : Mem} {b m : Nat} : ∀ {rows : List (List Tr)} {off : Nat} (k : Nat), RepR F b m rows off → RepR F b m (rows.drop k) (off + k * m) := by
  intro rows
  induction rows with
  | nil => intro off k _; simp [RepR]
  | cons r rows ih =>
    intro off k h
    cases k with
    | zero => simpa using h
    | succ k =>
      simp only [RepR] at h
      have := ih k h.2
      rw [show off + m + k * m = off + (k + 1) * m by rw [Nat.add_mul]; omega] at this
      simpa using this
theorem RepR.take {F : Mem} {b m : Nat} : ∀ {rows : List (List Tr)} {off : Nat} (k : Nat), RepR F b m rows off → RepR F b m (rows.take k) off := by
  intro rows
  induction rows with
  | nil => intro off k _; simp [RepR]
  | cons r rows ih =>
    intro off k h
    cases k with
    | zero => simp [RepR]
    | succ k =>
      simp only [RepR, List.take_succ_cons] at h ⊢
      exact ⟨h.1, ih k h.2⟩
theorem rowM_get {F : Mem} {b : Nat} : ∀ {n off : Nat} {vs : List Value}, rowM F b off n = some vs → ∀ i, i < n → F b (off + i) = vs[i]? := by
  intro n
  induction n with
  | zero => intro off vs h i hi; omega
  | succ n ih =>
    intro off vs hr i hi
    simp only [rowM, Option.bind_eq_some_iff] at hr
    obtain ⟨v, hv, vs', hvs, h3⟩ := hr
    obtain rfl := Option.some.inj h3
    cases i with
    | zero => simpa using hv
    | succ i => have := ih hvs i (by omega); rw [show off + 1 + i = off + (i + 1) by omega] at this; simpa using this
theorem rowM_len {F : Mem} {b : Nat} : ∀ {n off : Nat} {vs : List Value}, rowM F b off n = some vs → vs.length = n := by
  intro n
  induction n with
  | zero => intro off vs h; simp [rowM] at h; subst h; rfl
  | succ n ih =>
    intro off vs hr
    simp only [rowM, Option.bind_eq_some_iff] at hr
    obtain ⟨v, hv, vs', hvs, h3⟩ := hr
    obtain rfl := Option.some.inj h3
    simp [ih hvs]
theorem rowM_of {F : Mem} {b : Nat} : ∀ {n off : Nat} {vs : List Value}, vs.length = n → (∀ i, i < n → F b (off + i) = vs[i]?) → rowM F b off n = some vs := by
  intro n
  induction n with
  | zero => intro off vs h _; have := List.eq_nil_of_length_eq_zero h; subst this; rfl
  | succ n ih =>
    intro off vs hl h
    cases vs with
    | nil => simp at hl
    | cons v vs =>
      have h0 := h 0 (by omega)
      have h1 := ih (off := off + 1) (vs := vs) (by simpa using hl) (fun i hi => by
        have := h (i + 1) (by omega)
        rw [show off + (i + 1) = off + 1 + i by omega] at this
        simpa using this)
      simp only [rowM]
      simp at h0
      rw [h0, h1]; rfl
/-- a part of a row -/
theorem rowM_part {F : Mem} {b n off : Nat} {vs : List Value} (h : rowM F b off n = some vs) (i k : Nat) (hi : i + k ≤ n) : rowM F b (off + i) k = some ((vs.drop i).take k) := by
  refine rowM_of ?_ ?_
  · have := rowM_len h; simp; omega
  · intro j hj
    rw [Nat.add_assoc, rowM_get h (i + j) (by omega)]
    rw [List.getElem?_take, if_pos hj, List.getElem?_drop]

/-! ### Own memory -/
inductive Box where
  | cells (cs : List Tr) (t : Nat) (x : Bool)
  | arr (m : Nat) (rows : List (List Tr)) (t : Nat) (x : Bool)
def BoxRep (F : Mem) (h : IHp) (b : Nat) : Box → Prop
  | .cells cs t x => ∃ vs, RepL F cs vs ∧ ObjIs h b vs t x
  | .arr m rows t x => (∀ row ∈ rows, row.length = m) ∧ ((rows = [] ∧ x = false ∧ b % 2 = 1) ∨ ∃ vs, RepL F rows.flatten vs ∧ ObjIs h b vs t x)
/-- a slice that grows -/
def gsv (b n : Nat) : Value := if n = 0 then .slice none 0 0 else .slice (some (ad b 0)) n n
abbrev Boxes := List (Nat × Box)
structure Cx where
  h : IHp
  F : Mem
  G : List (Nat × IObj)
structure TR (X : Cx) (F : Mem) (σ : Nat → Tr) (B : Boxes) (s : Nat → Value) (h : IHp) : Prop where
  ext : Ext X.h h
  base : Sub X.F F
  sub : Sub F h.cell?
  own : ∀ b off v, F b off = some v → X.F b off = some v ∨ X.h.fresh ≤ b
  box : ∀ p ∈ B, BoxRep F h p.1 p.2
  sep : ∀ p ∈ B, p.1 % 2 = 0 → X.h.fresh ≤ p.1 ∧ ∀ off, F p.1 off = none
  dis : (B.map Prod.fst).Nodup
  gd : ∀ g ∈ X.G, AtIs h g.1 g.2 ∧ ∀ c e x, g.2 ≠ .cells c e x
  slot : ∀ i, Rep F (σ i) (s i)
def putT (σ : Nat → Tr) (d : Option Tmp) (t : Tr) : Nat → Tr :=
  match d with
  | some d => fun i => if i = d then t else σ i
  | none => σ
theorem TR.put {X : Cx} {F : Mem} {σ : Nat → Tr} {B : Boxes} {s : Nat → Value} {h : IHp} (r : TR X F σ B s h) {d : Option Tmp} {t : Tr} {v : Value} (hv : Rep F t v) : TR X F (putT σ d t) B (putS s d v) h :=
  ⟨r.ext, r.base, r.sub, r.own, r.box, r.sep, r.dis, r.gd, fun i => by
    cases d with
    | none => exact r.slot i
    | some d =>
      simp only [putT, putS]
      split
      · exact hv
      · exact r.slot i⟩
/-- what an operation that has been taken early has read stays -/
def HeldOk (F : Mem) (B : Boxes) (H : List (Nat × Nat)) (h : IHp) (held : Held) : Prop :=
  ∀ e ∈ held, veq e.2.2.2 e.2.2.2 = true ∧ h.cell? e.2.1 e.2.2.1 = some e.2.2.2 ∧ (F e.2.1 e.2.2.1 = some e.2.2.2 ∨ ((e.1, e.2.1) ∈ H ∧ e.2.1 ∈ B.map Prod.fst ∧ e.2.1 % 2 = 0))
theorem HeldOk.heldIn {F : Mem} {B : Boxes} {H : List (Nat × Nat)} {h : IHp} {held : Held} (x : HeldOk F B H h held) : heldIn h held = true := by
  simp only [Go.Ideal.heldIn, List.all_eq_true]
  rintro ⟨i, b, off, v⟩ he
  obtain ⟨h1, h2, _⟩ := x _ he
  simp only at h1 h2
  simp only [h2, h1]

abbrev TK := (Nat → Tr) → Boxes → Prop
variable {P : Program}
/-- the operations of a region, over trees -/
@[irreducible] def TS (X : Cx) (P : Program) (E : Env) (ops : Array Oper) (K : TK) (l : List Oper) (H : List (Nat × Nat)) (σ : Nat → Tr) (B : Boxes) : Prop :=
  ∀ F s h held, TR X F σ B s h → HeldOk F B H h held → WS P E ops (fun s' h' => ∃ F' σ' B', TR X F' σ' B' s' h' ∧ HeldOk F' B' H h' held ∧ K σ' B') l s h
/-- code, over trees -/
@[irreducible] def TV (X : Cx) (P : Program) (E : Env) (c : Code) (Q : IExit → TK) (σ : Nat → Tr) (B : Boxes) : Prop :=
  ∀ F s h, TR X F σ B s h → V P E c (fun e s' h' => ∃ F' σ' B', TR X F' σ' B' s' h' ∧ Q e σ' B') s h

/-! ### Slots -/
class TGet (σ : Nat → Tr) (i : Nat) (t : outParam Tr) : Prop where eq : σ i = t
instance (priority := 2000) TGet.same {σ : Nat → Tr} {d : Nat} {t : Tr} : TGet (putT σ (some d) t) d t := ⟨by simp [putT]⟩
theorem TGet.ne {σ : Nat → Tr} {d i : Nat} {t u : Tr} (hn : Nat.beq i d = false) (g : TGet σ i u) : TGet (putT σ (some d) t) i u := ⟨by
  have hid : i ≠ d := fun h => by subst h; simp at hn
  simp [putT, hid, g.eq]⟩
instance (priority := 1000) TGet.other {σ : Nat → Tr} {d i : Nat} {t u : Tr} [n : BeqIs i d false] [g : TGet σ i u] : TGet (putT σ (some d) t) i u := TGet.ne n.eq g
instance (priority := 2000) TGet.nodst {σ : Nat → Tr} {i : Nat} {t u : Tr} [g : TGet σ i u] : TGet (putT σ none t) i u := ⟨g.eq⟩
class TEval (σ : Nat → Tr) (x : Operand) (t : outParam Tr) : Prop where eq : ∀ F s, (∀ i, Rep F (σ i) (s i)) → ∀ h nt marks rd, Rep F t (St.eval ⟨s, h, nt, marks, rd⟩ x)
instance TEval.tmp {σ : Nat → Tr} {i : Nat} {t : Tr} [g : TGet σ i t] : TEval σ (.tmp i) t := ⟨fun F s hs _ _ _ _ => by rw [← g.eq]; exact hs i⟩
instance TEval.const {σ : Nat → Tr} {v : Value} : TEval σ (.const v) (.v v) := ⟨fun F s hs _ _ _ _ => by simp only [Rep]; rfl⟩
instance TEval.func {σ : Nat → Tr} {f : FuncId} : TEval σ (.func f) (.fn f [] []) := ⟨fun F s hs _ _ _ _ => by simp only [Rep]; exact ⟨[], [], rfl, RepL.nil, RepL.nil⟩⟩
theorem TEval.is {σ : Nat → Tr} {x : Operand} {v : Value} (e : TEval σ x (.v v)) {F : Mem} {s : Nat → Value} (hs : ∀ i, Rep F (σ i) (s i)) : EvalIs s x v := ⟨fun h nt m rd => by have := e.eq F s hs h nt m rd; simp only [Rep] at this; exact this⟩
class TEvals (σ : Nat → Tr) (ps : List Operand) (ts : outParam (List Tr)) : Prop where eq : ∀ F s, (∀ i, Rep F (σ i) (s i)) → ∀ h nt marks rd, RepL F ts (ps.map (St.eval ⟨s, h, nt, marks, rd⟩))
instance TEvals.nil {σ : Nat → Tr} : TEvals σ [] [] := ⟨fun F s hs _ _ _ _ => by simp only [List.map_nil]; exact RepL.nil⟩
instance TEvals.cons {σ : Nat → Tr} {x : Operand} {t : Tr} {ps : List Operand} {ts : List Tr} [e : TEval σ x t] [p : TEvals σ ps ts] : TEvals σ (x :: ps) (t :: ts) := ⟨fun F s hs h nt m rd => RepL.cons (e.eq F s hs h nt m rd) (p.eq F s hs h nt m rd)⟩
end Go.Ideal

-- IdealTb
set_option linter.unusedSimpArgs false
set_option linter.unusedVariables false
namespace Go.Ideal
open Go Go.RowKit
variable {P : Program} {X : Cx} {E : Env} {σ : Nat → Tr} {B : Boxes} {ops : Array Oper} {K : TK} {l : List Oper} {d : Option Tmp} {ty : TypeId} {pos : String} {af : Array Edge} {H : List (Nat × Nat)}

/-! ### Lists -/
class NthG {α : Type} (l : List α) (i : Nat) (a : outParam α) : Prop where eq : l[i]? = some a
instance NthG.zero {α : Type} {v : α} {l : List α} : NthG (v :: l) (no_index 0) v := ⟨rfl⟩
instance NthG.succ {α : Type} {v w : α} {l : List α} {i : Nat} [n : NthG l i w] : NthG (v :: l) (no_index (i + 1)) w := ⟨by simp [n.eq]⟩
class DropT {α : Type} (l : List α) (n : Nat) (r : outParam (List α)) : Prop where
  eq : l.drop n = r
  le : n ≤ l.length
instance DropT.zero {α : Type} {l : List α} : DropT l (no_index 0) l := ⟨rfl, Nat.zero_le _⟩
instance DropT.succ {α : Type} {a : α} {l r : List α} {n : Nat} [d : DropT l n r] : DropT (a :: l) (no_index (n + 1)) r := ⟨by simp [d.eq], by have := d.le; simp; omega⟩
class TakeT {α : Type} (l : List α) (n : Nat) (r : outParam (List α)) : Prop where
  eq : l.take n = r
  le : n ≤ l.length
instance TakeT.zero {α : Type} {l : List α} : TakeT l (no_index 0) [] := ⟨by simp, Nat.zero_le _⟩
instance TakeT.succ {α : Type} {a : α} {l r : List α} {n : Nat} [d : TakeT l n r] : TakeT (a :: l) (no_index (n + 1)) (a :: r) := ⟨by simp [d.eq], by have := d.le; simp; omega⟩
class LenT {α : Type} (l : List α) (n : Nat) : Prop where eq : l.length = n
instance LenT.nil {α : Type} : LenT ([] : List α) (no_index 0) := ⟨rfl⟩
instance LenT.cons {α : Type} {w : α} {ws : List α} {n : Nat} [i : LenT ws n] : LenT (w :: ws) (no_index (n + 1)) := ⟨by simp [i.eq]⟩
def setAllT {α : Type} (c : List α) : Nat → List α → List α
  | _, [] => c
  | off, w :: ws => setAllT (c.set off w) (off + 1) ws
theorem setAllT_cons {α : Type} {v : α} : ∀ (ws c : List α) (off : Nat), setAllT (v :: c) (off + 1) ws = v :: setAllT c off ws := by
  intro ws
  induction ws with
  | nil => intro c off; rfl
  | cons w ws ih => intro c off; simp only [setAllT, List.set_cons_succ, ih]
class SetT {α : Type} (c : List α) (off : Nat) (ws : List α) (r : outParam (List α)) : Prop where
  eq : setAllT c off ws = r
  le : off + ws.length ≤ c.length
instance (priority := 900) SetT.step {α : Type} {v : α} {c ws r : List α} {off : Nat} [i : SetT c off ws r] : SetT (v :: c) (no_index (off + 1)) ws (v :: r) := ⟨by rw [setAllT_cons, i.eq], by have := i.le; show (off + 1) + ws.length ≤ c.length + 1; omega⟩
instance (priority := 1000) SetT.put {α : Type} {v w : α} {c ws r : List α} [i : SetT c 0 ws r] : SetT (v :: c) (no_index 0) (w :: ws) (w :: r) := ⟨by simp only [setAllT, List.set_cons_zero]; rw [setAllT_cons, i.eq], by have := i.le; simp only [List.length_cons]; omega⟩
instance (priority := 1100) SetT.nil {α : Type} {c : List α} : SetT c (no_index 0) [] c := ⟨rfl, Nat.zero_le _⟩
theorem RepL.setAll {F : Mem} : ∀ {ws : List Tr} {us : List Value} {c : List Tr} {vs : List Value} {off : Nat}, RepL F ws us → RepL F c vs → RepL F (setAllT c off ws) (setAll vs off us) := by
  intro ws
  induction ws with
  | nil => intro us c vs off h hc; simp only [RepL] at h; subst h; exact hc
  | cons w ws ih =>
    intro us c vs off h hc
    simp only [RepL] at h
    obtain ⟨v, us', rfl, h2, h3⟩ := h
    exact ih h3 (hc.set h2 off)
/-- the cells of a tree -/
class CellsT (t : Tr) (ws : outParam (List Tr)) : Prop where eq : ∀ F v, Rep F t v → ∃ vs, v.cells = vs.toArray ∧ vs.all isCellV = true ∧ RepL F ws vs
theorem cellsT_one {t : Tr} (h : ∀ F v, Rep F t v → isCellV v = true) : CellsT t [t] := ⟨fun F v hv => by
  have h1 := h F v hv
  refine ⟨[v], ?_, by simp [h1], RepL.cons hv RepL.nil⟩
  cases v <;> first | rfl | (simp [isCellV] at h1)⟩
instance CellsT.val {x : Value} [c : CellsOf x [x]] : CellsT (.v x) [.v x] := cellsT_one fun F v hv => by
  simp only [Rep] at hv; subst hv; have := c.ok; simpa using this
instance CellsOf.gsv {b n : Nat} : CellsOf (gsv b n) [gsv b n] := by
  unfold Go.Ideal.gsv; split <;> infer_instance
instance CellsT.sl {m : Nat} {rows : List (List Tr)} : CellsT (.sl m rows) [.sl m rows] := cellsT_one fun F v hv => by
  simp only [Rep] at hv; obtain ⟨a, n, c, rfl, _⟩ := hv; rfl
instance CellsT.pf {cs : List Tr} : CellsT (.pf cs) [.pf cs] := cellsT_one fun F v hv => by
  simp only [Rep] at hv; obtain ⟨a, n, c, rfl, _⟩ := hv; rfl
instance CellsT.fn {f : Nat} {a b : List Tr} : CellsT (.fn f a b) [.fn f a b] := cellsT_one fun F v hv => by
  simp only [Rep] at hv; obtain ⟨a, n, rfl, _⟩ := hv; rfl
class AllCellT (cs : List Tr) : Prop where eq : ∀ F vs, RepL F cs vs → vs.all isCellV = true
instance AllCellT.nil : AllCellT [] := ⟨fun F vs h => by simp only [RepL] at h; subst h; rfl⟩
instance AllCellT.cons {t : Tr} {cs : List Tr} [c : CellsT t [t]] [a : AllCellT cs] : AllCellT (t :: cs) := ⟨fun F vs h => by
  simp only [RepL] at h
  obtain ⟨v, ws, rfl, h2, h3⟩ := h
  obtain ⟨us, h4, h5, h6⟩ := c.eq F v h2
  have h7 := h6.len
  match us, h7 with
  | [u], _ =>
    have huv : v = u ∨ isCellV v = true := by
      cases v <;> first | exact .inr rfl | skip
      · simp only [Value.cells] at h4; simp only [RepL] at h6
        obtain ⟨x, y, hx, h8, _⟩ := h6
        simp at hx; obtain ⟨rfl, rfl⟩ := hx
        exact .inr (by simpa [isCellV] using (by
          exfalso
          simp only [List.all_cons, List.all_nil, Bool.and_true] at h5
          exact absurd h2 (by
            intro h9
            cases t <;> simp only [Rep] at h9 h8
            all_goals first | (subst h9; subst h8; simp [isCellV] at h5; done) | skip
            all_goals (try (obtain ⟨_, _, _, hh, _⟩ := h9; cases hh; done))
            all_goals (try (obtain ⟨_, _, hh, _⟩ := h9; cases hh; done))
            all_goals (try (obtain ⟨_, hh, _⟩ := h9; cases hh; done))
            all_goals (try (obtain ⟨_, hh, _⟩ := h8; subst hh; simp [isCellV] at h5; done)))))
      · exact .inl (by simpa [Value.cells] using h4)
    have h8 : isCellV v = true := by
      rcases huv with rfl | h9
      · simpa using h5
      · exact h9
    simp [h8, a.eq F ws h3]⟩
instance CellsT.agg {cs : List Tr} [a : AllCellT cs] : CellsT (.agg cs) cs := ⟨fun F v hv => by
  simp only [Rep] at hv
  obtain ⟨vs, rfl, h⟩ := hv
  exact ⟨vs, rfl, a.eq F vs h, h⟩⟩
end Go.Ideal

-- IdealTc
set_option linter.unusedSimpArgs false
set_option linter.unusedVariables false
namespace Go.Ideal
open Go Go.RowKit
variable {P : Program} {X : Cx} {E : Env} {σ : Nat → Tr} {B : Boxes} {ops : Array Oper} {K : TK} {l : List Oper} {d : Option Tmp} {ty : TypeId} {pos : String} {af : Array Edge} {H : List (Nat × Nat)}

/-! ### Numbers -/
class AsNat (z : Int) (n : outParam Nat) : Prop where eq : z = (n : Int)
instance AsNat.cast {n : Nat} : AsNat (n : Int) n := ⟨rfl⟩
instance (priority := 500) AsNat.lit {n : Nat} : AsNat (no_index (@OfNat.ofNat Int n (@instOfNat n))) (@OfNat.ofNat Nat n (instOfNatNat n)) := ⟨rfl⟩
class Lt64 (n : Nat) : Prop where lt : n < 2 ^ 64
instance {n : Nat} : Lt64 (n % 18446744073709551616) := ⟨Nat.mod_lt _ (by decide)⟩
instance {a b : Nat} [x : Lt64 a] : Lt64 (a &&& b) := ⟨Nat.lt_of_le_of_lt Nat.and_le_left x.lt⟩
instance {a b : Nat} [x : Lt64 a] [y : Lt64 b] : Lt64 (a ||| b) := ⟨Nat.or_lt_two_pow x.lt y.lt⟩
instance {a b : Nat} [x : Lt64 a] [y : Lt64 b] : Lt64 (a ^^^ b) := ⟨Nat.xor_lt_two_pow x.lt y.lt⟩
instance {a b : Nat} [x : Lt64 a] : Lt64 (a >>> b) := ⟨Nat.lt_of_le_of_lt (by rw [Nat.shiftRight_eq_div_pow]; exact Nat.div_le_self _ _) x.lt⟩
class LeIs (a b : Nat) (r : Bool) : Prop where eq : Nat.ble a b = r
instance {a b : Nat} : LeIs a b (no_index (Nat.ble a b)) := ⟨rfl⟩
instance (priority := 100) Lt64.lit {n : Nat} [b : LeIs n 18446744073709551615 true] : Lt64 (no_index (@OfNat.ofNat Nat n (instOfNatNat n))) := ⟨by have h := b.eq; simp only [Nat.ble_eq] at h; exact Nat.lt_of_le_of_lt h (by decide)⟩
theorem wrap_u64 {n : Nat} (h : n < 2 ^ 64) : IntKind.u64.wrap (n : Int) = n := by
  simp [IntKind.wrap, IntKind.bits, IntKind.signed]; omega
theorem ofInt_u64 {n : Nat} (h : n < 2 ^ 64) : (BitVec.ofInt 64 (n : Int)).toNat = n := by
  simp [BitVec.toNat_ofInt]; omega
class AriT (op : BinOp) (k : IntKind) (a b : Int) (r : outParam Int) : Prop where eq : iarith op k a b = some r
theorem ibits_and {x y : Nat} (u : x < 2 ^ 64) (v : y < 2 ^ 64) : ibits .and .u64 x y = ((x &&& y : Nat) : Int) := by
  have h1 : (BitVec.ofInt 64 (x : Int) &&& BitVec.ofInt 64 (y : Int)).toNat = x &&& y := by rw [BitVec.toNat_and, ofInt_u64 u, ofInt_u64 v]
  show IntKind.u64.wrap ((BitVec.ofInt 64 (x : Int) &&& BitVec.ofInt 64 (y : Int)).toNat : Int) = _
  rw [h1]
  exact wrap_u64 (Nat.lt_of_le_of_lt Nat.and_le_left u)
instance AriT.and {a b : Int} {x y : Nat} [p : AsNat a x] [q : AsNat b y] [u : Lt64 x] [v : Lt64 y] : AriT .and .u64 a b ((x &&& y : Nat) : Int) := ⟨by
  rw [p.eq, q.eq]
  simp only [iarith, ibits_and u.lt v.lt]⟩
theorem ibits_or {x y : Nat} (u : x < 2 ^ 64) (v : y < 2 ^ 64) : ibits .or .u64 x y = ((x ||| y : Nat) : Int) := by
  have h1 : (BitVec.ofInt 64 (x : Int) ||| BitVec.ofInt 64 (y : Int)).toNat = x ||| y := by rw [BitVec.toNat_or, ofInt_u64 u, ofInt_u64 v]
  show IntKind.u64.wrap ((BitVec.ofInt 64 (x : Int) ||| BitVec.ofInt 64 (y : Int)).toNat : Int) = _
  rw [h1]
  exact wrap_u64 (Nat.or_lt_two_pow u v)
instance AriT.or {a b : Int} {x y : Nat} [p : AsNat a x] [q : AsNat b y] [u : Lt64 x] [v : Lt64 y] : AriT .or .u64 a b ((x ||| y : Nat) : Int) := ⟨by
  rw [p.eq, q.eq]
  simp only [iarith, ibits_or u.lt v.lt]⟩
theorem ibits_xor {x y : Nat} (u : x < 2 ^ 64) (v : y < 2 ^ 64) : ibits .xor .u64 x y = ((x ^^^ y : Nat) : Int) := by
  have h1 : (BitVec.ofInt 64 (x : Int) ^^^ BitVec.ofInt 64 (y : Int)).toNat = x ^^^ y := by rw [BitVec.toNat_xor, ofInt_u64 u, ofInt_u64 v]
  show IntKind.u64.wrap ((BitVec.ofInt 64 (x : Int) ^^^ BitVec.ofInt 64 (y : Int)).toNat : Int) = _
  rw [h1]
  exact wrap_u64 (Nat.xor_lt_two_pow u v)
instance AriT.xor {a b : Int} {x y : Nat} [p : AsNat a x] [q : AsNat b y] [u : Lt64 x] [v : Lt64 y] : AriT .xor .u64 a b ((x ^^^ y : Nat) : Int) := ⟨by
  rw [p.eq, q.eq]
  simp only [iarith, ibits_xor u.lt v.lt]⟩
instance (priority := 100) AriT.mul {k : IntKind} {a b : Int} : AriT .mul k a b (k.wrap (a * b)) := ⟨rfl⟩
instance (priority := 100) AriT.and' {k : IntKind} {a b : Int} : AriT .and k a b (ibits .and k a b) := ⟨rfl⟩
instance (priority := 100) AriT.or' {k : IntKind} {a b : Int} : AriT .or k a b (ibits .or k a b) := ⟨rfl⟩
instance (priority := 100) AriT.xor' {k : IntKind} {a b : Int} : AriT .xor k a b (ibits .xor k a b) := ⟨rfl⟩
instance (priority := 100) AriT.andNot' {k : IntKind} {a b : Int} : AriT .andNot k a b (ibits .andNot k a b) := ⟨rfl⟩
class ShiT (op : BinOp) (k : IntKind) (a b : Int) (r : outParam Int) : Prop where
  eq : ishift op k a b = some r
  nn : 0 ≤ b
instance ShiT.shr {a b : Int} {x y : Nat} [p : AsNat a x] [q : AsNat b y] [u : Lt64 x] : ShiT .shr .u64 a b ((x >>> y : Nat) : Int) := ⟨by
  rw [p.eq, q.eq]
  simp only [ishift, IntKind.bits, Int.toNat_natCast]
  congr 1
  have h2 : ((2 : Int) ^ (min y 64)) = ((2 ^ (min y 64) : Nat) : Int) := by simp
  rw [h2, Nat.shiftRight_eq_div_pow]
  have h3 : ((x : Int)).fdiv ((2 ^ min y 64 : Nat) : Int) = ((x / 2 ^ min y 64 : Nat) : Int) := by
    rw [Int.fdiv_eq_ediv_of_nonneg _ (Int.natCast_nonneg _)]; rfl
  rw [h3]
  congr 1
  by_cases h : y ≤ 64
  · rw [Nat.min_eq_left h]
  · rw [Nat.min_eq_right (by omega), Nat.div_eq_of_lt u.lt, Nat.div_eq_of_lt (Nat.lt_of_lt_of_le u.lt (Nat.pow_le_pow_right (by decide) (by omega)))], by rw [q.eq]; omega⟩
instance ShiT.shl {a b : Int} {x y : Nat} [p : AsNat a x] [q : AsNat b y] [u : Lt64 x] : ShiT .shl .u64 a b (((x <<< y) % 18446744073709551616 : Nat) : Int) := ⟨by
  rw [p.eq, q.eq]
  simp only [ishift, IntKind.bits, Int.toNat_natCast]
  congr 1
  have h2 : ((x : Int) * 2 ^ (min y 64)) = ((x * 2 ^ (min y 64) : Nat) : Int) := by simp
  rw [h2]
  have h3 : IntKind.u64.wrap ((x * 2 ^ (min y 64) : Nat) : Int) = ((x * 2 ^ (min y 64) % 18446744073709551616 : Nat) : Int) := by
    simp [IntKind.wrap, IntKind.bits, IntKind.signed]
  rw [h3, Nat.shiftLeft_eq]
  congr 1
  by_cases h : y ≤ 64
  · rw [Nat.min_eq_left h]
  · rw [Nat.min_eq_right (by omega)]
    have e1 : (18446744073709551616 : Nat) ∣ x * 2 ^ y := Nat.dvd_trans (by show 2 ^ 64 ∣ _; exact Nat.pow_dvd_pow 2 (by omega)) (Nat.dvd_mul_left _ _)
    rw [Nat.mod_eq_zero_of_dvd e1, Nat.mod_eq_zero_of_dvd (by show 2 ^ 64 ∣ _; exact Nat.dvd_mul_left _ _)], by rw [q.eq]; omega⟩
class CmpT (op : BinOp) (a b : Int) (r : outParam Bool) : Prop where eq : icmp op a b = some r
instance CmpT.eql {a b : Int} : CmpT .eql a b (decide (a = b)) := ⟨rfl⟩
instance CmpT.neq {a b : Int} : CmpT .neq a b (!decide (a = b)) := ⟨rfl⟩
instance (priority := 2000) CmpT.eql_same {a : Int} : CmpT .eql a a true := ⟨by simp [icmp]⟩
instance (priority := 2000) CmpT.neq_same {a : Int} : CmpT .neq a a false := ⟨by simp [icmp]⟩
instance CmpT.lss {a b : Int} : CmpT .lss a b (decide (a < b)) := ⟨rfl⟩
instance CmpT.leq {a b : Int} : CmpT .leq a b (decide (a ≤ b)) := ⟨rfl⟩
instance CmpT.gtr {a b : Int} : CmpT .gtr a b (decide (b < a)) := ⟨rfl⟩
instance CmpT.geq {a b : Int} : CmpT .geq a b (decide (b ≤ a)) := ⟨rfl⟩

/-! ### Boxes -/
class BoxIs (B : Boxes) (b : Nat) (x : outParam Box) : Prop where mem : (b, x) ∈ B
instance (priority := 1000) BoxIs.head {B : Boxes} {b : Nat} {x : Box} : BoxIs ((b, x) :: B) b x := ⟨List.mem_cons_self⟩
instance (priority := 900) BoxIs.tail {B : Boxes} {p : Nat × Box} {b : Nat} {x : Box} [i : BoxIs B b x] : BoxIs (p :: B) b x := ⟨List.mem_cons_of_mem _ i.mem⟩

/-! ### Operations that change no memory -/
class Pu (P : Program) (σ : Nat → Tr) (B : Boxes) (op : Op) (t : outParam Tr) : Prop where
  eq : ∀ {X : Cx} {F : Mem} {s : Nat → Value} {h : IHp}, TR X F σ B s h → ∀ {E : Env} {ops : Array Oper} {K : SK} {l : List Oper} {d : Option Tmp} {ty : TypeId} {pos : String} {af : Array Edge}, (∀ v, Rep F t v → WS P E ops K l (putS s d v) h) → WS P E ops K (⟨d, op, ty, pos, af, none⟩ :: l) s h
theorem evalIs_self {s : Nat → Value} {x : Operand} {h : IHp} : EvalIs s x (St.eval ⟨s, h, 0, [], false⟩ x) := ⟨fun _ _ _ _ => by cases x <;> rfl⟩
theorem TS_pu {op : Op} {t : Tr} [p : Pu P σ B op t] (k : TS X P E ops K l H (putT σ d t) B) : TS X P E ops K (⟨d, op, ty, pos, af, none⟩ :: l) H σ B := by
  unfold TS at *
  intro F s h held r hh
  exact p.eq r fun v hv => k F _ h held (r.put hv) hh
theorem TS_puw {op : Op} {t : Tr} (p : Pu P σ B op t) (k : TS X P E ops K l H (putT σ d t) B) : TS X P E ops K (⟨d, op, ty, pos, af, none⟩ :: l) H σ B := TS_pu (p := p) k
theorem rep_v {F : Mem} (v : Value) : Rep F (.v v) v := by simp only [Rep]
instance Pu.move {x : Operand} {t : Tr} [e : TEval σ x t] : Pu P σ B (.move x) t := ⟨fun {X F s h} r {_ _ _ _ _ _ _ _} k => by
  have := evalIs_self (s := s) (x := x) (h := h)
  exact WS_move (k _ (e.eq F s r.slot h 0 [] false))⟩
instance Pu.assign {x : Operand} {t : Tr} [e : TEval σ x t] : Pu P σ B (.assign x) t := ⟨fun {X F s h} r {_ _ _ _ _ _ _ _} k => by
  have := evalIs_self (s := s) (x := x) (h := h)
  exact WS_assign (k _ (e.eq F s r.slot h 0 [] false))⟩
theorem Pu.pick_t {c x y : Operand} {b : Bool} {t : Tr} [ec : TEval σ c (.v (.bool b))] [e : TEval σ x t] (hb : b = true) : Pu P σ B (.pick c x y) t := ⟨fun {X F s h} r {_ _ _ _ _ _ _ _} k => by
  have := evalIs_self (s := s) (x := x) (h := h)
  have := ec.is r.slot
  exact WS_pick_t hb (k _ (e.eq F s r.slot h 0 [] false))⟩
theorem Pu.pick_f {c x y : Operand} {b : Bool} {t : Tr} [ec : TEval σ c (.v (.bool b))] [e : TEval σ y t] (hb : b = false) : Pu P σ B (.pick c x y) t := ⟨fun {X F s h} r {_ _ _ _ _ _ _ _} k => by
  have := evalIs_self (s := s) (x := y) (h := h)
  have := ec.is r.slot
  exact WS_pick_f hb (k _ (e.eq F s r.slot h 0 [] false))⟩
instance (priority := 2000) Pu.pick_tt {c x y : Operand} {t : Tr} [ec : TEval σ c (.v (.bool true))] [e : TEval σ x t] : Pu P σ B (.pick c x y) t := Pu.pick_t rfl
instance (priority := 2000) Pu.pick_ff {c x y : Operand} {t : Tr} [ec : TEval σ c (.v (.bool false))] [e : TEval σ y t] : Pu P σ B (.pick c x y) t := Pu.pick_f rfl
/-- both ways at once -/
instance (priority := 100) Pu.pick_b {c x y : Operand} {b p q : Bool} [ec : TEval σ c (.v (.bool b))] [e1 : TEval σ x (.v (.bool p))] [e2 : TEval σ y (.v (.bool q))] : Pu P σ B (.pick c x y) (.v (.bool (if b then p else q))) := ⟨fun {X F s h} r {_ _ _ _ _ _ _ _} k => by
  have := ec.is r.slot
  have := e1.is r.slot
  have := e2.is r.slot
  cases b with
  | true => exact WS_pick_t rfl (k _ (rep_v _))
  | false => exact WS_pick_f rfl (k _ (rep_v _))⟩
instance Pu.cmp {op : BinOp} {t yt : TypeId} {x y : Operand} {k : IntKind} {a b : Int} {r : Bool} [e1 : TEval σ x (.v (.int k a))] [e2 : TEval σ y (.v (.int k b))] [c : CmpT op a b r] : Pu P σ B (.binOp op t x y yt) (.v (.bool r)) := ⟨fun {X F s h} q {_ _ _ _ _ _ _ _} kk => by
  have := e1.is q.slot
  have := e2.is q.slot
  exact WS_cmp c.eq (kk _ (rep_v _))⟩
instance Pu.arith {op : BinOp} {t yt : TypeId} {x y : Operand} {k : IntKind} {a b r : Int} [e1 : TEval σ x (.v (.int k a))] [e2 : TEval σ y (.v (.int k b))] [c : AriT op k a b r] : Pu P σ B (.binOp op t x y yt) (.v (.int k r)) := ⟨fun {X F s h} q {_ _ _ _ _ _ _ _} kk => by
  have := e1.is q.slot
  have := e2.is q.slot
  exact WS_arith c.eq (kk _ (rep_v _))⟩
instance Pu.shift {op : BinOp} {t yt : TypeId} {x y : Operand} {k j : IntKind} {a b r : Int} [e1 : TEval σ x (.v (.int k a))] [e2 : TEval σ y (.v (.int j b))] [c : ShiT op k a b r] : Pu P σ B (.binOp op t x y yt) (.v (.int k r)) := ⟨fun {X F s h} q {_ _ _ _ _ _ _ _} kk => by
  have := e1.is q.slot
  have := e2.is q.slot
  exact WS_shift c.nn c.eq (kk _ (rep_v _))⟩
theorem Pu.divw {op : BinOp} {t yt : TypeId} {x y : Operand} {k : IntKind} {a b r : Int} [e1 : TEval σ x (.v (.int k a))] [e2 : TEval σ y (.v (.int k b))] (hb : b ≠ 0) (hr : idivs op k a b = some r) : Pu P σ B (.binOp op t x y yt) (.v (.int k r)) := ⟨fun {X F s h} q {_ _ _ _ _ _ _ _} kk => by
  have := e1.is q.slot
  have := e2.is q.slot
  exact WS_div hb hr (kk _ (rep_v _))⟩
theorem Pu.arithw {op : BinOp} {t yt : TypeId} {x y : Operand} {k : IntKind} {a b : Int} [e1 : TEval σ x (.v (.int k a))] [e2 : TEval σ y (.v (.int k b))] (r : Int) (hr : iarith op k a b = some r) : Pu P σ B (.binOp op t x y yt) (.v (.int k r)) := ⟨fun {X F s h} q {_ _ _ _ _ _ _ _} kk => by
  have := e1.is q.slot
  have := e2.is q.slot
  exact WS_arith hr (kk _ (rep_v _))⟩
theorem Pu.addi {t yt : TypeId} {x y : Operand} {a b : Int} [e1 : TEval σ x (.v (.int .i64 a))] [e2 : TEval σ y (.v (.int .i64 b))] (hb : -9223372036854775808 ≤ a + b ∧ a + b ≤ 9223372036854775807) : Pu P σ B (.binOp .add t x y yt) (.v (.int .i64 (a + b))) := .arithw _ (by simp only [iarith, wrap_i64_id hb])
theorem Pu.subi {t yt : TypeId} {x y : Operand} {a b : Int} [e1 : TEval σ x (.v (.int .i64 a))] [e2 : TEval σ y (.v (.int .i64 b))] (hb : -9223372036854775808 ≤ a - b ∧ a - b ≤ 9223372036854775807) : Pu P σ B (.binOp .sub t x y yt) (.v (.int .i64 (a - b))) := .arithw _ (by simp only [iarith, wrap_i64_id hb])
instance Pu.streq {t yt : TypeId} {x y : Operand} {a b : ByteArray} [e1 : TEval σ x (.v (.string a))] [e2 : TEval σ y (.v (.string b))] : Pu P σ B (.binOp .eql t x y yt) (.v (.bool (beqS a b))) := ⟨fun {X F s h} q {_ _ _ _ _ _ _ _} kk => by
  have := e1.is q.slot
  have := e2.is q.slot
  exact WS_streq (kk _ (rep_v _))⟩
instance Pu.strne {t yt : TypeId} {x y : Operand} {a b : ByteArray} [e1 : TEval σ x (.v (.string a))] [e2 : TEval σ y (.v (.string b))] : Pu P σ B (.binOp .neq t x y yt) (.v (.bool (!beqS a b))) := ⟨fun {X F s h} q {_ _ _ _ _ _ _ _} kk => by
  have := e1.is q.slot
  have := e2.is q.slot
  exact WS_strne (kk _ (rep_v _))⟩
instance Pu.booleq {t yt : TypeId} {x y : Operand} {a b : Bool} [u : UnderIs P t .bool] [e1 : TEval σ x (.v (.bool a))] [e2 : TEval σ y (.v (.bool b))] : Pu P σ B (.binOp .eql t x y yt) (.v (.bool (a == b))) := ⟨fun {X F s h} q {_ _ _ _ _ _ _ _} kk => by
  have := e1.is q.slot
  have := e2.is q.slot
  exact WS_booleq (kk _ (rep_v _))⟩
instance (priority := 2000) Pu.booleq_same {t yt : TypeId} {x y : Operand} {a : Bool} [u : UnderIs P t .bool] [e1 : TEval σ x (.v (.bool a))] [e2 : TEval σ y (.v (.bool a))] : Pu P σ B (.binOp .eql t x y yt) (.v (.bool true)) := ⟨fun {X F s h} q {_ _ _ _ _ _ _ _} kk => by
  have := e1.is q.slot
  have := e2.is q.slot
  exact WS_booleq (kk _ (by rw [beq_self_eq_true]; exact rep_v _))⟩
instance (priority := 2000) Pu.streq_same {t yt : TypeId} {x y : Operand} {a : ByteArray} [e1 : TEval σ x (.v (.string a))] [e2 : TEval σ y (.v (.string a))] : Pu P σ B (.binOp .eql t x y yt) (.v (.bool true)) := ⟨fun {X F s h} q {_ _ _ _ _ _ _ _} kk => by
  have := e1.is q.slot
  have := e2.is q.slot
  exact WS_streq (kk _ (by rw [show beqS a a = true by simp [beqS]]; exact rep_v _))⟩
instance (priority := 2000) Pu.strne_same {t yt : TypeId} {x y : Operand} {a : ByteArray} [e1 : TEval σ x (.v (.string a))] [e2 : TEval σ y (.v (.string a))] : Pu P σ B (.binOp .neq t x y yt) (.v (.bool false)) := ⟨fun {X F s h} q {_ _ _ _ _ _ _ _} kk => by
  have := e1.is q.slot
  have := e2.is q.slot
  exact WS_strne (kk _ (by rw [show beqS a a = true by simp [beqS]]; exact rep_v _))⟩
instance Pu.boolne {t yt : TypeId} {x y : Operand} {a b : Bool} [u : UnderIs P t .bool] [e1 : TEval σ x (.v (.bool a))] [e2 : TEval σ y (.v (.bool b))] : Pu P σ B (.binOp .neq t x y yt) (.v (.bool (!(a == b)))) := ⟨fun {X F s h} q {_ _ _ _ _ _ _ _} kk => by
  have := e1.is q.slot
  have := e2.is q.slot
  exact WS_boolne (kk _ (rep_v _))⟩
instance Pu.not {x : Operand} {t : TypeId} {b : Bool} [e : TEval σ x (.v (.bool b))] : Pu P σ B (.unOp .not t x) (.v (.bool (!b))) := ⟨fun {X F s h} q {_ _ _ _ _ _ _ _} kk => by
  have := e.is q.slot
  exact WS_not (kk _ (rep_v _))⟩
instance Pu.neg {x : Operand} {t : TypeId} {k : IntKind} {a : Int} [e : TEval σ x (.v (.int k a))] : Pu P σ B (.unOp .neg t x) (.v (.int k (k.wrap (0 - a)))) := ⟨fun {X F s h} q {_ _ _ _ _ _ _ _} kk => by
  have := e.is q.slot
  exact WS_neg (kk _ (rep_v _))⟩
class ConvT (j : IntKind) (a : Int) (r : outParam Int) : Prop where eq : j.wrap a = r
instance ConvT.nat {a : Int} {x : Nat} [p : AsNat a x] [u : Lt64 x] : ConvT .u64 a (x : Int) := ⟨by rw [p.eq]; exact wrap_u64 u.lt⟩
instance (priority := 100) ConvT.any {j : IntKind} {a : Int} : ConvT j a (j.wrap a) := ⟨rfl⟩
instance Pu.convert {x : Operand} {src dst : TypeId} {k j : IntKind} {a r : Int} {ds : TypeDesc} [e : TEval σ x (.v (.int k a))] [us : UnderIs P src ds] [ud : UnderIs P dst (.int j)] [c : ConvT j a r] : Pu P σ B (.convert src dst x) (.v (.int j r)) := ⟨fun {X F s h} q {_ _ _ _ _ _ _ _} kk => by
  have := e.is q.slot
  exact WS_convert (kk _ (by rw [c.eq]; exact rep_v _))⟩
instance Pu.len_sl {x : Operand} {t te : TypeId} {m : Nat} {rows : List (List Tr)} [e : TEval σ x (.sl m rows)] [u : UnderIs P t (.slice te)] : Pu P σ B (.call ⟨.builtin .len, #[x], #[t]⟩) (.v (.int .i64 rows.length)) := ⟨fun {X F s h} q {_ _ _ _ _ _ _ _} kk => by
  have h1 := evalIs_self (s := s) (x := x) (h := h)
  have h2 := e.eq F s q.slot h 0 [] false
  simp only [Rep] at h2
  obtain ⟨a, n, c, h3, h4, _⟩ := h2
  rw [h3] at h1
  exact WS_len_slice (kk _ (by rw [h4]; exact rep_v _))⟩
instance Pu.len_v {x : Operand} {t te : TypeId} {a : Option Addr} {n c : Nat} [e : TEval σ x (.v (.slice a n c))] [u : UnderIs P t (.slice te)] : Pu P σ B (.call ⟨.builtin .len, #[x], #[t]⟩) (.v (.int .i64 n)) := ⟨fun {X F s h} q {_ _ _ _ _ _ _ _} kk => by
  have := e.is q.slot
  exact WS_len_slice (kk _ (rep_v _))⟩
instance Pu.len_gsv {x : Operand} {t te : TypeId} {b n : Nat} [e : TEval σ x (.v (gsv b n))] [u : UnderIs P t (.slice te)] : Pu P σ B (.call ⟨.builtin .len, #[x], #[t]⟩) (.v (.int .i64 n)) := ⟨fun {X F s h} q {_ _ _ _ _ _ _ _} kk => by
  have := e.is q.slot
  unfold gsv at this
  split at this
  · rename_i h0; subst h0; exact WS_len_slice (kk _ (rep_v _))
  · exact WS_len_slice (kk _ (rep_v _))⟩
instance Pu.len_string {x : Operand} {t : TypeId} {b : ByteArray} [e : TEval σ x (.v (.string b))] [u : UnderIs P t .string] : Pu P σ B (.call ⟨.builtin .len, #[x], #[t]⟩) (.v (.int .i64 b.size)) := ⟨fun {X F s h} q {_ _ _ _ _ _ _ _} kk => by
  have := e.is q.slot
  exact WS_len_string (kk _ (rep_v _))⟩
/-! pointers -/
instance Pu.fieldAddr_v {x : Operand} {t : TypeId} {f b off fo ft n : Nat} [e : TEval σ x (.v (.pointer (some (ad b off))))] [u : FieldIs P t f fo ft n] : Pu P σ B (.fieldAddr t x f) (.v (.pointer (some (ad b (off + fo))))) := ⟨fun {X F s h} q {_ _ _ _ _ _ _ _} kk => by
  have := e.is q.slot
  exact WS_fieldAddr (kk _ (rep_v _))⟩
instance Pu.fieldAddr_pf {x : Operand} {t : TypeId} {f fo ft n : Nat} {cs r : List Tr} [e : TEval σ x (.pf cs)] [u : FieldIs P t f fo ft n] [dr : DropT cs fo r] : Pu P σ B (.fieldAddr t x f) (.pf r) := ⟨fun {X F s h} q {_ _ _ _ _ _ _ _} kk => by
  have h1 := evalIs_self (s := s) (x := x) (h := h)
  have h2 := e.eq F s q.slot h 0 [] false
  simp only [Rep] at h2
  obtain ⟨b, off, vs, h3, h4, h5⟩ := h2
  rw [h3] at h1
  refine WS_fieldAddr (kk _ ?_)
  simp only [Rep]
  refine ⟨b, off + fo, vs.drop fo, rfl, ?_, ?_⟩
  · rw [← dr.eq]
    by_cases hle : fo ≤ cs.length
    · have := rowM_part h4 fo (cs.length - fo) (by omega)
      rw [List.length_drop, this, List.take_of_length_le (by have := rowM_len h4; simp; omega)]
    · rw [List.drop_of_length_le (by omega), List.drop_of_length_le (by have := rowM_len h4; omega)]; rfl
  · rw [← dr.eq]; exact h5.drop fo⟩
theorem RepR.len {F : Mem} {b m : Nat} : ∀ {rows : List (List Tr)} {off : Nat}, RepR F b m rows off → ∀ row ∈ rows, row.length = m := by
  intro rows
  induction rows with
  | nil => intro off _ row h; cases h
  | cons r rows ih =>
    intro off h row hr
    simp only [RepR] at h
    obtain ⟨⟨vs, h1, h2⟩, h3⟩ := h
    rcases List.mem_cons.1 hr with rfl | hr
    · rw [← h2.len, rowM_len h1]
    · exact ih h3 row hr
instance Pu.index_sl {x y : Operand} {t te : TypeId} {m : Nat} {rows : List (List Tr)} {row : List Tr} {k : IntKind} {i : Int} {j : Nat} [e : TEval σ x (.sl m rows)] [e2 : TEval σ y (.v (.int k i))] [a : AsNat i j] [u : UnderIs P t (.slice te)] [z : SizeIs P te m] [ng : NthG rows j row] : Pu P σ B (.indexAddr t x y) (.pf row) := ⟨fun {X F s h} q {_ _ _ _ _ _ _ _} kk => by
  have h1 := evalIs_self (s := s) (x := x) (h := h)
  have h2 := e.eq F s q.slot h 0 [] false
  have h9 := e2.is q.slot
  rw [a.eq] at h9
  simp only [Rep] at h2
  obtain ⟨sa, n, c, h3, h4, h5, _, _, h6⟩ := h2
  rw [h3] at h1
  have hlt := (List.getElem?_eq_some_iff.1 ng.eq).1
  cases sa with
  | none => simp only at h6; omega
  | some sa =>
    refine WS_indexAddr (by omega) (kk _ ?_)
    obtain ⟨vs, h7, h8⟩ := RepR.get h6 ng.eq
    simp only [Rep]
    refine ⟨sa.block, sa.off + j * m, vs, ?_, ?_, h8⟩
    · rw [Int.toNat_natCast]
    · rw [← h8.len, rowM_len h7]; exact h7⟩
/-- a pointer to an own array's part -/
def elp (b m i j : Nat) : Value := .pointer (some (ad b (i * m + j)))
instance CellsOf.elp {b m i j : Nat} : CellsOf (elp b m i j) [elp b m i j] := ⟨rfl, rfl⟩
theorem Box.len_of {F : Mem} {h : IHp} {b m : Nat} {rows : List (List Tr)} {t : Nat} {x : Bool} (hb : BoxRep F h b (.arr m rows t x)) {i : Nat} {row : List Tr} (hr : rows[i]? = some row) : ∃ vs, RepL F rows.flatten vs ∧ ObjIs h b vs t x ∧ vs.length = rows.length * m ∧ row.length = m ∧ i < rows.length := by
  simp only [BoxRep] at hb
  obtain ⟨h1, h2⟩ := hb
  have hi := (List.getElem?_eq_some_iff.1 hr).1
  rcases h2 with ⟨rfl, _, _⟩ | ⟨vs, h3, h4⟩
  · simp at hi
  · refine ⟨vs, h3, h4, ?_, h1 row (List.mem_of_getElem? hr), hi⟩
    rw [h3.len, List.length_flatten]
    have : ∀ l : List (List Tr), (∀ r ∈ l, r.length = m) → (l.map List.length).sum = l.length * m := by
      intro l
      induction l with
      | nil => intro _; simp
      | cons r l ih => intro hl; simp [ih (fun x hx => hl x (List.mem_cons_of_mem _ hx)), hl r List.mem_cons_self, Nat.add_mul]; omega
    exact this rows h1
instance Pu.index_own {x y : Operand} {t te : TypeId} {b n c m : Nat} {rows : List (List Tr)} {row : List Tr} {bt : Nat} {bx : Bool} {k : IntKind} {i : Int} {j : Nat} [e : TEval σ x (.v (.slice (some (ad b 0)) n c))] [e2 : TEval σ y (.v (.int k i))] [a : AsNat i j] [u : UnderIs P t (.slice te)] [z : SizeIs P te m] [bi : BoxIs B b (.arr m rows bt bx)] [ln : LenT rows n] [ng : NthG rows j row] : Pu P σ B (.indexAddr t x y) (.v (elp b m j 0)) := ⟨fun {X F s h} q {_ _ _ _ _ _ _ _} kk => by
  have := e.is q.slot
  have h9 := e2.is q.slot
  rw [a.eq] at h9
  have hlt := (List.getElem?_eq_some_iff.1 ng.eq).1
  refine WS_indexAddr (by have := ln.eq; omega) (kk _ ?_)
  simp only [Rep, elp, Int.toNat_natCast, Nat.zero_add, Nat.add_zero]⟩
instance Pu.index_gsv {x y : Operand} {t te : TypeId} {b n m : Nat} {rows : List (List Tr)} {row : List Tr} {bt : Nat} {bx : Bool} {k : IntKind} {i : Int} {j : Nat} [e : TEval σ x (.v (gsv b n))] [e2 : TEval σ y (.v (.int k i))] [a : AsNat i j] [u : UnderIs P t (.slice te)] [z : SizeIs P te m] [bi : BoxIs B b (.arr m rows bt bx)] [ln : LenT rows n] [ng : NthG rows j row] : Pu P σ B (.indexAddr t x y) (.v (elp b m j 0)) := ⟨fun {X F s h} q {_ _ _ _ _ _ _ _} kk => by
  have := e.is q.slot
  have h9 := e2.is q.slot
  rw [a.eq] at h9
  have hlt := (List.getElem?_eq_some_iff.1 ng.eq).1
  have hl := ln.eq
  unfold gsv at this
  rw [if_neg (by omega)] at this
  refine WS_indexAddr (by omega) (kk _ ?_)
  simp only [Rep, elp, Int.toNat_natCast, Nat.zero_add, Nat.add_zero]⟩
instance Pu.fieldAddr_el {x : Operand} {t : TypeId} {f b m i j fo ft n : Nat} [e : TEval σ x (.v (elp b m i j))] [u : FieldIs P t f fo ft n] : Pu P σ B (.fieldAddr t x f) (.v (elp b m i (j + fo))) := ⟨fun {X F s h} q {_ _ _ _ _ _ _ _} kk => by
  have := e.is q.slot
  unfold elp at this
  refine WS_fieldAddr (kk _ ?_)
  simp only [Rep, elp, Nat.add_assoc]⟩
end Go.Ideal

-- IdealTd
set_option linter.unusedSimpArgs false
set_option linter.unusedVariables false
namespace Go.Ideal
open Go Go.RowKit
variable {P : Program} {X : Cx} {E : Env} {σ : Nat → Tr} {B : Boxes} {ops : Array Oper} {K : TK} {l : List Oper} {d : Option Tmp} {ty : TypeId} {pos : String} {af : Array Edge} {H : List (Nat × Nat)}

/-! ### Loads -/
theorem RepL.row {F : Mem} {h : IHp} {b : Nat} {cs : List Tr} {vs : List Value} {t : TypeId} {x : Bool} (hr : RepL F cs vs) (o : ObjIs h b vs t x) {off n : Nat} {r1 r2 : List Tr} (d : DropT cs off r1) (k : TakeT r1 n r2) : ∃ us, RowIs h b off n us ∧ RepL F r2 us := by
  have h1 := d.eq
  have h2 := k.eq
  have h3 := k.le
  have h4 := d.le
  have hl := hr.len
  refine ⟨(vs.drop off).take n, ⟨row_obj o off ?_⟩, ?_⟩
  · rw [← h1, List.length_drop] at h3; omega
  · rw [← h2, ← h1]
    exact (hr.drop off).take n
theorem RowIs.cell {h : IHp} {b off : Nat} {v : Value} {vs : List Value} {n : Nat} (r : RowIs h b off (n + 1) (v :: vs)) : CellIs h b off v := by
  have h1 := r.eq
  simp only [IHp.row, Option.bind_eq_some_iff] at h1
  obtain ⟨u, hu, us, hus, h2⟩ := h1
  have h3 := Option.some.inj h2
  simp only [List.cons.injEq] at h3
  obtain ⟨rfl, rfl⟩ := h3
  exact ⟨hu⟩
theorem TR.boxOf {F : Mem} {s : Nat → Value} {h : IHp} (r : TR X F σ B s h) {b : Nat} {x : Box} (i : BoxIs B b x) : BoxRep F h b x := r.box _ i.mem
theorem TR.rowF {F : Mem} {s : Nat → Value} {h : IHp} (r : TR X F σ B s h) {b off n : Nat} {vs : List Value} (hr : rowM F b off n = some vs) : RowIs h b off n vs := ⟨by rw [row_rowM]; exact rowM_sub r.sub hr⟩
instance Pu.load_box {x : Operand} {t : TypeId} {b off bt : Nat} {bx : Bool} {cs : List Tr} {u : Tr} [e : TEval σ x (.v (.pointer (some (ad b off))))] [a : AggIs P t false] [bi : BoxIs B b (.cells cs bt bx)] [n : NthG cs off u] : Pu P σ B (.load t x) u := ⟨fun {X F s h} q {_ _ _ _ _ _ _ _} kk => by
  have := e.is q.slot
  obtain ⟨vs, h1, h2⟩ := q.boxOf bi
  obtain ⟨v, h3, h4⟩ := h1.get n.eq
  have : CellIs h b off v := ⟨by rw [h2.cell]; exact h3⟩
  exact WS_load (kk _ h4)⟩
instance Pu.load_pf {x : Operand} {t : TypeId} {u : Tr} {cs : List Tr} [e : TEval σ x (.pf (u :: cs))] [a : AggIs P t false] : Pu P σ B (.load t x) u := ⟨fun {X F s h} q {_ _ _ _ _ _ _ _} kk => by
  have h1 := evalIs_self (s := s) (x := x) (h := h)
  have h2 := e.eq F s q.slot h 0 [] false
  simp only [Rep] at h2
  obtain ⟨b, off, vs, h3, h4, h5⟩ := h2
  rw [h3] at h1
  simp only [RepL] at h5
  obtain ⟨v, ws, rfl, h6, h7⟩ := h5
  have := (q.rowF h4).cell
  exact WS_load (kk _ h6)⟩
instance Pu.load_box_agg {x : Operand} {t : TypeId} {b off n bt : Nat} {bx : Bool} {cs r1 r2 : List Tr} [e : TEval σ x (.v (.pointer (some (ad b off))))] [a : AggIs P t true] [z : SizeIs P t n] [bi : BoxIs B b (.cells cs bt bx)] [dr : DropT cs off r1] [tk : TakeT r1 n r2] : Pu P σ B (.load t x) (.agg r2) := ⟨fun {X F s h} q {_ _ _ _ _ _ _ _} kk => by
  have := e.is q.slot
  obtain ⟨vs, h1, h2⟩ := q.boxOf bi
  obtain ⟨us, h3, h4⟩ := h1.row h2 dr tk
  exact WS_load_agg (kk _ (by simp only [Rep]; exact ⟨us, rfl, h4⟩))⟩
instance Pu.load_pf_agg {x : Operand} {t : TypeId} {n : Nat} {cs r : List Tr} [e : TEval σ x (.pf cs)] [a : AggIs P t true] [z : SizeIs P t n] [tk : TakeT cs n r] : Pu P σ B (.load t x) (.agg r) := ⟨fun {X F s h} q {_ _ _ _ _ _ _ _} kk => by
  have h1 := evalIs_self (s := s) (x := x) (h := h)
  have h2 := e.eq F s q.slot h 0 [] false
  simp only [Rep] at h2
  obtain ⟨b, off, vs, h3, h4, h5⟩ := h2
  rw [h3] at h1
  have h6 : RowIs h b off n (vs.take n) := q.rowF (by have := rowM_part h4 0 n (by have := tk.le; omega); simpa using this)
  refine WS_load_agg (kk _ ?_)
  simp only [Rep]
  exact ⟨_, rfl, by rw [← tk.eq]; exact h5.take n⟩⟩
theorem flat_part {α : Type} {m : Nat} : ∀ {rows : List (List α)} {i : Nat} {row : List α}, (∀ r ∈ rows, r.length = m) → rows[i]? = some row → (rows.flatten.drop (i * m)).take m = row := by
  intro rows
  induction rows with
  | nil => intro i row _ h; simp at h
  | cons r rows ih =>
    intro i row hl hi
    have hr := hl r List.mem_cons_self
    cases i with
    | zero =>
      simp at hi; subst hi
      simp only [Nat.zero_mul, List.drop_zero, List.flatten_cons]
      rw [List.take_append_of_le_length (by omega), List.take_of_length_le (by omega)]
    | succ i =>
      have := ih (fun x hx => hl x (List.mem_cons_of_mem _ hx)) (by simpa using hi)
      have h9 : (r ++ rows.flatten).drop (r.length + i * m) = rows.flatten.drop (i * m) := by rw [← List.drop_drop, List.drop_left]
      rw [List.flatten_cons, show (i + 1) * m = r.length + i * m by rw [Nat.add_mul, hr]; omega, h9]
      exact this
theorem arr_row {F : Mem} {h : IHp} {b m : Nat} {rows : List (List Tr)} {t : Nat} {x : Bool} (hb : BoxRep F h b (.arr m rows t x)) {i : Nat} {row : List Tr} (hr : rows[i]? = some row) : ∃ us, h.row b (i * m) m = some us ∧ RepL F row us := by
  obtain ⟨vs, h1, h2, h3, h4, h5⟩ := Box.len_of hb hr
  have hle : i * m + m ≤ vs.length := by
    rw [h3]
    have : (i + 1) * m ≤ rows.length * m := Nat.mul_le_mul_right m h5
    rw [Nat.add_mul] at this; omega
  refine ⟨(vs.drop (i * m)).take m, row_obj h2 _ hle, ?_⟩
  simp only [BoxRep] at hb
  have := flat_part hb.1 hr
  rw [← this]
  exact (h1.drop _).take m
theorem row_part {h : IHp} {b off n : Nat} {us : List Value} (hr : h.row b off n = some us) (j k : Nat) (hj : j + k ≤ n) : h.row b (off + j) k = some ((us.drop j).take k) := by
  rw [row_rowM] at hr ⊢; exact rowM_part hr j k hj
instance Pu.load_arr {x : Operand} {t : TypeId} {b m i j bt : Nat} {bx : Bool} {rows : List (List Tr)} {row : List Tr} {u : Tr} [e : TEval σ x (.v (elp b m i j))] [a : AggIs P t false] [bi : BoxIs B b (.arr m rows bt bx)] [ng : NthG rows i row] [n : NthG row j u] : Pu P σ B (.load t x) u := ⟨fun {X F s h} q {_ _ _ _ _ _ _ _} kk => by
  have h0 := e.is q.slot
  unfold elp at h0
  obtain ⟨us, h1, h2⟩ := arr_row (q.boxOf bi) ng.eq
  obtain ⟨v, h3, h4⟩ := h2.get n.eq
  have hj := (List.getElem?_eq_some_iff.1 h3).1
  have hm : us.length = m := by rw [row_rowM] at h1; exact rowM_len h1
  have : CellIs h b (i * m + j) v := ⟨by rw [row_cell h1 j (by omega)]; exact h3⟩
  exact WS_load (kk _ h4)⟩
instance Pu.load_arr_agg {x : Operand} {t : TypeId} {b m i j n bt : Nat} {bx : Bool} {rows : List (List Tr)} {row r1 r2 : List Tr} [e : TEval σ x (.v (elp b m i j))] [a : AggIs P t true] [z : SizeIs P t n] [bi : BoxIs B b (.arr m rows bt bx)] [ng : NthG rows i row] [dr : DropT row j r1] [tk : TakeT r1 n r2] : Pu P σ B (.load t x) (.agg r2) := ⟨fun {X F s h} q {_ _ _ _ _ _ _ _} kk => by
  have h0 := e.is q.slot
  unfold elp at h0
  obtain ⟨us, h1, h2⟩ := arr_row (q.boxOf bi) ng.eq
  have hm : us.length = m := by rw [row_rowM] at h1; exact rowM_len h1
  have hl := h2.len
  have h3 := tk.le
  rw [← dr.eq, List.length_drop] at h3
  have h5 := dr.le
  have : RowIs h b (i * m + j) n ((us.drop j).take n) := ⟨row_part h1 j n (by omega)⟩
  refine WS_load_agg (kk _ ?_)
  simp only [Rep]
  exact ⟨_, rfl, by rw [← tk.eq, ← dr.eq]; exact (h2.drop j).take n⟩⟩
instance Pu.extract {x : Operand} {i : Nat} {ts : List Tr} {t : Tr} [e : TEval σ x (.tup ts)] [n : NthG ts i t] : Pu P σ B (.extract x i) t := ⟨fun {X F s h} q {_ _ _ _ _ _ _ _} kk => by
  have h1 := evalIs_self (s := s) (x := x) (h := h)
  have h2 := e.eq F s q.slot h 0 [] false
  simp only [Rep] at h2
  obtain ⟨vs, h3, h4⟩ := h2
  rw [h3] at h1
  obtain ⟨v, h5, h6⟩ := h4.get n.eq
  have : Nth vs i v := ⟨h5⟩
  exact WS_extract (kk _ h6)⟩
instance Pu.field {x : Operand} {t : TypeId} {f fo ft n : Nat} {cs : List Tr} {u : Tr} [e : TEval σ x (.agg cs)] [fi : FieldIs P t f fo ft n] [a : AggIs P ft false] [nt : NthG cs fo u] : Pu P σ B (.field t x f) u := ⟨fun {X F s h} q {_ _ _ _ _ _ _ _} kk => by
  have h1 := evalIs_self (s := s) (x := x) (h := h)
  have h2 := e.eq F s q.slot h 0 [] false
  simp only [Rep] at h2
  obtain ⟨vs, h3, h4⟩ := h2
  rw [h3] at h1
  obtain ⟨v, h5, h6⟩ := h4.get nt.eq
  have : Nth vs fo v := ⟨h5⟩
  exact WS_field (kk _ h6)⟩
/-! structs -/
class TParts (σ : Nat → Tr) (ps : List (Nat × Operand)) (ts : outParam (List (Nat × Tr))) : Prop where
  eq : ∀ F s, (∀ i, Rep F (σ i) (s i)) → ∀ h nt marks rd, ∃ pv, ps.map (fun (i, x) => (i, St.eval ⟨s, h, nt, marks, rd⟩ x)) = pv ∧ pv.map Prod.fst = ts.map Prod.fst ∧ RepL F (ts.map Prod.snd) (pv.map Prod.snd)
instance TParts.nil : TParts σ [] [] := ⟨fun F s hs _ _ _ _ => ⟨[], rfl, rfl, RepL.nil⟩⟩
instance TParts.cons {i : Nat} {x : Operand} {t : Tr} {ps : List (Nat × Operand)} {ts : List (Nat × Tr)} [e : TEval σ x t] [p : TParts σ ps ts] : TParts σ ((i, x) :: ps) ((i, t) :: ts) := ⟨fun F s hs h nt m rd => by
  obtain ⟨pv, h1, h2, h3⟩ := p.eq F s hs h nt m rd
  exact ⟨(i, St.eval ⟨s, h, nt, m, rd⟩ x) :: pv, by simp only [List.map_cons, h1], by simp [h2], RepL.cons (e.eq F s hs h nt m rd) h3⟩⟩
class FillT (P : Program) (t : TypeId) (c : List Tr) (parts : List (Nat × Tr)) (r : outParam (List Tr)) : Prop where
  eq : ∀ F cv (pv : List (Nat × Value)), RepL F c cv → pv.map Prod.fst = parts.map Prod.fst → RepL F (parts.map Prod.snd) (pv.map Prod.snd) → ∃ rv : List Value, (∀ fs, P.underlying t = some (.struct fs) → Instr.fill (fun i => (fs[i]?).bind fun f => (isz P f.type).map fun s => (f.offset, s)) cv.toArray pv = some rv.toArray) ∧ RepL F r rv
instance FillT.nil {t : TypeId} {c : List Tr} : FillT P t c [] c := ⟨fun F cv pv h1 h2 _ => by
  have : pv = [] := by simpa using h2
  subst this
  exact ⟨cv, fun _ _ => rfl, h1⟩⟩
instance FillT.cons {t : TypeId} {c c1 r ws : List Tr} {i off ft n : Nat} {v : Tr} {rest : List (Nat × Tr)} [f : FieldIs P t i off ft n] [cs : CellsT v ws] [ln : LenT ws n] [si : SetT c off ws c1] [fi : FillT P t c1 rest r] : FillT P t c ((i, v) :: rest) r := ⟨fun F cv pv h1 h2 h3 => by
  cases pv with
  | nil => simp at h2
  | cons q pv =>
  obtain ⟨j, y⟩ := q
  simp only [List.map_cons, List.cons.injEq] at h2
  obtain ⟨rfl, h2⟩ := h2
  simp only [List.map_cons, RepL] at h3
  obtain ⟨y', ys, h4, h5, h6⟩ := h3
  simp only [List.cons.injEq] at h4
  obtain ⟨rfl, rfl⟩ := h4
  obtain ⟨us, hu1, hu2, hu3⟩ := cs.eq F y h5
  obtain ⟨rv, g1, g2⟩ := fi.eq F (setAll cv off us) pv (by rw [← si.eq]; exact RepL.setAll hu3 h1) h2 h6
  refine ⟨rv, fun fs hfs => ?_, g2⟩
  obtain ⟨fs', fd, k1, k2, k3, k4, k5, k6⟩ := f.eq
  rw [hfs] at k1
  obtain rfl := TypeDesc.struct.inj (Option.some.inj k1)
  have hlu : us.length = n := by rw [hu3.len]; exact ln.eq
  have hsz : y.cells.size = n := by rw [hu1]; simpa using hlu
  simp only [Instr.fill, k2, Option.bind_some, k4, k5, Option.map_some, k3]
  have hle := si.le
  have hln := ln.eq
  have hlc := h1.len
  rw [if_neg (by simp [hsz]; omega), hu1, ← Array.foldl_toList, Array.toList_zipIdx]
  refine (congrArg (fun z => Instr.fill _ z _) (fold_setAll off us cv 0)).trans ?_
  rw [Nat.add_zero]
  exact g1 fs hfs⟩
theorem repL_vals {F : Mem} : ∀ vs : List Value, RepL F (vs.map Tr.v) vs := by
  intro vs
  induction vs with
  | nil => exact RepL.nil
  | cons v vs ih => exact RepL.cons (rep_v v) ih
class ValsT (vs : List Value) (ts : outParam (List Tr)) : Prop where eq : vs.map Tr.v = ts
instance ValsT.nil : ValsT [] [] := ⟨rfl⟩
instance ValsT.cons {v : Value} {vs : List Value} {ts : List Tr} [i : ValsT vs ts] : ValsT (v :: vs) (.v v :: ts) := ⟨by simp [i.eq]⟩
instance Pu.build {t : TypeId} {ps : List (Nat × Operand)} {pt : List (Nat × Tr)} {z : List Value} {zt r : List Tr} [p : TParts σ ps pt] [zi : ZeroIs P t (.agg z.toArray)] [so : StructOk P t] [vt : ValsT z zt] [fi : FillT P t zt pt r] : Pu P σ B (.build t ps.toArray) (.agg r) := ⟨fun {X F s h} q {E' _ _ _ _ _ _ _} kk => by
  obtain ⟨pv, h1, h2, h3⟩ := p.eq F s q.slot h 0 [] false
  obtain ⟨rv, h4, h5⟩ := fi.eq F z pv (by rw [← vt.eq]; exact repL_vals z) h2 h3
  have hp : PartsIs s ps pv := ⟨fun h' nt mk rd => by
    rw [← h1]
    apply List.map_congr_left
    rintro ⟨i, x⟩ _
    simp only [Prod.mk.injEq, true_and]
    exact (evalIs_self (s := s) (x := x) (h := h)).eq h' nt mk rd⟩
  have hb : BuildIs P t pv rv := ⟨by
    obtain ⟨fs, g1, g2⟩ := so.eq
    simp only [ibuild, zi.eq, Option.bind_some, g1, g2, if_true, ifill, Value.cells]
    rw [h4 fs g1]; rfl⟩
  exact WS_build (kk _ (by simp only [Rep]; exact ⟨rv, rfl, h5⟩))⟩
instance Pu.makeFunc {f : FuncId} {ac bs : List Operand} {ta tb : List Tr} [e1 : TEvals σ ac ta] [e2 : TEvals σ bs tb] : Pu P σ B (.makeFunc (.func f) ac.toArray bs.toArray) (.fn f ta tb) := ⟨fun {X F s h} q {E' _ _ _ _ _ _ _} kk => by
  have hx : ∀ (ps : List Operand), EvalsIs s ps (ps.map (St.eval ⟨s, h, 0, [], false⟩)) := fun ps => ⟨fun h' nt mk rd => by
    apply List.map_congr_left
    intro x _
    exact (evalIs_self (s := s) (x := x) (h := h)).eq h' nt mk rd⟩
  have := hx ac
  have := hx bs
  refine WS_makeFunc (kk _ ?_)
  simp only [Rep]
  exact ⟨_, _, rfl, e1.eq F s q.slot h 0 [] false, e2.eq F s q.slot h 0 [] false⟩⟩
end Go.Ideal

-- IdealTe
set_option linter.unusedSimpArgs false
set_option linter.unusedVariables false
namespace Go.Ideal
open Go Go.RowKit
variable {P : Program} {X : Cx} {E : Env} {σ : Nat → Tr} {B B' : Boxes} {ops : Array Oper} {K : TK} {l : List Oper} {d : Option Tmp} {ty : TypeId} {pos : String} {af : Array Edge} {H : List (Nat × Nat)} {F : Mem} {s : Nat → Value} {h : IHp} {held : Held}

/-! ### Own memory changes -/
theorem BoxRep.lt {b : Nat} {x : Box} (r : BoxRep F h b x) (he : b % 2 = 0) : b < h.fresh := by
  cases x with
  | cells cs t y => obtain ⟨vs, _, o⟩ := r; exact o.lt
  | arr m rows t y =>
    simp only [BoxRep] at r
    rcases r.2 with ⟨_, _, h1⟩ | ⟨vs, _, o⟩
    · omega
    · exact o.lt
theorem ObjIs.keep {h' : IHp} {b b0 : Nat} {vs : List Value} {t : TypeId} {x : Bool} (o : ObjIs h b vs t x) (hn : ∀ i o, h.new[i]? = some o → 2 * i ≠ b0 → h'.new[i]? = some o) (hb : b ≠ b0) : ObjIs h' b vs t x :=
  ⟨o.even, hn _ _ o.eq (by have := o.even; omega)⟩
theorem BoxRep.keep {h' : IHp} {b b0 : Nat} {x : Box} (r : BoxRep F h b x) (hn : ∀ i o, h.new[i]? = some o → 2 * i ≠ b0 → h'.new[i]? = some o) (hb : b ≠ b0) : BoxRep F h' b x := by
  cases x with
  | cells cs t y => obtain ⟨vs, h1, o⟩ := r; exact ⟨vs, h1, o.keep hn hb⟩
  | arr m rows t y =>
    simp only [BoxRep] at r ⊢
    refine ⟨r.1, ?_⟩
    rcases r.2 with h1 | ⟨vs, h1, o⟩
    · exact .inl h1
    · exact .inr ⟨vs, h1, o.keep hn hb⟩
theorem BoxRep.sub {F' : Mem} {b : Nat} {x : Box} (r : BoxRep F h b x) (e : Sub F F') : BoxRep F' h b x := by
  cases x with
  | cells cs t y => obtain ⟨vs, h1, o⟩ := r; exact ⟨vs, RepL.sub e h1, o⟩
  | arr m rows t y =>
    simp only [BoxRep] at r ⊢
    refine ⟨r.1, ?_⟩
    rcases r.2 with h1 | ⟨vs, h1, o⟩
    · exact .inl h1
    · exact .inr ⟨vs, RepL.sub e h1, o⟩
theorem cell_keep {h' : IHp} {b b0 off : Nat} {v : Value} (ho : h'.old = h.old) (hn : ∀ i o, h.new[i]? = some o → 2 * i ≠ b0 → h'.new[i]? = some o) (hb : b % 2 = 0 → b ≠ b0) (hc : h.cell? b off = some v) : h'.cell? b off = some v := by
  unfold IHp.cell? at *
  split
  · rename_i hbo; rw [if_pos hbo] at hc; rw [ho]; exact hc
  · rename_i hbo
    rw [if_neg hbo] at hc
    cases hq : h.new[b / 2]? with
    | none => rw [hq] at hc; cases hc
    | some o => rw [hq] at hc; rw [hn _ _ hq (by have := hb (by omega); omega)]; exact hc
theorem TR.F_lt (r : TR X F σ B s h) {b off : Nat} {v : Value} (hf : F b off = some v) (he : b % 2 = 0) : b < h.fresh := by
  have h1 := r.sub _ _ _ hf
  unfold IHp.cell? at h1
  rw [if_neg (by omega)] at h1
  cases hq : h.new[b / 2]? with
  | none => rw [hq] at h1; cases h1
  | some o => have := (List.getElem?_eq_some_iff.1 hq).1; unfold IHp.fresh; omega
theorem TR.modify {pre post : Boxes} {b b' : Nat} {old x' : Box} {h' : IHp} (r : TR X F σ (pre ++ (b, old) :: post) s h) (ho : h'.old = h.old) (hn : ∀ i o, h.new[i]? = some o → 2 * i ≠ b → h'.new[i]? = some o)
    (hk : b' = b ∨ b' = h.fresh) (hr : BoxRep F h' b' x') : TR X F σ (pre ++ (b', x') :: post) s h' := by
  have hd := r.dis
  simp only [List.map_append, List.map_cons, List.nodup_append, List.nodup_cons, List.mem_cons, List.mem_map] at hd
  obtain ⟨d1, ⟨d2, d3⟩, d4⟩ := hd
  have hmem : (b, old) ∈ pre ++ (b, old) :: post := by simp
  have hsep := r.sep _ hmem
  have hne : ∀ p ∈ pre ++ post, p.1 ≠ b := by
    intro p hp
    rcases List.mem_append.1 hp with h1 | h1
    · exact d4 p.1 ⟨p, h1, rfl⟩ b (.inl rfl)
    · intro he; exact d2 ⟨p, h1, he⟩
  have hin : ∀ p ∈ pre ++ post, p ∈ pre ++ (b, old) :: post := by
    intro p hp; rcases List.mem_append.1 hp with h1 | h1 <;> simp [h1]
  have hlt : ∀ p ∈ pre ++ post, p.1 ≠ h.fresh := by
    intro p hp he
    have he2 : p.1 % 2 = 0 := by rw [he]; unfold IHp.fresh; omega
    have := (r.box p (hin p hp)).lt he2
    omega
  have hne' : ∀ p ∈ pre ++ post, p.1 ≠ b' := by
    intro p hp
    rcases hk with rfl | rfl
    · exact hne p hp
    · exact hlt p hp
  have hcase : ∀ p ∈ pre ++ (b', x') :: post, p = (b', x') ∨ p ∈ pre ++ post := by
    intro p hp
    rcases List.mem_append.1 hp with h1 | h1
    · exact .inr (List.mem_append_left _ h1)
    · rcases List.mem_cons.1 h1 with h1 | h1
      · exact .inl h1
      · exact .inr (List.mem_append_right _ h1)
  refine ⟨⟨ho.trans r.ext.old, fun i o hi => hn i o (r.ext.new i o hi) ?_⟩, r.base, fun b0 off v hf => ?_, r.own, fun p hp => ?_, fun p hp he => ?_, ?_, fun g hg => ?_, r.slot⟩
  · intro hb
    have h1 := (List.getElem?_eq_some_iff.1 hi).1
    have := (hsep (by omega)).1
    unfold IHp.fresh at this; omega
  · refine cell_keep ho hn ?_ (r.sub _ _ _ hf)
    intro he hb; subst hb
    rw [(hsep he).2 off] at hf; cases hf
  · rcases hcase p hp with rfl | h1
    · exact hr
    · exact (r.box p (hin p h1)).keep hn (hne p h1)
  · rcases hcase p hp with rfl | h1
    · rcases hk with rfl | rfl
      · exact hsep he
      · refine ⟨r.ext.fresh, fun off => ?_⟩
        cases hf : F h.fresh off with
        | none => rfl
        | some v => have := r.F_lt hf he; omega
    · exact r.sep p (hin p h1) he
  · simp only [List.map_append, List.map_cons, List.nodup_append, List.nodup_cons, List.mem_cons, List.mem_map]
    refine ⟨d1, ⟨?_, d3⟩, ?_⟩
    · rintro ⟨p, hp, he⟩; exact hne' p (List.mem_append_right _ hp) he
    · rintro a ⟨p, hp, rfl⟩ c (rfl | ⟨q, hq, rfl⟩)
      · exact hne' p (List.mem_append_left _ hp)
      · exact d4 p.1 ⟨p, hp, rfl⟩ q.1 (.inr ⟨q, hq, rfl⟩)
  · obtain ⟨g1, g2⟩ := r.gd g hg
    refine ⟨⟨g1.even, hn _ _ g1.eq ?_⟩, g2⟩
    intro hb
    have he := g1.even
    have hgb : g.1 = b := by omega
    have h1 := r.box _ hmem
    cases hx : old with
    | cells cs t y =>
      rw [hx] at h1
      obtain ⟨vs, _, o⟩ := h1
      have h2 := o.eq
      rw [← hgb, g1.eq] at h2
      exact g2 _ _ _ (Option.some.inj h2)
    | arr m rows t y =>
      rw [hx] at h1
      simp only [BoxRep] at h1
      rcases h1.2 with ⟨_, _, h3⟩ | ⟨vs, _, o⟩
      · omega
      · have h2 := o.eq
        rw [← hgb, g1.eq] at h2
        exact g2 _ _ _ (Option.some.inj h2)
theorem TR.push {x' : Box} {o : IObj} (r : TR X F σ B s h) (hr : BoxRep F (h.push o) h.fresh x') : TR X F σ ((h.fresh, x') :: B) s (h.push o) := by
  have hn : ∀ i o', h.new[i]? = some o' → 2 * i ≠ h.fresh → (h.push o).new[i]? = some o' := fun i o' hi _ => (Ext.push h o).new i o' hi
  have hlt : ∀ p ∈ B, p.1 ≠ h.fresh := by
    intro p hp he
    have he2 : p.1 % 2 = 0 := by rw [he]; unfold IHp.fresh; omega
    have := (r.box p hp).lt he2
    omega
  refine ⟨r.ext.push' o, r.base, fun b off v hf => cell_ext (Ext.push h o) (r.sub _ _ _ hf), r.own, fun p hp => ?_, fun p hp he => ?_, ?_, fun g hg => ⟨⟨(r.gd g hg).1.even, (Ext.push h o).new _ _ (r.gd g hg).1.eq⟩, (r.gd g hg).2⟩, r.slot⟩
  · rcases List.mem_cons.1 hp with rfl | h1
    · exact hr
    · exact (r.box p h1).keep hn (hlt p h1)
  · rcases List.mem_cons.1 hp with rfl | h1
    · refine ⟨r.ext.fresh, fun off => ?_⟩
      cases hf : F h.fresh off with
      | none => rfl
      | some v => have := r.F_lt hf he; omega
    · exact r.sep p h1 he
  · simp only [List.map_cons, List.nodup_cons, List.mem_map]
    refine ⟨?_, r.dis⟩
    rintro ⟨p, hp, he⟩
    exact hlt p hp he
/-- more memory that is read alone -/
theorem TR.grow {F' : Mem} {h' : IHp} (r : TR X F σ B s h) (e : Ext h h') (hs : Sub F F') (hs' : Sub F' h'.cell?) (ho : ∀ b off v, F' b off = some v → F b off = some v ∨ h.fresh ≤ b) : TR X F' σ B s h' := by
  have hn : ∀ i o', h.new[i]? = some o' → 2 * i ≠ h'.fresh + 2 → h'.new[i]? = some o' := fun i o' hi _ => e.new i o' hi
  refine ⟨r.ext.trans e, r.base.trans hs, hs', fun b off v hf => ?_, fun p hp => ?_, fun p hp he => ?_, r.dis, fun g hg => ⟨⟨(r.gd g hg).1.even, e.new _ _ (r.gd g hg).1.eq⟩, (r.gd g hg).2⟩, fun i => (r.slot i).sub hs⟩
  · rcases ho b off v hf with h1 | h1
    · exact r.own b off v h1
    · exact .inr (Nat.le_trans r.ext.fresh h1)
  · refine BoxRep.sub (F := F) ?_ hs
    by_cases he : p.1 % 2 = 0
    · refine (r.box p hp).keep hn ?_
      have := (r.box p hp).lt he
      have := e.fresh
      omega
    · have h1 := r.box p hp
      cases hx : p.2 with
      | cells cs t y => rw [hx] at h1; obtain ⟨vs, _, o⟩ := h1; exact absurd o.even he
      | arr m rows t y =>
        rw [hx] at h1
        simp only [BoxRep] at h1 ⊢
        refine ⟨h1.1, ?_⟩
        rcases h1.2 with h2 | ⟨vs, _, o⟩
        · exact .inl h2
        · exact absurd o.even he
  · refine ⟨(r.sep p hp he).1, fun off => ?_⟩
    cases hf : F' p.1 off with
    | none => rfl
    | some v =>
      rcases ho _ _ _ hf with h1 | h1
      · rw [(r.sep p hp he).2 off] at h1; cases h1
      · have := (r.box p hp).lt he; omega
/-- boxes that are needed no more -/
theorem TR.drop {B' : Boxes} (r : TR X F σ B s h) (hs : B'.Sublist B) : TR X F σ B' s h :=
  ⟨r.ext, r.base, r.sub, r.own, fun p hp => r.box p (hs.mem hp), fun p hp => r.sep p (hs.mem hp), r.dis.sublist (hs.map _), r.gd, r.slot⟩

/-! ### Where the boxes are -/
class InKeys (B : Boxes) (b : Nat) : Prop where mem : b ∈ B.map Prod.fst
instance (priority := 1000) InKeys.head {b : Nat} {x : Box} : InKeys ((b, x) :: B) b := ⟨by simp⟩
instance (priority := 900) InKeys.tail {p : Nat × Box} {b : Nat} [i : InKeys B b] : InKeys (p :: B) b := ⟨by rw [List.map_cons]; exact List.mem_cons_of_mem _ i.mem⟩
class KeyNe (B : Boxes) (a b : Nat) : Prop where eq : (B.map Prod.fst).Nodup → a ≠ b
instance (priority := 1000) KeyNe.head1 {a b : Nat} {x : Box} [i : InKeys B b] : KeyNe ((a, x) :: B) a b := ⟨fun hd he => by
  subst he; simp only [List.map_cons, List.nodup_cons] at hd; exact hd.1 i.mem⟩
instance (priority := 1000) KeyNe.head2 {a b : Nat} {x : Box} [i : InKeys B a] : KeyNe ((b, x) :: B) a b := ⟨fun hd he => by
  subst he; simp only [List.map_cons, List.nodup_cons] at hd; exact hd.1 i.mem⟩
instance (priority := 900) KeyNe.tail {p : Nat × Box} {a b : Nat} [i : KeyNe B a b] : KeyNe (p :: B) a b := ⟨fun hd => by
  simp only [List.map_cons, List.nodup_cons] at hd; exact i.eq hd.2⟩
class Apart (B : Boxes) (b : Nat) (H : List (Nat × Nat)) : Prop where eq : (B.map Prod.fst).Nodup → ∀ e ∈ H, e.2 ≠ b
instance Apart.nil {b : Nat} : Apart B b [] := ⟨fun _ e he => by cases he⟩
instance Apart.cons {b c i : Nat} [k : KeyNe B c b] [a : Apart B b H] : Apart B b ((i, c) :: H) := ⟨fun hd e he => by
  rcases List.mem_cons.1 he with rfl | h1
  · exact k.eq hd
  · exact a.eq hd e h1⟩
class BoxPut (B : Boxes) (b b' : Nat) (x' : Box) (B' : outParam Boxes) : Prop where eq : ∃ pre old post, B = pre ++ (b, old) :: post ∧ B' = pre ++ (b', x') :: post
instance (priority := 1000) BoxPut.head {b b' : Nat} {x x' : Box} : BoxPut ((b, x) :: B) b b' x' ((b', x') :: B) := ⟨[], x, B, rfl, rfl⟩
instance (priority := 900) BoxPut.tail {p : Nat × Box} {b b' : Nat} {x' : Box} [i : BoxPut B b b' x' B'] : BoxPut (p :: B) b b' x' (p :: B') := ⟨by
  obtain ⟨pre, old, post, h1, h2⟩ := i.eq
  exact ⟨p :: pre, old, post, by rw [h1]; rfl, by rw [h2]; rfl⟩⟩
class BoxDel (B : Boxes) (b : Nat) (x : outParam Box) (B' : outParam Boxes) : Prop where eq : ∃ pre post, B = pre ++ (b, x) :: post ∧ B' = pre ++ post
instance (priority := 1000) BoxDel.head {b : Nat} {x : Box} : BoxDel ((b, x) :: B) b x B := ⟨[], B, rfl, rfl⟩
instance (priority := 900) BoxDel.tail {p : Nat × Box} {b : Nat} {x : Box} [i : BoxDel B b x B'] : BoxDel (p :: B) b x (p :: B') := ⟨by
  obtain ⟨pre, post, h1, h2⟩ := i.eq
  exact ⟨p :: pre, post, by rw [h1]; rfl, by rw [h2]; rfl⟩⟩
theorem HeldOk.modify {b b' : Nat} {x' : Box} {h' : IHp} (hh : HeldOk F B H h held) (p : BoxPut B b b' x' B') (r : TR X F σ B s h) (r' : TR X F σ B' s h') (ap : Apart B b H) (ho : h'.old = h.old) (hn : ∀ i o, h.new[i]? = some o → 2 * i ≠ b → h'.new[i]? = some o) : HeldOk F B' H h' held := by
  intro e he
  obtain ⟨h1, h2, h3⟩ := hh e he
  refine ⟨h1, ?_, ?_⟩
  · rcases h3 with h3 | ⟨h3, h4, h6⟩
    · exact r'.sub _ _ _ h3
    · exact cell_keep ho hn (fun _ => ap.eq r.dis _ h3) h2
  · rcases h3 with h3 | ⟨h3, h4, h6⟩
    · exact .inl h3
    · refine .inr ⟨h3, ?_, h6⟩
      obtain ⟨pre, old, post, e1, e2⟩ := p.eq
      have h5 := ap.eq r.dis _ h3
      simp only at h5
      rw [e1] at h4
      rw [e2]
      simp only [List.map_append, List.map_cons, List.mem_append, List.mem_cons] at h4 ⊢
      rcases h4 with h4 | h4 | h4
      · exact .inl h4
      · exact absurd h4 h5
      · exact .inr (.inr h4)
theorem HeldOk.keys {B' : Boxes} {F' : Mem} {h' : IHp} (hh : HeldOk F B H h held) (hc : ∀ b off v, h.cell? b off = some v → h'.cell? b off = some v) (hf : Sub F F') (hk : ∀ b, b ∈ B.map Prod.fst → b ∈ B'.map Prod.fst) : HeldOk F' B' H h' held := by
  intro e he
  obtain ⟨h1, h2, h3⟩ := hh e he
  refine ⟨h1, hc _ _ _ h2, ?_⟩
  rcases h3 with h3 | ⟨h3, h4, h5⟩
  · exact .inl (hf _ _ _ h3)
  · exact .inr ⟨h3, hk _ h4, h5⟩
end Go.Ideal

-- IdealTf
set_option linter.unusedSimpArgs false
set_option linter.unusedVariables false
namespace Go.Ideal
open Go Go.RowKit
variable {P : Program} {X : Cx} {E : Env} {σ : Nat → Tr} {B B' : Boxes} {ops : Array Oper} {K : TK} {l : List Oper} {d : Option Tmp} {ty : TypeId} {pos : String} {af : Array Edge} {H : List (Nat × Nat)} {F : Mem} {s : Nat → Value} {h : IHp} {held : Held}

/-! ### Steps over trees -/
theorem TS_nil (k : K σ B) : TS X P E ops K [] H σ B := by
  unfold TS; intro F s h held r hh; exact WS_nil ⟨F, σ, B, r, hh, k⟩
theorem TGet.is {i : Nat} {v : Value} (g : TGet σ i (.v v)) (r : TR X F σ B s h) : Get s i v := ⟨by have := r.slot i; rw [g.eq] at this; simpa only [Rep] using this⟩
theorem TS_off {op : Op} {j : Nat} {u t : Bool} {x : Tmp} (hd : (ops[j]?).bind (·.dst) = some x) [g : TGet σ x (.v (.bool t))] (ht : t = !u) (k : TS X P E ops K l H (putT σ d (.v undef)) B) : TS X P E ops K (⟨d, op, ty, pos, af, some (j, u)⟩ :: l) H σ B := by
  unfold TS at *
  intro F s h held r hh
  have := g.is r
  exact WS_off hd ht (k F _ h held (r.put (rep_v _)) hh)
theorem TS_on {op : Op} {j : Nat} {u t : Bool} {x : Tmp} (hd : (ops[j]?).bind (·.dst) = some x) [g : TGet σ x (.v (.bool t))] (ht : t = u) (k : TS X P E ops K (⟨d, op, ty, pos, af, none⟩ :: l) H σ B) : TS X P E ops K (⟨d, op, ty, pos, af, some (j, u)⟩ :: l) H σ B := by
  unfold TS at *
  intro F s h held r hh
  have := g.is r
  exact WS_on hd ht (k F s h held r hh)
theorem TS_guard {op : Op} {j : Nat} {u t : Bool} {x : Tmp} (hd : (ops[j]?).bind (·.dst) = some x) [g : TGet σ x (.v (.bool t))] (k1 : t = u → TS X P E ops K (⟨d, op, ty, pos, af, none⟩ :: l) H σ B) (k2 : t = !u → TS X P E ops K l H (putT σ d (.v undef)) B) : TS X P E ops K (⟨d, op, ty, pos, af, some (j, u)⟩ :: l) H σ B := by
  by_cases ht : t = u
  · exact TS_on hd ht (k1 ht)
  · have : t = !u := by cases t <;> cases u <;> simp_all
    exact TS_off hd this (k2 this)
theorem repL_of_vals {vs : List Value} {ts : List Tr} (v : ValsT vs ts) : RepL F ts vs := by rw [← v.eq]; exact repL_vals vs
theorem TS_alloc {t : TypeId} {z : Value} {ws : List Value} {wt : List Tr} [zi : ZeroIs P t z] [cs : CellsOf z ws] [vt : ValsT ws wt] (k : ∀ b, TS X P E ops K l H (putT σ d (.v (.pointer (some (ad b 0))))) ((b, .cells wt t true) :: B)) : TS X P E ops K (⟨d, .alloc t, ty, pos, af, none⟩ :: l) H σ B := by
  unfold TS at *
  intro F s h held r hh
  refine WS_alloc (k h.fresh F _ _ held ((r.push (x' := .cells wt t true) (o := .cells ws t true) ⟨ws, repL_of_vals vt, inferInstance⟩).put (rep_v _)) ?_)
  exact hh.keys (fun b off v hc => cell_ext (Ext.push h _) hc) (Sub.refl F) (fun b hb => by rw [List.map_cons]; exact List.mem_cons_of_mem _ hb)
theorem WS_boxG {K : SK} {x : Operand} {t : TypeId} {v : Value} {vs : List Value} [e : EvalIs s x v] (hc : v.cells = vs.toArray) (hr : vs.all isCellV = true) (k : WS P E ops K l (putS s d (.pointer (some (ad h.fresh 0)))) (h.push (.cells vs t true))) : WS P E ops K (⟨d, .box t x, ty, pos, af, none⟩ :: l) s h := by
  refine WS_heap rfl ?_ k
  have := ev_eq (E := E) (h := h) (x := x) (s := s)
  simp only [iheap, this, isRowV, hc, hr, if_true]
theorem TS_box {t : TypeId} {x : Operand} {u : Tr} {cs : List Tr} [e : TEval σ x u] [c : CellsT u cs] (k : ∀ b, TS X P E ops K l H (putT σ d (.v (.pointer (some (ad b 0))))) ((b, .cells cs t true) :: B)) : TS X P E ops K (⟨d, .box t x, ty, pos, af, none⟩ :: l) H σ B := by
  unfold TS at *
  intro F s h held r hh
  have h1 := evalIs_self (s := s) (x := x) (h := h)
  obtain ⟨vs, h2, h3, h4⟩ := c.eq F _ (e.eq F s r.slot h 0 [] false)
  refine WS_boxG h2 h3 (k h.fresh F _ _ held ((r.push (x' := .cells cs t true) (o := .cells vs t true) ⟨vs, h4, inferInstance⟩).put (rep_v _)) ?_)
  exact hh.keys (fun b off v hc => cell_ext (Ext.push h _) hc) (Sub.refl F) (fun b hb => by rw [List.map_cons]; exact List.mem_cons_of_mem _ hb)
theorem put_keep {b : Nat} {o : IObj} (he : b % 2 = 0) : ∀ i o', h.new[i]? = some o' → 2 * i ≠ b → (h.putObj b o).new[i]? = some o' := fun i o' hi hne => by
  simp only [IHp.putObj]
  rw [List.getElem?_set_ne (by omega)]; exact hi
theorem WS_storeG {K : SK} {x y : Operand} {t : TypeId} {b off n : Nat} {v : Value} {us c : List Value} {t' : TypeId} {ex : Bool} [e1 : EvalIs s x (.pointer (some (ad b off)))] [e2 : EvalIs s y v] [z : SizeIs P t n] (hc : v.cells = us.toArray) (hr : us.all isCellV = true) (o : ObjIs h b c t' ex) (hle : off + us.length ≤ c.length) (hn : us.length = n) (k : WS P E ops K l (putS s d undef) (h.put b (setAll c off us) t' ex)) :
    WS P E ops K (⟨d, .store t x y, ty, pos, af, none⟩ :: l) s h := by
  refine WS_heap rfl ?_ k
  have h1 := ev_eq (E := E) (h := h) (x := x) (s := s)
  have h2 := ev_eq (E := E) (h := h) (x := y) (s := s)
  have h3 : v.cells.size = n := by rw [hc]; simpa using hn
  have h4 : v.cells.toList = us := by rw [hc]
  simp only [iheap, h1, h2, isRowV, h4, hr, if_true, istore, z.eq, Option.bind_some, h3, setRow_obj us o off hle, Option.map_some]
theorem TS_store {x y : Operand} {t : TypeId} {b off n : Nat} {u : Tr} {ws cs r' : List Tr} {bt : Nat} {bx : Bool} [e1 : TEval σ x (.v (.pointer (some (ad b off))))] [e2 : TEval σ y u] [z : SizeIs P t n] [c : CellsT u ws] [bi : BoxIs B b (.cells cs bt bx)] [ln : LenT ws n] [si : SetT cs off ws r'] [bp : BoxPut B b b (.cells r' bt bx) B'] [ap : Apart B b H]
    (k : TS X P E ops K l H (putT σ d (.v undef)) B') : TS X P E ops K (⟨d, .store t x y, ty, pos, af, none⟩ :: l) H σ B := by
  unfold TS at *
  intro F s h held r hh
  have := e1.is r.slot
  have h1 := evalIs_self (s := s) (x := y) (h := h)
  obtain ⟨us, h2, h3, h4⟩ := c.eq F _ (e2.eq F s r.slot h 0 [] false)
  obtain ⟨vs, h5, h6⟩ := r.boxOf bi
  have hlu := h4.len
  have hlv := h5.len
  have hle := si.le
  have hln := ln.eq
  have hrep : BoxRep F (h.put b (setAll vs off us) bt bx) b (.cells r' bt bx) := ⟨_, by rw [← si.eq]; exact RepL.setAll h4 h5, h6.put⟩
  have r' : TR X F σ B' s (h.put b (setAll vs off us) bt bx) := by
    obtain ⟨pre, old, post, p1, p2⟩ := bp.eq
    rw [p2]
    rw [p1] at r
    exact r.modify rfl (put_keep h6.even) (.inl rfl) hrep
  exact WS_storeG h2 h3 h6 (by omega) (by omega) (k F _ _ held (r'.put (rep_v _)) (hh.modify bp r r' ap rfl (put_keep h6.even)))
theorem setAllT_len {α : Type} : ∀ (ws c : List α) (off : Nat), (setAllT c off ws).length = c.length := by
  intro ws
  induction ws with
  | nil => intro c off; rfl
  | cons w ws ih => intro c off; simp only [setAllT, ih, List.length_set]
theorem setAllT_left {α : Type} : ∀ (ws a b : List α) (off : Nat), off + ws.length ≤ a.length → setAllT (a ++ b) off ws = setAllT a off ws ++ b := by
  intro ws
  induction ws with
  | nil => intro a b off _; rfl
  | cons w ws ih =>
    intro a b off h
    simp only [List.length_cons] at h
    simp only [setAllT]
    rw [List.set_append_left _ _ (by omega), ih _ _ _ (by simp; omega)]
theorem setAllT_right {α : Type} : ∀ (ws a b : List α) (off : Nat), setAllT (a ++ b) (a.length + off) ws = a ++ setAllT b off ws := by
  intro ws
  induction ws with
  | nil => intro a b off; rfl
  | cons w ws ih =>
    intro a b off
    simp only [setAllT]
    rw [List.set_append_right _ _ (by omega), show a.length + off - a.length = off by omega, Nat.add_assoc, ih]
theorem flatten_setAllT {α : Type} {m : Nat} : ∀ {rows : List (List α)} {i j : Nat} {row ws : List α}, (∀ r ∈ rows, r.length = m) → rows[i]? = some row → j + ws.length ≤ row.length → setAllT rows.flatten (i * m + j) ws = (rows.set i (setAllT row j ws)).flatten := by
  intro rows
  induction rows with
  | nil => intro i j row ws _ h; simp at h
  | cons r rows ih =>
    intro i j row ws hl hi hj
    have hr := hl r List.mem_cons_self
    cases i with
    | zero =>
      simp at hi; subst hi
      simp only [Nat.zero_mul, Nat.zero_add, List.flatten_cons, List.set_cons_zero]
      exact setAllT_left ws r _ j hj
    | succ i =>
      simp only [List.flatten_cons, List.set_cons_succ]
      rw [show (i + 1) * m + j = r.length + (i * m + j) by rw [Nat.add_mul, hr]; omega, setAllT_right]
      rw [ih (fun x hx => hl x (List.mem_cons_of_mem _ hx)) (by simpa using hi) hj]
theorem setAll_T : ∀ (ws c : List Value) (off : Nat), setAll c off ws = setAllT c off ws := by
  intro ws
  induction ws with
  | nil => intro c off; rfl
  | cons w ws ih => intro c off; simp only [setAll, setAllT, ih]
class SetR (rows : List (List Tr)) (i : Nat) (row : List Tr) (r : outParam (List (List Tr))) : Prop where eq : rows.set i row = r
instance (priority := 10) SetR.any {rows : List (List Tr)} {i : Nat} {row : List Tr} : SetR rows i row (rows.set i row) := ⟨rfl⟩
theorem TS_store_arr {x y : Operand} {t : TypeId} {b m i j n : Nat} {u : Tr} {ws row row' : List Tr} {rows rows' : List (List Tr)} {bt : Nat} {bx : Bool} [e1 : TEval σ x (.v (elp b m i j))] [e2 : TEval σ y u] [z : SizeIs P t n] [c : CellsT u ws] [bi : BoxIs B b (.arr m rows bt bx)] [ng : NthG rows i row] [ln : LenT ws n] [si : SetT row j ws row'] [sr : SetR rows i row' rows'] [bp : BoxPut B b b (.arr m rows' bt bx) B'] [ap : Apart B b H]
    (k : TS X P E ops K l H (putT σ d (.v undef)) B') : TS X P E ops K (⟨d, .store t x y, ty, pos, af, none⟩ :: l) H σ B := by
  unfold TS at *
  intro F s h held r hh
  have h0 := e1.is r.slot
  unfold elp at h0
  have h1 := evalIs_self (s := s) (x := y) (h := h)
  obtain ⟨us, h2, h3, h4⟩ := c.eq F _ (e2.eq F s r.slot h 0 [] false)
  have hb := r.boxOf bi
  obtain ⟨vs, h5, h6, h7, h8, h9⟩ := Box.len_of hb ng.eq
  have hlu := h4.len
  have hle := si.le
  have hln := ln.eq
  have hin : i * m + j + us.length ≤ vs.length := by
    have : (i + 1) * m ≤ rows.length * m := Nat.mul_le_mul_right m h9
    rw [Nat.add_mul] at this; omega
  simp only [BoxRep] at hb
  have hfl := flatten_setAllT (ws := ws) (j := j) hb.1 ng.eq hle
  have hrep : BoxRep F (h.put b (setAll vs (i * m + j) us) bt bx) b (.arr m rows' bt bx) := by
    simp only [BoxRep]
    refine ⟨?_, .inr ⟨_, ?_, h6.put⟩⟩
    · rw [← sr.eq]
      intro r2 hr2
      rcases List.mem_or_eq_of_mem_set hr2 with h10 | rfl
      · exact hb.1 r2 h10
      · rw [← si.eq, setAllT_len]; exact h8
    · rw [← sr.eq, ← si.eq, ← hfl]
      exact RepL.setAll h4 h5
  have r' : TR X F σ B' s (h.put b (setAll vs (i * m + j) us) bt bx) := by
    obtain ⟨pre, old, post, p1, p2⟩ := bp.eq
    rw [p2]
    rw [p1] at r
    exact r.modify rfl (put_keep h6.even) (.inl rfl) hrep
  exact WS_storeG h2 h3 h6 hin (by omega) (k F _ _ held (r'.put (rep_v _)) (hh.modify bp r r' ap rfl (put_keep h6.even)))

/-! slices that are made -/
class EnumT (i : Nat) (pt : List (Nat × Tr)) (ts : outParam (List Tr)) : Prop where eq : pt = (ts.zipIdx i).map fun p => (p.2, p.1)
instance EnumT.nil {i : Nat} : EnumT i [] [] := ⟨rfl⟩
instance EnumT.cons {i : Nat} {t : Tr} {pt : List (Nat × Tr)} {ts : List Tr} [e : EnumT (i + 1) pt ts] : EnumT i ((no_index i, t) :: pt) (t :: ts) := ⟨by rw [e.eq]; simp [List.zipIdx_cons]⟩
class RowsT (m : Nat) (ts : List Tr) (rows : outParam (List (List Tr))) : Prop where
  eq : ∀ F vs, RepL F ts vs → RepL F rows.flatten (vs.map fun v => v.cells.toList).flatten ∧ (∀ v ∈ vs, v.cells.size = m) ∧ ((vs.map fun v => v.cells.toList).flatten).all isCellV = true
  len : ∀ row ∈ rows, row.length = m
instance RowsT.nil {m : Nat} : RowsT m [] [] := ⟨fun F vs hv => by simp only [RepL] at hv; subst hv; exact ⟨by simpa using RepL.nil, by simp, rfl⟩, by simp⟩
instance RowsT.cons {m : Nat} {t : Tr} {ts ws : List Tr} {rows : List (List Tr)} [c : CellsT t ws] [ln : LenT ws m] [r : RowsT m ts rows] : RowsT m (t :: ts) (ws :: rows) := ⟨fun F vs hv => by
  simp only [RepL] at hv
  obtain ⟨v, vs', rfl, h1, h2⟩ := hv
  obtain ⟨us, h3, h4, h5⟩ := c.eq F v h1
  obtain ⟨h6, h7, h8⟩ := r.eq F vs' h2
  refine ⟨?_, ?_, ?_⟩
  · simp only [List.flatten_cons, List.map_cons, h3]; exact h5.append h6
  · intro w hw
    rcases List.mem_cons.1 hw with rfl | hw
    · rw [h3]; simpa using h5.len.trans ln.eq
    · exact h7 w hw
  · simp only [List.map_cons, List.flatten_cons, h3, List.all_append, h4, h8, Bool.and_self], fun row hr => by
  rcases List.mem_cons.1 hr with rfl | hr
  · exact ln.eq
  · exact r.len row hr⟩
theorem enum_snd {α : Type} (ts : List α) (i : Nat) : ((ts.zipIdx i).map fun p => ((p.2, p.1) : Nat × α)).map Prod.snd = ts := by
  induction ts generalizing i with
  | nil => rfl
  | cons t ts ih => simp only [List.zipIdx_cons, List.map_cons, ih]
theorem enum_fst {α : Type} (ts : List α) (i : Nat) : ((ts.zipIdx i).map fun p => ((p.2, p.1) : Nat × α)).map Prod.fst = (ts.zipIdx i).map Prod.snd := by
  induction ts generalizing i with
  | nil => rfl
  | cons t ts ih => simp only [List.zipIdx_cons, List.map_cons, ih]
theorem TS_buildSlice {t e : TypeId} {len m : Nat} {ps : List (Nat × Operand)} {pt : List (Nat × Tr)} {ts : List Tr} {rows : List (List Tr)} {z : Value} {wz : List Value} [u : UnderIs P t (.slice e)] [zi : SizeIs P e m] [ze : ZeroIs P e z] [cz : CellsOf z wz] [lz : LenT wz m] [p : TParts σ ps pt] [en : EnumT 0 pt ts] [ro : RowsT m ts rows] [lt : LenT ts len] (hm : (m != 0 && decide (len * m ≤ 2 ^ 24)) = true)
    (k : ∀ b, TS X P E ops K l H (putT σ d (.v (.slice (some (ad b 0)) len len))) ((b, .arr m rows e true) :: B)) : TS X P E ops K (⟨d, .buildSlice t len ps.toArray, ty, pos, af, none⟩ :: l) H σ B := by
  unfold TS at *
  intro F s h held r hh
  obtain ⟨pv, h1, h2, h3⟩ := p.eq F s r.slot h 0 [] false
  have hp : PartsIs s ps pv := ⟨fun h' nt mk rd => by
    rw [← h1]
    apply List.map_congr_left
    rintro ⟨i, x⟩ _
    simp only [Prod.mk.injEq, true_and]
    exact (evalIs_self (s := s) (x := x) (h := h)).eq h' nt mk rd⟩
  have hts : pt.map Prod.snd = ts := by rw [en.eq]; exact enum_snd ts 0
  rw [hts] at h3
  have hen : pv = ((pv.map Prod.snd).zipIdx 0).map fun p => (p.2, p.1) := by
    have h4 : pv.map Prod.fst = (ts.zipIdx 0).map Prod.snd := by rw [h2, en.eq]; exact enum_fst ts 0
    have h5 := h3.len
    apply List.ext_getElem?
    intro i
    have h6 := congrArg (fun z : List Nat => z[i]?) h4
    simp only [List.getElem?_map, List.getElem?_zipIdx] at h6 ⊢
    cases hi : pv[i]? with
    | none => rfl
    | some q =>
      rw [hi] at h6
      simp at h6
      have h7 : i < ts.length := by
        have := (List.getElem?_eq_some_iff.1 hi).1
        simp at h5; omega
      rw [List.getElem?_eq_getElem h7] at h6
      simp at h6
      simp [← h6]
  have hei : EnumIs 0 pv (pv.map Prod.snd) := ⟨hen⟩
  obtain ⟨g1, g2, g3⟩ := ro.eq F _ h3
  have hro : RowsOf (pv.map Prod.snd) ((pv.map Prod.snd).map fun v => v.cells.toList).flatten := ⟨rfl, g3⟩
  refine WS_buildSlice (vs := pv.map Prod.snd) (z := z) (wz := wz) hm lz.eq (by rw [h3.len]; exact lt.eq) g2 (k h.fresh F _ _ held ((r.push (x' := .arr m rows e true) (o := .cells _ e true) ?_).put (rep_v _)) ?_)
  · simp only [BoxRep]
    exact ⟨ro.len, .inr ⟨_, g1, inferInstance⟩⟩
  · exact hh.keys (fun b off v hc => cell_ext (Ext.push h _) hc) (Sub.refl F) (fun b hb => by rw [List.map_cons]; exact List.mem_cons_of_mem _ hb)
theorem izeros_rows (ws : List Value) (hz : ws ≠ []) : ∀ n : Nat, izeros ws.toArray (n * ws.length) = (List.replicate n ws).flatten := by
  intro n
  have hpos : 0 < ws.length := List.length_pos_iff.2 hz
  induction n with
  | zero => simp [izeros]
  | succ n ih =>
    have h1 : (List.replicate (n + 1) ws).flatten = (List.replicate n ws).flatten ++ ws := by
      rw [List.replicate_succ']; simp
    rw [h1, ← ih]
    unfold izeros
    rw [Nat.add_mul, Nat.one_mul, List.range_add, List.map_append, List.map_map]
    congr 1
    apply List.ext_getElem
    · simp
    · intro i h2 h3
      simp only [List.length_map, List.length_range] at h2
      simp [Nat.mul_add_mod_of_lt, h2, Nat.mod_eq_of_lt h2, Array.getD]
theorem TS_makeSlice {x y : Operand} {t e by_ m : Nat} {k1 k2 : IntKind} {n : Int} {j : Nat} {z : Value} {wz : List Value} {wt : List Tr} [e1 : TEval σ x (.v (.int k1 n))] [e2 : TEval σ y (.v (.int k2 n))] [a : AsNat n j] [u : UnderIs P t (.slice e)] [bi : BytesIs P e m by_] [zi : ZeroIs P e z] [cz : CellsOf z wz] [lz : LenT wz m] [vt : ValsT wz wt] (h1 : by_ * j ≤ 2 ^ 40)
    (k : ∀ b, TS X P E ops K l H (putT σ d (.v (.slice (some (ad b 0)) j j))) ((b, .arr m (List.replicate j wt) e true) :: B)) : TS X P E ops K (⟨d, .makeSlice t x y, ty, pos, af, none⟩ :: l) H σ B := by
  unfold TS at *
  intro F s h held r hh
  obtain ⟨ei, z', i1, i2, i3, i4, i5, i6, i7⟩ := bi.eq
  have e1' := e1.is r.slot
  have e2' := e2.is r.slot
  rw [a.eq] at e1' e2'
  have hz : z.cells = wz.toArray := cz.eq
  have hrow : isRowV z = true := by unfold isRowV; rw [hz]; exact cz.ok
  have hlz := lz.eq
  have hs : z.cells.size = m := by rw [hz]; simpa using hlz
  have hne : wz ≠ [] := by intro h0; subst h0; simp at hlz; omega
  have hiz : izeros z.cells (j * m) = (List.replicate j wz).flatten := by rw [hz, ← hlz]; exact izeros_rows wz hne j
  have hj : j ≤ 2 ^ 40 := by
    have : j ≤ by_ * j := Nat.le_mul_of_pos_left j (by omega)
    omega
  refine WS_heap rfl (v := .slice (some (ad h.fresh 0)) j j) (h' := h.push (.cells (List.replicate j wz).flatten e true)) ?_ (k h.fresh F _ _ held ((r.push (x' := .arr m (List.replicate j wt) e true) ?_).put (rep_v _)) ?_)
  · have e1'' := ev_eq (E := E) (h := h) (x := x) (s := s)
    have e2'' := ev_eq (E := E) (h := h) (x := y) (s := s)
    simp only [iheap, u.eq, e1'', e2'', i1, Option.bind_some, zi.eq, hs, i3, hrow]
    rw [if_neg (by simp; omega), if_pos ⟨by omega, Int.le_refl _, by omega, by rw [i4]; omega⟩, Int.toNat_natCast, hiz]
  · simp only [BoxRep]
    refine ⟨fun row hr => ?_, .inr ⟨_, ?_, inferInstance⟩⟩
    · rw [(List.mem_replicate.1 hr).2, ← vt.eq]; simpa using hlz
    · rw [← vt.eq]
      clear h1 hj hiz e1' e2' k a e1 e2
      induction j with
      | zero => simpa using RepL.nil
      | succ j ih => simp only [List.replicate_succ, List.flatten_cons]; exact (repL_vals wz).append ih
  · exact hh.keys (fun b off v hc => cell_ext (Ext.push h _) hc) (Sub.refl F) (fun b hb => by rw [List.map_cons]; exact List.mem_cons_of_mem _ hb)
end Go.Ideal

-- IdealTg
set_option linter.unusedSimpArgs false
set_option linter.unusedVariables false
namespace Go.Ideal
open Go Go.RowKit
variable {P : Program} {X : Cx} {E : Env} {σ : Nat → Tr} {B B' : Boxes} {ops : Array Oper} {K : TK} {l : List Oper} {d : Option Tmp} {ty : TypeId} {pos : String} {af : Array Edge} {H : List (Nat × Nat)} {F : Mem} {s : Nat → Value} {h : IHp} {held : Held}

/-! ### Appending -/
class LenO {α : Type} (l : List α) (n : outParam Nat) : Prop where eq : l.length = n
instance (priority := 2000) LenO.nil {α : Type} : LenO ([] : List α) 0 := ⟨rfl⟩
instance (priority := 2000) LenO.one {α : Type} {a : α} : LenO [a] 1 := ⟨rfl⟩
instance (priority := 1900) LenO.two {α : Type} {a b : α} : LenO [a, b] 2 := ⟨rfl⟩
instance (priority := 1800) LenO.cons {α : Type} {a : α} {l : List α} {n : Nat} [i : LenO l n] : LenO (a :: l) (n + 1) := ⟨by simp [i.eq]⟩
instance (priority := 1000) LenO.app {α : Type} {a b : List α} {n m : Nat} [i : LenO a n] [j : LenO b m] : LenO (a ++ b) (n + m) := ⟨by rw [List.length_append, i.eq, j.eq]⟩
instance (priority := 10) LenO.self {α : Type} {l : List α} : LenO l l.length := ⟨rfl⟩

theorem append_real {b n n2 m : Nat} {vs us : List Value} {e t by_ : Nat} {x : Bool} {a : Option Addr} {c : Nat} [u : UnderIs P t (.slice e)] [bi : BytesIs P e m by_] (o : ObjIs h b vs e x) (hv : vs.length = n * m) (hs : h.rowAt a n2 m = some us) (hr : (n + n2) * by_ ≤ 2 ^ 47 + 2 ^ 20) :
    ∃ b' h', iappend P h #[t, t] #[.slice (some (ad b 0)) n n, .slice a n2 c] = some (.slice (some (ad b' 0)) (n + n2) (n + n2), h') ∧ ((n2 = 0 ∧ b' = b ∧ h' = h) ∨ (n2 ≠ 0 ∧ b' = h.fresh ∧ ObjIs h' h.fresh (vs ++ us) e false ∧ h'.old = h.old ∧ ∀ i o, h.new[i]? = some o → 2 * i ≠ b → h'.new[i]? = some o)) := by
  obtain ⟨ei, z, h1, h2, h3, h4, h5, h6, h7⟩ := bi.eq
  have he := o.even
  have hroom : roomOk ((n + n2) * by_) = true := by simp [roomOk]; omega
  by_cases hn : n2 = 0
  · subst hn
    have hus : us = [] := by
      unfold IHp.rowAt at hs
      cases a with
      | none => simpa using hs
      | some a => simpa [IHp.row] using hs
    subst hus
    refine ⟨b, h, ?_, .inl ⟨rfl, rfl, rfl⟩⟩
    simp only [iappend, List.getElem?_toArray, List.getElem?_cons_zero, List.getElem?_cons_succ, u.eq, h1, h2, h3, h4, h5, h6, h7, hs, Option.bind_some]
    simp [spotted, hroom, IHp.setRow, h6, h7]
    simpa using hroom
  · have hrow2 : h.rowAt (some (ad b 0)) n m = some vs := by
      have := row_obj (n := n * m) o 0 (by omega)
      simp only [IHp.rowAt, this]
      rw [← hv]; simp
    by_cases hx : x = true
    · subst hx
      have hex : iexact h b = true := by unfold iexact; rw [if_neg (by omega), o.eq]
      refine ⟨h.fresh, h.push (.cells (vs ++ us) e false), ?_, .inr ⟨hn, rfl, inferInstance, rfl, fun i o' hi _ => (Ext.push h _).new i o' hi⟩⟩
      simp only [iappend, List.getElem?_toArray, List.getElem?_cons_zero, List.getElem?_cons_succ, u.eq, h1, h2, h3, h4, h5, h6, h7, hs, hrow2, hex, hroom, Option.bind_some]
      simp [spotted, hroom, h6, h7, hn]
      omega
    · have hx : x = false := by simpa using hx
      subst hx
      have hex : iexact h b = false := by unfold iexact; rw [if_neg (by omega), o.eq]
      refine ⟨h.fresh, ⟨h.old, (h.new.set (b / 2) .dead) ++ [IObj.cells (vs ++ us) e false]⟩, ?_, .inr ⟨hn, rfl, ⟨by unfold IHp.fresh; omega, ?_⟩, rfl, fun i o' hi hne => ?_⟩⟩
      · simp only [iappend, List.getElem?_toArray, List.getElem?_cons_zero, List.getElem?_cons_succ, u.eq, h1, h2, h3, h4, h5, h6, h7, hs, hrow2, hex, o.eq, hroom, Option.bind_some]
        simp [spotted, hroom, h6, h7, hn, hv]
        omega
      · have : (IHp.fresh h) / 2 = h.new.length := by unfold IHp.fresh; omega
        rw [this]; simp
      · have hi2 := (List.getElem?_eq_some_iff.1 hi).1
        simp only
        rw [List.getElem?_append_left (by simpa using hi2), List.getElem?_set_ne (by omega)]; exact hi
theorem append_nil {n2 m : Nat} {us : List Value} {e t by_ : Nat} {a : Option Addr} {c : Nat} [u : UnderIs P t (.slice e)] [bi : BytesIs P e m by_] (hs : h.rowAt a n2 m = some us) (hr : n2 * by_ ≤ 2 ^ 47 + 2 ^ 20) :
    ∃ v h', iappend P h #[t, t] #[.slice none 0 0, .slice a n2 c] = some (v, h') ∧ ((n2 = 0 ∧ v = .slice none 0 0 ∧ h' = h) ∨ (n2 ≠ 0 ∧ v = .slice (some (ad h.fresh 0)) n2 n2 ∧ h' = h.push (.cells us e false))) := by
  obtain ⟨ei, z, h1, h2, h3, h4, h5, h6, h7⟩ := bi.eq
  have hroom : roomOk ((0 + n2) * by_) = true := by simp [roomOk]; omega
  by_cases hn : n2 = 0
  · subst hn
    have hus : us = [] := by
      unfold IHp.rowAt at hs
      cases a with
      | none => simpa using hs
      | some a => simpa [IHp.row] using hs
    subst hus
    refine ⟨_, h, ?_, .inl ⟨rfl, rfl, rfl⟩⟩
    simp only [iappend, List.getElem?_toArray, List.getElem?_cons_zero, List.getElem?_cons_succ, u.eq, h1, h2, h3, h4, h5, h6, h7, hs, Option.bind_some]
    simp [spotted, hroom, IHp.setRow, h6, h7]
    decide
  · refine ⟨_, _, ?_, .inr ⟨hn, rfl, rfl⟩⟩
    simp only [iappend, List.getElem?_toArray, List.getElem?_cons_zero, List.getElem?_cons_succ, u.eq, h1, h2, h3, h4, h5, h6, h7, hs, Option.bind_some]
    simp only [Nat.zero_add] at hroom
    simp [spotted, hroom, h6, h7, hn]
/-- what is read as rows -/
class SrcT (B : Boxes) (t : Tr) (m : Nat) (rows : outParam (List (List Tr))) : Prop where
  eq : ∀ (X : Cx) F σ s h, TR X F σ B s h → ∀ v, Rep F t v → ∃ a n c us, v = .slice a n c ∧ n = rows.length ∧ h.rowAt a n m = some us ∧ RepL F rows.flatten us ∧ ∀ row ∈ rows, row.length = m
theorem repR_rows {b m : Nat} : ∀ {rows : List (List Tr)} {off : Nat}, RepR F b m rows off → ∃ us, rowM F b off (rows.length * m) = some us ∧ RepL F rows.flatten us := by
  intro rows
  induction rows with
  | nil => intro off _; refine ⟨[], ?_, by simpa using RepL.nil⟩; simp [rowM]
  | cons r rows ih =>
    intro off hr
    simp only [RepR] at hr
    obtain ⟨⟨vs, h1, h2⟩, h3⟩ := hr
    obtain ⟨us, h4, h5⟩ := ih h3
    refine ⟨vs ++ us, rowM_of ?_ ?_, by simpa using h2.append h5⟩
    · rw [List.length_append, rowM_len h1, rowM_len h4, List.length_cons, Nat.add_mul]; omega
    · intro i hi
      rw [List.length_cons, Nat.add_mul, Nat.one_mul] at hi
      have hvl := rowM_len h1
      by_cases hm : i < m
      · rw [List.getElem?_append_left (by omega)]; exact rowM_get h1 i hm
      · rw [List.getElem?_append_right (by omega), hvl]
        have := rowM_get h4 (i - m) (by omega)
        rw [show off + m + (i - m) = off + i by omega] at this
        exact this
instance SrcT.sl {m : Nat} {rows : List (List Tr)} : SrcT B (.sl m rows) m rows := ⟨fun X F σ s h r v hv => by
  simp only [Rep] at hv
  obtain ⟨a, n, c, rfl, h2, h3, _, _, h6⟩ := hv
  cases a with
  | none =>
    simp only at h6
    have : rows = [] := List.eq_nil_of_length_eq_zero (by omega)
    subst this
    refine ⟨none, n, c, [], rfl, h2.symm, ?_, by simpa using RepL.nil, by simp⟩
    simp only [IHp.rowAt]; rw [if_pos (by simpa using h2.symm)]
  | some a =>
    obtain ⟨us, h7, h8⟩ := repR_rows h6
    refine ⟨some a, n, c, us, rfl, h2.symm, ?_, h8, RepR.len h6⟩
    simp only [IHp.rowAt]
    rw [← h2, row_rowM]
    exact rowM_sub r.sub h7⟩
theorem src_own {b m n : Nat} {rows : List (List Tr)} {bt : Nat} {bx : Bool} (r : TR X F σ B s h) (bi : BoxIs B b (.arr m rows bt bx)) (hl : rows.length = n) (hn : n ≠ 0 ∨ b % 2 = 0) : ∃ us, h.rowAt (some (ad b 0)) n m = some us ∧ RepL F rows.flatten us ∧ ∀ row ∈ rows, row.length = m := by
  have hb := r.boxOf bi
  simp only [BoxRep] at hb
  obtain ⟨h1, h2⟩ := hb
  rcases h2 with ⟨rfl, _, h3⟩ | ⟨vs, h3, h4⟩
  · simp at hl; omega
  · have hlen : vs.length = n * m := by
      rw [h3.len, ← hl, List.length_flatten]
      clear h3 h4 bi hl
      induction rows with
      | nil => simp
      | cons r rows ih => simp [ih (fun x hx => h1 x (List.mem_cons_of_mem _ hx)), h1 r List.mem_cons_self, Nat.add_mul]; omega
    refine ⟨vs, ?_, h3, h1⟩
    have := row_obj (n := n * m) h4 0 (by omega)
    simp only [IHp.rowAt, this]
    rw [← hlen]; simp
instance SrcT.gsv {m b n : Nat} {rows : List (List Tr)} {bt : Nat} {bx : Bool} [bi : BoxIs B b (.arr m rows bt bx)] [ln : LenT rows n] : SrcT B (.v (gsv b n)) m rows := ⟨fun X F σ s h r v hv => by
  simp only [Rep] at hv
  subst hv
  unfold Go.Ideal.gsv
  split
  · rename_i h0
    have hl := ln.eq
    rw [h0] at hl
    have : rows = [] := List.eq_nil_of_length_eq_zero hl
    subst this
    exact ⟨none, 0, 0, [], rfl, rfl, by simp [IHp.rowAt], by simpa using RepL.nil, by simp⟩
  · rename_i h0
    obtain ⟨us, h1, h2, h3⟩ := src_own r bi ln.eq (.inl h0)
    exact ⟨_, n, n, us, rfl, ln.eq.symm, h1, h2, h3⟩⟩
/-- an own array whose block is there -/
class RealX (rows : List (List Tr)) (x : Bool) : Prop where eq : rows = [] → x = true
instance RealX.true {rows : List (List Tr)} : RealX rows true := ⟨fun _ => rfl⟩
instance RealX.cons {row : List Tr} {rows : List (List Tr)} {x : Bool} : RealX (row :: rows) x := ⟨fun h => by cases h⟩
instance RealX.empty {rows : List (List Tr)} : RealX rows rows.isEmpty := ⟨fun h => by subst h; rfl⟩
instance RealX.app {rows rows2 : List (List Tr)} {x : Bool} [i : RealX rows x] : RealX (rows ++ rows2) (rows2.isEmpty && x) := ⟨fun h => by
  obtain ⟨h1, h2⟩ := List.append_eq_nil_iff.1 h
  subst h2; simp [i.eq h1]⟩
theorem RealX.even {b m : Nat} {rows : List (List Tr)} {bt : Nat} {bx : Bool} (rx : RealX rows bx) (hb : BoxRep F h b (.arr m rows bt bx)) : ∃ vs, RepL F rows.flatten vs ∧ ObjIs h b vs bt bx := by
  simp only [BoxRep] at hb
  rcases hb.2 with ⟨h1, h2, _⟩ | h3
  · rw [rx.eq h1] at h2; cases h2
  · exact h3
instance SrcT.own {m b n c : Nat} {rows : List (List Tr)} {bt : Nat} {bx : Bool} [bi : BoxIs B b (.arr m rows bt bx)] [ln : LenT rows n] [rx : RealX rows bx] : SrcT B (.v (.slice (some (ad b 0)) n c)) m rows := ⟨fun X F σ s h r v hv => by
  simp only [Rep] at hv
  subst hv
  obtain ⟨vs, _, o⟩ := rx.even (r.boxOf bi)
  obtain ⟨us, h1, h2, h3⟩ := src_own r bi ln.eq (.inr o.even)
  exact ⟨_, n, c, us, rfl, ln.eq.symm, h1, h2, h3⟩⟩
instance SrcT.nil {m : Nat} : SrcT B (.v (.slice none 0 0)) m [] := ⟨fun X F σ s h r v hv => by
  simp only [Rep] at hv
  subst hv
  exact ⟨none, 0, 0, [], rfl, rfl, by simp [IHp.rowAt], by simpa using RepL.nil, by simp⟩⟩
theorem exists_odd (ks : List Nat) : ∃ b, b % 2 = 1 ∧ b ∉ ks := by
  have key : ∀ ks : List Nat, ∃ n, ∀ k ∈ ks, k < n := by
    intro ks
    induction ks with
    | nil => exact ⟨0, by simp⟩
    | cons k ks ih =>
      obtain ⟨n, hn⟩ := ih
      refine ⟨max n (k + 1), fun j hj => ?_⟩
      rcases List.mem_cons.1 hj with rfl | hj
      · omega
      · have := hn j hj; omega
  obtain ⟨n, hn⟩ := key ks
  exact ⟨2 * n + 1, by omega, fun hb => by have := hn _ hb; omega⟩
theorem TR.ghost {m e : Nat} {b : Nat} (r : TR X F σ B s h) (hb : b % 2 = 1) (hk : b ∉ B.map Prod.fst) : TR X F σ ((b, .arr m [] e false) :: B) s h :=
  ⟨r.ext, r.base, r.sub, r.own, fun p hp => by
    rcases List.mem_cons.1 hp with rfl | h1
    · exact (⟨by simp, .inl ⟨rfl, rfl, hb⟩⟩ : BoxRep F h b (.arr m [] e false))
    · exact r.box p h1, fun p hp he => by
    rcases List.mem_cons.1 hp with rfl | h1
    · simp only at he; omega
    · exact r.sep p h1 he, by simp only [List.map_cons, List.nodup_cons]; exact ⟨hk, r.dis⟩, r.gd, r.slot⟩
theorem heap_append {v : Value} {h' : IHp} {x y : Operand} {t : TypeId} {a1 a2 : Value} (e1 : EvalIs s x a1) (e2 : EvalIs s y a2) (hh : iappend P h #[t, t] #[a1, a2] = some (v, h')) : iheap P h (E.st s h).eval ⟨d, .call ⟨.builtin .append, #[x, y], #[t, t]⟩, ty, pos, af, none⟩ = some (v, h') := by
  have e1' := ev_eq (E := E) (h := h) (x := x) (s := s)
  have e2' := ev_eq (E := E) (h := h) (x := y) (s := s)
  show (if (#[x, y].size = 2) then iappend P h #[t, t] (#[x, y].map (E.st s h).eval) else none) = _
  rw [if_pos (show #[x, y].size = 2 from rfl)]
  simp only [List.map_toArray, List.map_cons, List.map_nil, e1', e2']
  exact hh
theorem flat_len {m : Nat} : ∀ {rows : List (List Tr)}, (∀ row ∈ rows, row.length = m) → rows.flatten.length = rows.length * m := by
  intro rows
  induction rows with
  | nil => intro _; simp
  | cons r rows ih => intro h; simp [ih (fun x hx => h x (List.mem_cons_of_mem _ hx)), h r List.mem_cons_self, Nat.add_mul]; omega
theorem all_app {m : Nat} {a b : List (List Tr)} (h1 : ∀ row ∈ a, row.length = m) (h2 : ∀ row ∈ b, row.length = m) : ∀ row ∈ a ++ b, row.length = m := fun row hr => by
  rcases List.mem_append.1 hr with h | h
  · exact h1 row h
  · exact h2 row h
/-- a slice that grows -/
theorem TS_append {x y : Operand} {t e by_ m b n n2 : Nat} {y' : Tr} {rows rows2 : List (List Tr)} {B' : Nat → Boxes} [e1 : TEval σ x (.v (gsv b n))] [e2 : TEval σ y y'] [u : UnderIs P t (.slice e)] [bi : BytesIs P e m by_] [bb : BoxIs B b (.arr m rows e false)] [ln : LenT rows n] [sr : SrcT B y' m rows2] [ln2 : LenO rows2 n2] [ap : Apart B b H] [bp : ∀ b', BoxPut B b b' (.arr m (rows ++ rows2) e false) (B' b')] (hr : (n + n2) * by_ ≤ 2 ^ 47 + 2 ^ 20)
    (k : ∀ b', TS X P E ops K l H (putT σ d (.v (gsv b' (n + n2)))) (B' b')) : TS X P E ops K (⟨d, .call ⟨.builtin .append, #[x, y], #[t, t]⟩, ty, pos, af, none⟩ :: l) H σ B := by
  unfold TS at *
  intro F s h held r hh
  have e1' := e1.is r.slot
  have e2' := evalIs_self (s := s) (x := y) (h := h)
  obtain ⟨a, n2', c, us, h1, h2, h3, h4, h5⟩ := sr.eq X F σ s h r _ (e2.eq F s r.slot h 0 [] false)
  rw [h1] at e2'
  rw [ln2.eq] at h2
  subst h2
  have hb := r.boxOf bb
  have hl := ln.eq
  have hl2 := ln2.eq
  by_cases h0 : n = 0
  · subst h0
    have hrows : rows = [] := List.eq_nil_of_length_eq_zero hl
    subst hrows
    obtain ⟨v, h', g1, g2⟩ := append_nil (P := P) (t := t) (c := c) h3 (by simpa using hr)
    have e1'' : EvalIs s x (.slice none 0 0) := e1'
    rcases g2 with ⟨g3, rfl, rfl⟩ | ⟨g3, rfl, rfl⟩
    · subst g3
      have hrows2 : rows2 = [] := List.eq_nil_of_length_eq_zero hl2
      subst hrows2
      have r' : TR X F σ (B' b) s h' := by
        obtain ⟨pre, old, post, p1, p2⟩ := (bp b).eq
        rw [p2]; rw [p1] at r
        exact r.modify rfl (fun i o hi _ => hi) (.inl rfl) (by simpa using hb)
      exact WS_heap rfl (heap_append e1'' e2' g1) (k b F _ _ held (r'.put (rep_v _)) (hh.modify (bp b) r r' ap rfl (fun i o hi _ => hi)))
    · have r' : TR X F σ (B' h.fresh) s (h.push (.cells us e false)) := by
        obtain ⟨pre, old, post, p1, p2⟩ := (bp h.fresh).eq
        rw [p2]; rw [p1] at r
        refine r.modify rfl (fun i o hi _ => (Ext.push h _).new i o hi) (.inr rfl) ?_
        simp only [BoxRep, List.nil_append]
        exact ⟨h5, .inr ⟨us, h4, inferInstance⟩⟩
      refine WS_heap rfl (heap_append e1'' e2' g1) (k h.fresh F _ _ held (r'.put ?_) (hh.modify (bp h.fresh) r r' ap rfl (fun i o hi _ => (Ext.push h _).new i o hi)))
      simp only [Rep, gsv, Nat.zero_add, if_neg g3]
  · have e1'' : EvalIs s x (.slice (some (ad b 0)) n n) := by unfold gsv at e1'; rw [if_neg h0] at e1'; exact e1'
    simp only [BoxRep] at hb
    rcases hb.2 with ⟨g1, _⟩ | ⟨vs, g1, g2⟩
    · subst g1; simp at hl; omega
    · have hvl : vs.length = n * m := by rw [g1.len, flat_len hb.1, hl]
      obtain ⟨b', h', g3, g4⟩ := append_real (P := P) (t := t) (c := c) g2 hvl h3 hr
      rcases g4 with ⟨g5, rfl, rfl⟩ | ⟨g5, rfl, g6, g7, g8⟩
      · subst g5
        have hrows2 : rows2 = [] := List.eq_nil_of_length_eq_zero hl2
        subst hrows2
        have r' : TR X F σ (B' b') s h' := by
          obtain ⟨pre, old, post, p1, p2⟩ := (bp b').eq
          rw [p2]; rw [p1] at r
          exact r.modify rfl (fun i o hi _ => hi) (.inl rfl) (by simp only [BoxRep, List.append_nil]; exact hb)
        refine WS_heap rfl (heap_append e1'' e2' g3) (k b' F _ _ held (r'.put ?_) (hh.modify (bp b') r r' ap rfl (fun i o hi _ => hi)))
        simp only [Rep, gsv]; rw [if_neg (by omega)]
      · have r' : TR X F σ (B' h.fresh) s h' := by
          obtain ⟨pre, old, post, p1, p2⟩ := (bp h.fresh).eq
          rw [p2]; rw [p1] at r
          refine r.modify g7 g8 (.inr rfl) ?_
          simp only [BoxRep]
          exact ⟨all_app hb.1 h5, .inr ⟨vs ++ us, by rw [List.flatten_append]; exact g1.append h4, g6⟩⟩
        refine WS_heap rfl (heap_append e1'' e2' g3) (k h.fresh F _ _ held (r'.put ?_) (hh.modify (bp h.fresh) r r' ap g7 g8))
        simp only [Rep, gsv]; rw [if_neg (by omega)]
/-- an own slice of which all is there (a copy: append to an empty literal) -/
theorem TS_append_own {x y : Operand} {t e by_ m b n n2 : Nat} {y' : Tr} {rows rows2 : List (List Tr)} {bx : Bool} {B' : Nat → Boxes} [e1 : TEval σ x (.v (.slice (some (ad b 0)) n n))] [e2 : TEval σ y y'] [u : UnderIs P t (.slice e)] [bi : BytesIs P e m by_] [bb : BoxIs B b (.arr m rows e bx)] [rx : RealX rows bx] [ln : LenT rows n] [sr : SrcT B y' m rows2] [ln2 : LenO rows2 n2] [ap : Apart B b H] [bp : ∀ b', BoxPut B b b' (.arr m (rows ++ rows2) e (rows2.isEmpty && bx)) (B' b')] (hr : (n + n2) * by_ ≤ 2 ^ 47 + 2 ^ 20)
    (k : ∀ b', TS X P E ops K l H (putT σ d (.v (.slice (some (ad b' 0)) (n + n2) (n + n2)))) (B' b')) : TS X P E ops K (⟨d, .call ⟨.builtin .append, #[x, y], #[t, t]⟩, ty, pos, af, none⟩ :: l) H σ B := by
  unfold TS at *
  intro F s h held r hh
  have e1' := e1.is r.slot
  have e2' := evalIs_self (s := s) (x := y) (h := h)
  obtain ⟨a, n2', c, us, h1, h2, h3, h4, h5⟩ := sr.eq X F σ s h r _ (e2.eq F s r.slot h 0 [] false)
  rw [h1] at e2'
  rw [ln2.eq] at h2
  subst h2
  have hb := r.boxOf bb
  have hl := ln.eq
  have hl2 := ln2.eq
  obtain ⟨vs, g1, g2⟩ := rx.even hb
  simp only [BoxRep] at hb
  have hvl : vs.length = n * m := by rw [g1.len, flat_len hb.1, hl]
  obtain ⟨b', h', g3, g4⟩ := append_real (P := P) (t := t) (c := c) g2 hvl h3 hr
  rcases g4 with ⟨g5, rfl, rfl⟩ | ⟨g5, rfl, g6, g7, g8⟩
  · subst g5
    have hrows2 : rows2 = [] := List.eq_nil_of_length_eq_zero hl2
    subst hrows2
    have r' : TR X F σ (B' b') s h' := by
      obtain ⟨pre, old, post, p1, p2⟩ := (bp b').eq
      rw [p2]; rw [p1] at r
      exact r.modify rfl (fun i o hi _ => hi) (.inl rfl) (by simp only [BoxRep, List.append_nil, List.isEmpty_nil, Bool.true_and]; exact hb)
    exact WS_heap rfl (heap_append e1' e2' g3) (k b' F _ _ held (r'.put (rep_v _)) (hh.modify (bp b') r r' ap rfl (fun i o hi _ => hi)))
  · have hx : (rows2.isEmpty && bx) = false := by
      have : rows2 ≠ [] := by intro h0; subst h0; simp at hl2; omega
      cases rows2 with
      | nil => exact absurd rfl this
      | cons => rfl
    have r' : TR X F σ (B' h.fresh) s h' := by
      obtain ⟨pre, old, post, p1, p2⟩ := (bp h.fresh).eq
      rw [p2]; rw [p1] at r
      refine r.modify g7 g8 (.inr rfl) ?_
      simp only [BoxRep, hx]
      exact ⟨all_app hb.1 h5, .inr ⟨vs ++ us, by rw [List.flatten_append]; exact g1.append h4, g6⟩⟩
    exact WS_heap rfl (heap_append e1' e2' g3) (k h.fresh F _ _ held (r'.put (rep_v _)) (hh.modify (bp h.fresh) r r' ap g7 g8))
instance LenT.app {α : Type} {l1 l2 : List α} {n m : Nat} [i : LenT l1 n] [j : LenT l2 m] : LenT (l1 ++ l2) (no_index (n + m)) := ⟨by rw [List.length_append, i.eq, j.eq]⟩
instance (priority := 10) LenT.self {α : Type} {l : List α} : LenT l l.length := ⟨rfl⟩
end Go.Ideal
