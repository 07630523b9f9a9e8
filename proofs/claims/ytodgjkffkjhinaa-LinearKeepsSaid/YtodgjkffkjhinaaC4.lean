/- Part 4 of what the proof stands on: an interpreter over an ideal memory that is proved sound, steps over it, and contracts of the functions that are called. No condition: no law is claimed here. -/
import Derived.Test.YtodgjkffkjhinaaC3
import Derived.ChangeArms
import Derived.ChangeShapes
import Derived.WideShapes
import Derived.SizedLaws
import Derived.KernelRfl
import Derived.Test.YtodgjkffkjhinaaProg
-- IdealTj
set_option linter.unusedSimpArgs false
set_option linter.unusedVariables false
namespace Go.Ideal
open Go Go.RowKit
variable {P : Program} {X : Cx} {E : Env} {σ : Nat → Tr} {B B' : Boxes} {ops : Array Oper} {K : TK} {l : List Oper} {d : Option Tmp} {ty : TypeId} {pos : String} {af : Array Edge} {H : List (Nat × Nat)} {F : Mem} {s : Nat → Value} {h : IHp} {held : Held} {plan : List PStep} {ph : Bool}

/-! ### Regions that draw their order -/
/-- cells that are the same in all the heaps since the region began; the number of cells is told in the entry's number -/
def PinOk (H : List (Nat × Nat)) (pins : Held) (snaps : List IHp) : Prop := ∀ b n, (1000000 + n, b) ∈ H → ∀ j, j < n → ∃ v, (1000000 + n, b, j, v) ∈ pins ∧ ∀ hs ∈ snaps, hs.cell? b j = some v
theorem pinOk_nil {pins : Held} {snaps : List IHp} : PinOk [] pins snaps := fun b n h => by cases h
@[irreducible] def TD (X : Cx) (P : Program) (E : Env) (ops : Array Oper) (K : TK) (plan : List PStep) (H : List (Nat × Nat)) (ph : Bool) (σ : Nat → Tr) (B : Boxes) : Prop :=
  ∀ F s h held snaps pins, TR X F σ B s h → HeldOk F B H h (held ++ pins) → (ph = true → snaps = [h]) → PinOk H pins snaps → WD P E ops (fun s' h' => ∃ F' σ' B', TR X F' σ' B' s' h' ∧ K σ' B') plan held snaps s h
theorem TV_draw {id : Nat} {l : List Oper} {Q : IExit → TK} {plan : List PStep} (hp : planOf l.toArray = some plan) (k : TD X P E l.toArray (Q .normal) plan [] true σ B) : TV X P E (.region id l.toArray true) Q σ B := by
  unfold TV; unfold TD at k
  intro F s h r
  exact V_draw hp (k F s h [] [h] [] r (fun e he => by cases he) (fun _ => rfl) pinOk_nil)
theorem TD_nil (k : K σ B) : TD X P E ops K [] H ph σ B := by
  unfold TD; intro F s h held snaps pins r hh hp hq; exact WD_nil ⟨F, σ, B, r, k⟩
theorem TD_take {i : Nat} {op : Op} {t : Tr} (ho : ops[i]? = some ⟨d, op, ty, pos, af, none⟩) (hq : (isQuiet op && !isLoad op) = true) [p : Pu P σ B op t] (k : TD X P E ops K plan H ph (putT σ d t) B) : TD X P E ops K (.take i :: plan) H ph σ B := by
  unfold TD at *
  intro F s h held snaps pins r hh hp hpin
  refine WD_take ho (by simpa using hq) (p.eq r fun v hv => WS_nil ?_)
  unfold WDT
  exact k F _ h held snaps pins (r.put hv) hh hp hpin
theorem TD_takew {i : Nat} {op : Op} {t : Tr} (ho : ops[i]? = some ⟨d, op, ty, pos, af, none⟩) (hq : (isQuiet op && !isLoad op) = true) (p : Pu P σ B op t) (k : TD X P E ops K plan H ph (putT σ d t) B) : TD X P E ops K (.take i :: plan) H ph σ B := TD_take ho hq (p := p) k
/-! loads that are taken first: the place, what is read, and whether it lies in own memory -/
/-- a load's reading; bs: the own block that is read, if any -/
class Lo (P : Program) (σ : Nat → Tr) (B : Boxes) (op : Op) (t : outParam Tr) (bs : outParam (List Nat)) : Prop where
  eq : ∀ {X : Cx} {F : Mem} {s : Nat → Value} {h : IHp}, TR X F σ B s h → ∃ ty x b off us, op = .load ty x ∧ EvalIs s x (.pointer (some (ad b off))) ∧ h.row b off us.length = some us ∧ (∀ u ∈ us, veq u u = true) ∧
    ((AggIs P ty false ∧ ∃ u, us = [u] ∧ Rep F t u) ∨ (AggIs P ty true ∧ SizeIs P ty us.length ∧ Rep F t (.agg us.toArray))) ∧ ((∀ i, i < us.length → F b (off + i) = us[i]?) ∨ (bs = [b] ∧ b ∈ B.map Prod.fst ∧ b % 2 = 0))
class VR (t : Tr) : Prop where eq : ∀ F v, Rep F t v → veq v v = true
instance VR.val {x : Value} [r : VRefl x] : VR (.v x) := ⟨fun F v h => by simp only [Rep] at h; subst h; exact r.eq⟩
instance VRefl.gsv {b n : Nat} : VRefl (gsv b n) := ⟨by unfold Go.Ideal.gsv; split <;> simp [veq]⟩
instance VRefl.elp {b m i j : Nat} : VRefl (elp b m i j) := ⟨by unfold Go.Ideal.elp; simp [veq]⟩
instance VR.sl {m : Nat} {rows : List (List Tr)} : VR (.sl m rows) := ⟨fun F v h => by simp only [Rep] at h; obtain ⟨a, n, c, rfl, _⟩ := h; simp [veq]⟩
instance VR.pf {cs : List Tr} : VR (.pf cs) := ⟨fun F v h => by simp only [Rep] at h; obtain ⟨b, o, vs, rfl, _⟩ := h; simp [veq]⟩
class VRL (ts : List Tr) : Prop where eq : ∀ F vs, RepL F ts vs → ∀ v ∈ vs, veq v v = true
instance VRL.nil : VRL [] := ⟨fun F vs h v hv => by simp only [RepL] at h; subst h; cases hv⟩
instance VRL.cons {t : Tr} {ts : List Tr} [a : VR t] [b : VRL ts] : VRL (t :: ts) := ⟨fun F vs h v hv => by
  simp only [RepL] at h
  obtain ⟨w, ws, rfl, h1, h2⟩ := h
  rcases List.mem_cons.1 hv with rfl | hv
  · exact a.eq F _ h1
  · exact b.eq F ws h2 v hv⟩
theorem row_len {h : IHp} {b off n : Nat} {us : List Value} (hr : h.row b off n = some us) : us.length = n := by rw [row_rowM] at hr; exact rowM_len hr
theorem TR.even (r : TR X F σ B s h) {b : Nat} {cs : List Tr} {t : Nat} {x : Bool} (bi : BoxIs B b (.cells cs t x)) : b % 2 = 0 ∧ b ∈ B.map Prod.fst := by
  obtain ⟨vs, _, o⟩ := r.boxOf bi
  exact ⟨o.even, List.mem_map.2 ⟨_, bi.mem, rfl⟩⟩
instance Lo.box {x : Operand} {t : TypeId} {b off bt : Nat} {bx : Bool} {cs : List Tr} {u : Tr} [e : TEval σ x (.v (.pointer (some (ad b off))))] [a : AggIs P t false] [bi : BoxIs B b (.cells cs bt bx)] [n : NthG cs off u] [vr : VR u] : Lo P σ B (.load t x) u [b] := ⟨fun {X F s h} q => by
  have h0 := e.is q.slot
  obtain ⟨vs, h1, h2⟩ := q.boxOf bi
  obtain ⟨v, h3, h4⟩ := h1.get n.eq
  refine ⟨t, x, b, off, [v], rfl, h0, ?_, ?_, .inl ⟨a, v, rfl, h4⟩, .inr ⟨rfl, (q.even bi).2, (q.even bi).1⟩⟩
  · have hlt := (List.getElem?_eq_some_iff.1 h3).1
    rw [List.length_singleton, row_obj h2 off (by omega)]
    rw [List.drop_eq_getElem_cons hlt]
    rw [List.getElem?_eq_getElem hlt] at h3
    simp [Option.some.inj h3]
  · intro w hw; simp at hw; subst hw; exact vr.eq F _ h4⟩
instance Lo.pf {x : Operand} {t : TypeId} {u : Tr} {cs : List Tr} [e : TEval σ x (.pf (u :: cs))] [a : AggIs P t false] [vr : VR u] : Lo P σ B (.load t x) u [] := ⟨fun {X F s h} q => by
  have h1 := evalIs_self (s := s) (x := x) (h := h)
  have h2 := e.eq F s q.slot h 0 [] false
  simp only [Rep] at h2
  obtain ⟨b, off, vs, h3, h4, h5⟩ := h2
  rw [h3] at h1
  simp only [RepL] at h5
  obtain ⟨v, ws, rfl, h6, h7⟩ := h5
  refine ⟨t, x, b, off, [v], rfl, h1, ?_, ?_, .inl ⟨a, v, rfl, h6⟩, .inl ?_⟩
  · have := rowM_part h4 0 1 (by simp)
    rw [row_rowM]
    exact rowM_sub q.sub (by simpa using this)
  · intro w hw; simp at hw; subst hw; exact vr.eq F _ h6
  · intro i hi
    have : i = 0 := by simpa using hi
    subst this
    have := rowM_get h4 0 (by simp)
    simpa using this⟩
instance Lo.box_agg {x : Operand} {t : TypeId} {b off n bt : Nat} {bx : Bool} {cs r1 r2 : List Tr} [e : TEval σ x (.v (.pointer (some (ad b off))))] [a : AggIs P t true] [z : SizeIs P t n] [bi : BoxIs B b (.cells cs bt bx)] [dr : DropT cs off r1] [tk : TakeT r1 n r2] [vr : VRL r2] : Lo P σ B (.load t x) (.agg r2) [b] := ⟨fun {X F s h} q => by
  have h0 := e.is q.slot
  obtain ⟨vs, h1, h2⟩ := q.boxOf bi
  obtain ⟨us, h3, h4⟩ := h1.row h2 dr tk
  have hl := row_len h3.eq
  refine ⟨t, x, b, off, us, rfl, h0, by rw [hl]; exact h3.eq, vr.eq F us h4, .inr ⟨a, by rw [hl]; exact z, by simp only [Rep]; exact ⟨us, rfl, h4⟩⟩, .inr ⟨rfl, (q.even bi).2, (q.even bi).1⟩⟩⟩
instance Lo.pf_agg {x : Operand} {t : TypeId} {n : Nat} {cs r : List Tr} [e : TEval σ x (.pf cs)] [a : AggIs P t true] [z : SizeIs P t n] [tk : TakeT cs n r] [vr : VRL r] : Lo P σ B (.load t x) (.agg r) [] := ⟨fun {X F s h} q => by
  have h1 := evalIs_self (s := s) (x := x) (h := h)
  have h2 := e.eq F s q.slot h 0 [] false
  simp only [Rep] at h2
  obtain ⟨b, off, vs, h3, h4, h5⟩ := h2
  rw [h3] at h1
  have h6 : RepL F r (vs.take n) := by rw [← tk.eq]; exact h5.take n
  have hl : (vs.take n).length = n := by have := rowM_len h4; have := tk.le; simp; omega
  have h7 : rowM F b off n = some (vs.take n) := by have := rowM_part h4 0 n (by have := tk.le; omega); simpa using this
  refine ⟨t, x, b, off, vs.take n, rfl, h1, ?_, vr.eq F _ h6, .inr ⟨a, by rw [hl]; exact z, by simp only [Rep]; exact ⟨_, rfl, h6⟩⟩, .inl ?_⟩
  · rw [hl, row_rowM]; exact rowM_sub q.sub h7
  · rw [hl]; exact fun i hi => rowM_get h7 i hi⟩
theorem TR.evenA (r : TR X F σ B s h) {b m : Nat} {rows : List (List Tr)} {t : Nat} {x : Bool} (bi : BoxIs B b (.arr m rows t x)) {i : Nat} {row : List Tr} (hr : rows[i]? = some row) : b % 2 = 0 ∧ b ∈ B.map Prod.fst := by
  obtain ⟨vs, _, o, _⟩ := Box.len_of (r.boxOf bi) hr
  exact ⟨o.even, List.mem_map.2 ⟨_, bi.mem, rfl⟩⟩
instance Lo.arr {x : Operand} {t : TypeId} {b m i j bt : Nat} {bx : Bool} {rows : List (List Tr)} {row : List Tr} {u : Tr} [e : TEval σ x (.v (elp b m i j))] [a : AggIs P t false] [bi : BoxIs B b (.arr m rows bt bx)] [ng : NthG rows i row] [n : NthG row j u] [vr : VR u] : Lo P σ B (.load t x) u [b] := ⟨fun {X F s h} q => by
  have h0 := e.is q.slot
  unfold elp at h0
  obtain ⟨us, h1, h2⟩ := arr_row (q.boxOf bi) ng.eq
  obtain ⟨v, h3, h4⟩ := h2.get n.eq
  have hj := (List.getElem?_eq_some_iff.1 h3).1
  have hm := row_len h1
  refine ⟨t, x, b, i * m + j, [v], rfl, h0, ?_, ?_, .inl ⟨a, v, rfl, h4⟩, .inr ⟨rfl, (q.evenA bi ng.eq).2, (q.evenA bi ng.eq).1⟩⟩
  · rw [List.length_singleton, row_part h1 j 1 (by omega), List.drop_eq_getElem_cons hj]
    rw [List.getElem?_eq_getElem hj] at h3
    simp [Option.some.inj h3]
  · intro w hw; simp at hw; subst hw; exact vr.eq F _ h4⟩
instance Lo.arr_agg {x : Operand} {t : TypeId} {b m i j n bt : Nat} {bx : Bool} {rows : List (List Tr)} {row r1 r2 : List Tr} [e : TEval σ x (.v (elp b m i j))] [a : AggIs P t true] [z : SizeIs P t n] [bi : BoxIs B b (.arr m rows bt bx)] [ng : NthG rows i row] [dr : DropT row j r1] [tk : TakeT r1 n r2] [vr : VRL r2] : Lo P σ B (.load t x) (.agg r2) [b] := ⟨fun {X F s h} q => by
  have h0 := e.is q.slot
  unfold elp at h0
  obtain ⟨us, h1, h2⟩ := arr_row (q.boxOf bi) ng.eq
  have hm := row_len h1
  have hl := h2.len
  have h3 := tk.le
  rw [← dr.eq, List.length_drop] at h3
  have h5 := dr.le
  have h6 : RepL F r2 ((us.drop j).take n) := by rw [← tk.eq, ← dr.eq]; exact (h2.drop j).take n
  have h7 : ((us.drop j).take n).length = n := by simp; omega
  refine ⟨t, x, b, i * m + j, _, rfl, h0, by rw [h7]; exact row_part h1 j n (by omega), vr.eq F _ h6, .inr ⟨a, by rw [h7]; exact z, by simp only [Rep]; exact ⟨_, rfl, h6⟩⟩, .inr ⟨rfl, (q.evenA bi ng.eq).2, (q.evenA bi ng.eq).1⟩⟩⟩
theorem cellsOf_at {i b : Nat} : ∀ {us : List Value} {off : Nat} {e : Nat × Nat × Nat × Value}, e ∈ cellsOf i b off us → ∃ j, j < us.length ∧ e.1 = i ∧ e.2.1 = b ∧ e.2.2.1 = off + j ∧ us[j]? = some e.2.2.2 := by
  intro us
  induction us with
  | nil => intro off e he; cases he
  | cons u us ih =>
    intro off e he
    simp only [cellsOf, List.mem_cons] at he
    rcases he with rfl | he
    · exact ⟨0, by simp, rfl, rfl, rfl, rfl⟩
    · obtain ⟨j, h1, h2, h3, h4, h5⟩ := ih he
      exact ⟨j + 1, by simp; omega, h2, h3, by rw [h4]; omega, by simpa using h5⟩
theorem held_more {i b off : Nat} {us : List Value} {bs : List Nat} (hh : HeldOk F B H h held) (hr : h.row b off us.length = some us) (hv : ∀ u ∈ us, veq u u = true) (hm : (∀ j, j < us.length → F b (off + j) = us[j]?) ∨ (bs = [b] ∧ b ∈ B.map Prod.fst ∧ b % 2 = 0)) : HeldOk F B (bs.map (fun b => (i, b)) ++ H) h (cellsOf i b off us ++ held) := by
  intro e he
  rcases List.mem_append.1 he with h1 | h1
  · obtain ⟨j, h2, h3, h4, h5, h6⟩ := cellsOf_at h1
    refine ⟨hv _ (List.mem_of_getElem? h6), ?_, ?_⟩
    · rw [h4, h5, row_cell hr j h2]; exact h6
    · rcases hm with hm | ⟨rfl, h7, h8⟩
      · exact .inl (by rw [h4, h5, hm j h2]; exact h6)
      · exact .inr ⟨by rw [h3, h4]; simp, by rw [h4]; exact h7, by rw [h4]; exact h8⟩
  · obtain ⟨h2, h3, h4⟩ := hh e h1
    refine ⟨h2, h3, ?_⟩
    rcases h4 with h4 | ⟨h4, h5⟩
    · exact .inl h4
    · exact .inr ⟨List.mem_append_right _ h4, h5⟩
theorem heldIn_cells {i b off : Nat} {us : List Value} (hr : h.row b off us.length = some us) (hv : ∀ u ∈ us, veq u u = true) : heldIn h (cellsOf i b off us) = true := by
  simp only [heldIn, List.all_eq_true]
  rintro ⟨i', b', o', v⟩ he
  obtain ⟨j, h2, h3, h4, h5, h6⟩ := cellsOf_at he
  simp only at h3 h4 h5 h6
  subst h3; subst h4; subst h5
  have hc := row_cell hr j h2
  rw [h6] at hc
  simp only [hc]
  exact hv _ (List.mem_of_getElem? h6)
theorem WD_loadG {K : SK} {i b off : Nat} {t : TypeId} {x : Operand} {us : List Value} {v : Value} {o : Oper} {snaps : List IHp} (ho : ops[i]? = some o) (hop : o.op = .load t x) (hw : iwanted ops s o = true) (e : EvalIs s x (.pointer (some (ad b off)))) (hr : h.row b off us.length = some us) (hv : ∀ u ∈ us, veq u u = true)
    (hc : (AggIs P t false ∧ us = [v]) ∨ (AggIs P t true ∧ SizeIs P t us.length ∧ v = .agg us.toArray)) (hs : snaps = [h]) (k : WD P E ops K plan (cellsOf i b off us ++ held) snaps (putS s o.dst v) h) : WD P E ops K (.take i :: plan) held snaps s h := by
  unfold WD at k ⊢
  obtain ⟨n, st', h5, h6⟩ := k
  refine ⟨n, st', ?_, h6⟩
  have he := ev_eq (E := E) (h := h) (x := x) (s := s)
  simp only [iplan, ho, Option.bind_some]
  rw [if_pos (show iwanted ops (E.st s h).s o = true from hw)]
  have hheld := heldIn_cells (i := i) hr hv
  simp only [Env.st] at he h5 ⊢
  subst hs
  rcases hc with ⟨ha, rfl⟩ | ⟨ha, hz, rfl⟩
  · have hcell : h.cell? b off = some v := by
      have := row_cell hr 0 (by simp)
      simpa using this
    have h7 : heldOf P h (St.eval { s := s, h := h, nt := E.nt, marks := E.marks, rd := E.rd }) i o = some (cellsOf i b off [v]) := by
      simp only [heldOf, hop, he, ha.eq, Option.bind_some, hcell, Option.map_some, cellsOf]
    have h8 : iheap P h (St.eval { s := s, h := h, nt := E.nt, marks := E.marks, rd := E.rd }) o = some (v, h) := by
      simp only [iheap, hop, he, iload, ha.eq, Option.bind_some, hcell, Option.map_some]
    rw [h7]
    simp only [Option.bind_some, List.all_cons, List.all_nil, Bool.and_true, hheld, if_true, h8]
    exact h5
  · have h7 : heldOf P h (St.eval { s := s, h := h, nt := E.nt, marks := E.marks, rd := E.rd }) i o = some (cellsOf i b off us) := by
      simp only [heldOf, hop, he, ha.eq, Option.bind_some, hz.eq, hr, Option.map_some]
    have h8 : iheap P h (St.eval { s := s, h := h, nt := E.nt, marks := E.marks, rd := E.rd }) o = some (.agg us.toArray, h) := by
      simp only [iheap, hop, he, iload, ha.eq, Option.bind_some, hz.eq, hr, Option.map_some]
    rw [h7]
    simp only [Option.bind_some, List.all_cons, List.all_nil, Bool.and_true, hheld, if_true, h8]
    exact h5
theorem PinOk.more {i : Nat} {bs : List Nat} {pins : Held} {snaps : List IHp} (x : PinOk H pins snaps) (hi : ∀ n, i ≠ 1000000 + n) : PinOk (bs.map (fun b => (i, b)) ++ H) pins snaps := fun b n hb j hj => by
  rcases List.mem_append.1 hb with h | h
  · obtain ⟨c, _, hc⟩ := List.mem_map.1 h
    simp only [Prod.mk.injEq] at hc
    exact absurd hc.1 (hi n)
  · exact x b n h j hj
theorem TD_loadG {i : Nat} {op : Op} {t : Tr} {bs : List Nat} {g : Option (Nat × Bool)} (ho : ops[i]? = some ⟨d, op, ty, pos, af, g⟩) (hlt : Nat.ble i 999999 = true) (hw : ∀ {X F s h}, TR X F σ B s h → iwanted ops s ⟨d, op, ty, pos, af, g⟩ = true) (p : Lo P σ B op t bs) (k : TD X P E ops K plan (bs.map (fun b => (i, b)) ++ H) true (putT σ d t) B) : TD X P E ops K (.take i :: plan) H true σ B := by
  unfold TD at *
  intro F s h held snaps pins r hh hp hpin
  obtain ⟨ty', x, b, off, us, h1, h2, h3, h4, h5, h6⟩ := p.eq r
  subst h1
  have hh' := held_more (i := i) (bs := bs) hh h3 h4 h6
  rw [← List.append_assoc] at hh'
  have hpin' : PinOk (bs.map (fun b => (i, b)) ++ H) pins snaps := hpin.more (by
    intro n hn
    simp only [Nat.ble_eq] at hlt
    omega)
  rcases h5 with ⟨ha, u, rfl, hu⟩ | ⟨ha, hz, hu⟩
  · exact WD_loadG (v := u) ho rfl (hw r) h2 h3 h4 (.inl ⟨ha, rfl⟩) (hp rfl) (k F _ h _ snaps pins (r.put hu) hh' hp hpin')
  · exact WD_loadG (v := .agg us.toArray) ho rfl (hw r) h2 h3 h4 (.inr ⟨ha, hz, rfl⟩) (hp rfl) (k F _ h _ snaps pins (r.put hu) hh' hp hpin')
theorem TD_load {i : Nat} {op : Op} {t : Tr} {bs : List Nat} (ho : ops[i]? = some ⟨d, op, ty, pos, af, none⟩) (hlt : Nat.ble i 999999 = true) [p : Lo P σ B op t bs] (k : TD X P E ops K plan (bs.map (fun b => (i, b)) ++ H) true (putT σ d t) B) : TD X P E ops K (.take i :: plan) H true σ B :=
  TD_loadG ho hlt (fun r => by simp [iwanted, Region.wanted]) p k
@[irreducible] def TDK (X : Cx) (P : Program) (E : Env) (ops : Array Oper) (K : TK) (plan : List PStep) (H : List (Nat × Nat)) : TK := fun σ B => TD X P E ops K plan H false σ B
theorem TDK_go (k : TD X P E ops K plan H false σ B) : TDK X P E ops K plan H σ B := by unfold TDK; exact k
@[irreducible] def FiltT (ops : Array Oper) (i : Nat) (H : List (Nat × Nat)) (C : List (Nat × Nat) → Prop) : Prop := C (H.filter fun e => Nat.ble 1000000 e.1 || quietAt ops i || !waitsL ops i e.1)
theorem FiltT_nil {i : Nat} {C : List (Nat × Nat) → Prop} (k : C []) : FiltT ops i [] C := by unfold FiltT; exact k
theorem FiltT_drop {i j b : Nat} {C : List (Nat × Nat) → Prop} (hk : (Nat.ble 1000000 j || quietAt ops i || !waitsL ops i j) = false) (k : FiltT ops i H C) : FiltT ops i ((j, b) :: H) C := by
  unfold FiltT at *; rw [List.filter_cons, if_neg (by simp only; rw [hk]; decide)]; exact k
theorem FiltT_keep {i j b : Nat} {C : List (Nat × Nat) → Prop} (hk : (Nat.ble 1000000 j || quietAt ops i || !waitsL ops i j) = true) (k : FiltT ops i H (fun r => C ((j, b) :: r))) : FiltT ops i ((j, b) :: H) C := by
  unfold FiltT at *; rw [List.filter_cons, if_pos (by simp only; exact hk)]; exact k
theorem TD_one {i : Nat} {op : Op} {g : Option (Nat × Bool)} (ho : ops[i]? = some ⟨d, op, ty, pos, af, g⟩) (k : FiltT ops i H (fun H' => TS X P E ops (TDK X P E ops K plan H') [⟨d, op, ty, pos, af, g⟩] H' σ B)) : TD X P E ops K (.one i :: plan) H ph σ B := by
  unfold TD
  unfold FiltT at k
  unfold TS at k
  intro F s h held snaps pins r hh hp hpin
  refine WD_one_of (held' := heldBut ops i held) ho (fun e he => he) (WS_mono ?_ (k F s h (heldBut ops i held ++ pins.filter fun e => Nat.ble 1000000 e.1) r ?_))
  · rintro s' h' ⟨F', σ', B', r', hh', hk⟩
    unfold TDK at hk
    unfold TD at hk
    unfold WDK
    have hh1 : HeldOk F' B' (H.filter fun e => Nat.ble 1000000 e.1 || quietAt ops i || !waitsL ops i e.1) h' (heldBut ops i held) := fun e he => hh' e (List.mem_append_left _ he)
    refine ⟨hh1.heldIn, hk F' s' h' _ _ _ r' hh' (by simp) fun b n hb j hj => ?_⟩
    obtain ⟨v, h1, h2⟩ := hpin b n (List.mem_filter.1 hb).1 j hj
    have h3 : (1000000 + n, b, j, v) ∈ pins.filter fun e => Nat.ble 1000000 e.1 := List.mem_filter.2 ⟨h1, by simp [Nat.ble_eq]⟩
    refine ⟨v, h3, fun hs hm => ?_⟩
    rcases List.mem_cons.1 hm with rfl | hm
    · exact (hh' _ (List.mem_append_right _ h3)).2.1
    · exact h2 hs hm
  · intro e he
    have he' : e ∈ held ++ pins ∧ (Nat.ble 1000000 e.1 || quietAt ops i || !waitsL ops i e.1) = true := by
      rcases List.mem_append.1 he with he | he
      · rw [waitsL_eq]
        unfold heldBut at he
        split at he
        · rename_i hq; exact ⟨List.mem_append_left _ he, by rw [hq]; simp⟩
        · have := List.mem_filter.1 he; exact ⟨List.mem_append_left _ this.1, by rw [this.2]; simp⟩
      · have := List.mem_filter.1 he
        exact ⟨List.mem_append_right _ this.1, by rw [this.2]; simp⟩
    obtain ⟨h1, h2, h3⟩ := hh e he'.1
    refine ⟨h1, h2, ?_⟩
    rcases h3 with h3 | ⟨h3, h4⟩
    · exact .inl h3
    · exact .inr ⟨List.mem_filter.2 ⟨h3, he'.2⟩, h4⟩
class PinIn (H : List (Nat × Nat)) (b n : Nat) : Prop where mem : (1000000 + n, b) ∈ H
class IsPin (i n : Nat) : Prop where eq : i = 1000000 + n
instance IsPin.of {n : Nat} : IsPin (1000000 + n) n := ⟨rfl⟩
instance (priority := 1000) PinIn.head {b n i : Nat} [p : IsPin i n] : PinIn ((i, b) :: H) b n := ⟨by rw [← p.eq]; exact List.mem_cons_self⟩
instance (priority := 900) PinIn.tail {p : Nat × Nat} {b n : Nat} [k : PinIn H b n] : PinIn (p :: H) b n := ⟨List.mem_cons_of_mem _ k.mem⟩
end Go.Ideal

-- IdealTk
set_option linter.unusedSimpArgs false
set_option linter.unusedVariables false
namespace Go.Ideal
open Go Go.RowKit
variable {P : Program} {X : Cx} {E : Env} {σ : Nat → Tr} {B B' : Boxes} {ops : Array Oper} {K : TK} {l : List Oper} {d : Option Tmp} {ty : TypeId} {pos : String} {af : Array Edge} {H : List (Nat × Nat)} {F : Mem} {s : Nat → Value} {h : IHp} {held : Held} {plan : List PStep} {ph : Bool}

/-! ### Boxes that are kept -/
class SubB (B' B : Boxes) : Prop where eq : B'.Sublist B
instance (priority := 1000) SubB.nil : SubB [] B := ⟨List.nil_sublist B⟩
instance (priority := 900) SubB.keep {p : Nat × Box} [i : SubB B' B] : SubB (p :: B') (p :: B) := ⟨i.eq.cons_cons p⟩
instance (priority := 800) SubB.skip {p : Nat × Box} [i : SubB B' B] : SubB B' (p :: B) := ⟨i.eq.cons p⟩

instance (priority := 950) SubB.same : SubB B B := ⟨List.Sublist.refl B⟩
theorem TR.perm (r : TR X F σ B s h) (p : B.Perm B') : TR X F σ B' s h :=
  ⟨r.ext, r.base, r.sub, r.own, fun q hq => r.box q (p.mem_iff.2 hq), fun q hq => r.sep q (p.mem_iff.2 hq), (p.map Prod.fst).nodup_iff.1 r.dis, r.gd, r.slot⟩
/-- B' is among B, in whatever order -/
class SubP (B B' : Boxes) : Prop where eq : ∃ C, B.Perm (B' ++ C)
instance (priority := 2000) SubP.nil : SubP B [] := ⟨B, List.Perm.refl B⟩
instance (priority := 1900) SubP.same : SubP B B := ⟨[], by simp⟩
instance (priority := 1000) SubP.cons {b : Nat} {x : Box} {B1 : Boxes} [d : BoxDel B b x B1] [k : SubP B1 B'] : SubP B ((b, x) :: B') := ⟨by
  obtain ⟨pre, post, h1, h2⟩ := d.eq
  obtain ⟨C, h3⟩ := k.eq
  refine ⟨C, ?_⟩
  rw [h1]
  refine List.perm_middle.trans ?_
  rw [← h2]
  exact h3.cons _⟩
instance (priority := 900) SubP.skip {p : Nat × Box} [k : SubP B B'] : SubP (p :: B) B' := ⟨by
  obtain ⟨C, h3⟩ := k.eq
  exact ⟨p :: C, (h3.cons p).trans List.perm_middle.symm⟩⟩
theorem SubP.last {k : Nat × Box} {L : Boxes} (h : SubP B (k :: L)) : SubP B (L ++ [k]) := ⟨by
  obtain ⟨C, h1⟩ := h.eq
  exact ⟨C, h1.trans ((List.perm_append_singleton k L).symm.append_right C)⟩⟩
theorem TR.keep (r : TR X F σ B s h) (k : SubP B B') : TR X F σ B' s h := by
  obtain ⟨C, h3⟩ := k.eq
  exact (r.perm h3).drop (List.sublist_append_left _ _)
theorem TV_keep {c : Code} {Q : IExit → TK} (B' : Boxes) [p : SubP B B'] (k : TV X P E c Q σ B') : TV X P E c Q σ B := by
  unfold TV at *; intro F s h r; exact k F s h (r.keep p)
/-! ### One step, found by the goal's form -/
class StepC (goal : Prop) (next : outParam Prop) : Prop where go : next → goal
instance {a b : Code} {Q : IExit → TK} : StepC (TV X P E (.seq a b) Q σ B) (TV X P E a (TseqK X P E b Q) σ B) := ⟨TV_seq⟩
instance {id : Nat} {b : Code} {Q : IExit → TK} : StepC (TV X P E (.block id b) Q σ B) (TV X P E b (TblockK id Q) σ B) := ⟨TV_block⟩
instance {Q : IExit → TK} : StepC (TV X P E .skip Q σ B) (Q .normal σ B) := ⟨TV_skip⟩
instance {Q : IExit → TK} {id : Nat} : StepC (TV X P E (.exit id) Q σ B) (Q (.exit id) σ B) := ⟨TV_exit⟩
instance {Q : IExit → TK} : StepC (TV X P E .ret Q σ B) (Q .ret σ B) := ⟨TV_ret⟩
instance {id : Nat} {l : List Oper} {Q : IExit → TK} : StepC (TV X P E (.region id l.toArray false) Q σ B) (TS X P E l.toArray (Q .normal) l [] σ B) := ⟨TV_region⟩
instance {b : Code} {Q : IExit → TK} : StepC (TseqK X P E b Q .normal σ B) (TV X P E b Q σ B) := ⟨TSQ_normal⟩
instance {b : Code} {Q : IExit → TK} {j : Nat} : StepC (TseqK X P E b Q (.exit j) σ B) (Q (.exit j) σ B) := ⟨TSQ_exit⟩
instance {b : Code} {Q : IExit → TK} : StepC (TseqK X P E b Q .ret σ B) (Q .ret σ B) := ⟨TSQ_ret⟩
instance {id : Nat} {Q : IExit → TK} : StepC (TblockK id Q .normal σ B) (Q .normal σ B) := ⟨TB_normal⟩
instance {id : Nat} {Q : IExit → TK} : StepC (TblockK id Q .ret σ B) (Q .ret σ B) := ⟨TB_ret⟩
instance (priority := 1100) {id : Nat} {Q : IExit → TK} : StepC (TblockK id Q (.exit id) σ B) (Q .normal σ B) := ⟨TB_exit⟩
instance (priority := 900) {id j : Nat} {Q : IExit → TK} [n : BeqIs j id false] : StepC (TblockK id Q (.exit j) σ B) (Q (.exit j) σ B) := ⟨TB_pass n.eq⟩
instance {I : TK} {K : IExit → TK} : StepC (TcutK I K .normal σ B) (I σ B) := ⟨TC_normal⟩
instance {I : TK} {K : IExit → TK} {j : Nat} : StepC (TcutK I K (.exit j) σ B) (K (.exit j) σ B) := ⟨TC_exit⟩
instance {I : TK} {K : IExit → TK} : StepC (TcutK I K .ret σ B) (K .ret σ B) := ⟨TC_ret⟩
instance : StepC (TS X P E ops K [] H σ B) (K σ B) := ⟨TS_nil⟩
instance (priority := 100) {op : Op} {t : Tr} [p : Pu P σ B op t] : StepC (TS X P E ops K (⟨d, op, ty, pos, af, none⟩ :: l) H σ B) (TS X P E ops K l H (putT σ d t) B) := ⟨TS_pu⟩
instance {t : TypeId} {z : Value} {ws : List Value} {wt : List Tr} [zi : ZeroIs P t z] [cs : CellsOf z ws] [vt : ValsT ws wt] : StepC (TS X P E ops K (⟨d, .alloc t, ty, pos, af, none⟩ :: l) H σ B) (∀ b, TS X P E ops K l H (putT σ d (.v (.pointer (some (ad b 0))))) ((b, .cells wt t true) :: B)) := ⟨TS_alloc⟩
instance {t : TypeId} {x : Operand} {u : Tr} {cs : List Tr} [e : TEval σ x u] [c : CellsT u cs] : StepC (TS X P E ops K (⟨d, .box t x, ty, pos, af, none⟩ :: l) H σ B) (∀ b, TS X P E ops K l H (putT σ d (.v (.pointer (some (ad b 0))))) ((b, .cells cs t true) :: B)) := ⟨TS_box⟩
instance {x y : Operand} {t : TypeId} {b off n : Nat} {u : Tr} {ws cs r' : List Tr} {bt : Nat} {bx : Bool} [e1 : TEval σ x (.v (.pointer (some (ad b off))))] [e2 : TEval σ y u] [z : SizeIs P t n] [c : CellsT u ws] [bi : BoxIs B b (.cells cs bt bx)] [ln : LenT ws n] [si : SetT cs off ws r'] [bp : BoxPut B b b (.cells r' bt bx) B'] [ap : Apart B b H] : StepC (TS X P E ops K (⟨d, .store t x y, ty, pos, af, none⟩ :: l) H σ B) (TS X P E ops K l H (putT σ d (.v undef)) B') := ⟨TS_store⟩
instance {x y : Operand} {t : TypeId} {b m i j n : Nat} {u : Tr} {ws row row' : List Tr} {rows rows' : List (List Tr)} {bt : Nat} {bx : Bool} [e1 : TEval σ x (.v (elp b m i j))] [e2 : TEval σ y u] [z : SizeIs P t n] [c : CellsT u ws] [bi : BoxIs B b (.arr m rows bt bx)] [ng : NthG rows i row] [ln : LenT ws n] [si : SetT row j ws row'] [sr : SetR rows i row' rows'] [bp : BoxPut B b b (.arr m rows' bt bx) B'] [ap : Apart B b H] : StepC (TS X P E ops K (⟨d, .store t x y, ty, pos, af, none⟩ :: l) H σ B) (TS X P E ops K l H (putT σ d (.v undef)) B') := ⟨TS_store_arr⟩
theorem buildSlice_side {m len : Nat} (h1 : Nat.beq m 0 = false) (h2 : Nat.ble (len * m) 16777216 = true) : (m != 0 && decide (len * m ≤ 2 ^ 24)) = true := by
  simp only [Nat.ble_eq] at h2
  have : m ≠ 0 := fun h => by subst h; simp at h1
  simp [this]; omega
instance {t e : TypeId} {len m : Nat} {ps : List (Nat × Operand)} {pt : List (Nat × Tr)} {ts : List Tr} {rows : List (List Tr)} {z : Value} {wz : List Value} [u : UnderIs P t (.slice e)] [zi : SizeIs P e m] [ze : ZeroIs P e z] [cz : CellsOf z wz] [lz : LenT wz m] [p : TParts σ ps pt] [en : EnumT 0 pt ts] [ro : RowsT m ts rows] [lt : LenT ts len] [s1 : BeqIs m 0 false] [s2 : LeIs (len * m) 16777216 true] : StepC (TS X P E ops K (⟨d, .buildSlice t len ps.toArray, ty, pos, af, none⟩ :: l) H σ B) (∀ b, TS X P E ops K l H (putT σ d (.v (.slice (some (ad b 0)) len len))) ((b, .arr m rows e true) :: B)) := ⟨TS_buildSlice (buildSlice_side s1.eq s2.eq)⟩
instance : StepC (TDK X P E ops K plan H σ B) (TD X P E ops K plan H false σ B) := ⟨TDK_go⟩
instance : StepC (TD X P E ops K [] H ph σ B) (K σ B) := ⟨TD_nil⟩

/-! ### Parts of slices -/
theorem islice_hi {t e m len cap : Nat} {a : Addr} {j : Nat} {k : IntKind} [u : UnderIs P t (.slice e)] [z : SizeIs P e m] (hs : a.spot = none) (hj : j ≤ cap) (h : IHp) : islice P h t (.slice (some a) len cap) none (some (.int k j)) none = some (.slice (some (ad a.block a.off)) j cap) := by
  have ha : (ad a.block a.off) = a := by cases a; simp_all
  simp only [islice, u.eq, spotted, hs, Option.isSome_none, Bool.false_eq_true, if_false, ibounds, ibound]
  rw [if_pos (by omega)]
  simp [z.eq, hj]
/-! ### Bounds that lie in what is handed in -/
/-- a slice of nothing reads as no rows -/
class Cv (t t' : Tr) : Prop where eq : ∀ F v, Rep F t v → Rep F t' v
class CvL (ts ts' : List Tr) : Prop where eq : ∀ F vs, RepL F ts vs → RepL F ts' vs
instance (priority := 2000) Cv.refl {t : Tr} : Cv t t := ⟨fun _ _ h => h⟩
instance Cv.nil {m : Nat} : Cv (.v (.slice none 0 0)) (.sl m []) := ⟨fun F v h => by
  simp only [Rep] at h
  subst h
  rw [Rep]
  exact ⟨none, 0, 0, rfl, rfl, Nat.le_refl _, by decide, (fun d hd => by cases hd), rfl⟩⟩
instance (priority := 2000) CvL.nil : CvL [] [] := ⟨fun _ _ h => h⟩
instance CvL.cons {t t' : Tr} {ts ts' : List Tr} [a : Cv t t'] [b : CvL ts ts'] : CvL (t :: ts) (t' :: ts') := ⟨fun F vs h => by
  simp only [RepL] at h
  obtain ⟨v, ws, rfl, h1, h2⟩ := h
  exact RepL.cons (a.eq F v h1) (b.eq F ws h2)⟩
instance Cv.agg {ts ts' : List Tr} [a : CvL ts ts'] : Cv (.agg ts) (.agg ts') := ⟨fun F v h => by
  simp only [Rep] at *
  obtain ⟨vs, rfl, h1⟩ := h
  exact ⟨vs, rfl, a.eq F vs h1⟩⟩
theorem RetIs.conv {rs : List ResultVar} {ts ts' : List Tr} (r : RetIs P σ B rs ts) (c : CvL ts ts') : RetIs P σ B rs ts' := ⟨fun X F s h E q G o => by
  obtain ⟨vs, h1, h2⟩ := r.eq X F s h E q G o
  exact ⟨vs, h1, c.eq G vs h2⟩⟩
theorem retT_1 {a : ResultVar} {Φ : Tr → Prop} {e : IExit} {ts : List Tr} [r : RetIs P σ B [a] ts] (he : e = .normal ∨ e = .ret) (k : Φ (tret ts)) : retT P [a] Φ e σ B := retT_go he k
end Go.Ideal

-- IdealTl
set_option linter.unusedSimpArgs false
set_option linter.unusedVariables false
namespace Go.Ideal
open Go Go.RowKit
variable {P : Program} {X : Cx} {E : Env} {σ : Nat → Tr} {B B' : Boxes} {ops : Array Oper} {K : TK} {l : List Oper} {d : Option Tmp} {ty : TypeId} {pos : String} {af : Array Edge} {H : List (Nat × Nat)} {F : Mem} {s : Nat → Value} {h : IHp} {held : Held}

/-! ### Loops over slices.Backward -/
/-- what is no cells may change -/
theorem TR.other {b : Nat} {o o' : IObj} (r : TR X F σ B s h) (a : AtIs h b o) (hn : ∀ c e x, o ≠ .cells c e x) (hb : X.h.fresh ≤ b) (hg : ∀ g ∈ X.G, g.1 / 2 ≠ b / 2) : TR X F σ B s (h.putObj b o') := by
  have hcell : ∀ b' off v, h.cell? b' off = some v → (h.putObj b o').cell? b' off = some v := by
    intro b' off v hc
    unfold IHp.cell? at *
    simp only [IHp.putObj]
    split
    · rename_i hbo; rw [if_pos hbo] at hc; exact hc
    · rename_i hbo
      rw [if_neg hbo] at hc
      have hne : b' / 2 ≠ b / 2 := by
        intro he
        rw [he, a.eq] at hc
        cases o with
        | cells c e x => exact hn _ _ _ rfl
        | _ => cases hc
      rw [List.getElem?_set_ne (fun h => hne h.symm)]; exact hc
  have hobj : ∀ b' vs t x, ObjIs h b' vs t x → ObjIs (h.putObj b o') b' vs t x := by
    intro b' vs t x oi
    have : NeB b' b := ⟨fun he => by
      have h1 := oi.eq
      rw [he, a.eq] at h1
      exact hn _ _ _ (Option.some.inj h1)⟩
    infer_instance
  refine ⟨r.ext.putObj hb, r.base, fun b' off v hf => hcell _ _ _ (r.sub _ _ _ hf), r.own, fun p hp => ?_, r.sep, r.dis, fun g hgm => ⟨⟨(r.gd g hgm).1.even, by
    simp only [IHp.putObj]
    rw [List.getElem?_set_ne (fun h => hg g hgm h.symm)]; exact (r.gd g hgm).1.eq⟩, (r.gd g hgm).2⟩, r.slot⟩
  have h1 := r.box p hp
  cases hx : p.2 with
  | cells cs t y => rw [hx] at h1; obtain ⟨vs, h2, h3⟩ := h1; exact ⟨vs, h2, hobj _ _ _ _ h3⟩
  | arr m rows t y =>
    rw [hx] at h1
    simp only [BoxRep] at h1 ⊢
    refine ⟨h1.1, ?_⟩
    rcases h1.2 with h2 | ⟨vs, h2, h3⟩
    · exact .inl h2
    · exact .inr ⟨vs, h2, hobj _ _ _ _ h3⟩
theorem TR.start {args : List Tr} {vs : List Value} {F0 : Mem} (h1 : Sub F0 h.cell?) (h2 : RepL F0 args vs) : TR ⟨h, F0, []⟩ F0 (argT args) [] (argS vs) h :=
  ⟨Ext.refl h, Sub.refl F0, h1, fun b off v hf => .inl hf, by simp, by simp, by simp, by simp, fun i => by
    by_cases hi : i < args.length
    · obtain ⟨v, h3, h4⟩ := h2.get (List.getElem?_eq_getElem hi)
      have h5 : argS vs i = v := by
        have hi2 := (List.getElem?_eq_some_iff.1 h3).1
        simp only [argS, Array.getD]
        rw [dif_pos (by simpa using hi2)]
        rw [List.getElem?_eq_getElem hi2] at h3
        simpa using Option.some.inj h3
      have h6 : argT args i = args[i] := by simp [argT, List.getD, hi]
      rw [h5, h6]; exact h4
    · have h5 : argS vs i = undef := by
        have := h2.len
        simp only [argS, Array.getD]
        rw [dif_neg (by simp; omega)]
      have h6 : argT args i = .v undef := by simp [argT, List.getD, hi]
      rw [h5, h6]; exact rep_v _⟩
end Go.Ideal

-- IdealTm
set_option linter.unusedSimpArgs false
set_option linter.unusedVariables false
namespace Go.Ideal
open Go Go.RowKit
variable {P : Program} {X : Cx} {E : Env} {σ : Nat → Tr} {B B' : Boxes} {ops : Array Oper} {K : TK} {l : List Oper} {d : Option Tmp} {ty : TypeId} {pos : String} {af : Array Edge} {H : List (Nat × Nat)} {F : Mem} {s : Nat → Value} {h : IHp} {held : Held}

/-! ### Room: cap, parts of own slices, append of a made slice, append that stays -/
instance Pu.cap_nil {x : Operand} {t te : TypeId} [e : TEval σ x (.v (.slice none 0 0))] [u : UnderIs P t (.slice te)] : Pu P σ B (.call ⟨.builtin .cap, #[x], #[t]⟩) (.v (.int .i64 0)) := ⟨fun {X F s h} q {E' _ _ _ _ _ _ _} kk => by
  have := e.is q.slot
  refine WS_pure rfl rfl ?_ (kk _ (rep_v _))
  have h1 := ev_eq (E := E') (h := h) (x := x) (s := s)
  simp [ipure, u.eq, h1]⟩
theorem Pu.slice_own {x y : Operand} {t e m j b len cap : Nat} {k : IntKind} {i : Int} [e1 : TEval σ x (.v (.slice (some (ad b 0)) len cap))] [e2 : TEval σ y (.v (.int k i))] [a : AsNat i j] [u : UnderIs P t (.slice e)] [z : SizeIs P e m] (hj : j ≤ cap) : Pu P σ B (.slice t x none (some y) none) (.v (.slice (some (ad b 0)) j cap)) := ⟨fun {X F s h} q {E' _ _ _ _ _ _ _} kk => by
  have h1 := e1.is q.slot
  have h9 := e2.is q.slot
  rw [a.eq] at h9
  have g1 := ev_eq (E := E') (h := h) (x := x) (s := s)
  have g2 := ev_eq (E := E') (h := h) (x := y) (s := s)
  refine WS_pure rfl rfl ?_ (kk _ (rep_v _))
  simp only [ipure, Option.map_none, Option.map_some, g1, g2]
  exact islice_hi rfl hj h⟩
/-! ### Functions that answer own memory -/
@[irreducible] def FnO (P : Program) (f : FuncId) (args : List Tr) (Φ : Tr → Boxes → Prop) : Prop := ∀ (F0 : Mem) (h : IHp) (vs : List Value), Sub F0 h.cell? → RepL F0 args vs → EvX P f vs.toArray h (fun v h' => ∃ F r B, TR ⟨h, F0, []⟩ F (fun _ => r) B (fun _ => v) h' ∧ (∀ p ∈ B, p.1 % 2 = 0) ∧ Φ r B)
/-- results as they are, own memory and all -/
def RetTO (P : Program) (σ : Nat → Tr) (B : Boxes) (rs : List ResultVar) (ts : List Tr) : Prop := ∀ X F s h E, TR X F σ B s h → ∃ vs, iresults P (Env.st E s h) rs = some vs ∧ RepL F ts vs
class RetIsO (P : Program) (σ : Nat → Tr) (B : Boxes) (rs : List ResultVar) (ts : outParam (List Tr)) : Prop where eq : RetTO P σ B rs ts
instance RetIsO.nil : RetIsO P σ B [] [] := ⟨fun X F s h E r => ⟨[], rfl, RepL.nil⟩⟩
instance RetIsO.tmp {i : Nat} {t : Tr} {rs : List ResultVar} {ts : List Tr} [g : TGet σ i t] [k : RetIsO P σ B rs ts] : RetIsO P σ B (.tmp i :: rs) (t :: ts) := ⟨fun X F s h E r => by
  obtain ⟨vs, h1, h2⟩ := k.eq X F s h E r
  refine ⟨s i :: vs, by simp only [Env.st] at h1 ⊢; simp only [iresults, h1, Option.map_some], RepL.cons ?_ h2⟩
  rw [← g.eq]; exact r.slot i⟩
instance RetIsO.cell_agg {i ct b off n bt : Nat} {bx : Bool} {cs r1 r2 : List Tr} {rs : List ResultVar} {ts : List Tr} [g : TGet σ i (.v (.pointer (some (ad b off))))] [a : AggIs P ct true] [z : SizeIs P ct n] [bi : BoxIs B b (.cells cs bt bx)] [dr : DropT cs off r1] [tk : TakeT r1 n r2] [k : RetIsO P σ B rs ts] : RetIsO P σ B (.cell i ct :: rs) (.agg r2 :: ts) := ⟨fun X F s h E r => by
  obtain ⟨vs, h1, h2⟩ := k.eq X F s h E r
  have h3 := (g.is r).eq
  obtain ⟨us, h4, h5⟩ := r.boxOf bi
  obtain ⟨ws, h6, h7⟩ := h4.row h5 dr tk
  refine ⟨.agg ws.toArray :: vs, ?_, RepL.cons ?_ h2⟩
  · simp only [Env.st] at h1 ⊢; simp only [iresults, h1, Option.map_some, h3, iload, a.eq, Option.bind_some, z.eq, h6.eq]
  · simp only [Rep]; exact ⟨ws, rfl, h7⟩⟩
instance RetIsO.cell {i ct b off bt : Nat} {bx : Bool} {cs : List Tr} {t : Tr} {rs : List ResultVar} {ts : List Tr} [g : TGet σ i (.v (.pointer (some (ad b off))))] [a : AggIs P ct false] [bi : BoxIs B b (.cells cs bt bx)] [ng : NthG cs off t] [k : RetIsO P σ B rs ts] : RetIsO P σ B (.cell i ct :: rs) (t :: ts) := ⟨fun X F s h E r => by
  obtain ⟨vs, h1, h2⟩ := k.eq X F s h E r
  have h3 := (g.is r).eq
  obtain ⟨us, h4, h5⟩ := r.boxOf bi
  obtain ⟨v, h6, h7⟩ := h4.get ng.eq
  refine ⟨v :: vs, ?_, RepL.cons h7 h2⟩
  simp only [Env.st] at h1 ⊢
  simp only [iresults, h1, Option.map_some, h3, iload, a.eq, Option.bind_some, h5.cell, h6]⟩
/-- no ghost -/
def BoxReal : Box → Prop
  | .cells _ _ _ => True
  | .arr _ rows _ x => rows = [] → x = true
theorem BoxRep.real {b : Nat} {x : Box} (r : BoxRep F h b x) (hr : BoxReal x) : b % 2 = 0 := by
  cases x with
  | cells cs t y => obtain ⟨vs, _, o⟩ := r; exact o.even
  | arr m rows t y =>
    simp only [BoxRep] at r
    rcases r.2 with ⟨h1, h2, _⟩ | ⟨vs, _, o⟩
    · have := hr h1; rw [h2] at this; cases this
    · exact o.even
end Go.Ideal

-- IdealTn
set_option linter.unusedSimpArgs false
set_option linter.unusedVariables false
namespace Go.Ideal
open Go Go.RowKit
variable {P : Program} {X : Cx} {E : Env} {σ : Nat → Tr} {B B' : Boxes} {ops : Array Oper} {K : TK} {l : List Oper} {d : Option Tmp} {ty : TypeId} {pos : String} {af : Array Edge} {H : List (Nat × Nat)} {F : Mem} {s : Nat → Value} {h : IHp} {held : Held}

/-! ### Parts of own slices from a place on -/
theorem SrcT.mark {m c : Nat} {a : Addr} : SrcT B (.v (.slice (some a) 0 c)) m [] := ⟨fun X F σ s h r v hv => by
  simp only [Rep] at hv
  subst hv
  exact ⟨some a, 0, c, [], rfl, rfl, by simp [IHp.rowAt, IHp.row], by simpa using RepL.nil, by simp⟩⟩
theorem SrcT.part {m b j n c bt : Nat} {bx : Bool} {rows : List (List Tr)} [bi : BoxIs B b (.arr m rows bt bx)] [rx : RealX rows bx] (hn : j + n ≤ rows.length) : SrcT B (.v (.slice (some (ad b (j * m))) n c)) m ((rows.drop j).take n) := ⟨fun X F σ s h r v hv => by
  simp only [Rep] at hv
  subst hv
  have hb := r.boxOf bi
  obtain ⟨vs, g1, g2⟩ := rx.even hb
  simp only [BoxRep] at hb
  have hA : ∀ row ∈ rows.take j, row.length = m := fun row hr => hb.1 row (List.mem_of_mem_take hr)
  have hM : ∀ row ∈ (rows.drop j).take n, row.length = m := fun row hr => hb.1 row (List.mem_of_mem_drop (List.mem_of_mem_take hr))
  have hvl : vs.length = rows.length * m := by rw [g1.len, flat_len hb.1]
  have hle : j * m + n * m ≤ vs.length := by rw [hvl, ← Nat.add_mul]; exact Nat.mul_le_mul_right m hn
  have hsplit : rows.flatten = (rows.take j).flatten ++ (((rows.drop j).take n).flatten ++ (rows.drop (j + n)).flatten) := by
    rw [← List.flatten_append, ← List.flatten_append]
    congr 1
    conv => lhs; rw [← List.take_append_drop j rows, ← List.take_append_drop n (rows.drop j), List.drop_drop]
  have e3 : (rows.take j).flatten.length = j * m := by rw [flat_len hA, List.length_take, Nat.min_eq_left (by omega)]
  have e4 : ((rows.drop j).take n).flatten.length = n * m := by rw [flat_len hM, List.length_take, List.length_drop, Nat.min_eq_left (by omega)]
  refine ⟨some (ad b (j * m)), n, c, (vs.drop (j * m)).take (n * m), rfl, by simp; omega, ?_, ?_, hM⟩
  · simp only [IHp.rowAt]
    exact row_obj g2 (j * m) hle
  · have h5 : ((rows.drop j).take n).flatten = (rows.flatten.drop (j * m)).take (n * m) := by
      rw [hsplit, ← e3, List.drop_left, ← e4, List.take_left]
    rw [h5]
    exact (g1.drop _).take _⟩
end Go.Ideal

-- IdealTo
set_option linter.unusedSimpArgs false
set_option linter.unusedVariables false
namespace Go.Ideal
open Go Go.RowKit
variable {P : Program} {X : Cx} {E : Env} {σ : Nat → Tr} {B B' : Boxes} {ops : Array Oper} {K : TK} {l : List Oper} {d : Option Tmp} {ty : TypeId} {pos : String} {af : Array Edge} {H : List (Nat × Nat)} {F : Mem} {s : Nat → Value} {h : IHp} {held : Held}
/-! ### A place in an own slice that has room behind it -/
end Go.Ideal

-- IdealTp
set_option linter.unusedSimpArgs false
set_option linter.unusedVariables false
namespace Go.Ideal
open Go Go.RowKit
variable {P : Program} {X : Cx} {E : Env} {σ : Nat → Tr} {B B' : Boxes} {ops : Array Oper} {K : TK} {l : List Oper} {d : Option Tmp} {ty : TypeId} {pos : String} {af : Array Edge} {H : List (Nat × Nat)} {F : Mem} {s : Nat → Value} {h : IHp} {held : Held}
/-! ### Functions that change memory that they are handed -/
end Go.Ideal

-- IdealTq
set_option linter.unusedSimpArgs false
set_option linter.unusedVariables false
namespace Go.Ideal
open Go Go.RowKit
variable {P : Program} {X : Cx} {E : Env} {σ : Nat → Tr} {B B' : Boxes} {ops : Array Oper} {K : TK} {l : List Oper} {d : Option Tmp} {ty : TypeId} {pos : String} {af : Array Edge} {H : List (Nat × Nat)} {F : Mem} {s : Nat → Value} {h : IHp} {held : Held}
/-! ### Pointers that are not nil -/
instance Pu.nilCheck_v {x : Operand} {b off : Nat} [e : TEval σ x (.v (.pointer (some (ad b off))))] : Pu P σ B (.nilCheck x) (.v (.pointer (some (ad b off)))) := ⟨fun {X F s h} q {E' _ _ _ _ _ _ _} kk => by
  have h1 := e.is q.slot
  have g1 := ev_eq (E := E') (h := h) (x := x) (s := s)
  refine WS_pure rfl rfl ?_ (kk _ (rep_v _))
  simp only [ipure, g1]⟩
instance Pu.nilCheck_pf {x : Operand} {cs : List Tr} [e : TEval σ x (.pf cs)] : Pu P σ B (.nilCheck x) (.pf cs) := ⟨fun {X F s h} q {E' _ _ _ _ _ _ _} kk => by
  have h1 := evalIs_self (s := s) (x := x) (h := h)
  have h2 := e.eq F s q.slot h 0 [] false
  have h3 := h2
  simp only [Rep] at h2
  obtain ⟨b, off, vs, h4, h5, h6⟩ := h2
  rw [h4] at h1 h3
  have g1 := ev_eq (E := E') (h := h) (x := x) (s := s)
  refine WS_pure rfl rfl ?_ (kk _ h3)
  simp only [ipure, g1]⟩
end Go.Ideal

-- IdealTr
set_option linter.unusedSimpArgs false
set_option linter.unusedVariables false
namespace Go.Ideal
open Go Go.RowKit
variable {P : Program} {X : Cx} {E : Env} {σ : Nat → Tr} {B B' : Boxes} {ops : Array Oper} {K : TK} {l : List Oper} {d : Option Tmp} {ty : TypeId} {pos : String} {af : Array Edge} {H : List (Nat × Nat)} {F : Mem} {s : Nat → Value} {h : IHp} {held : Held}
/-! ### == of structs of numbers -/
end Go.Ideal

-- IdealTs
set_option linter.unusedSimpArgs false
set_option linter.unusedVariables false
namespace Go.Ideal
open Go
section
variable {P : Program} {E : ICall} {σ : Nat → Tr} {B : Boxes}
/-! ### A slice from its start on -/
end
end Go.Ideal

-- IdealTu
set_option linter.unusedSimpArgs false
set_option linter.unusedVariables false
namespace Go.Ideal
open Go Go.RowKit
variable {P : Program} {X : Cx} {E : Env} {σ : Nat → Tr} {B B' : Boxes} {ops : Array Oper} {K : TK} {l : List Oper} {d : Option Tmp} {ty : TypeId} {pos : String} {af : Array Edge} {H : List (Nat × Nat)} {F : Mem} {s : Nat → Value} {h : IHp} {held : Held}
/-! ### Own answers: frozen, or taken while what is handed in stays one's own -/
def FlatB : Box → Prop
  | .cells cs _ _ => FlatL cs
  | .arr _ rows _ _ => FlatL rows.flatten
theorem FlatL.app {a b : List Tr} (x : FlatL a) (y : FlatL b) : FlatL (a ++ b) := ⟨fun F G vs hv => by
  obtain ⟨p, q, rfl, h1, h2⟩ := hv.split
  exact (x.eq F G _ h1).append (y.eq F G _ h2)⟩
theorem FlatL.rows : ∀ {rows : List (List Tr)}, (∀ row ∈ rows, FlatL row) → FlatL rows.flatten := by
  intro rows
  induction rows with
  | nil => intro _; exact FlatL.nil
  | cons r rows ih => intro h; exact (h r (List.mem_cons_self ..)).app (ih fun row hr => h row (List.mem_cons_of_mem _ hr))
theorem BoxRep.flat {G : Mem} {b : Nat} {x : Box} (r : BoxRep F h b x) (fl : FlatB x) : BoxRep G h b x := by
  cases x with
  | cells cs t y =>
    obtain ⟨vs, h1, h2⟩ := r
    exact ⟨vs, FlatL.eq (self := fl) F G vs h1, h2⟩
  | arr m rows t y =>
    simp only [BoxRep] at r ⊢
    refine ⟨r.1, ?_⟩
    rcases r.2 with h1 | ⟨vs, h1, h2⟩
    · exact .inl h1
    · exact .inr ⟨vs, FlatL.eq (self := fl) F G vs h1, h2⟩
/-- a call whose answer is own memory with nothing but plain values in it; what is handed in may be own memory and stays so -/
theorem TS_callOE {f : FuncId} {ps : List Operand} {ts ts' : List Tr} {at_ : Array TypeId} {Φ : Tr → Boxes → Prop} [c : CallIs P f] [e : TEvals σ ps ts] [fz : FrzL B ts ts'] (hc : FnO P f ts' Φ) (fl : ∀ r B1, Φ r B1 → FlatT r ∧ ∀ p ∈ B1, FlatB p.2) (k : ∀ r B1, Φ r B1 → TS X P E ops K l H (putT σ d r) (B1 ++ B)) :
    TS X P E ops K (⟨d, .call ⟨.value (.func f), ps.toArray, at_⟩, ty, pos, af, none⟩ :: l) H σ B := by
  unfold TS at *
  unfold FnO at hc
  intro F s h held r hh
  have he : EvalsIs s ps (ps.map (St.eval ⟨s, h, 0, [], false⟩)) := ⟨fun h' nt mk rd => by
    apply List.map_congr_left
    intro x _
    exact (evalIs_self (s := s) (x := x) (h := h)).eq h' nt mk rd⟩
  refine WS_call (hc (thaw F B h) h _ r.thawSub (fz.eq F _ h r.thawOk _ (e.eq F s r.slot h 0 [] false))) ?_
  rintro v h' ⟨F1, r1, B1, q, ev, a5⟩
  obtain ⟨fl1, fl2⟩ := fl r1 B1 a5
  have g := (r.grow q.ext (Sub.refl F) (fun b off v hf => cell_ext q.ext (r.sub b off v hf)) (fun b off v hf => .inl hf)).put (d := d) (fl1.eq F1 F v (q.slot 0))
  refine k r1 B1 a5 F _ h' held ⟨g.ext, g.base, g.sub, g.own, fun p hp => ?_, fun p hp he => ?_, ?_, g.gd, g.slot⟩ (hh.keys (fun b off v hc => cell_ext q.ext hc) (Sub.refl F) (fun b hb => by rw [List.map_append]; exact List.mem_append_right _ hb))
  · rcases List.mem_append.1 hp with h1 | h1
    · exact (q.box p h1).flat (fl2 p h1)
    · exact g.box p h1
  · rcases List.mem_append.1 hp with h1 | h1
    · have := q.sep p h1 he
      refine ⟨Nat.le_trans r.ext.fresh this.1, fun off => ?_⟩
      cases hF : F p.1 off with
      | none => rfl
      | some v =>
        have h9 := q.base _ _ _ (r.thawOk.sub _ _ _ hF)
        rw [this.2 off] at h9
        cases h9
    · exact g.sep p h1 he
  · rw [List.map_append, List.nodup_append]
    refine ⟨q.dis, r.dis, ?_⟩
    intro a ha b hb hab
    subst hab
    obtain ⟨p, hp, rfl⟩ := List.mem_map.1 ha
    obtain ⟨p2, hp2, he⟩ := List.mem_map.1 hb
    have h1 := ev p hp
    have h2 := (q.sep p hp h1).1
    have h3 := (r.box p2 hp2).lt (by rw [he]; exact h1)
    simp only at h2
    omega
end Go.Ideal

-- IdealTv
set_option linter.unusedSimpArgs false
set_option linter.unusedVariables false
namespace Go.Ideal
open Go Go.RowKit
variable {P : Program} {X : Cx} {E : Env} {σ : Nat → Tr} {B B' : Boxes} {ops : Array Oper} {K : TK} {l : List Oper} {d : Option Tmp} {ty : TypeId} {pos : String} {af : Array Edge} {H : List (Nat × Nat)} {F : Mem} {s : Nat → Value} {h : IHp} {held : Held}
/-! ### Own slices with room behind, handed in; answers that may grow, borrowed -/
class PreR (rows : List (List Tr)) (n c : Nat) (r : outParam (List (List Tr))) : Prop where
  eq : rows.take n = r
  le : n ≤ rows.length
  cap : n ≤ c
instance (priority := 50) Frz.pre {b m n c : Nat} {rows r : List (List Tr)} {bt : Nat} {bx : Bool} [bi : BoxIs B b (.arr m rows bt bx)] [p : PreR rows n c r] [sm : Sm63 c] [rx : RealX rows bx] : Frz B (.v (.slice (some (ad b 0)) n c)) (.sl m r) := ⟨fun F G h o v hv => by
  have hN : rows.length < 2 ^ 63 ∨ True := .inr trivial
  simp only [Rep] at hv
  subst hv
  have hb := o.box _ bi.mem
  have hb' := hb
  simp only [BoxRep] at hb
  obtain ⟨vs, h1, h2⟩ := rx.even hb'
  simp only [Rep]
  have hl : r.length = n := by rw [← p.eq, List.length_take, Nat.min_eq_left p.le]
  refine ⟨_, n, c, rfl, hl, p.cap, sm.lt, fun d hd => ?_, ?_⟩
  · cases hd; exact .inl rfl
  · have h3 : RepR G b m rows 0 := frz_rows (fr := FrzR.same) o hb.1 h1 fun i hi => by
      rw [rowM_congr (F := h.cell?) (o.cell _ bi.mem h2.even), ← row_rowM]
      exact row_obj h2 i hi
    rw [← p.eq]
    exact h3.take n⟩
theorem FnO.mono {f : FuncId} {args : List Tr} {Φ Ψ : Tr → Boxes → Prop} (x : FnO P f args Φ) (k : ∀ r B, Φ r B → Ψ r B) : FnO P f args Ψ := by
  unfold FnO at *
  intro F0 h vs h1 h2
  exact (x F0 h vs h1 h2).mono fun v h' ⟨F, r, B, a1, a2, a3⟩ => ⟨F, r, B, a1, a2, k r B a3⟩
theorem TS_callGE {f : FuncId} {ps : List Operand} {ts ts' : List Tr} {at_ : Array TypeId} {n m e : Nat} {rows : List (List Tr)} (g : Value → Tr) [c : CallIs P f] [ev : TEvals σ ps ts] [fz : FrzL B ts ts'] (hc : FnO P f ts' (fun r B => ∃ b, r = g (gsv b n) ∧ B = (if n = 0 then [] else [(b, .arr m rows e false)]))) (h0 : n = 0 → rows = []) (fg : ∀ v, FlatT (g v)) (fr : FlatL rows.flatten) (k : ∀ b, TS X P E ops K l H (putT σ d (g (gsv b n))) ((b, .arr m rows e false) :: B)) :
    TS X P E ops K (⟨d, .call ⟨.value (.func f), ps.toArray, at_⟩, ty, pos, af, none⟩ :: l) H σ B := by
  refine TS_callOE hc ?_ ?_
  · rintro _ B1 ⟨b, rfl, rfl⟩
    refine ⟨fg _, fun p hp => ?_⟩
    split at hp
    · cases hp
    · rw [List.mem_singleton.1 hp]; exact fr
  · rintro _ B1 ⟨b, rfl, rfl⟩
    by_cases hn : n = 0
    · rw [if_pos hn, List.nil_append]
      refine TS_ghost m e fun b' => ?_
      have h1 : gsv b n = gsv b' n := by simp [gsv, hn]
      rw [h1, ← h0 hn]
      exact k b'
    · rw [if_neg hn, List.singleton_append]
      exact k b
theorem TR.freezeL {C : Boxes} (r : TR X F σ (C ++ B) s h) : ThawOk F (thaw F C h) C h ∧ TR X (thaw F C h) σ B s h := by
  have r1 : TR X F σ C s h := r.drop (List.sublist_append_left _ _)
  have r2 : TR X F σ B s h := r.drop (List.sublist_append_right _ _)
  have hd := r.dis
  rw [List.map_append, List.nodup_append] at hd
  obtain ⟨_, _, d3⟩ := hd
  have hs := r1.thawOk.sub
  refine ⟨r1.thawOk, r.ext, r.base.trans hs, r1.thawSub, fun b' off v hf => ?_, fun p hp => (r2.box p hp).sub hs, fun p hp he => ⟨(r2.sep p hp he).1, fun off => ?_⟩, r2.dis, r.gd, fun i => (r.slot i).sub hs⟩
  · rcases r1.thawOwn b' off v hf with h1 | h1
    · exact r.own _ _ _ h1
    · exact .inr h1
  · unfold thaw
    rw [if_neg]
    · exact (r2.sep p hp he).2 off
    · rintro ⟨_, h1⟩
      exact d3 p.1 h1 p.1 (List.mem_map.2 ⟨p, hp, rfl⟩) rfl
/-- a call whose answer is new memory that is read alone from now on; what is handed in may be own memory and stays so -/
theorem TS_callN {f : FuncId} {ps : List Operand} {ts ts' : List Tr} {at_ : Array TypeId} {Φ : Tr → Boxes → Prop} {Ψ : Tr → Prop} [c : CallIs P f] [e : TEvals σ ps ts] [fz : FrzL B ts ts'] (hc : FnO P f ts' Φ) (fl : ∀ r B1, Φ r B1 → FlatT r ∧ ∀ p ∈ B1, FlatB p.2)
    (fr : ∀ r B1, Φ r B1 → ∃ t, (∀ F G h, ThawOk F G B1 h → ∀ v, Rep F r v → Rep G t v) ∧ Ψ t) (k : ∀ t, Ψ t → TS X P E ops K l H (putT σ d t) B) :
    TS X P E ops K (⟨d, .call ⟨.value (.func f), ps.toArray, at_⟩, ty, pos, af, none⟩ :: l) H σ B := by
  unfold TS at *
  unfold FnO at hc
  intro F s h held r hh
  have he : EvalsIs s ps (ps.map (St.eval ⟨s, h, 0, [], false⟩)) := ⟨fun h' nt mk rd => by
    apply List.map_congr_left
    intro x _
    exact (evalIs_self (s := s) (x := x) (h := h)).eq h' nt mk rd⟩
  refine WS_call (hc (thaw F B h) h _ r.thawSub (fz.eq F _ h r.thawOk _ (e.eq F s r.slot h 0 [] false))) ?_
  rintro v h' ⟨F1, r1, B1, q, ev, a5⟩
  obtain ⟨fl1, fl2⟩ := fl r1 B1 a5
  obtain ⟨t, fr1, fr2⟩ := fr r1 B1 a5
  have g := (r.grow q.ext (Sub.refl F) (fun b off v hf => cell_ext q.ext (r.sub b off v hf)) (fun b off v hf => .inl hf))
  have g2 : TR X F σ (B1 ++ B) s h' := ⟨g.ext, g.base, g.sub, g.own, fun p hp => by
    rcases List.mem_append.1 hp with h1 | h1
    · exact (q.box p h1).flat (fl2 p h1)
    · exact g.box p h1, fun p hp he => by
    rcases List.mem_append.1 hp with h1 | h1
    · have := q.sep p h1 he
      refine ⟨Nat.le_trans r.ext.fresh this.1, fun off => ?_⟩
      cases hF : F p.1 off with
      | none => rfl
      | some v =>
        have h9 := q.base _ _ _ (r.thawOk.sub _ _ _ hF)
        rw [this.2 off] at h9
        cases h9
    · exact g.sep p h1 he, by
    rw [List.map_append, List.nodup_append]
    refine ⟨q.dis, r.dis, ?_⟩
    intro a ha b hb hab
    subst hab
    obtain ⟨p, hp, rfl⟩ := List.mem_map.1 ha
    obtain ⟨p2, hp2, he⟩ := List.mem_map.1 hb
    have h1 := ev p hp
    have h2 := (q.sep p hp h1).1
    have h3 := (r.box p2 hp2).lt (by rw [he]; exact h1)
    simp only at h2
    omega, g.gd, g.slot⟩
  obtain ⟨o, g3⟩ := g2.freezeL
  exact k t fr2 _ _ h' held (g3.put (fr1 F _ h' o v (fl1.eq F1 F v (q.slot 0)))) (hh.keys (fun b off v hc => cell_ext q.ext hc) o.sub (fun b hb => hb))
/-! ### A cut that nothing passes but the way on: the goals ahead of it stay small -/
@[irreducible] def TnormK (I : TK) : IExit → TK := fun e σ B => e = .normal ∧ I σ B
theorem TN_normal {I : TK} (k : I σ B) : TnormK I .normal σ B := by unfold TnormK; exact ⟨rfl, k⟩
instance {I : TK} : StepC (TnormK I .normal σ B) (I σ B) := ⟨TN_normal⟩
theorem TV_cutN {a b : Code} {Q : IExit → TK} (I : TK) (k1 : TV X P E a (TnormK I) σ B) (k2 : ∀ σ' B', I σ' B' → TV X P E b Q σ' B') : TV X P E a (TseqK X P E b Q) σ B := by
  refine TV_mono ?_ k1
  intro e σ' B' hk
  unfold TnormK at hk
  obtain ⟨rfl, hi⟩ := hk
  exact TSQ_normal (k2 σ' B' hi)
end Go.Ideal

-- IdealTw
set_option linter.unusedSimpArgs false
set_option linter.unusedVariables false
namespace Go.Ideal
open Go Go.RowKit
variable {P : Program} {X : Cx} {E : Env} {σ : Nat → Tr} {B B' : Boxes} {ops : Array Oper} {K : TK} {l : List Oper} {d : Option Tmp} {ty : TypeId} {pos : String} {af : Array Edge} {H : List (Nat × Nat)} {F : Mem} {s : Nat → Value} {h : IHp} {held : Held}
/-! ### Pointers and nil -/
instance Pu.ptr_nil {x : Operand} {t te yt : TypeId} {a : Option Addr} [e : TEval σ x (.v (.pointer a))] [u : UnderIs P t (.pointer te)] : Pu P σ B (.binOp .eql t x (.const (.pointer none)) yt) (.v (.bool a.isNone)) := ⟨fun {X F s h} q {E' _ _ _ _ _ _ _} kk => by
  have h1 := e.is q.slot
  have g1 := ev_eq (E := E') (h := h) (x := x) (s := s)
  have g2 : (E'.st s h).eval (.const (.pointer none)) = .pointer none := rfl
  refine WS_pure rfl rfl ?_ (kk _ (rep_v _))
  simp only [ipure, isNilConst, if_true, inil, u.eq, g1, g2]⟩
instance Pu.pf_nil {x : Operand} {t te yt : TypeId} {cs : List Tr} [e : TEval σ x (.pf cs)] [u : UnderIs P t (.pointer te)] : Pu P σ B (.binOp .eql t x (.const (.pointer none)) yt) (.v (.bool false)) := ⟨fun {X F s h} q {E' _ _ _ _ _ _ _} kk => by
  have h1 := evalIs_self (s := s) (x := x) (h := h)
  have h2 := e.eq F s q.slot h 0 [] false
  simp only [Rep] at h2
  obtain ⟨b, off, vs, h4, h5, h6⟩ := h2
  rw [h4] at h1
  have g1 := ev_eq (E := E') (h := h) (x := x) (s := s)
  have g2 : (E'.st s h).eval (.const (.pointer none)) = .pointer none := rfl
  refine WS_pure rfl rfl ?_ (kk _ (rep_v _))
  simp only [ipure, isNilConst, if_true, inil, u.eq, g1, g2]
  rfl⟩
end Go.Ideal

-- IdealTx
set_option linter.unusedSimpArgs false
set_option linter.unusedVariables false
namespace Go.Ideal
open Go Go.RowKit
variable {P : Program} {X : Cx} {E : Env} {σ : Nat → Tr} {B B' : Boxes} {F : Mem} {s : Nat → Value} {h : IHp}
/-! ### From a walk over values to one over trees, midway -/
def LiftQ (X : Cx) (Q' : IExit → TK) (Q : IExit → SK) : Prop := ∀ e F σ B s h, TR X F σ B s h → Q' e σ B → Q e s h
theorem V_of_TV {c : Code} {Q' : IExit → TK} {Q : IExit → SK} (r : TR X F σ B s h) (l : LiftQ X Q' Q) (k : TV X P E c Q' σ B) : V P E c Q s h := by
  unfold TV at k
  exact V_mono (fun e s h ⟨F', σ', B', r', hk⟩ => l e F' σ' B' s h r' hk) (k F s h r)
theorem LiftQ.seq {b : Code} {Q' : IExit → TK} {Q : IExit → SK} (l : LiftQ X Q' Q) : LiftQ X (TseqK X P E b Q') (VseqK P E b Q) := by
  intro e F σ B s h r hk
  unfold TseqK at hk
  unfold VseqK
  cases e with
  | normal => exact V_of_TV r l hk
  | exit j => exact l _ _ _ _ _ _ r hk
  | ret => exact l _ _ _ _ _ _ r hk
theorem LiftQ.ret {rs : List ResultVar} {Φ : Tr → Prop} {Ψ : Value → IHp → Prop} (hΨ : ∀ F r v h', Rep F r v → Φ r → Ψ v h') : LiftQ X (retT P rs Φ) (retK P E rs Ψ) := by
  intro e F' σ' B' s' h' r' hk
  unfold retT at hk
  obtain ⟨he, ts, h3, h4⟩ := hk
  obtain ⟨ws, h5, h6⟩ := h3 _ F' s' h' E r' (thaw F' B' h') r'.thawOk
  unfold retK
  refine ⟨he, ws, h5, hΨ (thaw F' B' h') (tret ts) _ _ ?_ h4⟩
  have hl := h6.len
  match ts, ws, h6, hl with
  | [], [], _, _ => simp only [tret, iret, Rep]; exact ⟨[], rfl, RepL.nil⟩
  | [t], [v], h6, _ =>
    simp only [RepL] at h6
    obtain ⟨v', ws', h7, h8, _⟩ := h6
    simp only [List.cons.injEq] at h7
    obtain ⟨rfl, rfl⟩ := h7
    exact h8
  | t :: t2 :: ts, v :: v2 :: vs, h6, _ => simp only [tret, iret, Rep]; exact ⟨_, rfl, h6⟩
/-- one object of one's own, all slots as they are -/
theorem TR.enter {h0 : IHp} {b t : Nat} {x : Bool} {cs : List Tr} {vs : List Value} (e : Ext h0 h) (hb : h0.fresh ≤ b) (o : ObjIs h b vs t x) (hr : RepL h0.cell? cs vs) : TR ⟨h0, h0.cell?, []⟩ h0.cell? (fun i => .v (s i)) [(b, .cells cs t x)] s h := by
  refine ⟨e, Sub.refl _, fun b off v hf => cell_ext e hf, fun b off v hf => .inl hf, fun p hp => ?_, fun p hp he => ?_, by simp, by simp, fun i => rep_v _⟩
  · rw [List.mem_singleton.1 hp]; exact ⟨vs, hr, o⟩
  · rw [List.mem_singleton.1 hp]
    refine ⟨hb, fun off => ?_⟩
    have he : b % 2 = 0 := o.even
    cases hc : h0.cell? b off with
    | none => rfl
    | some v =>
      simp only [IHp.cell?] at hc
      rw [if_neg (by omega)] at hc
      have : h0.new[b / 2]? = none := List.getElem?_eq_none (by unfold IHp.fresh at hb; omega)
      rw [this] at hc
      cases hc
theorem tget_v {i : Nat} {v : Value} (h : s i = v) : TGet (fun i => .v (s i)) i (.v v) := ⟨by simp only [h]⟩
end Go.Ideal

-- IdealBr
set_option linter.unusedSimpArgs false
set_option linter.unusedVariables false
namespace Go.Ideal
open Go Go.RowKit

/-! ### What a reading of the arguments says of the ideal heap -/
def up (v : Value) : Value := (upv v).getD undef
def IRd (P : Program) (h : IHp) : Nat → TypeId → List Value → Prop
  | 0, _, _ => False
  | n + 1, t, cs =>
    match P.underlying t with
    | some .bool => ∃ b, cs = [.bool b]
    | some (.int k) => ∃ i, cs = [.int k i] ∧ (Lit.int k i).wf = true
    | some .string => ∃ s, cs = [.string s] ∧ s.size ≤ maxLen
    | some (.slice e) => cs = [.slice none 0 0] ∨ ∃ a l c, cs = [.slice (some a) l c] ∧ l ≤ c ∧ c ≤ maxLen ∧ (a.spot = none ∨ c = 0) ∧ ∀ i, i < c → ∃ row, h.row a.block (a.off + i * P.cellsOf e) (P.cellsOf e) = some row ∧ IRd P h n e row
    | some (.struct fs) => cs.length = P.cellsOf t ∧ ∀ (i : Nat) (f : Field), fs[i]? = some f → IRd P h n f.type ((cs.drop f.offset).take (P.cellsOf f.type))
    | _ => False
/-- the fields lie one behind the other -/
def tiles (P : Program) : List Field → Nat → Nat → Bool
  | [], at_, all => at_ == all
  | f :: fs, at_, all => f.offset == at_ && tiles P fs (at_ + P.cellsOf f.type) all
/-- plain data -/
def plainT (P : Program) : Nat → TypeId → Bool
  | 0, _ => false
  | n + 1, t =>
    match P.underlying t with
    | some .bool | some (.int _) | some .string => true
    | some (.slice e) => P.cellsOf e != 0 && plainT P n e
    | some (.struct fs) => tiles P fs.toList 0 (P.cellsOf t) && fs.toList.all fun f => plainT P n f.type
    | _ => false
theorem tiles_mem {P : Program} {cs : List Value} : ∀ (fs : List Field) (at_ : Nat), tiles P fs at_ cs.length = true → ∀ v ∈ cs.drop at_, ∃ f ∈ fs, v ∈ (cs.drop f.offset).take (P.cellsOf f.type) := by
  intro fs
  induction fs with
  | nil =>
    intro at_ h v hv
    simp only [tiles, beq_iff_eq] at h
    rw [List.drop_of_length_le (by omega)] at hv
    cases hv
  | cons f fs ih =>
    intro at_ h v hv
    simp only [tiles, Bool.and_eq_true, beq_iff_eq] at h
    obtain ⟨h1, h2⟩ := h
    rw [← List.take_append_drop (P.cellsOf f.type) (cs.drop at_)] at hv
    rcases List.mem_append.1 hv with h3 | h3
    · exact ⟨f, List.mem_cons_self, by rw [h1]; exact h3⟩
    · rw [List.drop_drop] at h3
      obtain ⟨g, h4, h5⟩ := ih _ h2 v h3
      exact ⟨g, List.mem_cons_of_mem _ h4, h5⟩
theorem up_of {v u : Value} (h : upv v = some u) : up v = u := by simp [up, h]
theorem mapM_cells {w : World} {a : Addr} (hs : a.spot = none) : ∀ (n k : Nat) (row : List Value), ((List.range' k n).mapM fun i => w.cell? (a.add i)) = some row → (∀ v ∈ row, (upv v).isSome = true) → (heapOf w).row (2 * a.block + 1) (a.off + k) n = some (row.map up) := by
  intro n
  induction n with
  | zero => intro k row h _; simp at h; subst h; rfl
  | succ n ih =>
    intro k row h hup
    rw [List.range'_succ, List.mapM_cons] at h
    cases h1 : w.cell? (a.add k) with
    | none => simp [h1] at h
    | some v =>
      cases h2 : (List.range' (k + 1) n).mapM fun i => w.cell? (a.add i) with
      | none => simp [h1, h2] at h
      | some vs =>
        simp [h1, h2] at h
        subst h
        have h3 := ih (k + 1) vs h2 (fun v hv => hup v (List.mem_cons_of_mem _ hv))
        obtain ⟨u, hu⟩ := Option.isSome_iff_exists.1 (hup v List.mem_cons_self)
        have hadd : a.add k = ⟨a.block, a.off + k, none⟩ := by
          unfold Addr.add
          split
          · rename_i h0; subst h0; cases a; simp at hs; subst hs; rfl
          · rfl
        rw [hadd] at h1
        have hb : a.block < w.heap.size := by
          simp only [World.cell?] at h1
          split at h1
          · rename_i hx; exact (Array.getElem?_eq_some_iff.1 hx).1
          · cases h1
        have h4 : (heapOf w).cell? (2 * a.block + 1) (a.off + k) = some u := by
          simp only [IHp.cell?, heapOf]
          rw [if_pos (by omega), show (2 * a.block + 1) / 2 = a.block by omega, if_pos hb, h1]
          exact hu
        simp only [IHp.row, h4, Option.bind_some, show a.off + k + 1 = a.off + (k + 1) by omega, h3, List.map_cons, up_of hu]
theorem irow {w : World} {a : Addr} {n : Nat} {row : List Value} (hs : a.spot = none) (h : w.cells? 0 a n = some row) (hup : ∀ v ∈ row, (upv v).isSome = true) : (heapOf w).row (2 * a.block + 1) a.off n = some (row.map up) := by
  simp only [World.cells?, Nat.zero_le, if_true] at h
  rw [List.range_eq_range'] at h
  simpa using mapM_cells hs n 0 row h hup
section
variable {H : Type} {enc : TypeId × Value → H} {P : Program} {w : World} {held : Bool}
theorem bridge : ∀ (N : Nat) (t : TypeId) (fuel : Nat) (cs : List Value) (x : DataW H × List MemPlace), plainT P N t = true → DataW.trod enc P w 0 (fun _ => true) held fuel t cs = some x → (∀ v ∈ cs, (upv v).isSome = true) ∧ IRd P (heapOf w) N t (cs.map up) := by
  intro N
  induction N with
  | zero => intro t fuel cs x h; simp [plainT] at h
  | succ N ih =>
    intro t fuel cs x hp h
    rw [plainT] at hp
    rw [IRd]
    split at hp
    · rename_i hu
      obtain ⟨b, rfl, _⟩ := DataW.trod_bool hu h
      exact ⟨by simp [upv], b, by simp [up, upv]⟩
    · rename_i k hu
      obtain ⟨i, rfl, _, hw⟩ := DataW.trod_int hu h
      exact ⟨by simp [upv], i, by simp [up, upv], hw⟩
    · rename_i hu
      obtain ⟨s, rfl, _, hw⟩ := DataW.trod_string hu h
      exact ⟨by simp [upv], s, by simp [up, upv], hw⟩
    · rename_i e hu
      simp only [Bool.and_eq_true, bne_iff_ne, ne_eq] at hp
      obtain ⟨hn, hpe⟩ := hp
      rcases DataW.trod_slice hu h with ⟨rfl, _⟩ | ⟨a, l, c, elems, rest, m, rfl, rfl, _, _, hlc, hcm, hel, he, hr, _⟩
      · exact ⟨by simp [upv], .inl (by simp [up, upv])⟩
      · obtain ⟨hrl, hr⟩ := hr rfl
        have hat : ∀ i, i < c → ∃ row y, w.cells? 0 (a.add (i * P.cellsOf e)) (P.cellsOf e) = some row ∧ DataW.trod enc P w 0 (fun _ => true) held m e row = some y := by
          intro i hi
          by_cases hil : i < l
          · have h1 := he i hil
            rw [List.getElem?_eq_getElem (by omega)] at h1
            simp only [Option.bind_eq_some_iff] at h1
            obtain ⟨row, h2, h3⟩ := h1
            exact ⟨row, _, h2, h3⟩
          · have h1 := hr (i - l) (by omega)
            rw [List.getElem?_eq_getElem (by omega), show l + (i - l) = i by omega] at h1
            simp only [Option.bind_eq_some_iff] at h1
            obtain ⟨row, h2, h3⟩ := h1
            exact ⟨row, _, h2, h3⟩
        by_cases hs : a.spot = none
        · have hup : upv (.slice (some a) l c) = some (.slice (some { block := 2 * a.block + 1, off := a.off }) l c) := by simp [upv, hs]
          refine ⟨by simp [hup], .inr ⟨{ block := 2 * a.block + 1, off := a.off }, l, c, by simp [up_of hup], hlc, hcm, .inl rfl, fun i hi => ?_⟩⟩
          obtain ⟨row, y, h1, h2⟩ := hat i hi
          obtain ⟨h3, h4⟩ := ih e m row y hpe h2
          refine ⟨row.map up, ?_, h4⟩
          have hsp : (a.add (i * P.cellsOf e)).spot = none := by unfold Addr.add; split <;> simp [hs]
          have h5 := irow hsp h1 h3
          have hblk : (a.add (i * P.cellsOf e)).block = a.block := by unfold Addr.add; split <;> rfl
          have hoff : (a.add (i * P.cellsOf e)).off = a.off + i * P.cellsOf e := by unfold Addr.add; split <;> simp_all
          rw [hblk, hoff] at h5
          exact h5
        · have hc0 : c = 0 := by
            apply Decidable.byContradiction
            intro hc
            obtain ⟨row, y, h1, _⟩ := hat 0 (by omega)
            have ha0 : a.add (0 * P.cellsOf e) = a := by simp [Addr.add]
            rw [ha0] at h1
            simp only [World.cells?, Nat.zero_le, if_true] at h1
            obtain ⟨m', hm'⟩ : ∃ m', P.cellsOf e = m' + 1 := ⟨P.cellsOf e - 1, by omega⟩
            rw [hm', List.range_succ_eq_map, List.mapM_cons] at h1
            have : w.cell? (a.add 0) = none := by
              simp only [World.cell?, Addr.add, if_true]
              split
              · rw [if_pos]; cases hsp : a.spot with
                | none => exact absurd hsp hs
                | some _ => rfl
              · rfl
            rw [this] at h1
            simp at h1
          have hl0 : l = 0 := by omega
          subst hc0; subst hl0
          have hup : upv (.slice (some a) 0 0) = some (.slice (some a) 0 0) := by simp [upv, hs]
          exact ⟨by simp [hup], .inr ⟨a, 0, 0, by simp [up_of hup], Nat.le_refl _, Nat.zero_le _, .inr rfl, fun i hi => absurd hi (Nat.not_lt_zero i)⟩⟩
    · rename_i fs hu
      simp only [Bool.and_eq_true, List.all_eq_true] at hp
      obtain ⟨htile, hall⟩ := hp
      obtain ⟨xs, m, rfl, _, hlen, hxl, hf⟩ := DataW.trod_struct hu h
      have hfield : ∀ (i : Nat) (f : Field), fs[i]? = some f → (∀ v ∈ (cs.drop f.offset).take (P.cellsOf f.type), (upv v).isSome = true) ∧ IRd P (heapOf w) N f.type (((cs.drop f.offset).take (P.cellsOf f.type)).map up) := by
        intro i f hfi
        have h1 := hf i f hfi
        have hi : i < xs.length := by rw [hxl]; exact (Array.getElem?_eq_some_iff.1 hfi).1
        rw [List.getElem?_eq_getElem hi] at h1
        exact ih _ _ _ _ (hall f (by rw [Array.mem_toList_iff]; exact Array.mem_of_getElem? hfi)) h1
      refine ⟨fun v hv => ?_, by simpa using hlen, fun i f hfi => ?_⟩
      · rw [← hlen] at htile
        obtain ⟨f, h1, h2⟩ := tiles_mem fs.toList 0 htile v (by simpa using hv)
        obtain ⟨i, hi⟩ := Array.mem_iff_getElem?.1 (Array.mem_toList_iff.1 h1)
        exact (hfield i f hi).1 v h2
      · have := (hfield i f hfi).2
        simpa [List.map_take, List.map_drop] using this
    · cases hp
/-- an argument -/
def upA : Value → Value
  | .agg cs => .agg (cs.toList.map up).toArray
  | v => up v
theorem RA_up {ρ : RM} {cs : Array Value} (h : ∀ v ∈ cs.toList, (upv v).isSome = true) : RA ρ (cs.toList.map up).toArray cs := by
  refine ⟨by simp, fun i hi => ?_⟩
  have hi' : i < cs.size := by simpa using hi
  obtain ⟨u, hu⟩ := Option.isSome_iff_exists.1 (h cs[i] (by simp))
  have h1 : (cs.toList.map up).toArray[i] = u := by simp [up_of hu]
  rw [h1]
  have h2 : cs.getD i undef = cs[i] := by simp [Array.getD, hi']
  rw [h2]
  exact upv_R hu
theorem bridge_struct {N base : Nat} {t : TypeId} {fs : Array Field} {v : Value} {d : DataW H} {p : List MemPlace} (hu : P.underlying t = some (.struct fs)) (hp : plainT P N t = true) (hv : Value.okWide P w .any base t v) (h : DataW.Trod enc P w 0 (fun _ => true) held t v d p) :
    R RM0 (upA v) v ∧ ∃ cs : List Value, upA v = .agg cs.toArray ∧ IRd P (heapOf w) N t cs := by
  simp only [Value.okWide, hu] at hv
  obtain ⟨cs, rfl, _, _⟩ := hv
  obtain ⟨fuel, h⟩ := h
  obtain ⟨h1, h2⟩ := bridge N t fuel _ _ hp h
  exact ⟨by rw [upA, R_agg]; exact ⟨cs, rfl, RA_up h1⟩, _, rfl, h2⟩
end
end Go.Ideal

-- IdealTy
set_option linter.unusedSimpArgs false
set_option linter.unusedVariables false
namespace Go.Ideal
open Go Go.RowKit
/-! ### Slices of structs among the arguments, as trees -/
theorem rep_rows {F : Mem} {b m : Nat} : ∀ {rows : List (List Tr)} {off : Nat}, (∀ (i : Nat) (row : List Tr), rows[i]? = some row → ∃ vs, rowM F b (off + i * m) m = some vs ∧ RepL F row vs) → RepR F b m rows off := by
  intro rows
  induction rows with
  | nil => intro off _; simp [RepR]
  | cons r rows ih =>
    intro off h
    simp only [RepR]
    refine ⟨by simpa using h 0 r rfl, ih fun i row hr => ?_⟩
    have := h (i + 1) row (by simpa using hr)
    rw [show off + (i + 1) * m = off + m + i * m by rw [Nat.add_mul]; omega] at this
    exact this
theorem slice_tree {α : Type} {P : Program} {h : IHp} {n m : Nat} {t e : TypeId} {v : Value} (D : α → List Tr) (W : α → Prop) (hu : P.underlying t = some (.slice e)) (cc : P.cellsOf e = m) (key : ∀ row, IRd P h n e row → ∃ a, RepL h.cell? (D a) row ∧ W a) (hd : IRd P h (n + 1) t [v]) : ∃ xs : List α, Rep h.cell? (.sl m (xs.map D)) v ∧ ∀ a ∈ xs, W a := by
  rw [IRd, hu] at hd
  rcases hd with h1 | ⟨a, l, c, h1, h2, h3, h5, h4⟩
  · cases h1
    refine ⟨[], ?_, fun p hp => by cases hp⟩
    rw [Rep]
    exact ⟨none, 0, 0, rfl, rfl, Nat.le_refl _, by decide, (fun d hd => by cases hd), rfl⟩
  · cases h1
    have key2 : ∀ i, i < c → ∃ x row, h.row a.block (a.off + i * m) m = some row ∧ RepL h.cell? (D x) row ∧ W x := by
      intro i hi
      obtain ⟨row, g1, g2⟩ := h4 i hi
      rw [cc] at g1
      obtain ⟨x, r, w⟩ := key row g2
      exact ⟨x, row, g1, r, w⟩
    by_cases hl : l = 0
    · subst hl
      refine ⟨[], ?_, fun p hp => by cases hp⟩
      rw [Rep]
      exact ⟨some a, 0, c, rfl, rfl, Nat.zero_le _, by unfold maxLen at h3; omega, (fun d hd => by cases hd; exact h5), by simp only [List.map_nil, RepR]⟩
    obtain ⟨x0, _⟩ := key2 0 (by omega)
    have hex : ∃ f : Nat → α, ∀ i, i < l → ∃ row, h.row a.block (a.off + i * m) m = some row ∧ RepL h.cell? (D (f i)) row ∧ W (f i) :=
      ⟨fun i => if hi : i < c then Classical.choose (key2 i hi) else x0, fun i hi => by
        have hic : i < c := by omega
        simp only [hic, dif_pos]
        exact Classical.choose_spec (key2 i hic)⟩
    obtain ⟨f, hf⟩ := hex
    refine ⟨(List.range l).map f, ?_, fun p hp => ?_⟩
    · rw [Rep]
      refine ⟨some a, l, c, rfl, by simp, h2, by unfold maxLen at h3; omega, fun d hd => by cases hd; exact h5, ?_⟩
      simp only
      refine rep_rows fun i row hr => ?_
      simp only [List.getElem?_map, Option.map_eq_some_iff] at hr
      obtain ⟨o, ⟨k, hk, rfl⟩, rfl⟩ := hr
      obtain ⟨hk1, rfl⟩ := List.getElem?_eq_some_iff.1 hk
      simp only [List.length_range] at hk1
      simp only [List.getElem_range]
      obtain ⟨row, r1, r2, _⟩ := hf i hk1
      exact ⟨row, by rw [← row_rowM]; exact r1, r2⟩
    · obtain ⟨i, hi, rfl⟩ := List.mem_map.1 hp
      obtain ⟨_, _, _, w⟩ := hf i (List.mem_range.1 hi)
      exact w
end Go.Ideal

-- IdealTz
set_option linter.unusedSimpArgs false
set_option linter.unusedVariables false
namespace Go.Ideal
open Go Go.RowKit
def SzD (P : Program) (h : IHp) : Nat → TypeId → List Value → Prop
  | 0, _, _ => True
  | n + 1, t, cs =>
    match P.underlying t with
    | some (.slice e) => ∀ a l c, cs = [.slice a l c] → l * P.bytesOf e ≤ reachBytes ∧ ∀ b, a = some b → ∀ i, i < l → ∀ row, h.row b.block (b.off + i * P.cellsOf e) (P.cellsOf e) = some row → SzD P h n e row
    | some (.struct fs) => ∀ (i : Nat) (f : Field), fs[i]? = some f → SzD P h n f.type ((cs.drop f.offset).take (P.cellsOf f.type))
    | _ => True
section
variable {H : Type} {enc : TypeId × Value → H} {P : Program} {w : World} {held : Bool}
theorem weightsAll_mem {e : TypeId} {d : DataW H} : ∀ {ds : List (DataW H)}, d ∈ ds → ∀ n ∈ d.weights P e, n ∈ DataW.weightsAll P e ds
  | [], h, _, _ => by cases h
  | d0 :: ds, h, n, hn => by
    simp only [DataW.weightsAll, List.mem_append]
    rcases List.mem_cons.1 h with rfl | h
    · exact .inl hn
    · exact .inr (weightsAll_mem h n hn)
theorem bridgeS : ∀ (N : Nat) (t : TypeId) (fuel : Nat) (cs : List Value) (x : DataW H × List MemPlace), plainT P N t = true → DataW.trod enc P w 0 (fun _ => true) held fuel t cs = some x → (∀ n ∈ x.1.weights P t, n ≤ reachBytes) → SzD P (heapOf w) N t (cs.map up) := by
  intro N
  induction N with
  | zero => intro t fuel cs x h; simp [plainT] at h
  | succ N ih =>
    intro t fuel cs x hp h hw
    have hp0 := hp
    have h0 := h
    rw [plainT] at hp
    rw [SzD]
    split at hp
    · rename_i hu; rw [hu]; trivial
    · rename_i k hu; rw [hu]; trivial
    · rename_i hu; rw [hu]; trivial
    · rename_i e hu
      rw [hu]
      simp only
      simp only [Bool.and_eq_true, bne_iff_ne, ne_eq] at hp
      obtain ⟨hn, hpe⟩ := hp
      rcases DataW.trod_slice hu h with ⟨rfl, _⟩ | ⟨a, l, c, elems, rest, m, rfl, rfl, ex, _, hlc, hcm, hel, he, hr, _⟩
      · intro a l c e1
        have hup : up (.slice none 0 0) = .slice none 0 0 := by simp [up, upv]
        simp only [List.map_cons, List.map_nil, hup, List.cons.injEq, Value.slice.injEq, and_true] at e1
        obtain ⟨rfl, rfl, rfl⟩ := e1
        exact ⟨by rw [Nat.zero_mul]; exact Nat.zero_le _, fun b hb => by cases hb⟩
      · have hw1 : (elems.length + rest.length) * P.bytesOf e ≤ reachBytes := hw _ (by
          rw [ex]; simp [DataW.weights, hu])
        have hl1 : l * P.bytesOf e ≤ reachBytes := Nat.le_trans (Nat.mul_le_mul_right _ (by omega)) hw1
        intro a1 l1 c1 e1
        by_cases hs : a.spot = none
        · have hup : upv (.slice (some a) l c) = some (.slice (some { block := 2 * a.block + 1, off := a.off }) l c) := by simp [upv, hs]
          simp only [List.map_cons, List.map_nil, up_of hup, List.cons.injEq, Value.slice.injEq, and_true] at e1
          obtain ⟨rfl, rfl, rfl⟩ := e1
          refine ⟨hl1, fun b hb i hi row hrow => ?_⟩
          cases hb
          have h1 := he i hi
          rw [List.getElem?_eq_getElem (by omega)] at h1
          simp only [Option.bind_eq_some_iff] at h1
          obtain ⟨row0, h2, h3⟩ := h1
          obtain ⟨h4, _⟩ := bridge N e m row0 _ hpe h3
          have hsp : (a.add (i * P.cellsOf e)).spot = none := by unfold Addr.add; split <;> simp [hs]
          have h5 := irow hsp h2 h4
          have hblk : (a.add (i * P.cellsOf e)).block = a.block := by unfold Addr.add; split <;> rfl
          have hoff : (a.add (i * P.cellsOf e)).off = a.off + i * P.cellsOf e := by unfold Addr.add; split <;> simp_all
          rw [hblk, hoff] at h5
          have h6 : row = row0.map up := by
            have := hrow.symm.trans h5
            exact Option.some.inj this
          rw [h6]
          refine ih e m row0 _ hpe h3 fun n hn => hw n ?_
          rw [ex]
          simp only [DataW.weights, hu, List.mem_cons, List.mem_append]
          exact .inr (.inl (weightsAll_mem (List.mem_map.2 ⟨_, List.getElem_mem _, rfl⟩) n hn))
        · have hl0 : l = 0 := by
            apply Decidable.byContradiction
            intro hl
            have h1 := he 0 (by omega)
            rw [List.getElem?_eq_getElem (by omega)] at h1
            simp only [Option.bind_eq_some_iff] at h1
            obtain ⟨row0, h1, _⟩ := h1
            have ha0 : a.add (0 * P.cellsOf e) = a := by simp [Addr.add]
            rw [ha0] at h1
            simp only [World.cells?, Nat.zero_le, if_true] at h1
            obtain ⟨m', hm'⟩ : ∃ m', P.cellsOf e = m' + 1 := ⟨P.cellsOf e - 1, by omega⟩
            rw [hm', List.range_succ_eq_map, List.mapM_cons] at h1
            have : w.cell? (a.add 0) = none := by
              simp only [World.cell?, Addr.add, if_true]
              split
              · rw [if_pos]; cases hsp : a.spot with
                | none => exact absurd hsp hs
                | some _ => rfl
              · rfl
            rw [this] at h1
            simp at h1
          have hl1 : l1 = 0 := by
            obtain ⟨h7, _⟩ := bridge (N + 1) t _ _ _ hp0 h0
            have h9 : up (.slice (some a) l c) = .slice a1 l1 c1 := by simpa using e1
            obtain ⟨u, hu2⟩ := Option.isSome_iff_exists.1 (h7 (.slice (some a) l c) (by simp))
            rw [up_of hu2] at h9
            subst h9
            have hsn : a.spot.isNone = false := by
              rcases hq : a.spot with _ | q
              · exact absurd hq hs
              · rfl
            simp only [upv, hsn] at hu2
            split at hu2
            · rename_i h10; cases h10
            · split at hu2
              · have := Option.some.inj hu2; cases this; rfl
              · cases hu2
          subst hl1
          exact ⟨by rw [Nat.zero_mul]; exact Nat.zero_le _, fun b hb i hi => absurd hi (Nat.not_lt_zero i)⟩
    · rename_i fs hu
      rw [hu]
      simp only
      simp only [Bool.and_eq_true, List.all_eq_true] at hp
      obtain ⟨htile, hall⟩ := hp
      obtain ⟨xs, m, rfl, ex, hlen, hxl, hf⟩ := DataW.trod_struct hu h
      intro i f hfi
      have h1 := hf i f hfi
      have hi : i < xs.length := by rw [hxl]; exact (Array.getElem?_eq_some_iff.1 hfi).1
      rw [List.getElem?_eq_getElem hi] at h1
      have h2 := ih _ _ _ _ (hall f (by rw [Array.mem_toList_iff]; exact Array.mem_of_getElem? hfi)) h1 fun n hn => hw n (by
        rw [ex]
        simp only [DataW.weights, hu]
        exact DataW.weights_mem_each (j := i) (t := f.type) (d := xs[i].1) (by simp [hfi]) (by simp [hi]) n hn)
      simpa [List.map_take, List.map_drop] using h2
    · cases hp
theorem structS {N : Nat} {t : TypeId} {cs : Array Value} {c1 : List Value} {d : DataW H} {p : List MemPlace} (hp : plainT P N t = true) (h : DataW.Trod enc P w 0 (fun _ => true) held t (.agg cs) d p)
    (e : upA (.agg cs) = .agg c1.toArray) (hw : ∀ n ∈ d.weights P t, n ≤ reachBytes) : SzD P (heapOf w) N t c1 := by
  obtain ⟨fuel, h⟩ := h
  have h1 := bridgeS N t fuel _ _ hp h hw
  have e2 : c1 = cs.toList.map up := by
    simp only [upA, Value.agg.injEq] at e
    have := congrArg Array.toList e
    simpa using this.symm
  rw [e2]
  simpa [Value.cells] using h1
theorem structS2 {N base : Nat} {t : TypeId} {fs : Array Field} {v : Value} {c1 : List Value} {d : DataW H} {p : List MemPlace} (hu : P.underlying t = some (.struct fs)) (hp : plainT P N t = true) (hv : Value.okWide P w .any base t v)
    (h : DataW.Trod enc P w 0 (fun _ => true) held t v d p) (e : upA v = .agg c1.toArray) (hw : ∀ n ∈ d.weights P t, n ≤ reachBytes) : SzD P (heapOf w) N t c1 := by
  simp only [Value.okWide, hu] at hv
  obtain ⟨cs, rfl, _, _⟩ := hv
  exact structS hp h e hw
end
end Go.Ideal

-- R4Ty
set_option linter.unusedSimpArgs false
set_option linter.unusedVariables false
namespace Go.Ideal
open Go Go.Proofs
instance : SizeIs Try.prog 1 1 := ⟨by kernel_rfl⟩
instance : AggIs Try.prog 1 false := ⟨by kernel_rfl⟩
instance : ZeroIs Try.prog 1 (Value.nilFunc) := ⟨by kernel_rfl⟩
instance : BytesIs Try.prog 1 1 8 := ⟨Try.t1, _, by kernel_rfl, rfl, rfl, rfl, rfl, by decide, by decide⟩
instance : UnderIs Try.prog 2 (.int IntKind.i64) := ⟨Try.underlying2⟩
instance : SizeIs Try.prog 2 1 := ⟨by kernel_rfl⟩
instance : AggIs Try.prog 2 false := ⟨by kernel_rfl⟩
instance : ZeroIs Try.prog 2 ((Value.int IntKind.i64 0)) := ⟨by kernel_rfl⟩
instance : BytesIs Try.prog 2 1 8 := ⟨Try.t2, _, by kernel_rfl, rfl, rfl, rfl, rfl, by decide, by decide⟩
instance : UnderIs Try.prog 3 (.int IntKind.i64) := ⟨Try.underlying3⟩
instance : SizeIs Try.prog 3 1 := ⟨by kernel_rfl⟩
instance : AggIs Try.prog 3 false := ⟨by kernel_rfl⟩
instance : ZeroIs Try.prog 3 ((Value.int IntKind.i64 0)) := ⟨by kernel_rfl⟩
instance : BytesIs Try.prog 3 1 8 := ⟨Try.t3, _, by kernel_rfl, rfl, rfl, rfl, rfl, by decide, by decide⟩
instance : UnderIs Try.prog 4 (.bool) := ⟨Try.underlying4⟩
instance : SizeIs Try.prog 4 1 := ⟨by kernel_rfl⟩
instance : AggIs Try.prog 4 false := ⟨by kernel_rfl⟩
instance : ZeroIs Try.prog 4 ((Value.bool false)) := ⟨by kernel_rfl⟩
instance : BytesIs Try.prog 4 1 1 := ⟨Try.t4, _, by kernel_rfl, rfl, rfl, rfl, rfl, by decide, by decide⟩
instance : UnderIs Try.prog 5 (.int IntKind.u8) := ⟨Try.underlying5⟩
instance : SizeIs Try.prog 5 1 := ⟨by kernel_rfl⟩
instance : AggIs Try.prog 5 false := ⟨by kernel_rfl⟩
instance : ZeroIs Try.prog 5 ((Value.int IntKind.u8 0)) := ⟨by kernel_rfl⟩
instance : BytesIs Try.prog 5 1 1 := ⟨Try.t5, _, by kernel_rfl, rfl, rfl, rfl, rfl, by decide, by decide⟩
instance : UnderIs Try.prog 6 (.int IntKind.u8) := ⟨Try.underlying6⟩
instance : SizeIs Try.prog 6 1 := ⟨by kernel_rfl⟩
instance : AggIs Try.prog 6 false := ⟨by kernel_rfl⟩
instance : ZeroIs Try.prog 6 ((Value.int IntKind.u8 0)) := ⟨by kernel_rfl⟩
instance : BytesIs Try.prog 6 1 1 := ⟨Try.t6, _, by kernel_rfl, rfl, rfl, rfl, rfl, by decide, by decide⟩
instance : FieldIs Try.prog 7 0 0 2 1 := ⟨_, _, Try.underlying7, rfl, rfl, rfl, by kernel_rfl, by decide⟩
instance : FieldIs Try.prog 7 1 1 3 1 := ⟨_, _, Try.underlying7, rfl, rfl, rfl, by kernel_rfl, by decide⟩
instance : FieldIs Try.prog 7 2 2 4 1 := ⟨_, _, Try.underlying7, rfl, rfl, rfl, by kernel_rfl, by decide⟩
instance : FieldIs Try.prog 7 3 3 6 1 := ⟨_, _, Try.underlying7, rfl, rfl, rfl, by kernel_rfl, by decide⟩
instance : StructOk Try.prog 7 := ⟨_, Try.underlying7, by kernel_rfl⟩
instance : SizeIs Try.prog 7 4 := ⟨by kernel_rfl⟩
instance : AggIs Try.prog 7 true := ⟨by kernel_rfl⟩
instance : ZeroIs Try.prog 7 ((Value.agg #[Value.int IntKind.i64 0, Value.int IntKind.i64 0, Value.bool false, Value.int IntKind.u8 0])) := ⟨by kernel_rfl⟩
instance : BytesIs Try.prog 7 4 24 := ⟨Try.t7, _, by kernel_rfl, rfl, rfl, rfl, rfl, by decide, by decide⟩
instance : FieldIs Try.prog 8 0 0 2 1 := ⟨_, _, Try.underlying8, rfl, rfl, rfl, by kernel_rfl, by decide⟩
instance : FieldIs Try.prog 8 1 1 3 1 := ⟨_, _, Try.underlying8, rfl, rfl, rfl, by kernel_rfl, by decide⟩
instance : FieldIs Try.prog 8 2 2 4 1 := ⟨_, _, Try.underlying8, rfl, rfl, rfl, by kernel_rfl, by decide⟩
instance : FieldIs Try.prog 8 3 3 6 1 := ⟨_, _, Try.underlying8, rfl, rfl, rfl, by kernel_rfl, by decide⟩
instance : StructOk Try.prog 8 := ⟨_, Try.underlying8, by kernel_rfl⟩
instance : SizeIs Try.prog 8 4 := ⟨by kernel_rfl⟩
instance : AggIs Try.prog 8 true := ⟨by kernel_rfl⟩
instance : ZeroIs Try.prog 8 ((Value.agg #[Value.int IntKind.i64 0, Value.int IntKind.i64 0, Value.bool false, Value.int IntKind.u8 0])) := ⟨by kernel_rfl⟩
instance : BytesIs Try.prog 8 4 24 := ⟨Try.t8, _, by kernel_rfl, rfl, rfl, rfl, rfl, by decide, by decide⟩
instance : UnderIs Try.prog 9 (.string) := ⟨Try.underlying9⟩
instance : SizeIs Try.prog 9 1 := ⟨by kernel_rfl⟩
instance : AggIs Try.prog 9 false := ⟨by kernel_rfl⟩
instance : ZeroIs Try.prog 9 ((Value.string ByteArray.empty)) := ⟨by kernel_rfl⟩
instance : BytesIs Try.prog 9 1 16 := ⟨Try.t9, _, by kernel_rfl, rfl, rfl, rfl, rfl, by decide, by decide⟩
instance : UnderIs Try.prog 10 (.string) := ⟨Try.underlying10⟩
instance : SizeIs Try.prog 10 1 := ⟨by kernel_rfl⟩
instance : AggIs Try.prog 10 false := ⟨by kernel_rfl⟩
instance : ZeroIs Try.prog 10 ((Value.string ByteArray.empty)) := ⟨by kernel_rfl⟩
instance : BytesIs Try.prog 10 1 16 := ⟨Try.t10, _, by kernel_rfl, rfl, rfl, rfl, rfl, by decide, by decide⟩
instance : UnderIs Try.prog 11 (.string) := ⟨Try.underlying11⟩
instance : SizeIs Try.prog 11 1 := ⟨by kernel_rfl⟩
instance : AggIs Try.prog 11 false := ⟨by kernel_rfl⟩
instance : ZeroIs Try.prog 11 ((Value.string ByteArray.empty)) := ⟨by kernel_rfl⟩
instance : BytesIs Try.prog 11 1 16 := ⟨Try.t11, _, by kernel_rfl, rfl, rfl, rfl, rfl, by decide, by decide⟩
instance : UnderIs Try.prog 12 (.int IntKind.u64) := ⟨Try.underlying12⟩
instance : SizeIs Try.prog 12 1 := ⟨by kernel_rfl⟩
instance : AggIs Try.prog 12 false := ⟨by kernel_rfl⟩
instance : ZeroIs Try.prog 12 ((Value.int IntKind.u64 0)) := ⟨by kernel_rfl⟩
instance : BytesIs Try.prog 12 1 8 := ⟨Try.t12, _, by kernel_rfl, rfl, rfl, rfl, rfl, by decide, by decide⟩
instance : FieldIs Try.prog 13 0 0 9 1 := ⟨_, _, Try.underlying13, rfl, rfl, rfl, by kernel_rfl, by decide⟩
instance : FieldIs Try.prog 13 1 1 12 1 := ⟨_, _, Try.underlying13, rfl, rfl, rfl, by kernel_rfl, by decide⟩
instance : StructOk Try.prog 13 := ⟨_, Try.underlying13, by kernel_rfl⟩
instance : SizeIs Try.prog 13 2 := ⟨by kernel_rfl⟩
instance : AggIs Try.prog 13 true := ⟨by kernel_rfl⟩
instance : ZeroIs Try.prog 13 ((Value.agg #[Value.string ByteArray.empty, Value.int IntKind.u64 0])) := ⟨by kernel_rfl⟩
instance : BytesIs Try.prog 13 2 24 := ⟨Try.t13, _, by kernel_rfl, rfl, rfl, rfl, rfl, by decide, by decide⟩
instance : FieldIs Try.prog 14 0 0 9 1 := ⟨_, _, Try.underlying14, rfl, rfl, rfl, by kernel_rfl, by decide⟩
instance : FieldIs Try.prog 14 1 1 12 1 := ⟨_, _, Try.underlying14, rfl, rfl, rfl, by kernel_rfl, by decide⟩
instance : StructOk Try.prog 14 := ⟨_, Try.underlying14, by kernel_rfl⟩
instance : SizeIs Try.prog 14 2 := ⟨by kernel_rfl⟩
instance : AggIs Try.prog 14 true := ⟨by kernel_rfl⟩
instance : ZeroIs Try.prog 14 ((Value.agg #[Value.string ByteArray.empty, Value.int IntKind.u64 0])) := ⟨by kernel_rfl⟩
instance : BytesIs Try.prog 14 2 24 := ⟨Try.t14, _, by kernel_rfl, rfl, rfl, rfl, rfl, by decide, by decide⟩
instance : UnderIs Try.prog 15 (.pointer 137) := ⟨Try.underlying15⟩
instance : SizeIs Try.prog 15 1 := ⟨by kernel_rfl⟩
instance : AggIs Try.prog 15 false := ⟨by kernel_rfl⟩
instance : ZeroIs Try.prog 15 ((Value.pointer none)) := ⟨by kernel_rfl⟩
instance : BytesIs Try.prog 15 1 8 := ⟨Try.t15, _, by kernel_rfl, rfl, rfl, rfl, rfl, by decide, by decide⟩
instance : UnderIs Try.prog 16 (.pointer 140) := ⟨Try.underlying16⟩
instance : SizeIs Try.prog 16 1 := ⟨by kernel_rfl⟩
instance : AggIs Try.prog 16 false := ⟨by kernel_rfl⟩
instance : ZeroIs Try.prog 16 ((Value.pointer none)) := ⟨by kernel_rfl⟩
instance : BytesIs Try.prog 16 1 8 := ⟨Try.t16, _, by kernel_rfl, rfl, rfl, rfl, rfl, by decide, by decide⟩
instance : UnderIs Try.prog 17 (.pointer 150) := ⟨Try.underlying17⟩
instance : SizeIs Try.prog 17 1 := ⟨by kernel_rfl⟩
instance : AggIs Try.prog 17 false := ⟨by kernel_rfl⟩
instance : ZeroIs Try.prog 17 ((Value.pointer none)) := ⟨by kernel_rfl⟩
instance : BytesIs Try.prog 17 1 8 := ⟨Try.t17, _, by kernel_rfl, rfl, rfl, rfl, rfl, by decide, by decide⟩
instance : FieldIs Try.prog 18 0 0 17 1 := ⟨_, _, Try.underlying18, rfl, rfl, rfl, by kernel_rfl, by decide⟩
instance : StructOk Try.prog 18 := ⟨_, Try.underlying18, by kernel_rfl⟩
instance : SizeIs Try.prog 18 1 := ⟨by kernel_rfl⟩
instance : AggIs Try.prog 18 true := ⟨by kernel_rfl⟩
instance : ZeroIs Try.prog 18 ((Value.agg #[Value.pointer none])) := ⟨by kernel_rfl⟩
instance : BytesIs Try.prog 18 1 8 := ⟨Try.t18, _, by kernel_rfl, rfl, rfl, rfl, rfl, by decide, by decide⟩
instance : FieldIs Try.prog 19 0 0 17 1 := ⟨_, _, Try.underlying19, rfl, rfl, rfl, by kernel_rfl, by decide⟩
instance : StructOk Try.prog 19 := ⟨_, Try.underlying19, by kernel_rfl⟩
instance : SizeIs Try.prog 19 1 := ⟨by kernel_rfl⟩
instance : AggIs Try.prog 19 true := ⟨by kernel_rfl⟩
instance : ZeroIs Try.prog 19 ((Value.agg #[Value.pointer none])) := ⟨by kernel_rfl⟩
instance : BytesIs Try.prog 19 1 8 := ⟨Try.t19, _, by kernel_rfl, rfl, rfl, rfl, rfl, by decide, by decide⟩
instance : UnderIs Try.prog 21 (.int IntKind.i32) := ⟨Try.underlying21⟩
instance : SizeIs Try.prog 21 1 := ⟨by kernel_rfl⟩
instance : AggIs Try.prog 21 false := ⟨by kernel_rfl⟩
instance : ZeroIs Try.prog 21 ((Value.int IntKind.i32 0)) := ⟨by kernel_rfl⟩
instance : BytesIs Try.prog 21 1 4 := ⟨Try.t21, _, by kernel_rfl, rfl, rfl, rfl, rfl, by decide, by decide⟩
instance : UnderIs Try.prog 22 (.slice 29) := ⟨Try.underlying22⟩
instance : SizeIs Try.prog 22 1 := ⟨by kernel_rfl⟩
instance : AggIs Try.prog 22 false := ⟨by kernel_rfl⟩
instance : ZeroIs Try.prog 22 ((Value.slice none 0 0)) := ⟨by kernel_rfl⟩
instance : BytesIs Try.prog 22 1 24 := ⟨Try.t22, _, by kernel_rfl, rfl, rfl, rfl, rfl, by decide, by decide⟩
instance : FieldIs Try.prog 23 0 0 3 1 := ⟨_, _, Try.underlying23, rfl, rfl, rfl, by kernel_rfl, by decide⟩
instance : FieldIs Try.prog 23 1 1 3 1 := ⟨_, _, Try.underlying23, rfl, rfl, rfl, by kernel_rfl, by decide⟩
instance : FieldIs Try.prog 23 2 2 22 1 := ⟨_, _, Try.underlying23, rfl, rfl, rfl, by kernel_rfl, by decide⟩
instance : StructOk Try.prog 23 := ⟨_, Try.underlying23, by kernel_rfl⟩
instance : SizeIs Try.prog 23 3 := ⟨by kernel_rfl⟩
instance : AggIs Try.prog 23 true := ⟨by kernel_rfl⟩
instance : ZeroIs Try.prog 23 ((Value.agg #[Value.int IntKind.i64 0, Value.int IntKind.i64 0, Value.slice none 0 0])) := ⟨by kernel_rfl⟩
instance : BytesIs Try.prog 23 3 40 := ⟨Try.t23, _, by kernel_rfl, rfl, rfl, rfl, rfl, by decide, by decide⟩
instance : FieldIs Try.prog 24 0 0 3 1 := ⟨_, _, Try.underlying24, rfl, rfl, rfl, by kernel_rfl, by decide⟩
instance : FieldIs Try.prog 24 1 1 3 1 := ⟨_, _, Try.underlying24, rfl, rfl, rfl, by kernel_rfl, by decide⟩
instance : FieldIs Try.prog 24 2 2 22 1 := ⟨_, _, Try.underlying24, rfl, rfl, rfl, by kernel_rfl, by decide⟩
instance : StructOk Try.prog 24 := ⟨_, Try.underlying24, by kernel_rfl⟩
instance : SizeIs Try.prog 24 3 := ⟨by kernel_rfl⟩
instance : AggIs Try.prog 24 true := ⟨by kernel_rfl⟩
instance : ZeroIs Try.prog 24 ((Value.agg #[Value.int IntKind.i64 0, Value.int IntKind.i64 0, Value.slice none 0 0])) := ⟨by kernel_rfl⟩
instance : BytesIs Try.prog 24 3 40 := ⟨Try.t24, _, by kernel_rfl, rfl, rfl, rfl, rfl, by decide, by decide⟩
instance : UnderIs Try.prog 25 (.slice 3) := ⟨Try.underlying25⟩
instance : SizeIs Try.prog 25 1 := ⟨by kernel_rfl⟩
instance : AggIs Try.prog 25 false := ⟨by kernel_rfl⟩
instance : ZeroIs Try.prog 25 ((Value.slice none 0 0)) := ⟨by kernel_rfl⟩
instance : BytesIs Try.prog 25 1 24 := ⟨Try.t25, _, by kernel_rfl, rfl, rfl, rfl, rfl, by decide, by decide⟩
instance : SizeIs Try.prog 26 1 := ⟨by kernel_rfl⟩
instance : AggIs Try.prog 26 false := ⟨by kernel_rfl⟩
instance : ZeroIs Try.prog 26 (Value.nilFunc) := ⟨by kernel_rfl⟩
instance : BytesIs Try.prog 26 1 8 := ⟨Try.t26, _, by kernel_rfl, rfl, rfl, rfl, rfl, by decide, by decide⟩
instance : UnderIs Try.prog 27 (.int IntKind.u64) := ⟨Try.underlying27⟩
instance : SizeIs Try.prog 27 1 := ⟨by kernel_rfl⟩
instance : AggIs Try.prog 27 false := ⟨by kernel_rfl⟩
instance : ZeroIs Try.prog 27 ((Value.int IntKind.u64 0)) := ⟨by kernel_rfl⟩
instance : BytesIs Try.prog 27 1 8 := ⟨Try.t27, _, by kernel_rfl, rfl, rfl, rfl, rfl, by decide, by decide⟩
instance : FieldIs Try.prog 28 0 0 3 1 := ⟨_, _, Try.underlying28, rfl, rfl, rfl, by kernel_rfl, by decide⟩
instance : FieldIs Try.prog 28 1 1 9 1 := ⟨_, _, Try.underlying28, rfl, rfl, rfl, by kernel_rfl, by decide⟩
instance : FieldIs Try.prog 28 2 2 25 1 := ⟨_, _, Try.underlying28, rfl, rfl, rfl, by kernel_rfl, by decide⟩
instance : FieldIs Try.prog 28 3 3 3 1 := ⟨_, _, Try.underlying28, rfl, rfl, rfl, by kernel_rfl, by decide⟩
instance : FieldIs Try.prog 28 4 4 4 1 := ⟨_, _, Try.underlying28, rfl, rfl, rfl, by kernel_rfl, by decide⟩
instance : FieldIs Try.prog 28 5 5 27 1 := ⟨_, _, Try.underlying28, rfl, rfl, rfl, by kernel_rfl, by decide⟩
instance : FieldIs Try.prog 28 6 6 27 1 := ⟨_, _, Try.underlying28, rfl, rfl, rfl, by kernel_rfl, by decide⟩
instance : StructOk Try.prog 28 := ⟨_, Try.underlying28, by kernel_rfl⟩
instance : SizeIs Try.prog 28 7 := ⟨by kernel_rfl⟩
instance : AggIs Try.prog 28 true := ⟨by kernel_rfl⟩
instance : ZeroIs Try.prog 28 ((Value.agg #[Value.int IntKind.i64 0, Value.string ByteArray.empty, Value.slice none 0 0, Value.int IntKind.i64 0, Value.bool false, Value.int IntKind.u64 0, Value.int IntKind.u64 0])) := ⟨by kernel_rfl⟩
instance : BytesIs Try.prog 28 7 80 := ⟨Try.t28, _, by kernel_rfl, rfl, rfl, rfl, rfl, by decide, by decide⟩
instance : FieldIs Try.prog 29 0 0 3 1 := ⟨_, _, Try.underlying29, rfl, rfl, rfl, by kernel_rfl, by decide⟩
instance : FieldIs Try.prog 29 1 1 9 1 := ⟨_, _, Try.underlying29, rfl, rfl, rfl, by kernel_rfl, by decide⟩
instance : FieldIs Try.prog 29 2 2 25 1 := ⟨_, _, Try.underlying29, rfl, rfl, rfl, by kernel_rfl, by decide⟩
instance : FieldIs Try.prog 29 3 3 3 1 := ⟨_, _, Try.underlying29, rfl, rfl, rfl, by kernel_rfl, by decide⟩
instance : FieldIs Try.prog 29 4 4 4 1 := ⟨_, _, Try.underlying29, rfl, rfl, rfl, by kernel_rfl, by decide⟩
instance : FieldIs Try.prog 29 5 5 27 1 := ⟨_, _, Try.underlying29, rfl, rfl, rfl, by kernel_rfl, by decide⟩
instance : FieldIs Try.prog 29 6 6 27 1 := ⟨_, _, Try.underlying29, rfl, rfl, rfl, by kernel_rfl, by decide⟩
instance : StructOk Try.prog 29 := ⟨_, Try.underlying29, by kernel_rfl⟩
instance : SizeIs Try.prog 29 7 := ⟨by kernel_rfl⟩
instance : AggIs Try.prog 29 true := ⟨by kernel_rfl⟩
instance : ZeroIs Try.prog 29 ((Value.agg #[Value.int IntKind.i64 0, Value.string ByteArray.empty, Value.slice none 0 0, Value.int IntKind.i64 0, Value.bool false, Value.int IntKind.u64 0, Value.int IntKind.u64 0])) := ⟨by kernel_rfl⟩
instance : BytesIs Try.prog 29 7 80 := ⟨Try.t29, _, by kernel_rfl, rfl, rfl, rfl, rfl, by decide, by decide⟩
instance : SizeIs Try.prog 30 1 := ⟨by kernel_rfl⟩
instance : AggIs Try.prog 30 false := ⟨by kernel_rfl⟩
instance : ZeroIs Try.prog 30 (Value.nilFunc) := ⟨by kernel_rfl⟩
instance : BytesIs Try.prog 30 1 8 := ⟨Try.t30, _, by kernel_rfl, rfl, rfl, rfl, rfl, by decide, by decide⟩
instance : UnderIs Try.prog 31 (.int IntKind.i64) := ⟨Try.underlying31⟩
instance : SizeIs Try.prog 31 1 := ⟨by kernel_rfl⟩
instance : AggIs Try.prog 31 false := ⟨by kernel_rfl⟩
instance : ZeroIs Try.prog 31 ((Value.int IntKind.i64 0)) := ⟨by kernel_rfl⟩
instance : BytesIs Try.prog 31 1 8 := ⟨Try.t31, _, by kernel_rfl, rfl, rfl, rfl, rfl, by decide, by decide⟩
instance : SizeIs Try.prog 33 1 := ⟨by kernel_rfl⟩
instance : AggIs Try.prog 33 false := ⟨by kernel_rfl⟩
instance : ZeroIs Try.prog 33 (Value.nilFunc) := ⟨by kernel_rfl⟩
instance : BytesIs Try.prog 33 1 8 := ⟨Try.t33, _, by kernel_rfl, rfl, rfl, rfl, rfl, by decide, by decide⟩
instance : SizeIs Try.prog 34 1 := ⟨by kernel_rfl⟩
instance : AggIs Try.prog 34 false := ⟨by kernel_rfl⟩
instance : ZeroIs Try.prog 34 (Value.nilFunc) := ⟨by kernel_rfl⟩
instance : BytesIs Try.prog 34 1 8 := ⟨Try.t34, _, by kernel_rfl, rfl, rfl, rfl, rfl, by decide, by decide⟩
instance : SizeIs Try.prog 35 1 := ⟨by kernel_rfl⟩
instance : AggIs Try.prog 35 false := ⟨by kernel_rfl⟩
instance : ZeroIs Try.prog 35 (Value.nilFunc) := ⟨by kernel_rfl⟩
instance : BytesIs Try.prog 35 1 8 := ⟨Try.t35, _, by kernel_rfl, rfl, rfl, rfl, rfl, by decide, by decide⟩
instance : UnderIs Try.prog 36 (.slice 25) := ⟨Try.underlying36⟩
instance : SizeIs Try.prog 36 1 := ⟨by kernel_rfl⟩
instance : AggIs Try.prog 36 false := ⟨by kernel_rfl⟩
instance : ZeroIs Try.prog 36 ((Value.slice none 0 0)) := ⟨by kernel_rfl⟩
instance : BytesIs Try.prog 36 1 24 := ⟨Try.t36, _, by kernel_rfl, rfl, rfl, rfl, rfl, by decide, by decide⟩
instance : SizeIs Try.prog 38 1 := ⟨by kernel_rfl⟩
instance : AggIs Try.prog 38 false := ⟨by kernel_rfl⟩
instance : ZeroIs Try.prog 38 (Value.nilFunc) := ⟨by kernel_rfl⟩
instance : BytesIs Try.prog 38 1 8 := ⟨Try.t38, _, by kernel_rfl, rfl, rfl, rfl, rfl, by decide, by decide⟩
instance : SizeIs Try.prog 39 1 := ⟨by kernel_rfl⟩
instance : AggIs Try.prog 39 false := ⟨by kernel_rfl⟩
instance : ZeroIs Try.prog 39 (Value.nilFunc) := ⟨by kernel_rfl⟩
instance : BytesIs Try.prog 39 1 8 := ⟨Try.t39, _, by kernel_rfl, rfl, rfl, rfl, rfl, by decide, by decide⟩
instance : SizeIs Try.prog 41 1 := ⟨by kernel_rfl⟩
instance : AggIs Try.prog 41 false := ⟨by kernel_rfl⟩
instance : ZeroIs Try.prog 41 (Value.nilFunc) := ⟨by kernel_rfl⟩
instance : BytesIs Try.prog 41 1 8 := ⟨Try.t41, _, by kernel_rfl, rfl, rfl, rfl, rfl, by decide, by decide⟩
instance : SizeIs Try.prog 42 1 := ⟨by kernel_rfl⟩
instance : AggIs Try.prog 42 false := ⟨by kernel_rfl⟩
instance : ZeroIs Try.prog 42 (Value.nilFunc) := ⟨by kernel_rfl⟩
instance : BytesIs Try.prog 42 1 8 := ⟨Try.t42, _, by kernel_rfl, rfl, rfl, rfl, rfl, by decide, by decide⟩
instance : SizeIs Try.prog 43 1 := ⟨by kernel_rfl⟩
instance : AggIs Try.prog 43 false := ⟨by kernel_rfl⟩
instance : ZeroIs Try.prog 43 (Value.nilFunc) := ⟨by kernel_rfl⟩
instance : BytesIs Try.prog 43 1 8 := ⟨Try.t43, _, by kernel_rfl, rfl, rfl, rfl, rfl, by decide, by decide⟩
instance : SizeIs Try.prog 45 1 := ⟨by kernel_rfl⟩
instance : AggIs Try.prog 45 false := ⟨by kernel_rfl⟩
instance : ZeroIs Try.prog 45 (Value.nilFunc) := ⟨by kernel_rfl⟩
instance : BytesIs Try.prog 45 1 8 := ⟨Try.t45, _, by kernel_rfl, rfl, rfl, rfl, rfl, by decide, by decide⟩
instance : SizeIs Try.prog 46 1 := ⟨by kernel_rfl⟩
instance : AggIs Try.prog 46 false := ⟨by kernel_rfl⟩
instance : ZeroIs Try.prog 46 (Value.nilFunc) := ⟨by kernel_rfl⟩
instance : BytesIs Try.prog 46 1 8 := ⟨Try.t46, _, by kernel_rfl, rfl, rfl, rfl, rfl, by decide, by decide⟩
instance : SizeIs Try.prog 47 1 := ⟨by kernel_rfl⟩
instance : AggIs Try.prog 47 false := ⟨by kernel_rfl⟩
instance : ZeroIs Try.prog 47 (Value.nilFunc) := ⟨by kernel_rfl⟩
instance : BytesIs Try.prog 47 1 8 := ⟨Try.t47, _, by kernel_rfl, rfl, rfl, rfl, rfl, by decide, by decide⟩
instance : UnderIs Try.prog 48 (.slice 27) := ⟨Try.underlying48⟩
instance : SizeIs Try.prog 48 1 := ⟨by kernel_rfl⟩
instance : AggIs Try.prog 48 false := ⟨by kernel_rfl⟩
instance : ZeroIs Try.prog 48 ((Value.slice none 0 0)) := ⟨by kernel_rfl⟩
instance : BytesIs Try.prog 48 1 24 := ⟨Try.t48, _, by kernel_rfl, rfl, rfl, rfl, rfl, by decide, by decide⟩
instance : FieldIs Try.prog 49 0 0 3 1 := ⟨_, _, Try.underlying49, rfl, rfl, rfl, by kernel_rfl, by decide⟩
instance : FieldIs Try.prog 49 1 1 48 1 := ⟨_, _, Try.underlying49, rfl, rfl, rfl, by kernel_rfl, by decide⟩
instance : StructOk Try.prog 49 := ⟨_, Try.underlying49, by kernel_rfl⟩
instance : SizeIs Try.prog 49 2 := ⟨by kernel_rfl⟩
instance : AggIs Try.prog 49 true := ⟨by kernel_rfl⟩
instance : ZeroIs Try.prog 49 ((Value.agg #[Value.int IntKind.i64 0, Value.slice none 0 0])) := ⟨by kernel_rfl⟩
instance : BytesIs Try.prog 49 2 32 := ⟨Try.t49, _, by kernel_rfl, rfl, rfl, rfl, rfl, by decide, by decide⟩
instance : FieldIs Try.prog 50 0 0 3 1 := ⟨_, _, Try.underlying50, rfl, rfl, rfl, by kernel_rfl, by decide⟩
instance : FieldIs Try.prog 50 1 1 48 1 := ⟨_, _, Try.underlying50, rfl, rfl, rfl, by kernel_rfl, by decide⟩
instance : StructOk Try.prog 50 := ⟨_, Try.underlying50, by kernel_rfl⟩
instance : SizeIs Try.prog 50 2 := ⟨by kernel_rfl⟩
instance : AggIs Try.prog 50 true := ⟨by kernel_rfl⟩
instance : ZeroIs Try.prog 50 ((Value.agg #[Value.int IntKind.i64 0, Value.slice none 0 0])) := ⟨by kernel_rfl⟩
instance : BytesIs Try.prog 50 2 32 := ⟨Try.t50, _, by kernel_rfl, rfl, rfl, rfl, rfl, by decide, by decide⟩
instance : SizeIs Try.prog 52 1 := ⟨by kernel_rfl⟩
instance : AggIs Try.prog 52 false := ⟨by kernel_rfl⟩
instance : ZeroIs Try.prog 52 (Value.nilFunc) := ⟨by kernel_rfl⟩
instance : BytesIs Try.prog 52 1 8 := ⟨Try.t52, _, by kernel_rfl, rfl, rfl, rfl, rfl, by decide, by decide⟩
instance : SizeIs Try.prog 54 1 := ⟨by kernel_rfl⟩
instance : AggIs Try.prog 54 false := ⟨by kernel_rfl⟩
instance : ZeroIs Try.prog 54 (Value.nilFunc) := ⟨by kernel_rfl⟩
instance : BytesIs Try.prog 54 1 8 := ⟨Try.t54, _, by kernel_rfl, rfl, rfl, rfl, rfl, by decide, by decide⟩
instance : SizeIs Try.prog 55 1 := ⟨by kernel_rfl⟩
instance : AggIs Try.prog 55 false := ⟨by kernel_rfl⟩
instance : ZeroIs Try.prog 55 (Value.nilFunc) := ⟨by kernel_rfl⟩
instance : BytesIs Try.prog 55 1 8 := ⟨Try.t55, _, by kernel_rfl, rfl, rfl, rfl, rfl, by decide, by decide⟩
instance : SizeIs Try.prog 56 1 := ⟨by kernel_rfl⟩
instance : AggIs Try.prog 56 false := ⟨by kernel_rfl⟩
instance : ZeroIs Try.prog 56 (Value.nilFunc) := ⟨by kernel_rfl⟩
instance : BytesIs Try.prog 56 1 8 := ⟨Try.t56, _, by kernel_rfl, rfl, rfl, rfl, rfl, by decide, by decide⟩
instance : SizeIs Try.prog 58 1 := ⟨by kernel_rfl⟩
instance : AggIs Try.prog 58 false := ⟨by kernel_rfl⟩
instance : ZeroIs Try.prog 58 (Value.nilFunc) := ⟨by kernel_rfl⟩
instance : BytesIs Try.prog 58 1 8 := ⟨Try.t58, _, by kernel_rfl, rfl, rfl, rfl, rfl, by decide, by decide⟩
instance : SizeIs Try.prog 59 1 := ⟨by kernel_rfl⟩
instance : AggIs Try.prog 59 false := ⟨by kernel_rfl⟩
instance : ZeroIs Try.prog 59 (Value.nilFunc) := ⟨by kernel_rfl⟩
instance : BytesIs Try.prog 59 1 8 := ⟨Try.t59, _, by kernel_rfl, rfl, rfl, rfl, rfl, by decide, by decide⟩
instance : SizeIs Try.prog 61 1 := ⟨by kernel_rfl⟩
instance : AggIs Try.prog 61 false := ⟨by kernel_rfl⟩
instance : ZeroIs Try.prog 61 (Value.nilFunc) := ⟨by kernel_rfl⟩
instance : BytesIs Try.prog 61 1 8 := ⟨Try.t61, _, by kernel_rfl, rfl, rfl, rfl, rfl, by decide, by decide⟩
instance : SizeIs Try.prog 62 1 := ⟨by kernel_rfl⟩
instance : AggIs Try.prog 62 false := ⟨by kernel_rfl⟩
instance : ZeroIs Try.prog 62 (Value.nilFunc) := ⟨by kernel_rfl⟩
instance : BytesIs Try.prog 62 1 8 := ⟨Try.t62, _, by kernel_rfl, rfl, rfl, rfl, rfl, by decide, by decide⟩
instance : SizeIs Try.prog 63 1 := ⟨by kernel_rfl⟩
instance : AggIs Try.prog 63 false := ⟨by kernel_rfl⟩
instance : ZeroIs Try.prog 63 (Value.nilFunc) := ⟨by kernel_rfl⟩
instance : BytesIs Try.prog 63 1 8 := ⟨Try.t63, _, by kernel_rfl, rfl, rfl, rfl, rfl, by decide, by decide⟩
instance : SizeIs Try.prog 64 1 := ⟨by kernel_rfl⟩
instance : AggIs Try.prog 64 false := ⟨by kernel_rfl⟩
instance : ZeroIs Try.prog 64 (Value.nilFunc) := ⟨by kernel_rfl⟩
instance : BytesIs Try.prog 64 1 8 := ⟨Try.t64, _, by kernel_rfl, rfl, rfl, rfl, rfl, by decide, by decide⟩
instance : SizeIs Try.prog 65 1 := ⟨by kernel_rfl⟩
instance : AggIs Try.prog 65 false := ⟨by kernel_rfl⟩
instance : ZeroIs Try.prog 65 (Value.nilFunc) := ⟨by kernel_rfl⟩
instance : BytesIs Try.prog 65 1 8 := ⟨Try.t65, _, by kernel_rfl, rfl, rfl, rfl, rfl, by decide, by decide⟩
instance : SizeIs Try.prog 66 1 := ⟨by kernel_rfl⟩
instance : AggIs Try.prog 66 false := ⟨by kernel_rfl⟩
instance : ZeroIs Try.prog 66 (Value.nilFunc) := ⟨by kernel_rfl⟩
instance : BytesIs Try.prog 66 1 8 := ⟨Try.t66, _, by kernel_rfl, rfl, rfl, rfl, rfl, by decide, by decide⟩
instance : SizeIs Try.prog 68 1 := ⟨by kernel_rfl⟩
instance : AggIs Try.prog 68 false := ⟨by kernel_rfl⟩
instance : ZeroIs Try.prog 68 (Value.nilFunc) := ⟨by kernel_rfl⟩
instance : BytesIs Try.prog 68 1 8 := ⟨Try.t68, _, by kernel_rfl, rfl, rfl, rfl, rfl, by decide, by decide⟩
instance : SizeIs Try.prog 69 1 := ⟨by kernel_rfl⟩
instance : AggIs Try.prog 69 false := ⟨by kernel_rfl⟩
instance : ZeroIs Try.prog 69 (Value.nilFunc) := ⟨by kernel_rfl⟩
instance : BytesIs Try.prog 69 1 8 := ⟨Try.t69, _, by kernel_rfl, rfl, rfl, rfl, rfl, by decide, by decide⟩
instance : SizeIs Try.prog 70 1 := ⟨by kernel_rfl⟩
instance : AggIs Try.prog 70 false := ⟨by kernel_rfl⟩
instance : ZeroIs Try.prog 70 (Value.nilFunc) := ⟨by kernel_rfl⟩
instance : BytesIs Try.prog 70 1 8 := ⟨Try.t70, _, by kernel_rfl, rfl, rfl, rfl, rfl, by decide, by decide⟩
instance : SizeIs Try.prog 71 1 := ⟨by kernel_rfl⟩
instance : AggIs Try.prog 71 false := ⟨by kernel_rfl⟩
instance : ZeroIs Try.prog 71 (Value.nilFunc) := ⟨by kernel_rfl⟩
instance : BytesIs Try.prog 71 1 8 := ⟨Try.t71, _, by kernel_rfl, rfl, rfl, rfl, rfl, by decide, by decide⟩
instance : SizeIs Try.prog 72 1 := ⟨by kernel_rfl⟩
instance : AggIs Try.prog 72 false := ⟨by kernel_rfl⟩
instance : ZeroIs Try.prog 72 (Value.nilFunc) := ⟨by kernel_rfl⟩
instance : BytesIs Try.prog 72 1 8 := ⟨Try.t72, _, by kernel_rfl, rfl, rfl, rfl, rfl, by decide, by decide⟩
instance : SizeIs Try.prog 73 1 := ⟨by kernel_rfl⟩
instance : AggIs Try.prog 73 false := ⟨by kernel_rfl⟩
instance : ZeroIs Try.prog 73 (Value.nilFunc) := ⟨by kernel_rfl⟩
instance : BytesIs Try.prog 73 1 8 := ⟨Try.t73, _, by kernel_rfl, rfl, rfl, rfl, rfl, by decide, by decide⟩
instance : SizeIs Try.prog 75 1 := ⟨by kernel_rfl⟩
instance : AggIs Try.prog 75 false := ⟨by kernel_rfl⟩
instance : ZeroIs Try.prog 75 (Value.nilFunc) := ⟨by kernel_rfl⟩
instance : BytesIs Try.prog 75 1 8 := ⟨Try.t75, _, by kernel_rfl, rfl, rfl, rfl, rfl, by decide, by decide⟩
instance : UnderIs Try.prog 76 (.slice 24) := ⟨Try.underlying76⟩
instance : SizeIs Try.prog 76 1 := ⟨by kernel_rfl⟩
instance : AggIs Try.prog 76 false := ⟨by kernel_rfl⟩
instance : ZeroIs Try.prog 76 ((Value.slice none 0 0)) := ⟨by kernel_rfl⟩
instance : BytesIs Try.prog 76 1 24 := ⟨Try.t76, _, by kernel_rfl, rfl, rfl, rfl, rfl, by decide, by decide⟩
instance : SizeIs Try.prog 77 1 := ⟨by kernel_rfl⟩
instance : AggIs Try.prog 77 false := ⟨by kernel_rfl⟩
instance : ZeroIs Try.prog 77 (Value.nilFunc) := ⟨by kernel_rfl⟩
instance : BytesIs Try.prog 77 1 8 := ⟨Try.t77, _, by kernel_rfl, rfl, rfl, rfl, rfl, by decide, by decide⟩
instance : UnderIs Try.prog 78 (.slice 4) := ⟨Try.underlying78⟩
instance : SizeIs Try.prog 78 1 := ⟨by kernel_rfl⟩
instance : AggIs Try.prog 78 false := ⟨by kernel_rfl⟩
instance : ZeroIs Try.prog 78 ((Value.slice none 0 0)) := ⟨by kernel_rfl⟩
instance : BytesIs Try.prog 78 1 24 := ⟨Try.t78, _, by kernel_rfl, rfl, rfl, rfl, rfl, by decide, by decide⟩
instance : SizeIs Try.prog 79 1 := ⟨by kernel_rfl⟩
instance : AggIs Try.prog 79 false := ⟨by kernel_rfl⟩
instance : ZeroIs Try.prog 79 (Value.nilFunc) := ⟨by kernel_rfl⟩
instance : BytesIs Try.prog 79 1 8 := ⟨Try.t79, _, by kernel_rfl, rfl, rfl, rfl, rfl, by decide, by decide⟩
instance : SizeIs Try.prog 80 1 := ⟨by kernel_rfl⟩
instance : AggIs Try.prog 80 false := ⟨by kernel_rfl⟩
instance : ZeroIs Try.prog 80 (Value.nilFunc) := ⟨by kernel_rfl⟩
instance : BytesIs Try.prog 80 1 8 := ⟨Try.t80, _, by kernel_rfl, rfl, rfl, rfl, rfl, by decide, by decide⟩
instance : SizeIs Try.prog 82 1 := ⟨by kernel_rfl⟩
instance : AggIs Try.prog 82 false := ⟨by kernel_rfl⟩
instance : ZeroIs Try.prog 82 (Value.nilFunc) := ⟨by kernel_rfl⟩
instance : BytesIs Try.prog 82 1 8 := ⟨Try.t82, _, by kernel_rfl, rfl, rfl, rfl, rfl, by decide, by decide⟩
instance : SizeIs Try.prog 83 1 := ⟨by kernel_rfl⟩
instance : AggIs Try.prog 83 false := ⟨by kernel_rfl⟩
instance : ZeroIs Try.prog 83 (Value.nilFunc) := ⟨by kernel_rfl⟩
instance : BytesIs Try.prog 83 1 8 := ⟨Try.t83, _, by kernel_rfl, rfl, rfl, rfl, rfl, by decide, by decide⟩
instance : SizeIs Try.prog 85 1 := ⟨by kernel_rfl⟩
instance : AggIs Try.prog 85 false := ⟨by kernel_rfl⟩
instance : ZeroIs Try.prog 85 (Value.nilFunc) := ⟨by kernel_rfl⟩
instance : BytesIs Try.prog 85 1 8 := ⟨Try.t85, _, by kernel_rfl, rfl, rfl, rfl, rfl, by decide, by decide⟩
instance : SizeIs Try.prog 86 1 := ⟨by kernel_rfl⟩
instance : AggIs Try.prog 86 false := ⟨by kernel_rfl⟩
instance : ZeroIs Try.prog 86 (Value.nilFunc) := ⟨by kernel_rfl⟩
instance : BytesIs Try.prog 86 1 8 := ⟨Try.t86, _, by kernel_rfl, rfl, rfl, rfl, rfl, by decide, by decide⟩
instance : SizeIs Try.prog 87 1 := ⟨by kernel_rfl⟩
instance : AggIs Try.prog 87 false := ⟨by kernel_rfl⟩
instance : ZeroIs Try.prog 87 (Value.nilFunc) := ⟨by kernel_rfl⟩
instance : BytesIs Try.prog 87 1 8 := ⟨Try.t87, _, by kernel_rfl, rfl, rfl, rfl, rfl, by decide, by decide⟩
instance : UnderIs Try.prog 88 (.slice 93) := ⟨Try.underlying88⟩
instance : SizeIs Try.prog 88 1 := ⟨by kernel_rfl⟩
instance : AggIs Try.prog 88 false := ⟨by kernel_rfl⟩
instance : ZeroIs Try.prog 88 ((Value.slice none 0 0)) := ⟨by kernel_rfl⟩
instance : BytesIs Try.prog 88 1 24 := ⟨Try.t88, _, by kernel_rfl, rfl, rfl, rfl, rfl, by decide, by decide⟩
instance : SizeIs Try.prog 90 1 := ⟨by kernel_rfl⟩
instance : AggIs Try.prog 90 false := ⟨by kernel_rfl⟩
instance : ZeroIs Try.prog 90 (Value.nilFunc) := ⟨by kernel_rfl⟩
instance : BytesIs Try.prog 90 1 8 := ⟨Try.t90, _, by kernel_rfl, rfl, rfl, rfl, rfl, by decide, by decide⟩
instance : SizeIs Try.prog 91 1 := ⟨by kernel_rfl⟩
instance : AggIs Try.prog 91 false := ⟨by kernel_rfl⟩
instance : ZeroIs Try.prog 91 (Value.nilFunc) := ⟨by kernel_rfl⟩
instance : BytesIs Try.prog 91 1 8 := ⟨Try.t91, _, by kernel_rfl, rfl, rfl, rfl, rfl, by decide, by decide⟩
instance : FieldIs Try.prog 92 0 0 3 1 := ⟨_, _, Try.underlying92, rfl, rfl, rfl, by kernel_rfl, by decide⟩
instance : FieldIs Try.prog 92 1 1 3 1 := ⟨_, _, Try.underlying92, rfl, rfl, rfl, by kernel_rfl, by decide⟩
instance : StructOk Try.prog 92 := ⟨_, Try.underlying92, by kernel_rfl⟩
instance : SizeIs Try.prog 92 2 := ⟨by kernel_rfl⟩
instance : AggIs Try.prog 92 true := ⟨by kernel_rfl⟩
instance : ZeroIs Try.prog 92 ((Value.agg #[Value.int IntKind.i64 0, Value.int IntKind.i64 0])) := ⟨by kernel_rfl⟩
instance : BytesIs Try.prog 92 2 16 := ⟨Try.t92, _, by kernel_rfl, rfl, rfl, rfl, rfl, by decide, by decide⟩
instance : FieldIs Try.prog 93 0 0 3 1 := ⟨_, _, Try.underlying93, rfl, rfl, rfl, by kernel_rfl, by decide⟩
instance : FieldIs Try.prog 93 1 1 3 1 := ⟨_, _, Try.underlying93, rfl, rfl, rfl, by kernel_rfl, by decide⟩
instance : StructOk Try.prog 93 := ⟨_, Try.underlying93, by kernel_rfl⟩
instance : SizeIs Try.prog 93 2 := ⟨by kernel_rfl⟩
instance : AggIs Try.prog 93 true := ⟨by kernel_rfl⟩
instance : ZeroIs Try.prog 93 ((Value.agg #[Value.int IntKind.i64 0, Value.int IntKind.i64 0])) := ⟨by kernel_rfl⟩
instance : BytesIs Try.prog 93 2 16 := ⟨Try.t93, _, by kernel_rfl, rfl, rfl, rfl, rfl, by decide, by decide⟩
instance : SizeIs Try.prog 94 1 := ⟨by kernel_rfl⟩
instance : AggIs Try.prog 94 false := ⟨by kernel_rfl⟩
instance : ZeroIs Try.prog 94 (Value.nilFunc) := ⟨by kernel_rfl⟩
instance : BytesIs Try.prog 94 1 8 := ⟨Try.t94, _, by kernel_rfl, rfl, rfl, rfl, rfl, by decide, by decide⟩
instance : SizeIs Try.prog 95 1 := ⟨by kernel_rfl⟩
instance : AggIs Try.prog 95 false := ⟨by kernel_rfl⟩
instance : ZeroIs Try.prog 95 (Value.nilFunc) := ⟨by kernel_rfl⟩
instance : BytesIs Try.prog 95 1 8 := ⟨Try.t95, _, by kernel_rfl, rfl, rfl, rfl, rfl, by decide, by decide⟩
instance : SizeIs Try.prog 96 1 := ⟨by kernel_rfl⟩
instance : AggIs Try.prog 96 false := ⟨by kernel_rfl⟩
instance : ZeroIs Try.prog 96 (Value.nilFunc) := ⟨by kernel_rfl⟩
instance : BytesIs Try.prog 96 1 8 := ⟨Try.t96, _, by kernel_rfl, rfl, rfl, rfl, rfl, by decide, by decide⟩
instance : SizeIs Try.prog 97 1 := ⟨by kernel_rfl⟩
instance : AggIs Try.prog 97 false := ⟨by kernel_rfl⟩
instance : ZeroIs Try.prog 97 (Value.nilFunc) := ⟨by kernel_rfl⟩
instance : BytesIs Try.prog 97 1 8 := ⟨Try.t97, _, by kernel_rfl, rfl, rfl, rfl, rfl, by decide, by decide⟩
instance : SizeIs Try.prog 98 1 := ⟨by kernel_rfl⟩
instance : AggIs Try.prog 98 false := ⟨by kernel_rfl⟩
instance : ZeroIs Try.prog 98 (Value.nilFunc) := ⟨by kernel_rfl⟩
instance : BytesIs Try.prog 98 1 8 := ⟨Try.t98, _, by kernel_rfl, rfl, rfl, rfl, rfl, by decide, by decide⟩
instance : SizeIs Try.prog 99 1 := ⟨by kernel_rfl⟩
instance : AggIs Try.prog 99 false := ⟨by kernel_rfl⟩
instance : ZeroIs Try.prog 99 (Value.nilFunc) := ⟨by kernel_rfl⟩
instance : BytesIs Try.prog 99 1 8 := ⟨Try.t99, _, by kernel_rfl, rfl, rfl, rfl, rfl, by decide, by decide⟩
instance : SizeIs Try.prog 100 1 := ⟨by kernel_rfl⟩
instance : AggIs Try.prog 100 false := ⟨by kernel_rfl⟩
instance : ZeroIs Try.prog 100 (Value.nilFunc) := ⟨by kernel_rfl⟩
instance : BytesIs Try.prog 100 1 8 := ⟨Try.t100, _, by kernel_rfl, rfl, rfl, rfl, rfl, by decide, by decide⟩
instance : SizeIs Try.prog 101 1 := ⟨by kernel_rfl⟩
instance : AggIs Try.prog 101 false := ⟨by kernel_rfl⟩
instance : ZeroIs Try.prog 101 (Value.nilFunc) := ⟨by kernel_rfl⟩
instance : BytesIs Try.prog 101 1 8 := ⟨Try.t101, _, by kernel_rfl, rfl, rfl, rfl, rfl, by decide, by decide⟩
instance : SizeIs Try.prog 102 1 := ⟨by kernel_rfl⟩
instance : AggIs Try.prog 102 false := ⟨by kernel_rfl⟩
instance : ZeroIs Try.prog 102 (Value.nilFunc) := ⟨by kernel_rfl⟩
instance : BytesIs Try.prog 102 1 8 := ⟨Try.t102, _, by kernel_rfl, rfl, rfl, rfl, rfl, by decide, by decide⟩
instance : SizeIs Try.prog 103 1 := ⟨by kernel_rfl⟩
instance : AggIs Try.prog 103 false := ⟨by kernel_rfl⟩
instance : ZeroIs Try.prog 103 (Value.nilFunc) := ⟨by kernel_rfl⟩
instance : BytesIs Try.prog 103 1 8 := ⟨Try.t103, _, by kernel_rfl, rfl, rfl, rfl, rfl, by decide, by decide⟩
instance : SizeIs Try.prog 104 1 := ⟨by kernel_rfl⟩
instance : AggIs Try.prog 104 false := ⟨by kernel_rfl⟩
instance : ZeroIs Try.prog 104 (Value.nilFunc) := ⟨by kernel_rfl⟩
instance : BytesIs Try.prog 104 1 8 := ⟨Try.t104, _, by kernel_rfl, rfl, rfl, rfl, rfl, by decide, by decide⟩
instance : SizeIs Try.prog 105 1 := ⟨by kernel_rfl⟩
instance : AggIs Try.prog 105 false := ⟨by kernel_rfl⟩
instance : ZeroIs Try.prog 105 (Value.nilFunc) := ⟨by kernel_rfl⟩
instance : BytesIs Try.prog 105 1 8 := ⟨Try.t105, _, by kernel_rfl, rfl, rfl, rfl, rfl, by decide, by decide⟩
instance : SizeIs Try.prog 106 1 := ⟨by kernel_rfl⟩
instance : AggIs Try.prog 106 false := ⟨by kernel_rfl⟩
instance : ZeroIs Try.prog 106 (Value.nilFunc) := ⟨by kernel_rfl⟩
instance : BytesIs Try.prog 106 1 8 := ⟨Try.t106, _, by kernel_rfl, rfl, rfl, rfl, rfl, by decide, by decide⟩
instance : SizeIs Try.prog 107 1 := ⟨by kernel_rfl⟩
instance : AggIs Try.prog 107 false := ⟨by kernel_rfl⟩
instance : ZeroIs Try.prog 107 (Value.nilFunc) := ⟨by kernel_rfl⟩
instance : BytesIs Try.prog 107 1 8 := ⟨Try.t107, _, by kernel_rfl, rfl, rfl, rfl, rfl, by decide, by decide⟩
instance : FieldIs Try.prog 108 0 0 3 1 := ⟨_, _, Try.underlying108, rfl, rfl, rfl, by kernel_rfl, by decide⟩
instance : FieldIs Try.prog 108 1 1 3 1 := ⟨_, _, Try.underlying108, rfl, rfl, rfl, by kernel_rfl, by decide⟩
instance : FieldIs Try.prog 108 2 2 4 1 := ⟨_, _, Try.underlying108, rfl, rfl, rfl, by kernel_rfl, by decide⟩
instance : FieldIs Try.prog 108 3 3 4 1 := ⟨_, _, Try.underlying108, rfl, rfl, rfl, by kernel_rfl, by decide⟩
instance : FieldIs Try.prog 108 4 4 9 1 := ⟨_, _, Try.underlying108, rfl, rfl, rfl, by kernel_rfl, by decide⟩
instance : FieldIs Try.prog 108 5 5 107 1 := ⟨_, _, Try.underlying108, rfl, rfl, rfl, by kernel_rfl, by decide⟩
instance : StructOk Try.prog 108 := ⟨_, Try.underlying108, by kernel_rfl⟩
instance : SizeIs Try.prog 108 6 := ⟨by kernel_rfl⟩
instance : AggIs Try.prog 108 true := ⟨by kernel_rfl⟩
instance : ZeroIs Try.prog 108 ((Value.agg #[Value.int IntKind.i64 0, Value.int IntKind.i64 0, Value.bool false, Value.bool false, Value.string ByteArray.empty, Value.nilFunc])) := ⟨by kernel_rfl⟩
instance : BytesIs Try.prog 108 6 48 := ⟨Try.t108, _, by kernel_rfl, rfl, rfl, rfl, rfl, by decide, by decide⟩
instance : FieldIs Try.prog 109 0 0 3 1 := ⟨_, _, Try.underlying109, rfl, rfl, rfl, by kernel_rfl, by decide⟩
instance : FieldIs Try.prog 109 1 1 3 1 := ⟨_, _, Try.underlying109, rfl, rfl, rfl, by kernel_rfl, by decide⟩
instance : FieldIs Try.prog 109 2 2 4 1 := ⟨_, _, Try.underlying109, rfl, rfl, rfl, by kernel_rfl, by decide⟩
instance : FieldIs Try.prog 109 3 3 4 1 := ⟨_, _, Try.underlying109, rfl, rfl, rfl, by kernel_rfl, by decide⟩
instance : FieldIs Try.prog 109 4 4 9 1 := ⟨_, _, Try.underlying109, rfl, rfl, rfl, by kernel_rfl, by decide⟩
instance : FieldIs Try.prog 109 5 5 107 1 := ⟨_, _, Try.underlying109, rfl, rfl, rfl, by kernel_rfl, by decide⟩
instance : StructOk Try.prog 109 := ⟨_, Try.underlying109, by kernel_rfl⟩
instance : SizeIs Try.prog 109 6 := ⟨by kernel_rfl⟩
instance : AggIs Try.prog 109 true := ⟨by kernel_rfl⟩
instance : ZeroIs Try.prog 109 ((Value.agg #[Value.int IntKind.i64 0, Value.int IntKind.i64 0, Value.bool false, Value.bool false, Value.string ByteArray.empty, Value.nilFunc])) := ⟨by kernel_rfl⟩
instance : BytesIs Try.prog 109 6 48 := ⟨Try.t109, _, by kernel_rfl, rfl, rfl, rfl, rfl, by decide, by decide⟩
instance : UnderIs Try.prog 111 (.map 9 109) := ⟨Try.underlying111⟩
instance : SizeIs Try.prog 111 1 := ⟨by kernel_rfl⟩
instance : AggIs Try.prog 111 false := ⟨by kernel_rfl⟩
instance : ZeroIs Try.prog 111 ((Value.map none)) := ⟨by kernel_rfl⟩
instance : BytesIs Try.prog 111 1 8 := ⟨Try.t111, _, by kernel_rfl, rfl, rfl, rfl, rfl, by decide, by decide⟩
instance : SizeIs Try.prog 112 1 := ⟨by kernel_rfl⟩
instance : AggIs Try.prog 112 false := ⟨by kernel_rfl⟩
instance : ZeroIs Try.prog 112 (Value.nilFunc) := ⟨by kernel_rfl⟩
instance : BytesIs Try.prog 112 1 8 := ⟨Try.t112, _, by kernel_rfl, rfl, rfl, rfl, rfl, by decide, by decide⟩
instance : UnderIs Try.prog 113 (.slice 22) := ⟨Try.underlying113⟩
instance : SizeIs Try.prog 113 1 := ⟨by kernel_rfl⟩
instance : AggIs Try.prog 113 false := ⟨by kernel_rfl⟩
instance : ZeroIs Try.prog 113 ((Value.slice none 0 0)) := ⟨by kernel_rfl⟩
instance : BytesIs Try.prog 113 1 24 := ⟨Try.t113, _, by kernel_rfl, rfl, rfl, rfl, rfl, by decide, by decide⟩
instance : SizeIs Try.prog 114 1 := ⟨by kernel_rfl⟩
instance : AggIs Try.prog 114 false := ⟨by kernel_rfl⟩
instance : ZeroIs Try.prog 114 (Value.nilFunc) := ⟨by kernel_rfl⟩
instance : BytesIs Try.prog 114 1 8 := ⟨Try.t114, _, by kernel_rfl, rfl, rfl, rfl, rfl, by decide, by decide⟩
instance : SizeIs Try.prog 116 1 := ⟨by kernel_rfl⟩
instance : AggIs Try.prog 116 false := ⟨by kernel_rfl⟩
instance : ZeroIs Try.prog 116 (Value.nilFunc) := ⟨by kernel_rfl⟩
instance : BytesIs Try.prog 116 1 8 := ⟨Try.t116, _, by kernel_rfl, rfl, rfl, rfl, rfl, by decide, by decide⟩
instance : SizeIs Try.prog 117 1 := ⟨by kernel_rfl⟩
instance : AggIs Try.prog 117 false := ⟨by kernel_rfl⟩
instance : ZeroIs Try.prog 117 (Value.nilFunc) := ⟨by kernel_rfl⟩
instance : BytesIs Try.prog 117 1 8 := ⟨Try.t117, _, by kernel_rfl, rfl, rfl, rfl, rfl, by decide, by decide⟩
instance : SizeIs Try.prog 118 1 := ⟨by kernel_rfl⟩
instance : AggIs Try.prog 118 false := ⟨by kernel_rfl⟩
instance : ZeroIs Try.prog 118 (Value.nilFunc) := ⟨by kernel_rfl⟩
instance : BytesIs Try.prog 118 1 8 := ⟨Try.t118, _, by kernel_rfl, rfl, rfl, rfl, rfl, by decide, by decide⟩
instance : SizeIs Try.prog 119 1 := ⟨by kernel_rfl⟩
instance : AggIs Try.prog 119 false := ⟨by kernel_rfl⟩
instance : ZeroIs Try.prog 119 (Value.nilFunc) := ⟨by kernel_rfl⟩
instance : BytesIs Try.prog 119 1 8 := ⟨Try.t119, _, by kernel_rfl, rfl, rfl, rfl, rfl, by decide, by decide⟩
instance : SizeIs Try.prog 120 1 := ⟨by kernel_rfl⟩
instance : AggIs Try.prog 120 false := ⟨by kernel_rfl⟩
instance : ZeroIs Try.prog 120 (Value.nilFunc) := ⟨by kernel_rfl⟩
instance : BytesIs Try.prog 120 1 8 := ⟨Try.t120, _, by kernel_rfl, rfl, rfl, rfl, rfl, by decide, by decide⟩
instance : SizeIs Try.prog 121 1 := ⟨by kernel_rfl⟩
instance : AggIs Try.prog 121 false := ⟨by kernel_rfl⟩
instance : ZeroIs Try.prog 121 (Value.nilFunc) := ⟨by kernel_rfl⟩
instance : BytesIs Try.prog 121 1 8 := ⟨Try.t121, _, by kernel_rfl, rfl, rfl, rfl, rfl, by decide, by decide⟩
instance : SizeIs Try.prog 122 1 := ⟨by kernel_rfl⟩
instance : AggIs Try.prog 122 false := ⟨by kernel_rfl⟩
instance : ZeroIs Try.prog 122 (Value.nilFunc) := ⟨by kernel_rfl⟩
instance : BytesIs Try.prog 122 1 8 := ⟨Try.t122, _, by kernel_rfl, rfl, rfl, rfl, rfl, by decide, by decide⟩
instance : SizeIs Try.prog 123 1 := ⟨by kernel_rfl⟩
instance : AggIs Try.prog 123 false := ⟨by kernel_rfl⟩
instance : ZeroIs Try.prog 123 (Value.nilFunc) := ⟨by kernel_rfl⟩
instance : BytesIs Try.prog 123 1 8 := ⟨Try.t123, _, by kernel_rfl, rfl, rfl, rfl, rfl, by decide, by decide⟩
instance : SizeIs Try.prog 124 1 := ⟨by kernel_rfl⟩
instance : AggIs Try.prog 124 false := ⟨by kernel_rfl⟩
instance : ZeroIs Try.prog 124 (Value.nilFunc) := ⟨by kernel_rfl⟩
instance : BytesIs Try.prog 124 1 8 := ⟨Try.t124, _, by kernel_rfl, rfl, rfl, rfl, rfl, by decide, by decide⟩
instance : SizeIs Try.prog 125 1 := ⟨by kernel_rfl⟩
instance : AggIs Try.prog 125 false := ⟨by kernel_rfl⟩
instance : ZeroIs Try.prog 125 (Value.nilFunc) := ⟨by kernel_rfl⟩
instance : BytesIs Try.prog 125 1 8 := ⟨Try.t125, _, by kernel_rfl, rfl, rfl, rfl, rfl, by decide, by decide⟩
instance : SizeIs Try.prog 126 1 := ⟨by kernel_rfl⟩
instance : AggIs Try.prog 126 false := ⟨by kernel_rfl⟩
instance : ZeroIs Try.prog 126 (Value.nilFunc) := ⟨by kernel_rfl⟩
instance : BytesIs Try.prog 126 1 8 := ⟨Try.t126, _, by kernel_rfl, rfl, rfl, rfl, rfl, by decide, by decide⟩
instance : SizeIs Try.prog 127 1 := ⟨by kernel_rfl⟩
instance : AggIs Try.prog 127 false := ⟨by kernel_rfl⟩
instance : ZeroIs Try.prog 127 (Value.nilFunc) := ⟨by kernel_rfl⟩
instance : BytesIs Try.prog 127 1 8 := ⟨Try.t127, _, by kernel_rfl, rfl, rfl, rfl, rfl, by decide, by decide⟩
instance : SizeIs Try.prog 128 1 := ⟨by kernel_rfl⟩
instance : AggIs Try.prog 128 false := ⟨by kernel_rfl⟩
instance : ZeroIs Try.prog 128 (Value.nilFunc) := ⟨by kernel_rfl⟩
instance : BytesIs Try.prog 128 1 8 := ⟨Try.t128, _, by kernel_rfl, rfl, rfl, rfl, rfl, by decide, by decide⟩
instance : SizeIs Try.prog 129 1 := ⟨by kernel_rfl⟩
instance : AggIs Try.prog 129 false := ⟨by kernel_rfl⟩
instance : ZeroIs Try.prog 129 (Value.nilFunc) := ⟨by kernel_rfl⟩
instance : BytesIs Try.prog 129 1 8 := ⟨Try.t129, _, by kernel_rfl, rfl, rfl, rfl, rfl, by decide, by decide⟩
instance : UnderIs Try.prog 130 (.int IntKind.u64) := ⟨Try.underlying130⟩
instance : SizeIs Try.prog 130 1 := ⟨by kernel_rfl⟩
instance : AggIs Try.prog 130 false := ⟨by kernel_rfl⟩
instance : ZeroIs Try.prog 130 ((Value.int IntKind.u64 0)) := ⟨by kernel_rfl⟩
instance : BytesIs Try.prog 130 1 8 := ⟨Try.t130, _, by kernel_rfl, rfl, rfl, rfl, rfl, by decide, by decide⟩
instance : SizeIs Try.prog 131 1 := ⟨by kernel_rfl⟩
instance : AggIs Try.prog 131 false := ⟨by kernel_rfl⟩
instance : ZeroIs Try.prog 131 (Value.nilFunc) := ⟨by kernel_rfl⟩
instance : BytesIs Try.prog 131 1 8 := ⟨Try.t131, _, by kernel_rfl, rfl, rfl, rfl, rfl, by decide, by decide⟩
instance : UnderIs Try.prog 132 (.slice 134) := ⟨Try.underlying132⟩
instance : SizeIs Try.prog 132 1 := ⟨by kernel_rfl⟩
instance : AggIs Try.prog 132 false := ⟨by kernel_rfl⟩
instance : ZeroIs Try.prog 132 ((Value.slice none 0 0)) := ⟨by kernel_rfl⟩
instance : BytesIs Try.prog 132 1 24 := ⟨Try.t132, _, by kernel_rfl, rfl, rfl, rfl, rfl, by decide, by decide⟩
instance : FieldIs Try.prog 133 0 0 3 1 := ⟨_, _, Try.underlying133, rfl, rfl, rfl, by kernel_rfl, by decide⟩
instance : FieldIs Try.prog 133 1 1 3 1 := ⟨_, _, Try.underlying133, rfl, rfl, rfl, by kernel_rfl, by decide⟩
instance : FieldIs Try.prog 133 2 2 3 1 := ⟨_, _, Try.underlying133, rfl, rfl, rfl, by kernel_rfl, by decide⟩
instance : StructOk Try.prog 133 := ⟨_, Try.underlying133, by kernel_rfl⟩
instance : SizeIs Try.prog 133 3 := ⟨by kernel_rfl⟩
instance : AggIs Try.prog 133 true := ⟨by kernel_rfl⟩
instance : ZeroIs Try.prog 133 ((Value.agg #[Value.int IntKind.i64 0, Value.int IntKind.i64 0, Value.int IntKind.i64 0])) := ⟨by kernel_rfl⟩
instance : BytesIs Try.prog 133 3 24 := ⟨Try.t133, _, by kernel_rfl, rfl, rfl, rfl, rfl, by decide, by decide⟩
instance : FieldIs Try.prog 134 0 0 3 1 := ⟨_, _, Try.underlying134, rfl, rfl, rfl, by kernel_rfl, by decide⟩
instance : FieldIs Try.prog 134 1 1 3 1 := ⟨_, _, Try.underlying134, rfl, rfl, rfl, by kernel_rfl, by decide⟩
instance : FieldIs Try.prog 134 2 2 3 1 := ⟨_, _, Try.underlying134, rfl, rfl, rfl, by kernel_rfl, by decide⟩
instance : StructOk Try.prog 134 := ⟨_, Try.underlying134, by kernel_rfl⟩
instance : SizeIs Try.prog 134 3 := ⟨by kernel_rfl⟩
instance : AggIs Try.prog 134 true := ⟨by kernel_rfl⟩
instance : ZeroIs Try.prog 134 ((Value.agg #[Value.int IntKind.i64 0, Value.int IntKind.i64 0, Value.int IntKind.i64 0])) := ⟨by kernel_rfl⟩
instance : BytesIs Try.prog 134 3 24 := ⟨Try.t134, _, by kernel_rfl, rfl, rfl, rfl, rfl, by decide, by decide⟩
instance : SizeIs Try.prog 135 1 := ⟨by kernel_rfl⟩
instance : AggIs Try.prog 135 false := ⟨by kernel_rfl⟩
instance : ZeroIs Try.prog 135 (Value.nilFunc) := ⟨by kernel_rfl⟩
instance : BytesIs Try.prog 135 1 8 := ⟨Try.t135, _, by kernel_rfl, rfl, rfl, rfl, rfl, by decide, by decide⟩
instance : FieldIs Try.prog 136 0 0 17 1 := ⟨_, _, Try.underlying136, rfl, rfl, rfl, by kernel_rfl, by decide⟩
instance : FieldIs Try.prog 136 1 1 17 1 := ⟨_, _, Try.underlying136, rfl, rfl, rfl, by kernel_rfl, by decide⟩
instance : FieldIs Try.prog 136 2 2 17 1 := ⟨_, _, Try.underlying136, rfl, rfl, rfl, by kernel_rfl, by decide⟩
instance : FieldIs Try.prog 136 3 3 9 1 := ⟨_, _, Try.underlying136, rfl, rfl, rfl, by kernel_rfl, by decide⟩
instance : StructOk Try.prog 136 := ⟨_, Try.underlying136, by kernel_rfl⟩
instance : SizeIs Try.prog 136 4 := ⟨by kernel_rfl⟩
instance : AggIs Try.prog 136 true := ⟨by kernel_rfl⟩
instance : ZeroIs Try.prog 136 ((Value.agg #[Value.pointer none, Value.pointer none, Value.pointer none, Value.string ByteArray.empty])) := ⟨by kernel_rfl⟩
instance : BytesIs Try.prog 136 4 40 := ⟨Try.t136, _, by kernel_rfl, rfl, rfl, rfl, rfl, by decide, by decide⟩
instance : FieldIs Try.prog 137 0 0 17 1 := ⟨_, _, Try.underlying137, rfl, rfl, rfl, by kernel_rfl, by decide⟩
instance : FieldIs Try.prog 137 1 1 17 1 := ⟨_, _, Try.underlying137, rfl, rfl, rfl, by kernel_rfl, by decide⟩
instance : FieldIs Try.prog 137 2 2 17 1 := ⟨_, _, Try.underlying137, rfl, rfl, rfl, by kernel_rfl, by decide⟩
instance : FieldIs Try.prog 137 3 3 9 1 := ⟨_, _, Try.underlying137, rfl, rfl, rfl, by kernel_rfl, by decide⟩
instance : StructOk Try.prog 137 := ⟨_, Try.underlying137, by kernel_rfl⟩
instance : SizeIs Try.prog 137 4 := ⟨by kernel_rfl⟩
instance : AggIs Try.prog 137 true := ⟨by kernel_rfl⟩
instance : ZeroIs Try.prog 137 ((Value.agg #[Value.pointer none, Value.pointer none, Value.pointer none, Value.string ByteArray.empty])) := ⟨by kernel_rfl⟩
instance : BytesIs Try.prog 137 4 40 := ⟨Try.t137, _, by kernel_rfl, rfl, rfl, rfl, rfl, by decide, by decide⟩
instance : UnderIs Try.prog 138 (.array 0 16) := ⟨Try.underlying138⟩
instance : SizeIs Try.prog 138 0 := ⟨by kernel_rfl⟩
instance : AggIs Try.prog 138 true := ⟨by kernel_rfl⟩
instance : StructOk Try.prog 139 := ⟨_, Try.underlying139, by kernel_rfl⟩
instance : SizeIs Try.prog 139 0 := ⟨by kernel_rfl⟩
instance : AggIs Try.prog 139 true := ⟨by kernel_rfl⟩
instance : StructOk Try.prog 140 := ⟨_, Try.underlying140, by kernel_rfl⟩
instance : SizeIs Try.prog 140 0 := ⟨by kernel_rfl⟩
instance : AggIs Try.prog 140 true := ⟨by kernel_rfl⟩
instance : SizeIs Try.prog 141 1 := ⟨by kernel_rfl⟩
instance : AggIs Try.prog 141 false := ⟨by kernel_rfl⟩
instance : ZeroIs Try.prog 141 (Value.nilFunc) := ⟨by kernel_rfl⟩
instance : BytesIs Try.prog 141 1 8 := ⟨Try.t141, _, by kernel_rfl, rfl, rfl, rfl, rfl, by decide, by decide⟩
instance : UnderIs Try.prog 142 (.int IntKind.u32) := ⟨Try.underlying142⟩
instance : SizeIs Try.prog 142 1 := ⟨by kernel_rfl⟩
instance : AggIs Try.prog 142 false := ⟨by kernel_rfl⟩
instance : ZeroIs Try.prog 142 ((Value.int IntKind.u32 0)) := ⟨by kernel_rfl⟩
instance : BytesIs Try.prog 142 1 4 := ⟨Try.t142, _, by kernel_rfl, rfl, rfl, rfl, rfl, by decide, by decide⟩
instance : UnderIs Try.prog 143 (.int IntKind.u8) := ⟨Try.underlying143⟩
instance : SizeIs Try.prog 143 1 := ⟨by kernel_rfl⟩
instance : AggIs Try.prog 143 false := ⟨by kernel_rfl⟩
instance : ZeroIs Try.prog 143 ((Value.int IntKind.u8 0)) := ⟨by kernel_rfl⟩
instance : BytesIs Try.prog 143 1 1 := ⟨Try.t143, _, by kernel_rfl, rfl, rfl, rfl, rfl, by decide, by decide⟩
instance : UnderIs Try.prog 144 (.int IntKind.u8) := ⟨Try.underlying144⟩
instance : SizeIs Try.prog 144 1 := ⟨by kernel_rfl⟩
instance : AggIs Try.prog 144 false := ⟨by kernel_rfl⟩
instance : ZeroIs Try.prog 144 ((Value.int IntKind.u8 0)) := ⟨by kernel_rfl⟩
instance : BytesIs Try.prog 144 1 1 := ⟨Try.t144, _, by kernel_rfl, rfl, rfl, rfl, rfl, by decide, by decide⟩
instance : SizeIs Try.prog 145 1 := ⟨by kernel_rfl⟩
instance : AggIs Try.prog 145 false := ⟨by kernel_rfl⟩
instance : ZeroIs Try.prog 145 (Value.nilFunc) := ⟨by kernel_rfl⟩
instance : BytesIs Try.prog 145 1 8 := ⟨Try.t145, _, by kernel_rfl, rfl, rfl, rfl, rfl, by decide, by decide⟩
instance : UnderIs Try.prog 146 (.pointer 5) := ⟨Try.underlying146⟩
instance : SizeIs Try.prog 146 1 := ⟨by kernel_rfl⟩
instance : AggIs Try.prog 146 false := ⟨by kernel_rfl⟩
instance : ZeroIs Try.prog 146 ((Value.pointer none)) := ⟨by kernel_rfl⟩
instance : BytesIs Try.prog 146 1 8 := ⟨Try.t146, _, by kernel_rfl, rfl, rfl, rfl, rfl, by decide, by decide⟩
instance : UnderIs Try.prog 147 (.int IntKind.i32) := ⟨Try.underlying147⟩
instance : SizeIs Try.prog 147 1 := ⟨by kernel_rfl⟩
instance : AggIs Try.prog 147 false := ⟨by kernel_rfl⟩
instance : ZeroIs Try.prog 147 ((Value.int IntKind.i32 0)) := ⟨by kernel_rfl⟩
instance : BytesIs Try.prog 147 1 4 := ⟨Try.t147, _, by kernel_rfl, rfl, rfl, rfl, rfl, by decide, by decide⟩
instance : UnderIs Try.prog 148 (.int IntKind.i32) := ⟨Try.underlying148⟩
instance : SizeIs Try.prog 148 1 := ⟨by kernel_rfl⟩
instance : AggIs Try.prog 148 false := ⟨by kernel_rfl⟩
instance : ZeroIs Try.prog 148 ((Value.int IntKind.i32 0)) := ⟨by kernel_rfl⟩
instance : BytesIs Try.prog 148 1 4 := ⟨Try.t148, _, by kernel_rfl, rfl, rfl, rfl, rfl, by decide, by decide⟩
instance : FieldIs Try.prog 149 0 0 12 1 := ⟨_, _, Try.underlying149, rfl, rfl, rfl, by kernel_rfl, by decide⟩
instance : FieldIs Try.prog 149 1 1 12 1 := ⟨_, _, Try.underlying149, rfl, rfl, rfl, by kernel_rfl, by decide⟩
instance : FieldIs Try.prog 149 2 2 142 1 := ⟨_, _, Try.underlying149, rfl, rfl, rfl, by kernel_rfl, by decide⟩
instance : FieldIs Try.prog 149 3 3 143 1 := ⟨_, _, Try.underlying149, rfl, rfl, rfl, by kernel_rfl, by decide⟩
instance : FieldIs Try.prog 149 4 4 5 1 := ⟨_, _, Try.underlying149, rfl, rfl, rfl, by kernel_rfl, by decide⟩
instance : FieldIs Try.prog 149 5 5 5 1 := ⟨_, _, Try.underlying149, rfl, rfl, rfl, by kernel_rfl, by decide⟩
instance : FieldIs Try.prog 149 6 6 144 1 := ⟨_, _, Try.underlying149, rfl, rfl, rfl, by kernel_rfl, by decide⟩
instance : FieldIs Try.prog 149 7 7 145 1 := ⟨_, _, Try.underlying149, rfl, rfl, rfl, by kernel_rfl, by decide⟩
instance : FieldIs Try.prog 149 8 8 146 1 := ⟨_, _, Try.underlying149, rfl, rfl, rfl, by kernel_rfl, by decide⟩
instance : FieldIs Try.prog 149 9 9 147 1 := ⟨_, _, Try.underlying149, rfl, rfl, rfl, by kernel_rfl, by decide⟩
instance : FieldIs Try.prog 149 10 10 148 1 := ⟨_, _, Try.underlying149, rfl, rfl, rfl, by kernel_rfl, by decide⟩
instance : StructOk Try.prog 149 := ⟨_, Try.underlying149, by kernel_rfl⟩
instance : SizeIs Try.prog 149 11 := ⟨by kernel_rfl⟩
instance : AggIs Try.prog 149 true := ⟨by kernel_rfl⟩
instance : ZeroIs Try.prog 149 ((Value.agg #[Value.int IntKind.u64 0, Value.int IntKind.u64 0, Value.int IntKind.u32 0, Value.int IntKind.u8 0, Value.int IntKind.u8 0, Value.int IntKind.u8 0, Value.int IntKind.u8 0, Value.nilFunc, Value.pointer none, Value.int IntKind.i32 0, Value.int IntKind.i32 0])) := ⟨by kernel_rfl⟩
instance : BytesIs Try.prog 149 11 48 := ⟨Try.t149, _, by kernel_rfl, rfl, rfl, rfl, rfl, by decide, by decide⟩
instance : FieldIs Try.prog 150 0 0 12 1 := ⟨_, _, Try.underlying150, rfl, rfl, rfl, by kernel_rfl, by decide⟩
instance : FieldIs Try.prog 150 1 1 12 1 := ⟨_, _, Try.underlying150, rfl, rfl, rfl, by kernel_rfl, by decide⟩
instance : FieldIs Try.prog 150 2 2 142 1 := ⟨_, _, Try.underlying150, rfl, rfl, rfl, by kernel_rfl, by decide⟩
instance : FieldIs Try.prog 150 3 3 143 1 := ⟨_, _, Try.underlying150, rfl, rfl, rfl, by kernel_rfl, by decide⟩
instance : FieldIs Try.prog 150 4 4 5 1 := ⟨_, _, Try.underlying150, rfl, rfl, rfl, by kernel_rfl, by decide⟩
instance : FieldIs Try.prog 150 5 5 5 1 := ⟨_, _, Try.underlying150, rfl, rfl, rfl, by kernel_rfl, by decide⟩
instance : FieldIs Try.prog 150 6 6 144 1 := ⟨_, _, Try.underlying150, rfl, rfl, rfl, by kernel_rfl, by decide⟩
instance : FieldIs Try.prog 150 7 7 145 1 := ⟨_, _, Try.underlying150, rfl, rfl, rfl, by kernel_rfl, by decide⟩
instance : FieldIs Try.prog 150 8 8 146 1 := ⟨_, _, Try.underlying150, rfl, rfl, rfl, by kernel_rfl, by decide⟩
instance : FieldIs Try.prog 150 9 9 147 1 := ⟨_, _, Try.underlying150, rfl, rfl, rfl, by kernel_rfl, by decide⟩
instance : FieldIs Try.prog 150 10 10 148 1 := ⟨_, _, Try.underlying150, rfl, rfl, rfl, by kernel_rfl, by decide⟩
instance : StructOk Try.prog 150 := ⟨_, Try.underlying150, by kernel_rfl⟩
instance : SizeIs Try.prog 150 11 := ⟨by kernel_rfl⟩
instance : AggIs Try.prog 150 true := ⟨by kernel_rfl⟩
instance : ZeroIs Try.prog 150 ((Value.agg #[Value.int IntKind.u64 0, Value.int IntKind.u64 0, Value.int IntKind.u32 0, Value.int IntKind.u8 0, Value.int IntKind.u8 0, Value.int IntKind.u8 0, Value.int IntKind.u8 0, Value.nilFunc, Value.pointer none, Value.int IntKind.i32 0, Value.int IntKind.i32 0])) := ⟨by kernel_rfl⟩
instance : BytesIs Try.prog 150 11 48 := ⟨Try.t150, _, by kernel_rfl, rfl, rfl, rfl, rfl, by decide, by decide⟩
instance : SizeIs Try.prog 151 1 := ⟨by kernel_rfl⟩
instance : AggIs Try.prog 151 false := ⟨by kernel_rfl⟩
instance : ZeroIs Try.prog 151 (Value.nilFunc) := ⟨by kernel_rfl⟩
instance : BytesIs Try.prog 151 1 8 := ⟨Try.t151, _, by kernel_rfl, rfl, rfl, rfl, rfl, by decide, by decide⟩
instance : FieldIs Try.prog 154 0 0 153 1 := ⟨_, _, Try.underlying154, rfl, rfl, rfl, by kernel_rfl, by decide⟩
instance : FieldIs Try.prog 154 1 1 153 1 := ⟨_, _, Try.underlying154, rfl, rfl, rfl, by kernel_rfl, by decide⟩
instance : StructOk Try.prog 154 := ⟨_, Try.underlying154, by kernel_rfl⟩
instance : SizeIs Try.prog 154 2 := ⟨by kernel_rfl⟩
instance : AggIs Try.prog 154 true := ⟨by kernel_rfl⟩
instance : FieldIs Try.prog 155 0 0 153 1 := ⟨_, _, Try.underlying155, rfl, rfl, rfl, by kernel_rfl, by decide⟩
instance : FieldIs Try.prog 155 1 1 153 1 := ⟨_, _, Try.underlying155, rfl, rfl, rfl, by kernel_rfl, by decide⟩
instance : StructOk Try.prog 155 := ⟨_, Try.underlying155, by kernel_rfl⟩
instance : SizeIs Try.prog 155 2 := ⟨by kernel_rfl⟩
instance : AggIs Try.prog 155 true := ⟨by kernel_rfl⟩
instance : FieldIs Try.prog 156 0 0 155 2 := ⟨_, _, Try.underlying156, rfl, rfl, rfl, by kernel_rfl, by decide⟩
instance : FieldIs Try.prog 156 1 2 3 1 := ⟨_, _, Try.underlying156, rfl, rfl, rfl, by kernel_rfl, by decide⟩
instance : StructOk Try.prog 156 := ⟨_, Try.underlying156, by kernel_rfl⟩
instance : SizeIs Try.prog 156 3 := ⟨by kernel_rfl⟩
instance : AggIs Try.prog 156 true := ⟨by kernel_rfl⟩
instance : FieldIs Try.prog 157 0 0 155 2 := ⟨_, _, Try.underlying157, rfl, rfl, rfl, by kernel_rfl, by decide⟩
instance : FieldIs Try.prog 157 1 2 3 1 := ⟨_, _, Try.underlying157, rfl, rfl, rfl, by kernel_rfl, by decide⟩
instance : StructOk Try.prog 157 := ⟨_, Try.underlying157, by kernel_rfl⟩
instance : SizeIs Try.prog 157 3 := ⟨by kernel_rfl⟩
instance : AggIs Try.prog 157 true := ⟨by kernel_rfl⟩
end Go.Ideal

-- La
set_option linter.unusedSimpArgs false
set_option linter.unusedVariables false
namespace Go.Ideal
open Go Go.Proofs
/-! ### Words of 64 bits -/
def w64 (x : Nat) : Value := .int .u64 x
def u64s (xs : List Nat) : List Value := xs.map fun (x : Nat) => Value.int .u64 (x : Int)
theorem u64s_len (xs : List Nat) : (u64s xs).length = xs.length := by simp [u64s]
theorem u64s_at {xs : List Nat} {i : Nat} {v : Value} (h : (u64s xs)[i]? = some v) : ∃ x : Nat, v = .int .u64 x ∧ xs[i]? = some x := by
  simp only [u64s, List.getElem?_map, Option.map_eq_some_iff] at h
  obtain ⟨x, h1, rfl⟩ := h
  exact ⟨x, rfl, h1⟩
theorem wrap_u64_id {z : Int} (h0 : 0 ≤ z) (h : z < 2 ^ 64) : IntKind.u64.wrap z = z := by
  simp only [IntKind.wrap, IntKind.bits, IntKind.signed]; simp; omega
theorem bvNat {x : Nat} (h : x < 2 ^ 64) : (BitVec.ofInt IntKind.u64.bits (x : Int)).toNat = x := by
  have hb : IntKind.u64.bits = 64 := rfl
  simp only [BitVec.toNat_ofInt, hb]
  omega
theorem and_u64 {a b : Nat} (ha : a < 2 ^ 64) (hb : b < 2 ^ 64) : ibits .and .u64 a b = (a &&& b : Nat) := by
  show IntKind.u64.wrap (((BitVec.ofInt IntKind.u64.bits a) &&& (BitVec.ofInt IntKind.u64.bits b)).toNat : Int) = _
  rw [BitVec.toNat_and, bvNat ha, bvNat hb]
  have := Nat.and_lt_two_pow a hb
  exact wrap_u64_id (by omega) (by omega)
theorem or_u64 {a b : Nat} (ha : a < 2 ^ 64) (hb : b < 2 ^ 64) : ibits .or .u64 a b = (a ||| b : Nat) := by
  show IntKind.u64.wrap (((BitVec.ofInt IntKind.u64.bits a) ||| (BitVec.ofInt IntKind.u64.bits b)).toNat : Int) = _
  rw [BitVec.toNat_or, bvNat ha, bvNat hb]
  have := Nat.or_lt_two_pow ha hb
  exact wrap_u64_id (by omega) (by omega)
theorem xor_u64 {a b : Nat} (ha : a < 2 ^ 64) (hb : b < 2 ^ 64) : ibits .xor .u64 a b = (a ^^^ b : Nat) := by
  show IntKind.u64.wrap (((BitVec.ofInt IntKind.u64.bits a) ^^^ (BitVec.ofInt IntKind.u64.bits b)).toNat : Int) = _
  rw [BitVec.toNat_xor, bvNat ha, bvNat hb]
  have := Nat.xor_lt_two_pow ha hb
  exact wrap_u64_id (by omega) (by omega)
theorem shr_u64 {a : Nat} {n : Int} (h0 : 0 ≤ n) (ha : a < 2 ^ 64) : ((a : Int)).fdiv (2 ^ min n.toNat IntKind.u64.bits) = (a >>> n.toNat : Nat) := by
  have hb : IntKind.u64.bits = 64 := rfl
  rw [hb, Nat.shiftRight_eq_div_pow]
  have h2 : (2 : Int) ^ min n.toNat 64 = ((2 ^ min n.toNat 64 : Nat) : Int) := by simp
  rw [h2, Int.fdiv_eq_ediv_of_nonneg _ (Int.natCast_nonneg _), ← Int.natCast_ediv]
  congr 1
  by_cases hn : n.toNat ≤ 64
  · rw [Nat.min_eq_left hn]
  · rw [Nat.min_eq_right (by omega), Nat.div_eq_of_lt ha, Nat.div_eq_of_lt]
    exact Nat.lt_of_lt_of_le ha (Nat.pow_le_pow_right (by decide) (by omega))
def belowS (n : Int) (x : Nat) : Bool := decide (64 ≤ n) || decide (x >>> n.toNat = 0)
theorem below_spec (x : Nat) (hx : x < 2 ^ 64) (n : Int) (hn : 0 ≤ n) (h : IHp) : EvX Try.prog 67 [.int .u64 x, .int .i64 n].toArray h (fun v h' => v = .bool (belowS n x) ∧ h' = h) := by
  refine EvX_of Try.func67 rfl (by show 2 ≤ 13; decide) ?_
  repeat' (first | refine V_seq ?_ | refine V_region ?_ | refine WS_nil ?_ | refine S_normal ?_ | refine V_ret ?_ | refine WS_off rfl (by first | rfl | assumption) ?_ | refine WS_on rfl (by first | rfl | assumption) ?_ | refine WS_move ?_ | refine WS_assign ?_ | refine WS_pick_t (by first | rfl | assumption) ?_ | refine WS_pick_f (by first | rfl | assumption) ?_ | refine WS_cmp rfl ?_ | refine WS_shift (by first | decide | omega) rfl ?_ | (refine WS_guard rfl ?_ ?_ <;> intro hg))
  · refine retK_1 ⟨?_, rfl⟩ (.inr rfl)
    rw [shr_u64 hn hx]
    simp only [belowS, hg, Bool.false_or]
    exact congrArg Value.bool (decide_eq_decide.2 Int.natCast_eq_zero)
  · refine retK_1 ⟨?_, rfl⟩ (.inr rfl)
    simp at hg
    simp [hg, belowS]
theorem below_ref (x : Nat) (hx : x < 2 ^ 64) (n : Int) (hn : 0 ≤ n ∧ n ≤ 64) (h : IHp) : EvX Try.prog 71 [.int .u64 x, .int .i64 n].toArray h (fun v h' => v = .bool (belowS n x) ∧ h' = h) := by
  refine EvX_of Try.func71 rfl (by show 2 ≤ 13; decide) ?_
  repeat' (first | refine V_seq ?_ | refine V_region ?_ | refine WS_nil ?_ | refine S_normal ?_ | refine V_ret ?_ | refine WS_off rfl (by first | rfl | assumption) ?_ | refine WS_on rfl (by first | rfl | assumption) ?_ | refine WS_move ?_ | refine WS_assign ?_ | refine WS_pick_t (by first | rfl | assumption) ?_ | refine WS_pick_f (by first | rfl | assumption) ?_ | refine WS_cmp rfl ?_ | refine WS_shift (by first | decide | omega) rfl ?_ | (refine WS_guard rfl ?_ ?_ <;> intro hg))
  · refine retK_1 ⟨?_, rfl⟩ (.inr rfl)
    rw [shr_u64 hn.1 hx]
    simp at hg
    have : ¬ 64 ≤ n := by omega
    simp only [belowS, this, decide_false, Bool.false_or]
    exact congrArg Value.bool (decide_eq_decide.2 Int.natCast_eq_zero)
  · refine retK_1 ⟨?_, rfl⟩ (.inr rfl)
    simp at hg
    simp [hg, belowS]
instance : CallIs Try.prog 71 := .of Try.func71 rfl rfl
instance : CallIs Try.prog 67 := .of Try.func67 rfl rfl
def checkS (N : Int) (xs : List Nat) : Int := if N < 0 ∨ 64 < N ∨ (xs.length : Int) ≠ N then 2 else if xs.all (belowS N) then 0 else 2
theorem Check_spec (N : Int) (a : Option Addr) (len cap : Nat) (xs : List Nat) (h : IHp) (hx : SlIs h a len cap (u64s xs)) (h64 : ∀ x ∈ xs, x < 2 ^ 64) :
    EvX Try.prog 43 [.agg [.int .i64 N, .slice a len cap].toArray].toArray h (fun v h' => v = .int .i64 (checkS N xs) ∧ Ext h h') := by
  have hlen : xs.length = len := by have := hx.1; simpa [u64s] using this
  refine EvX_of Try.func43 rfl (by show 1 ≤ 34; decide) ?_
  repeat' (first | refine V_seq ?_ | refine V_region ?_ | refine WS_nil ?_ | refine S_normal ?_ | refine V_block ?_ | refine V_skip ?_ | refine V_ret ?_ | refine S_ret ?_ | refine WS_off rfl (by first | rfl | assumption) ?_ | refine WS_on rfl (by first | rfl | assumption) ?_ | refine WS_move ?_ | refine WS_assign ?_ | refine WS_pick_t (by first | rfl | assumption) ?_ | refine WS_pick_f (by first | rfl | assumption) ?_ | refine WS_cmp rfl ?_ | refine WS_len_slice ?_ | refine WS_fieldAddr ?_ | refine WS_load ?_ | refine WS_box_agg rfl ?_ | (refine WS_guard rfl ?_ ?_ <;> intro hg) | (refine V_cond ?_ ?_ <;> intro hc <;> try (cases hc; done)))
  · refine retK_1 ⟨?_, Ext.push _ _⟩ (.inr rfl)
    simp only [checkS]; rw [if_pos]; simp at hc; omega
  · have hN : ¬ N < 0 ∧ ¬ 64 < N ∧ (len : Int) = N := by simp_all
    obtain ⟨H, hH⟩ : ∃ H, H = h.push (IObj.cells [Value.int IntKind.i64 N, Value.slice a len cap] 50 true) := ⟨_, rfl⟩
    have eH : Ext h H := hH ▸ Ext.push _ _
    have c0 : CellIs H h.fresh (0 + 0) (.int .i64 N) := hH ▸ inferInstance
    rw [← hH]
    refine V_loop (fun d s h' => ∃ i : Int, d = (len - i).toNat ∧ 0 ≤ i ∧ i ≤ len ∧ Get s 24 (.int .i64 i) ∧ Get s 23 (.int .i64 len) ∧ Get s 22 (.slice a len cap) ∧ Get s 1 (.pointer (some (ad h.fresh 0))) ∧ h' = H ∧ (xs.take i.toNat).all (belowS N) = true) len ⟨0, by omega, by omega, by omega, inferInstance, inferInstance, inferInstance, inferInstance, rfl, by simp⟩ ?_
    rintro d s h' ⟨i, rfl, hi0, hi1, g24, g23, g22, g1, rfl, hP⟩
    repeat' (first | refine V_seq ?_ | refine V_region ?_ | refine WS_nil ?_ | refine S_normal ?_ | refine V_block ?_ | refine V_skip ?_ | refine V_exit ?_ | refine V_ret ?_ | refine S_exit ?_ | refine B_exit ?_ | refine WS_assign ?_ | refine WS_cmp rfl ?_ | (refine V_cond ?_ ?_ <;> intro hc <;> try (cases hc; done)))
    · have hi : i < len := by simpa using hc
      obtain ⟨b, v, rfl, hv, c1⟩ := (hx.ext eH).at hi0 hi
      obtain ⟨x, rfl, hx1⟩ := u64s_at hv
      repeat' (first | refine V_seq ?_ | refine V_region ?_ | refine WS_nil ?_ | refine S_normal ?_ | refine WS_move ?_ | refine WS_assign ?_ | refine WS_fieldAddr ?_ | refine WS_load ?_ | refine WS_indexAddr (by first | decide | omega) ?_)
      refine WS_call (below_spec x (h64 x (List.mem_of_getElem? hx1)) N (by omega) _) ?_
      rintro _ _ ⟨rfl, rfl⟩
      repeat' (first | refine V_seq ?_ | refine V_region ?_ | refine WS_nil ?_ | refine S_normal ?_ | refine B_normal ?_ | refine V_skip ?_ | refine V_ret ?_ | refine S_ret ?_ | refine B_ret ?_ | refine WS_move ?_ | refine WS_assign ?_ | refine WS_addi (by omega) ?_ | refine WS_not ?_ | (refine V_cond ?_ ?_ <;> intro hc <;> try (cases hc; done)))
      · refine retK_1 ⟨?_, eH⟩ (.inr rfl)
        simp only [checkS]; rw [if_neg (by omega), if_neg]
        intro hall
        rw [List.all_eq_true] at hall
        have := hall x (List.mem_of_getElem? hx1)
        simp_all
      · refine ⟨_, ?_, i + 1, rfl, by omega, by omega, inferInstance, inferInstance, inferInstance, inferInstance, rfl, ?_⟩
        · omega
        · have : (i + 1).toNat = i.toNat + 1 := by omega
          rw [this, List.take_add_one, hx1]
          simp_all
    · have hi : i = len := by simp at hc; omega
      refine retK_1 ⟨?_, eH⟩ (.inr rfl)
      simp only [checkS]; rw [if_neg (by omega), if_pos]
      rw [hi, Int.toNat_natCast, List.take_of_length_le (by omega)] at hP
      exact hP
  · refine retK_1 ⟨?_, Ext.push _ _⟩ (.inr rfl)
    simp only [checkS]; rw [if_pos]; simp at hg; omega
  · refine retK_1 ⟨?_, Ext.push _ _⟩ (.inr rfl)
    simp only [checkS]; rw [if_pos]; simp at hg; omega
instance : CallIs Try.prog 43 := .of Try.func43 rfl rfl
def eyeS (n : Int) : List Nat := (List.range n.toNat).map fun i => 2 ^ i
theorem eyeS_succ {i : Int} (h : 0 ≤ i) : u64s (eyeS (i + 1)) = u64s (eyeS i) ++ [.int .u64 (2 ^ i.toNat : Nat)] := by
  have : (i + 1).toNat = i.toNat + 1 := by omega
  simp [u64s, eyeS, this, List.range_succ]
theorem eyeS_len {i : Int} : (u64s (eyeS i)).length = i.toNat := by simp [u64s, eyeS]
theorem shl_one {i : Int} (h0 : 0 ≤ i) (h1 : i < 64) : IntKind.u64.wrap (1 * 2 ^ min i.toNat IntKind.u64.bits) = (2 ^ i.toNat : Nat) := by
  have h2 : min i.toNat IntKind.u64.bits = i.toNat := by simp only [IntKind.bits]; omega
  have h3 : (2 : Int) ^ i.toNat < 2 ^ 64 := Int.pow_lt_pow_of_lt (by decide) (by omega)
  have h4 : (0 : Int) ≤ 2 ^ i.toNat := Int.pow_nonneg (by decide)
  rw [h2, Int.one_mul, wrap_u64_id h4 h3]
  simp
theorem Eye_spec (n : Int) (h : IHp) : EvX Try.prog 46 [.int .i64 n].toArray h (fun v h' => Ext h h' ∧ if 0 ≤ n ∧ n ≤ 64 then ∃ sl, v = .tuple [.agg [.int .i64 n, sl].toArray, .int .i64 0].toArray ∧ Lst h.fresh h' sl (u64s (eyeS n)) 27 else v = .tuple [.agg [.int .i64 0, .slice none 0 0].toArray, .int .i64 2].toArray) := by
  refine EvX_of Try.func46 rfl (by show 1 ≤ 28; decide) ?_
  repeat' (first | refine V_seq ?_ | refine V_region ?_ | refine WS_nil ?_ | refine S_normal ?_ | refine V_block ?_ | refine V_skip ?_ | refine V_ret ?_ | refine S_ret ?_ | refine WS_off rfl (by first | rfl | assumption) ?_ | refine WS_on rfl (by first | rfl | assumption) ?_ | refine WS_move ?_ | refine WS_assign ?_ | refine WS_pick_t (by first | rfl | assumption) ?_ | refine WS_pick_f (by first | rfl | assumption) ?_ | refine WS_cmp rfl ?_ | refine WS_build ?_ | refine WS_alloc ?_ | refine WS_store rfl ?_ | (refine WS_guard rfl ?_ ?_ <;> intro hg) | (refine V_cond ?_ ?_ <;> intro hc <;> try (cases hc; done)))
  · refine retK_ct ⟨(Ext.push h _).putObj (Nat.le_refl _), ?_⟩ (.inr rfl)
    rw [if_neg (by simp at hc; omega)]
  · have hn : 0 ≤ n ∧ n ≤ 64 := by simp at hc hg; omega
    refine V_loop (fun d s h' => ∃ (i : Int) (sl : Value), d = (n - i).toNat ∧ 0 ≤ i ∧ i ≤ n ∧ Get s 16 (.int .i64 i) ∧ Get s 15 (.int .i64 n) ∧ Get s 4 (.pointer (some (ad (h.fresh + 2) 0))) ∧ Get s 2 (.pointer (some (ad h.fresh 0))) ∧ Ext h h' ∧ ObjIs h' h.fresh [.int .i64 0, .slice none 0 0] 50 true ∧ ObjIs h' (h.fresh + 2) [.int .i64 n, sl] 50 true ∧ Lst h.fresh h' sl (u64s (eyeS i)) 27 ∧ blockOf sl ≠ some h.fresh ∧ blockOf sl ≠ some (h.fresh + 2)) n.toNat ?_ ?_
    · rw [push_fresh]
      have nb : NeB h.fresh (h.fresh + 2) := ⟨by unfold IHp.fresh; omega⟩
      have ob : ObjIs ((h.push (IObj.cells [Value.int IntKind.i64 0, Value.slice none 0 0] 50 true)).push (IObj.cells [Value.int IntKind.i64 0, Value.slice none 0 0] 50 true)) (h.fresh + 2) [Value.int IntKind.i64 0, Value.slice none 0 0] 50 true := by
        rw [← push_fresh h (IObj.cells [Value.int IntKind.i64 0, Value.slice none 0 0] 50 true)]; infer_instance
      exact ⟨0, .slice none 0 0, by omega, by omega, by omega, inferInstance, inferInstance, inferInstance, inferInstance, (((Ext.push h _).push' _).putObj (by omega)), inferInstance, inferInstance, .inl ⟨rfl, rfl⟩, by simp [blockOf], by simp [blockOf]⟩
    rintro d s h' ⟨i, sl, rfl, hi0, hi1, g16, g15, g4, g2, eX, o2, o4, hL, hb2, hb4⟩
    repeat' (first | refine V_seq ?_ | refine V_region ?_ | refine WS_nil ?_ | refine S_normal ?_ | refine V_block ?_ | refine V_skip ?_ | refine V_exit ?_ | refine S_exit ?_ | refine B_exit ?_ | refine WS_move ?_ | refine WS_assign ?_ | refine WS_cmp rfl ?_ | refine WS_load_agg ?_ | (refine V_cond ?_ ?_ <;> intro hc <;> try (cases hc; done)))
    · have hi : i < n := by simpa using hc
      obtain ⟨a, rfl⟩ := hL.isSlice
      refine V_draw (plan := [.take 0, .take 1, .take 2, .take 3, .one 4, .one 5, .take 6, .one 7]) (by kernel_rfl) ?_
      repeat' (first | refine WS_nil ?_ | refine WS_move ?_ | refine WS_fieldAddr ?_ | refine WS_shift (by first | decide | omega) rfl ?_ | refine WS_buildSlice (by decide) rfl rfl (by simp [Value.cells]) ?_ | refine WDK_go ?_ | refine WDT_go ?_ | refine WD_load rfl ?_ | refine WD_take rfl rfl ?_ | refine WD_drop rfl rfl ?_ | refine WD_one rfl ?_)
      have h64 : i < 64 := by omega
      rw [shl_one hi0 h64]
      refine WS_append1 (lo := h.fresh) (hL.ext (Ext.push _ _)) (by rw [push_fresh]; have := eX.fresh; omega) (by rw [eyeS_len]; omega) ?_
      intro v' h2 hL2 m2 hb
      have p2 : ObjIs h2 h.fresh [.int .i64 0, .slice none 0 0] 50 true := m2.obj inferInstance hb2
      have p4 : ObjIs h2 (h.fresh + 2) _ 50 true := m2.obj inferInstance hb4
      have e2 : Ext h h2 := m2.ext (eX.push' _) (hL.ext (Ext.push _ _))
      have hn4 : h.fresh + 2 < (h'.push (IObj.cells [Value.int IntKind.u64 (2 ^ i.toNat : Nat)] 27 true)).fresh := by have := o4.lt; rw [push_fresh]; omega
      obtain ⟨a', rfl⟩ := hL2.isSlice
      have nb : NeB h.fresh (h.fresh + 2) := ⟨by unfold IHp.fresh; omega⟩
      repeat' (first | refine V_region ?_ | refine WS_nil ?_ | refine S_normal ?_ | refine B_normal ?_ | refine WS_move ?_ | refine WS_addi (by omega) ?_ | refine WS_fieldAddr ?_ | refine WS_store rfl ?_ | refine WDK_go ?_ | refine WDT_go ?_ | refine WD_nil ?_ | refine WD_take rfl rfl ?_ | refine WD_drop rfl rfl ?_)
      refine ⟨_, ?_, i + 1, _, rfl, by omega, by omega, inferInstance, inferInstance, inferInstance, inferInstance, e2.putObj (by omega), inferInstance, inferInstance, ?_, ?_, ?_⟩
      · omega
      · rw [eyeS_succ hi0]; exact hL2.put (by rw [hb]; intro hh; have := Option.some.inj hh; omega) o4.even
      · rw [hb]; intro hh; have := Option.some.inj hh; omega
      · rw [hb]; intro hh; have := Option.some.inj hh; omega
    · have hi : i = n := by simp at hc; omega
      subst hi
      obtain ⟨a, rfl⟩ := hL.isSlice
      repeat' (first | refine WS_nil ?_ | refine S_normal ?_ | refine V_ret ?_ | refine WS_assign ?_ | refine WS_store rfl ?_)
      have nb : NeB (h.fresh + 2) h.fresh := ⟨by unfold IHp.fresh; omega⟩
      refine retK_ct ⟨eX.putObj (Nat.le_refl _), ?_⟩ (.inr rfl)
      rw [if_pos hn]
      exact ⟨_, rfl, hL.put hb2 o2.even⟩
  · refine retK_ct ⟨(Ext.push h _).putObj (Nat.le_refl _), ?_⟩ (.inr rfl)
    rw [if_neg (by simp at hg; omega)]
instance : CallIs Try.prog 46 := .of Try.func46 rfl rfl
end Go.Ideal

-- Lb
set_option linter.unusedSimpArgs false
set_option linter.unusedVariables false
namespace Go.Ideal
open Go Go.Proofs
theorem Check_ref (N : Int) (a : Option Addr) (len cap : Nat) (xs : List Nat) (h : IHp) (hx : SlIs h a len cap (u64s xs)) (h64 : ∀ x ∈ xs, x < 2 ^ 64) :
    EvX Try.prog 48 [.agg [.int .i64 N, .slice a len cap].toArray].toArray h (fun v h' => v = .int .i64 (checkS N xs) ∧ Ext h h') := by
  have hlen : xs.length = len := by have := hx.1; simpa [u64s] using this
  refine EvX_of Try.func48 rfl (by show 1 ≤ 35; decide) ?_
  repeat' (first | refine V_seq ?_ | refine V_region ?_ | refine WS_nil ?_ | refine S_normal ?_ | refine V_block ?_ | refine V_skip ?_ | refine V_ret ?_ | refine S_ret ?_ | refine WS_off rfl (by first | rfl | assumption) ?_ | refine WS_on rfl (by first | rfl | assumption) ?_ | refine WS_move ?_ | refine WS_assign ?_ | refine WS_pick_t (by first | rfl | assumption) ?_ | refine WS_pick_f (by first | rfl | assumption) ?_ | refine WS_cmp rfl ?_ | refine WS_len_slice ?_ | refine WS_fieldAddr ?_ | refine WS_load ?_ | refine WS_box_agg rfl ?_ | (refine WS_guard rfl ?_ ?_ <;> intro hg) | (refine V_cond ?_ ?_ <;> intro hc <;> try (cases hc; done)))
  · refine retK_1 ⟨?_, Ext.push _ _⟩ (.inr rfl)
    simp only [checkS]; rw [if_pos]; simp at hc; omega
  · have hN : ¬ N < 0 ∧ ¬ 64 < N ∧ (len : Int) = N := by simp_all
    obtain ⟨H, hH⟩ : ∃ H, H = h.push (IObj.cells [Value.int IntKind.i64 N, Value.slice a len cap] 50 true) := ⟨_, rfl⟩
    have eH : Ext h H := hH ▸ Ext.push _ _
    have c0 : CellIs H h.fresh (0 + 0) (.int .i64 N) := hH ▸ inferInstance
    have c1 : CellIs H h.fresh (0 + 1) (.slice a len cap) := hH ▸ inferInstance
    rw [← hH]
    refine V_loop (fun d s h' => ∃ i : Int, d = (len - i).toNat ∧ 0 ≤ i ∧ i ≤ len ∧ Get s 3 (.int .i64 i) ∧ Get s 1 (.pointer (some (ad h.fresh 0))) ∧ h' = H ∧ (xs.take i.toNat).all (belowS N) = true) len ⟨0, by omega, by omega, by omega, inferInstance, inferInstance, rfl, by simp⟩ ?_
    rintro d s h' ⟨i, rfl, hi0, hi1, g3, g1, rfl, hP⟩
    repeat' (first | refine V_seq ?_ | refine V_region ?_ | refine WS_nil ?_ | refine S_normal ?_ | refine V_block ?_ | refine V_skip ?_ | refine V_exit ?_ | refine V_ret ?_ | refine S_exit ?_ | refine B_exit ?_ | refine WS_move ?_ | refine WS_assign ?_ | refine WS_cmp rfl ?_ | refine WS_fieldAddr ?_ | refine WS_load ?_ | (refine V_cond ?_ ?_ <;> intro hc <;> try (cases hc; done)))
    · have hi : i < len := by simp at hc; omega
      obtain ⟨b, v, rfl, hv, c2⟩ := (hx.ext eH).at hi0 hi
      obtain ⟨x, rfl, hx1⟩ := u64s_at hv
      refine V_draw (plan := [.take 0, .take 1, .take 2, .take 3, .take 4, .take 5, .take 6, .one 7, .take 8]) (by kernel_rfl) ?_
      repeat' (first | refine WS_nil ?_ | refine WS_move ?_ | refine WS_fieldAddr ?_ | refine WS_indexAddr (by first | decide | omega) ?_ | refine WDT_go ?_ | refine WD_load rfl ?_ | refine WD_take rfl rfl ?_ | refine WD_one rfl ?_)
      refine WS_call (below_ref x (h64 x (List.mem_of_getElem? hx1)) N (by omega) _) ?_
      rintro _ _ ⟨rfl, rfl⟩
      repeat' (first | refine V_seq ?_ | refine V_region ?_ | refine WS_nil ?_ | refine S_normal ?_ | refine B_normal ?_ | refine V_skip ?_ | refine V_ret ?_ | refine S_ret ?_ | refine B_ret ?_ | refine WS_move ?_ | refine WS_assign ?_ | refine WS_addi (by omega) ?_ | refine WS_not ?_ | refine WDK_go ?_ | refine WDT_go ?_ | refine WD_nil ?_ | refine WD_take rfl rfl ?_ | (refine V_cond ?_ ?_ <;> intro hc <;> try (cases hc; done)))
      · refine retK_1 ⟨?_, eH⟩ (.inr rfl)
        simp only [checkS]; rw [if_neg (by omega), if_neg]
        intro hall
        rw [List.all_eq_true] at hall
        have := hall x (List.mem_of_getElem? hx1)
        simp_all
      · refine ⟨_, ?_, i + 1, rfl, by omega, by omega, inferInstance, inferInstance, rfl, ?_⟩
        · omega
        · have : (i + 1).toNat = i.toNat + 1 := by omega
          rw [this, List.take_add_one, hx1]
          simp_all
    · have hi : i = len := by simp at hc; omega
      refine retK_1 ⟨?_, eH⟩ (.inr rfl)
      simp only [checkS]; rw [if_neg (by omega), if_pos]
      rw [hi, Int.toNat_natCast, List.take_of_length_le (by omega)] at hP
      exact hP
  · refine retK_1 ⟨?_, Ext.push _ _⟩ (.inr rfl)
    simp only [checkS]; rw [if_pos]; simp at hg; omega
  · refine retK_1 ⟨?_, Ext.push _ _⟩ (.inr rfl)
    simp only [checkS]; rw [if_pos]; simp at hg; omega
instance : CallIs Try.prog 48 := .of Try.func48 rfl rfl

theorem Eye_ref (n : Int) (h : IHp) : EvX Try.prog 51 [.int .i64 n].toArray h (fun v h' => Ext h h' ∧ if 0 ≤ n ∧ n ≤ 64 then ∃ sl, v = .tuple [.agg [.int .i64 n, sl].toArray, .int .i64 0].toArray ∧ Lst h.fresh h' sl (u64s (eyeS n)) 27 else v = .tuple [.agg [.int .i64 0, .slice none 0 0].toArray, .int .i64 2].toArray) := by
  refine EvX_of Try.func51 rfl (by show 1 ≤ 28; decide) ?_
  repeat' (first | refine V_seq ?_ | refine V_region ?_ | refine WS_nil ?_ | refine S_normal ?_ | refine V_block ?_ | refine V_skip ?_ | refine V_ret ?_ | refine S_ret ?_ | refine WS_off rfl (by first | rfl | assumption) ?_ | refine WS_on rfl (by first | rfl | assumption) ?_ | refine WS_move ?_ | refine WS_assign ?_ | refine WS_pick_t (by first | rfl | assumption) ?_ | refine WS_pick_f (by first | rfl | assumption) ?_ | refine WS_cmp rfl ?_ | refine WS_build ?_ | refine WS_alloc ?_ | refine WS_store rfl ?_ | (refine WS_guard rfl ?_ ?_ <;> intro hg) | (refine V_cond ?_ ?_ <;> intro hc <;> try (cases hc; done)))
  · refine retK_ct ⟨(Ext.push h _).putObj (Nat.le_refl _), ?_⟩ (.inr rfl)
    rw [if_neg (by simp at hc; omega)]
  · have hn : 0 ≤ n ∧ n ≤ 64 := by simp at hc hg; omega
    refine V_loop (fun d s h' => ∃ (i : Int) (sl : Value), d = (n - i).toNat ∧ 0 ≤ i ∧ i ≤ n ∧ Get s 5 (.int .i64 i) ∧ Get s 0 (.int .i64 n) ∧ Get s 4 (.pointer (some (ad (h.fresh + 2) 0))) ∧ Get s 2 (.pointer (some (ad h.fresh 0))) ∧ Ext h h' ∧ ObjIs h' h.fresh [.int .i64 0, .slice none 0 0] 50 true ∧ ObjIs h' (h.fresh + 2) [.int .i64 n, sl] 50 true ∧ Lst h.fresh h' sl (u64s (eyeS i)) 27 ∧ blockOf sl ≠ some h.fresh ∧ blockOf sl ≠ some (h.fresh + 2)) n.toNat ?_ ?_
    · rw [push_fresh]
      have nb : NeB h.fresh (h.fresh + 2) := ⟨by unfold IHp.fresh; omega⟩
      have ob : ObjIs ((h.push (IObj.cells [Value.int IntKind.i64 0, Value.slice none 0 0] 50 true)).push (IObj.cells [Value.int IntKind.i64 0, Value.slice none 0 0] 50 true)) (h.fresh + 2) [Value.int IntKind.i64 0, Value.slice none 0 0] 50 true := by
        rw [← push_fresh h (IObj.cells [Value.int IntKind.i64 0, Value.slice none 0 0] 50 true)]; infer_instance
      exact ⟨0, .slice none 0 0, by omega, by omega, by omega, inferInstance, inferInstance, inferInstance, inferInstance, (((Ext.push h _).push' _).putObj (by omega)), inferInstance, inferInstance, .inl ⟨rfl, rfl⟩, by simp [blockOf], by simp [blockOf]⟩
    rintro d s h' ⟨i, sl, rfl, hi0, hi1, g5, g0, g4, g2, eX, o2, o4, hL, hb2, hb4⟩
    repeat' (first | refine V_seq ?_ | refine V_region ?_ | refine WS_nil ?_ | refine S_normal ?_ | refine V_block ?_ | refine V_skip ?_ | refine V_exit ?_ | refine S_exit ?_ | refine B_exit ?_ | refine WS_move ?_ | refine WS_cmp rfl ?_ | refine WS_load_agg ?_ | (refine V_cond ?_ ?_ <;> intro hc <;> try (cases hc; done)))
    · have hi : i < n := by simpa using hc
      obtain ⟨a, rfl⟩ := hL.isSlice
      refine V_draw (plan := [.take 0, .take 1, .take 2, .take 3, .one 4, .one 5, .take 6, .one 7]) (by kernel_rfl) ?_
      repeat' (first | refine WS_nil ?_ | refine WS_move ?_ | refine WS_fieldAddr ?_ | refine WS_shift (by first | decide | omega) rfl ?_ | refine WS_buildSlice (by decide) rfl rfl (by simp [Value.cells]) ?_ | refine WDK_go ?_ | refine WDT_go ?_ | refine WD_load rfl ?_ | refine WD_take rfl rfl ?_ | refine WD_drop rfl rfl ?_ | refine WD_one rfl ?_)
      have h64 : i < 64 := by omega
      rw [shl_one hi0 h64]
      refine WS_append1 (lo := h.fresh) (hL.ext (Ext.push _ _)) (by rw [push_fresh]; have := eX.fresh; omega) (by rw [eyeS_len]; omega) ?_
      intro v' h2 hL2 m2 hb
      have p2 : ObjIs h2 h.fresh [.int .i64 0, .slice none 0 0] 50 true := m2.obj inferInstance hb2
      have p4 : ObjIs h2 (h.fresh + 2) _ 50 true := m2.obj inferInstance hb4
      have e2 : Ext h h2 := m2.ext (eX.push' _) (hL.ext (Ext.push _ _))
      have hn4 : h.fresh + 2 < (h'.push (IObj.cells [Value.int IntKind.u64 (2 ^ i.toNat : Nat)] 27 true)).fresh := by have := o4.lt; rw [push_fresh]; omega
      obtain ⟨a', rfl⟩ := hL2.isSlice
      have nb : NeB h.fresh (h.fresh + 2) := ⟨by unfold IHp.fresh; omega⟩
      repeat' (first | refine V_region ?_ | refine WS_nil ?_ | refine S_normal ?_ | refine B_normal ?_ | refine WS_move ?_ | refine WS_assign ?_ | refine WS_addi (by omega) ?_ | refine WS_fieldAddr ?_ | refine WS_store rfl ?_ | refine WDK_go ?_ | refine WDT_go ?_ | refine WD_nil ?_ | refine WD_take rfl rfl ?_ | refine WD_drop rfl rfl ?_)
      refine ⟨_, ?_, i + 1, _, rfl, by omega, by omega, inferInstance, inferInstance, inferInstance, inferInstance, e2.putObj (by omega), inferInstance, inferInstance, ?_, ?_, ?_⟩
      · omega
      · rw [eyeS_succ hi0]; exact hL2.put (by rw [hb]; intro hh; have := Option.some.inj hh; omega) o4.even
      · rw [hb]; intro hh; have := Option.some.inj hh; omega
      · rw [hb]; intro hh; have := Option.some.inj hh; omega
    · have hi : i = n := by simp at hc; omega
      subst hi
      obtain ⟨a, rfl⟩ := hL.isSlice
      repeat' (first | refine WS_nil ?_ | refine S_normal ?_ | refine V_ret ?_ | refine WS_assign ?_ | refine WS_store rfl ?_)
      have nb : NeB (h.fresh + 2) h.fresh := ⟨by unfold IHp.fresh; omega⟩
      refine retK_ct ⟨eX.putObj (Nat.le_refl _), ?_⟩ (.inr rfl)
      rw [if_pos hn]
      exact ⟨_, rfl, hL.put hb2 o2.even⟩
  · refine retK_ct ⟨(Ext.push h _).putObj (Nat.le_refl _), ?_⟩ (.inr rfl)
    rw [if_neg (by simp at hg; omega)]
instance : CallIs Try.prog 51 := .of Try.func51 rfl rfl

theorem Same_spec (M N : Int) (a b : Option Addr) (la ca lb cb : Nat) (xs ys : List Nat) (h : IHp) (hx : SlIs h a la ca (u64s xs)) (hy : SlIs h b lb cb (u64s ys)) (hla : la < 2 ^ 62) :
    EvX Try.prog 25 [.agg [.int .i64 M, .slice a la ca].toArray, .agg [.int .i64 N, .slice b lb cb].toArray].toArray h (fun v h' => v = .bool (decide (M = N ∧ xs = ys)) ∧ Ext h h') := by
  have hlx : xs.length = la := by have := hx.1; simpa [u64s] using this
  have hly : ys.length = lb := by have := hy.1; simpa [u64s] using this
  refine EvX_of Try.func25 rfl (by show 2 ≤ 38; decide) ?_
  repeat' (first | refine V_seq ?_ | refine V_region ?_ | refine WS_nil ?_ | refine S_normal ?_ | refine V_block ?_ | refine V_skip ?_ | refine V_ret ?_ | refine S_ret ?_ | refine WS_off rfl (by first | rfl | assumption) ?_ | refine WS_on rfl (by first | rfl | assumption) ?_ | refine WS_move ?_ | refine WS_assign ?_ | refine WS_pick_t (by first | rfl | assumption) ?_ | refine WS_pick_f (by first | rfl | assumption) ?_ | refine WS_cmp rfl ?_ | refine WS_len_slice ?_ | refine WS_fieldAddr ?_ | refine WS_load ?_ | refine WS_box_agg rfl ?_ | (refine WS_guard rfl ?_ ?_ <;> intro hg) | (refine V_cond ?_ ?_ <;> intro hc <;> try (cases hc; done)))
  · refine retK_1 ⟨?_, (Ext.push _ _).push' _⟩ (.inr rfl)
    congr 1
    symm; rw [decide_eq_false_iff_not]
    rintro ⟨rfl, rfl⟩
    simp at hc; omega
  · have hN : M = N ∧ la = lb := by simp at hc hg; omega
    obtain ⟨rfl, rfl⟩ := hN
    obtain ⟨H1, hH1⟩ : ∃ H, H = h.push (IObj.cells [Value.int IntKind.i64 M, Value.slice a la ca] 50 true) := ⟨_, rfl⟩
    rw [← hH1]
    have d0 : CellIs H1 h.fresh (0 + 1) (.slice a la ca) := hH1 ▸ inferInstance
    obtain ⟨H, hH⟩ : ∃ H, H = H1.push (IObj.cells [Value.int IntKind.i64 M, Value.slice b la cb] 50 true) := ⟨_, rfl⟩
    rw [← hH]
    have eH : Ext h H := by rw [hH, hH1]; exact (Ext.push _ _).push' _
    have c0 : CellIs H h.fresh (0 + 1) (.slice a la ca) := hH ▸ inferInstance
    have c1 : CellIs H H1.fresh (0 + 1) (.slice b la cb) := hH ▸ inferInstance
    refine V_loop (fun d s h' => ∃ i : Int, d = (la - i).toNat ∧ 0 ≤ i ∧ i ≤ la ∧ Get s 5 (.int .i64 i) ∧ Get s 2 (.pointer (some (ad h.fresh 0))) ∧ Get s 3 (.pointer (some (ad H1.fresh 0))) ∧ h' = H ∧ xs.take i.toNat = ys.take i.toNat) la ⟨0, by omega, by omega, by omega, inferInstance, inferInstance, inferInstance, rfl, by simp⟩ ?_
    rintro d s h' ⟨i, rfl, hi0, hi1, g5, g2, g3, rfl, hP⟩
    repeat' (first | refine V_seq ?_ | refine V_region ?_ | refine WS_nil ?_ | refine S_normal ?_ | refine V_block ?_ | refine V_skip ?_ | refine V_exit ?_ | refine V_ret ?_ | refine S_exit ?_ | refine B_exit ?_ | refine WS_move ?_ | refine WS_assign ?_ | refine WS_cmp rfl ?_ | refine WS_len_slice ?_ | refine WS_fieldAddr ?_ | refine WS_load ?_ | (refine V_cond ?_ ?_ <;> intro hc <;> try (cases hc; done)))
    · have hi : i < la := by simp at hc; omega
      obtain ⟨b1, v, rfl, hv, c2⟩ := (hx.ext eH).at hi0 hi
      obtain ⟨x, rfl, hx1⟩ := u64s_at hv
      obtain ⟨b2, w, rfl, hw, c3⟩ := (hy.ext eH).at hi0 hi
      obtain ⟨y, rfl, hy1⟩ := u64s_at hw
      refine V_draw (plan := [.take 0, .take 1, .take 2, .take 3, .take 4, .take 5, .take 6, .take 7, .take 8, .take 9, .take 10]) (by kernel_rfl) ?_
      repeat' (first | refine V_seq ?_ | refine V_region ?_ | refine WS_nil ?_ | refine S_normal ?_ | refine B_normal ?_ | refine V_skip ?_ | refine V_ret ?_ | refine S_ret ?_ | refine B_ret ?_ | refine WS_move ?_ | refine WS_assign ?_ | refine WS_cmp rfl ?_ | refine WS_addi (by omega) ?_ | refine WS_fieldAddr ?_ | refine WS_indexAddr (by first | decide | omega) ?_ | refine WDT_go ?_ | refine WD_nil ?_ | refine WD_load rfl ?_ | refine WD_take rfl rfl ?_ | (refine V_cond ?_ ?_ <;> intro hc <;> try (cases hc; done)))
      · refine retK_1 ⟨?_, eH⟩ (.inr rfl)
        congr 1
        symm; rw [decide_eq_false_iff_not]
        rintro ⟨_, rfl⟩
        rw [hx1] at hy1
        simp at hy1; subst hy1
        simp at hc
      · refine ⟨_, ?_, i + 1, rfl, by omega, by omega, inferInstance, inferInstance, inferInstance, rfl, ?_⟩
        · omega
        · have : (i + 1).toNat = i.toNat + 1 := by omega
          have hxy : x = y := by simp at hc; omega
          rw [this, List.take_add_one, List.take_add_one, hx1, hy1, hP, hxy]
    · have hi : i = la := by simp at hc; omega
      refine retK_1 ⟨?_, eH⟩ (.inr rfl)
      congr 1
      symm; rw [decide_eq_true_iff]
      rw [hi, Int.toNat_natCast, List.take_of_length_le (by omega), List.take_of_length_le (by omega)] at hP
      exact ⟨rfl, hP⟩
  · refine retK_1 ⟨?_, (Ext.push _ _).push' _⟩ (.inr rfl)
    congr 1
    symm; rw [decide_eq_false_iff_not]
    rintro ⟨rfl, rfl⟩
    simp at hg
instance : CallIs Try.prog 25 := .of Try.func25 rfl rfl
end Go.Ideal

-- Lc
set_option linter.unusedSimpArgs false
set_option linter.unusedVariables false
namespace Go.Ideal
open Go Go.Proofs
/-! ### Parity; bits put side by side -/
def oddK (x : Nat) : Nat → Nat
  | 0 => 0
  | k + 1 => oddK x k ^^^ ((x >>> k) &&& 1)
def oddS (x : Nat) : Nat := oddK x 64
theorem bit_le (x : Nat) : x &&& 1 ≤ 1 := Nat.and_le_right
theorem oddK_le (x : Nat) : ∀ k, oddK x k ≤ 1 := by
  intro k
  induction k with
  | zero => exact Nat.zero_le _
  | succ k ih =>
    have h1 := bit_le (x >>> k)
    have := Nat.xor_lt_two_pow (n := 1) (show oddK x k < 2 ^ 1 by omega) (show (x >>> k) &&& 1 < 2 ^ 1 by omega)
    simp only [oddK]; omega
def orK (f : Nat → Nat) : Nat → Nat
  | 0 => 0
  | k + 1 => orK f k ||| (f k <<< k)
theorem orK_lt {f : Nat → Nat} : ∀ k, (∀ j, j < k → f j ≤ 1) → orK f k < 2 ^ k := by
  intro k
  induction k with
  | zero => intro _; simp [orK]
  | succ k ih =>
    intro hf
    have h1 := ih fun j hj => hf j (by omega)
    have h2 := hf k (by omega)
    refine Nat.or_lt_two_pow (Nat.lt_of_lt_of_le h1 (Nat.pow_le_pow_right (by decide) (by omega))) ?_
    rw [Nat.shiftLeft_eq, Nat.pow_succ]
    have : 0 < 2 ^ k := Nat.pow_pos (by decide)
    have : f k * 2 ^ k ≤ 1 * 2 ^ k := Nat.mul_le_mul_right _ h2
    omega
theorem and1_u64 {a : Nat} (ha : a < 2 ^ 64) : ibits .and .u64 a 1 = (a &&& 1 : Nat) := and_u64 (b := 1) ha (by decide)
theorem shl_bit {b : Nat} (hb : b ≤ 1) {k : Int} (h0 : 0 ≤ k) (h1 : k < 64) : IntKind.u64.wrap ((b : Int) * 2 ^ min k.toNat IntKind.u64.bits) = (b <<< k.toNat : Nat) := by
  have h2 : min k.toNat IntKind.u64.bits = k.toNat := by simp only [IntKind.bits]; omega
  rw [h2, Nat.shiftLeft_eq]
  have h3 : (2 : Nat) ^ k.toNat < 2 ^ 64 := Nat.pow_lt_pow_right (by decide) (by omega)
  have h4 : b * 2 ^ k.toNat ≤ 1 * 2 ^ k.toNat := Nat.mul_le_mul_right _ hb
  have h5 : ((b : Int) * 2 ^ k.toNat) = ((b * 2 ^ k.toNat : Nat) : Int) := by simp
  rw [h5]
  exact wrap_u64_id (by omega) (by omega)
theorem bit_shl_lt {b : Nat} (hb : b ≤ 1) {k : Nat} (h1 : k < 64) : b <<< k < 2 ^ 64 := by
  rw [Nat.shiftLeft_eq]
  have h3 : (2 : Nat) ^ k < 2 ^ 64 := Nat.pow_lt_pow_right (by decide) (by omega)
  have h4 : b * 2 ^ k ≤ 1 * 2 ^ k := Nat.mul_le_mul_right _ hb
  omega
theorem shr_lt {a : Nat} (n : Nat) (ha : a < 2 ^ 64) : a >>> n < 2 ^ 64 := Nat.lt_of_le_of_lt (Nat.shiftRight_le _ _) ha
theorem toNat_succ {i : Int} (h : 0 ≤ i) : (i + 1).toNat = i.toNat + 1 := by omega

theorem odd_ref (x : Nat) (hx : x < 2 ^ 64) (h : IHp) : EvX Try.prog 50 [.int .u64 x].toArray h (fun v h' => v = .int .u64 (oddS x : Nat) ∧ h' = h) := by
  refine EvX_of Try.func50 rfl (by show 1 ≤ 16; decide) ?_
  repeat' (first | refine V_seq ?_ | refine V_region ?_ | refine WS_nil ?_ | refine S_normal ?_ | refine V_block ?_ | refine WS_assign ?_)
  refine V_loop (fun d s h' => ∃ i : Int, d = (64 - i).toNat ∧ 0 ≤ i ∧ i ≤ 64 ∧ Get s 4 (.int .i64 i) ∧ Get s 0 (.int .u64 x) ∧ h' = h ∧ Get s 3 (.int .u64 (oddK x i.toNat : Nat))) 64 ⟨0, by omega, by omega, by omega, inferInstance, inferInstance, rfl, inferInstanceAs (Get _ 3 (.int .u64 (0 : Int)))⟩ ?_
  rintro d s h' ⟨i, rfl, hi0, hi1, g4, g0, rfl, g3⟩
  repeat' (first | refine V_seq ?_ | refine V_region ?_ | refine WS_nil ?_ | refine S_normal ?_ | refine V_block ?_ | refine B_normal ?_ | refine V_skip ?_ | refine V_exit ?_ | refine V_ret ?_ | refine S_exit ?_ | refine B_exit ?_ | refine WS_move ?_ | refine WS_assign ?_ | refine WS_cmp rfl ?_ | refine WS_addi (by omega) ?_ | refine WS_arith rfl ?_ | refine WS_shift (by first | decide | omega) rfl ?_ | (refine V_cond ?_ ?_ <;> intro hc <;> try (cases hc; done)))
  · have hi : i < 64 := by simpa using hc
    have hk := oddK_le x i.toNat
    rw [shr_u64 hi0 hx, and1_u64 (shr_lt _ hx), xor_u64 (by omega) (by have := bit_le (x >>> i.toNat); omega)]
    refine ⟨_, ?_, i + 1, rfl, by omega, by omega, inferInstance, inferInstance, rfl, ?_⟩
    · omega
    · rw [toNat_succ hi0]; exact inferInstanceAs (Get _ 3 (.int .u64 ((oddK x i.toNat ^^^ x >>> i.toNat &&& 1 : Nat) : Int)))
  · have hi : i = 64 := by simp at hc; omega
    subst hi
    exact retK_1 ⟨rfl, rfl⟩ (.inr rfl)
instance : CallIs Try.prog 50 := .of Try.func50 rfl rfl
end Go.Ideal

-- Ld
set_option linter.unusedSimpArgs false
set_option linter.unusedVariables false
namespace Go.Ideal
open Go Go.Proofs
theorem NeB.fresh {h h' : IHp} (hlt : h.fresh < h'.fresh) : NeB h.fresh h'.fresh := ⟨by unfold IHp.fresh at *; omega⟩
theorem NeB.fresh' {h h' : IHp} (hlt : h.fresh < h'.fresh) : NeB h'.fresh h.fresh := (NeB.fresh hlt).symm
theorem checkS_zero {N : Int} {xs : List Nat} (h : checkS N xs = 0) : 0 ≤ N ∧ N ≤ 64 ∧ (xs.length : Int) = N ∧ ∀ x ∈ xs, belowS N x = true := by
  unfold checkS at h
  split at h
  · simp at h
  · rename_i hn
    split at h
    · rename_i ha; exact ⟨by omega, by omega, by omega, List.all_eq_true.1 ha⟩
    · simp at h
/-- a slice of one's own is a slice -/
theorem Lst.getSl {lo : Nat} {h : IHp} {a : Option Addr} {n m : Nat} {vs : List Value} {t : TypeId} (x : Lst lo h (.slice a n m) vs t) : SlIs h a n m vs := by
  obtain ⟨a', h1, h2⟩ := x.sl
  simp only [Value.slice.injEq] at h1
  obtain ⟨rfl, rfl, rfl⟩ := h1
  exact h2

def turnedRow (n : Nat) (xs : List Nat) (i : Nat) : Nat := orK (fun j => (xs.getD j 0 >>> i) &&& 1) n
def turnedS (n : Nat) (xs : List Nat) (k : Nat) : List Nat := (List.range k).map (turnedRow n xs)
theorem turnedS_succ (n : Nat) (xs : List Nat) (k : Nat) : u64s (turnedS n xs (k + 1)) = u64s (turnedS n xs k) ++ [.int .u64 (turnedRow n xs k : Nat)] := by
  simp [u64s, turnedS, List.range_succ]
theorem turnedS_len (n : Nat) (xs : List Nat) (k : Nat) : (u64s (turnedS n xs k)).length = k := by simp [u64s, turnedS]
theorem Turned_ref (N : Int) (a : Option Addr) (len cap : Nat) (xs : List Nat) (h : IHp) (hx : SlIs h a len cap (u64s xs)) (h64 : ∀ x ∈ xs, x < 2 ^ 64) (hck : checkS N xs = 0) :
    EvX Try.prog 49 [.agg [.int .i64 N, .slice a len cap].toArray].toArray h (fun v h' => Ext h h' ∧ ∃ sl, v = .agg [.int .i64 N, sl].toArray ∧ Lst h.fresh h' sl (u64s (turnedS N.toNat xs N.toNat)) 27) := by
  have hlen : xs.length = len := by have := hx.1; simpa [u64s] using this
  obtain ⟨hN0, hN1, hN2, hbel⟩ := checkS_zero hck
  refine EvX_of Try.func49 rfl (by show 1 ≤ 41; decide) ?_
  repeat' (first | refine V_seq ?_ | refine V_region ?_ | refine WS_nil ?_ | refine S_normal ?_ | refine V_block ?_ | refine WS_assign ?_ | refine WS_fieldAddr ?_ | refine WS_load ?_ | refine WS_box_agg rfl ?_ | refine WS_build ?_ | refine WS_alloc ?_ | refine WS_store rfl ?_)
  obtain ⟨H1, hH1⟩ : ∃ H, H = h.push (IObj.cells [Value.int IntKind.i64 N, Value.slice a len cap] 50 true) := ⟨_, rfl⟩
  have f1 : H1.fresh = h.fresh + 2 := by rw [hH1, push_fresh]
  have e1 : Ext h H1 := hH1 ▸ Ext.push _ _
  have c0 : CellIs H1 h.fresh (0 + 0) (.int .i64 N) := hH1 ▸ inferInstance
  have c1 : CellIs H1 h.fresh (0 + 1) (.slice a len cap) := hH1 ▸ inferInstance
  rw [← hH1]
  obtain ⟨H2, hH2⟩ : ∃ H, H = H1.push (IObj.cells [Value.int IntKind.i64 0, Value.slice none 0 0] 50 true) := ⟨_, rfl⟩
  have f2 : H2.fresh = h.fresh + 4 := by rw [hH2, push_fresh, f1]
  have e2 : Ext H1 H2 := hH2 ▸ Ext.push _ _
  have o2 : ObjIs H2 H1.fresh [.int .i64 0, .slice none 0 0] 50 true := hH2 ▸ inferInstance
  rw [← hH2]
  have n12 : NeB H1.fresh H2.fresh := .fresh (by omega)
  have n21 : NeB H2.fresh H1.fresh := .fresh' (by omega)
  have n02 : NeB h.fresh H2.fresh := .fresh (by omega)
  have n01 : NeB h.fresh H1.fresh := .fresh (by omega)
  refine V_loop (fun d s h' => ∃ (i : Int) (sl : Value), d = (N - i).toNat ∧ 0 ≤ i ∧ i ≤ N ∧ Get s 4 (.int .i64 i) ∧ Get s 1 (.pointer (some (ad h.fresh 0))) ∧ Get s 2 (.pointer (some (ad H1.fresh 0))) ∧ Get s 3 (.pointer (some (ad H2.fresh 0))) ∧ Ext H1 h' ∧ ObjIs h' H1.fresh [.int .i64 0, .slice none 0 0] 50 true ∧ ObjIs h' H2.fresh [.int .i64 N, sl] 50 true ∧ Lst H1.fresh h' sl (u64s (turnedS N.toNat xs i.toNat)) 27 ∧ blockOf sl ≠ some H1.fresh ∧ blockOf sl ≠ some H2.fresh) N.toNat
    ⟨0, .slice none 0 0, by omega, by omega, by omega, inferInstance, inferInstance, inferInstance, inferInstance, (e2.push' _).putObj (by omega), inferInstance, inferInstance, .inl ⟨rfl, rfl⟩, by simp [blockOf], by simp [blockOf]⟩ ?_
  rintro d s h' ⟨i, sl, rfl, hi0, hi1, g4, g1, g2, g3, eX, p2, p3, hL, hb2, hb3⟩
  repeat' (first | refine V_seq ?_ | refine V_region ?_ | refine WS_nil ?_ | refine S_normal ?_ | refine V_block ?_ | refine V_skip ?_ | refine V_exit ?_ | refine S_exit ?_ | refine B_exit ?_ | refine WS_move ?_ | refine WS_assign ?_ | refine WS_cmp rfl ?_ | refine WS_fieldAddr ?_ | refine WS_load ?_ | refine WS_load_agg ?_ | (refine V_cond ?_ ?_ <;> intro hc <;> try (cases hc; done)))
  · have hi : i < N := by simpa using hc
    refine V_loop (fun d s h'' => ∃ (j : Int), d = (N - j).toNat ∧ 0 ≤ j ∧ j ≤ N ∧ Get s 6 (.int .i64 j) ∧ Get s 4 (.int .i64 i) ∧ Get s 1 (.pointer (some (ad h.fresh 0))) ∧ Get s 2 (.pointer (some (ad H1.fresh 0))) ∧ Get s 3 (.pointer (some (ad H2.fresh 0))) ∧ h'' = h' ∧ Get s 5 (.int .u64 (orK (fun j => (xs.getD j 0 >>> i.toNat) &&& 1) j.toNat : Nat))) N.toNat
      ⟨0, by omega, by omega, by omega, inferInstance, inferInstance, inferInstance, inferInstance, inferInstance, rfl, inferInstanceAs (Get _ 5 (.int .u64 (0 : Int)))⟩ ?_
    rintro d s h'' ⟨j, rfl, hj0, hj1, g6, g4, g1, g2, g3, rfl, g5⟩
    repeat' (first | refine V_seq ?_ | refine V_region ?_ | refine WS_nil ?_ | refine S_normal ?_ | refine V_block ?_ | refine V_skip ?_ | refine V_exit ?_ | refine S_exit ?_ | refine B_exit ?_ | refine WS_move ?_ | refine WS_cmp rfl ?_ | refine WS_fieldAddr ?_ | refine WS_load ?_ | refine WS_buildSlice (by decide) rfl rfl (by simp [Value.cells]) ?_ | (refine V_cond ?_ ?_ <;> intro hc <;> try (cases hc; done)))
    · have hj : j < N := by simpa using hc
      obtain ⟨b, v, rfl, hv, c2⟩ := ((hx.ext e1).ext eX).at hj0 (show j < (len : Int) by omega)
      obtain ⟨r, rfl, hr⟩ := u64s_at hv
      have hr64 := h64 r (List.mem_of_getElem? hr)
      repeat' (first | refine V_region ?_ | refine WS_nil ?_ | refine S_normal ?_ | refine B_normal ?_ | refine WS_move ?_ | refine WS_assign ?_ | refine WS_addi (by omega) ?_ | refine WS_arith rfl ?_ | refine WS_load ?_ | refine WS_shift (by first | decide | omega) rfl ?_ | refine WS_indexAddr (by first | decide | omega) ?_)
      have hbit := bit_le (r >>> i.toNat)
      have hlt : orK (fun j => (xs.getD j 0 >>> i.toNat) &&& 1) j.toNat < 2 ^ 64 := Nat.lt_of_lt_of_le (orK_lt _ fun _ _ => bit_le _) (Nat.pow_le_pow_right (by decide) (by omega))
      rw [shr_u64 hi0 hr64, and1_u64 (shr_lt _ hr64), shl_bit hbit hj0 (by omega), or_u64 hlt (bit_shl_lt hbit (by omega))]
      refine ⟨_, ?_, j + 1, rfl, by omega, by omega, inferInstance, inferInstance, inferInstance, inferInstance, inferInstance, rfl, ?_⟩
      · omega
      · rw [toNat_succ hj0]
        have : orK (fun j => (xs.getD j 0 >>> i.toNat) &&& 1) (j.toNat + 1) = orK (fun j => (xs.getD j 0 >>> i.toNat) &&& 1) j.toNat ||| (r >>> i.toNat &&& 1) <<< j.toNat := by
          simp only [orK]
          rw [List.getD_eq_getElem?_getD, hr]; rfl
        rw [this]; infer_instance
    · have hj : j = N := by simp at hc; omega
      subst hj
      obtain ⟨a', rfl⟩ := hL.isSlice
      skip
      refine WS_append1 (lo := H1.fresh) (hL.ext (Ext.push _ _)) (by rw [push_fresh]; have := eX.fresh; omega) (by rw [turnedS_len]; omega) ?_
      intro v' h2 hL2 m2 hb
      have q2 : ObjIs h2 H1.fresh _ 50 true := m2.obj inferInstance hb2
      have q3 : ObjIs h2 H2.fresh _ 50 true := m2.obj inferInstance hb3
      have e3 : Ext H1 h2 := m2.ext (eX.push' _) (hL.ext (Ext.push _ _))
      have l2 := p2.lt
      have l3 := p3.lt
      rw [push_fresh] at hb
      obtain ⟨a'', rfl⟩ := hL2.isSlice
      repeat' (first | refine V_region ?_ | refine WS_nil ?_ | refine S_normal ?_ | refine B_normal ?_ | refine WS_move ?_ | refine WS_assign ?_ | refine WS_addi (by omega) ?_ | refine WS_fieldAddr ?_ | refine WS_store rfl ?_)
      refine ⟨_, ?_, i + 1, _, rfl, by omega, by omega, inferInstance, inferInstance, inferInstance, inferInstance, e3.putObj (by omega), inferInstance, inferInstance, ?_, ?_, ?_⟩
      · omega
      · rw [toNat_succ hi0, turnedS_succ]; exact hL2.put (by rw [hb]; intro hh; have := Option.some.inj hh; omega) p3.even
      · rw [hb]; intro hh; have := Option.some.inj hh; omega
      · rw [hb]; intro hh; have := Option.some.inj hh; omega
  · have hi : i = N := by simp at hc; omega
    subst hi
    obtain ⟨a', rfl⟩ := hL.isSlice
    repeat' (first | refine WS_nil ?_ | refine S_normal ?_ | refine V_ret ?_ | refine WS_store rfl ?_)
    refine retK_c ⟨(e1.trans eX).putObj (by omega), _, rfl, ?_⟩ (.inr rfl)
    have := hL.put (o := IObj.cells [Value.int IntKind.i64 i, Value.slice a' (u64s (turnedS i.toNat xs i.toNat)).length (u64s (turnedS i.toNat xs i.toNat)).length] 50 true) hb2 p2.even
    rcases this with ⟨h1, h2⟩ | ⟨b, h1, h2⟩
    · exact .inl ⟨h1, h2⟩
    · exact .inr ⟨b, by omega, h2⟩
instance : CallIs Try.prog 49 := .of Try.func49 rfl rfl
end Go.Ideal

-- Le
set_option linter.unusedSimpArgs false
set_option linter.unusedVariables false
namespace Go.Ideal
open Go Go.Proofs
theorem Lst.lower {lo lo' : Nat} {h : IHp} {v : Value} {vs : List Value} {t : TypeId} (x : Lst lo h v vs t) (hl : lo' ≤ lo) : Lst lo' h v vs t := by
  rcases x with ⟨h1, h2⟩ | ⟨b, h1, h2⟩
  · exact .inl ⟨h1, h2⟩
  · exact .inr ⟨b, by omega, h2⟩
theorem Lst.notBlk {lo : Nat} {h : IHp} {v : Value} {vs : List Value} {t : TypeId} (x : Lst lo h v vs t) {b : Nat} (hb : b < lo) : blockOf v ≠ some b := fun hh => by have := x.block hh; omega
theorem Lst.ltFresh {lo : Nat} {h : IHp} {v : Value} {vs : List Value} {t : TypeId} (x : Lst lo h v vs t) {b : Nat} (hb : blockOf v = some b) : b < h.fresh := by
  rcases x with ⟨rfl, rfl⟩ | ⟨c, h1, rfl, h2, h3⟩
  · simp [blockOf] at hb
  · simp only [blockOf, Option.some.injEq] at hb; subst hb; exact h2.lt
def mulRefRow (n : Nat) (xs ts : List Nat) (i : Nat) : Nat := orK (fun j => oddS (xs.getD i 0 &&& ts.getD j 0)) n
def mulRefS (n : Nat) (xs ts : List Nat) (k : Nat) : List Nat := (List.range k).map (mulRefRow n xs ts)
theorem mulRefS_succ (n : Nat) (xs ts : List Nat) (k : Nat) : u64s (mulRefS n xs ts (k + 1)) = u64s (mulRefS n xs ts k) ++ [.int .u64 (mulRefRow n xs ts k : Nat)] := by
  simp [u64s, mulRefS, List.range_succ]
theorem mulRefS_len (n : Nat) (xs ts : List Nat) (k : Nat) : (u64s (mulRefS n xs ts k)).length = k := by simp [u64s, mulRefS]
theorem turnedS_lt {n k : Nat} (hn : n ≤ 64) {xs : List Nat} : ∀ x ∈ turnedS n xs k, x < 2 ^ 64 := by
  intro x hx
  simp only [turnedS, List.mem_map] at hx
  obtain ⟨i, _, rfl⟩ := hx
  exact Nat.lt_of_lt_of_le (orK_lt _ fun _ _ => bit_le _) (Nat.pow_le_pow_right (by decide) hn)
theorem Mul_ref (M N : Int) (a b : Option Addr) (la ca lb cb : Nat) (xs ys : List Nat) (h : IHp) (hx : SlIs h a la ca (u64s xs)) (hy : SlIs h b lb cb (u64s ys)) (hx64 : ∀ x ∈ xs, x < 2 ^ 64) (hy64 : ∀ x ∈ ys, x < 2 ^ 64) :
    EvX Try.prog 22 [.agg [.int .i64 M, .slice a la ca].toArray, .agg [.int .i64 N, .slice b lb cb].toArray].toArray h (fun v h' => Ext h h' ∧ if checkS M xs = 0 ∧ checkS N ys = 0 ∧ M = N then ∃ sl, v = .tuple [.agg [.int .i64 M, sl].toArray, .int .i64 0].toArray ∧ Lst h.fresh h' sl (u64s (mulRefS M.toNat xs (turnedS M.toNat ys M.toNat) M.toNat)) 27 else v = .tuple [.agg [.int .i64 0, .slice none 0 0].toArray, .int .i64 2].toArray) := by
  have hlx : xs.length = la := by have := hx.1; simpa [u64s] using this
  have hly : ys.length = lb := by have := hy.1; simpa [u64s] using this
  refine EvX_of Try.func22 rfl (by show 2 ≤ 67; decide) ?_
  repeat' (first | refine V_seq ?_ | refine V_region ?_ | refine WS_nil ?_ | refine S_normal ?_ | refine WS_assign ?_ | refine WS_load_agg ?_ | refine WS_box_agg rfl ?_ | refine WS_alloc ?_)
  obtain ⟨H1, hH1⟩ : ∃ H, H = h.push (IObj.cells [Value.int IntKind.i64 M, Value.slice a la ca] 50 true) := ⟨_, rfl⟩
  have f1 : H1.fresh = h.fresh + 2 := by rw [hH1, push_fresh]
  have e1 : Ext h H1 := hH1 ▸ Ext.push _ _
  have p1 : ObjIs H1 h.fresh [.int .i64 M, .slice a la ca] 50 true := hH1 ▸ inferInstance
  rw [← hH1]
  obtain ⟨H2, hH2⟩ : ∃ H, H = H1.push (IObj.cells [Value.int IntKind.i64 N, Value.slice b lb cb] 50 true) := ⟨_, rfl⟩
  have f2 : H2.fresh = h.fresh + 4 := by rw [hH2, push_fresh, f1]
  have e2 : Ext H1 H2 := hH2 ▸ Ext.push _ _
  have p2 : ObjIs H2 H1.fresh [.int .i64 N, .slice b lb cb] 50 true := hH2 ▸ inferInstance
  rw [← hH2]
  obtain ⟨H3, hH3⟩ : ∃ H, H = H2.push (IObj.cells [Value.int IntKind.i64 0, Value.slice none 0 0] 50 true) := ⟨_, rfl⟩
  have f3 : H3.fresh = h.fresh + 6 := by rw [hH3, push_fresh, f2]
  have e3 : Ext H2 H3 := hH3 ▸ Ext.push _ _
  have p3 : ObjIs H3 H2.fresh [.int .i64 0, .slice none 0 0] 50 true := hH3 ▸ inferInstance
  rw [← hH3]
  have e13 : Ext h H3 := (e1.trans e2).trans e3
  have q1 : ObjIs H3 h.fresh [.int .i64 M, .slice a la ca] 50 true := inferInstance
  have q2 : ObjIs H3 H1.fresh [.int .i64 N, .slice b lb cb] 50 true := inferInstance
  refine WS_call (Check_ref M a la ca xs _ (hx.ext e13) hx64) ?_
  rintro _ H4 ⟨rfl, e4⟩
  have r1 : ObjIs H4 h.fresh [.int .i64 M, .slice a la ca] 50 true := inferInstance
  have r2 : ObjIs H4 H1.fresh [.int .i64 N, .slice b lb cb] 50 true := inferInstance
  have r3 : ObjIs H4 H2.fresh [.int .i64 0, .slice none 0 0] 50 true := inferInstance
  have e14 : Ext h H4 := e13.trans e4
  have g4 := e4.fresh
  have n02 : NeB h.fresh H2.fresh := .fresh (by omega)
  have n12 : NeB H1.fresh H2.fresh := .fresh (by omega)
  repeat' (first | refine V_seq ?_ | refine V_region ?_ | refine WS_nil ?_ | refine S_normal ?_ | refine V_ret ?_ | refine S_ret ?_ | refine WS_off rfl (by first | rfl | assumption) ?_ | refine WS_on rfl (by first | rfl | assumption) ?_ | refine WS_move ?_ | refine WS_assign ?_ | refine WS_pick_t (by first | rfl | assumption) ?_ | refine WS_cmp rfl ?_ | refine WS_load_agg ?_ | refine WS_build ?_ | refine WS_store rfl ?_ | (refine WS_guard rfl ?_ ?_ <;> intro hg) | (refine V_cond ?_ ?_ <;> intro hc <;> try (cases hc; done)))
  · have hck : checkS M xs = 0 := by simpa using hg
    refine WS_call (Check_ref N b lb cb ys _ (hy.ext e14) hy64) ?_
    rintro _ H5 ⟨rfl, e5⟩
    have s1 : ObjIs H5 h.fresh [.int .i64 M, .slice a la ca] 50 true := inferInstance
    have s2 : ObjIs H5 H1.fresh [.int .i64 N, .slice b lb cb] 50 true := inferInstance
    have s3 : ObjIs H5 H2.fresh [.int .i64 0, .slice none 0 0] 50 true := inferInstance
    have e15 : Ext h H5 := e14.trans e5
    have g5 := e5.fresh
    repeat' (first | refine V_seq ?_ | refine V_region ?_ | refine WS_nil ?_ | refine S_normal ?_ | refine V_skip ?_ | refine V_ret ?_ | refine S_ret ?_ | refine WS_off rfl (by first | rfl | assumption) ?_ | refine WS_on rfl (by first | rfl | assumption) ?_ | refine WS_move ?_ | refine WS_assign ?_ | refine WS_pick_t (by first | rfl | assumption) ?_ | refine WS_pick_f (by first | rfl | assumption) ?_ | refine WS_cmp rfl ?_ | refine WS_fieldAddr ?_ | refine WS_load ?_ | refine WS_load_agg ?_ | refine WS_build ?_ | refine WS_store rfl ?_ | (refine WS_guard rfl ?_ ?_ <;> intro hg) | (refine V_cond ?_ ?_ <;> intro hc <;> try (cases hc; done)))
    · refine retK_ct ⟨e15.putObj (by omega), ?_⟩ (.inr rfl)
      rw [if_neg]
      rintro ⟨_, _, rfl⟩
      simp at hc
    · have hck2 : checkS N ys = 0 := by simp_all
      have hMN : M = N := by simpa using hc
      subst hMN
      obtain ⟨hN0, hN1, hN2, hbx⟩ := checkS_zero hck
      obtain ⟨_, _, hN3, hby⟩ := checkS_zero hck2
      refine WS_call (Turned_ref M b lb cb ys _ (hy.ext e15) hy64 hck2) ?_
      rintro _ H6 ⟨e6, sl, rfl, hT⟩
      have t1 : ObjIs H6 h.fresh [.int .i64 M, .slice a la ca] 50 true := inferInstance
      have t3 : ObjIs H6 H2.fresh [.int .i64 0, .slice none 0 0] 50 true := inferInstance
      have e16 : Ext h H6 := e15.trans e6
      have g6 := e6.fresh
      obtain ⟨at_, rfl⟩ := hT.isSlice
      repeat' (first | refine V_seq ?_ | refine V_region ?_ | refine WS_nil ?_ | refine S_normal ?_ | refine WS_fieldAddr ?_ | refine WS_alloc ?_ | refine WS_store rfl ?_)
      obtain ⟨H7, hH7⟩ : ∃ H, H = ((H6.push (IObj.cells [Value.int IntKind.i64 0, Value.slice none 0 0] 50 true)).put H6.fresh [Value.int IntKind.i64 M, Value.slice at_ (u64s (turnedS M.toNat ys M.toNat)).length (u64s (turnedS M.toNat ys M.toNat)).length] 50 true) := ⟨_, rfl⟩
      have e7 : Ext H6 H7 := hH7 ▸ (Ext.push _ _).putObj (Nat.le_refl _)
      have u6 : ObjIs H7 H6.fresh [Value.int IntKind.i64 M, Value.slice at_ (u64s (turnedS M.toNat ys M.toNat)).length (u64s (turnedS M.toNat ys M.toNat)).length] 50 true := hH7 ▸ inferInstance
      have f7 : H7.fresh = H6.fresh + 2 := by rw [hH7, putObj_fresh, push_fresh]
      rw [← hH7]
      repeat' (first | refine V_seq ?_ | refine V_region ?_ | refine WS_nil ?_ | refine S_normal ?_ | refine V_block ?_ | refine WS_assign ?_ | refine WS_load ?_ | refine WS_build ?_ | refine WS_alloc ?_ | refine WS_store rfl ?_)
      obtain ⟨H8, hH8⟩ : ∃ H, H = ((H7.push (IObj.cells [Value.int IntKind.i64 0, Value.slice none 0 0] 50 true)).put H7.fresh [Value.int IntKind.i64 M, Value.slice none 0 0] 50 true) := ⟨_, rfl⟩
      have e8 : Ext H7 H8 := hH8 ▸ (Ext.push _ _).putObj (Nat.le_refl _)
      have u7 : ObjIs H8 H7.fresh [Value.int IntKind.i64 M, Value.slice none 0 0] 50 true := hH8 ▸ inferInstance
      have f8 : H8.fresh = H7.fresh + 2 := by rw [hH8, putObj_fresh, push_fresh]
      rw [← hH8]
      have v1 : ObjIs H8 h.fresh [.int .i64 M, .slice a la ca] 50 true := ⟨t1.even, e8.new _ _ (e7.new _ _ t1.eq)⟩
      have v3 : ObjIs H8 H2.fresh [.int .i64 0, .slice none 0 0] 50 true := ⟨t3.even, e8.new _ _ (e7.new _ _ t3.eq)⟩
      have v6 : ObjIs H8 H6.fresh [Value.int IntKind.i64 M, Value.slice at_ (u64s (turnedS M.toNat ys M.toNat)).length (u64s (turnedS M.toNat ys M.toNat)).length] 50 true := ⟨u6.even, e8.new _ _ u6.eq⟩
      have e18 : Ext h H8 := (e16.trans e7).trans e8
      have slT : SlIs H8 at_ _ _ (u64s (turnedS M.toNat ys M.toNat)) := (hT.getSl.ext e7).ext e8
      have slX : SlIs H8 a la ca (u64s xs) := hx.ext e18
      have n07 : NeB h.fresh H7.fresh := .fresh (by omega)
      have n27 : NeB H2.fresh H7.fresh := .fresh (by omega)
      have n67 : NeB H6.fresh H7.fresh := .fresh (by omega)
      have n72 : NeB H7.fresh H2.fresh := n27.symm
      refine V_loop (fun d s h' => ∃ (i : Int) (sl : Value), d = (M - i).toNat ∧ 0 ≤ i ∧ i ≤ M ∧ Get s 8 (.int .i64 i) ∧ Get s 2 (.pointer (some (ad h.fresh 0))) ∧ Get s 4 (.pointer (some (ad H2.fresh 0))) ∧ Get s 6 (.pointer (some (ad H6.fresh 0))) ∧ Get s 7 (.pointer (some (ad H7.fresh 0))) ∧ Ext H7 h' ∧ ObjIs h' H7.fresh [.int .i64 M, sl] 50 true ∧ Lst H8.fresh h' sl (u64s (mulRefS M.toNat xs (turnedS M.toNat ys M.toNat) i.toNat)) 27) M.toNat
        ⟨0, .slice none 0 0, by omega, by omega, by omega, inferInstance, inferInstance, inferInstance, inferInstance, inferInstance, e8, inferInstance, .inl ⟨rfl, rfl⟩⟩ ?_
      rintro d s h' ⟨i, sl, rfl, hi0, hi1, y8, y2, y4, y6, y7, eX, p7, hL⟩
      have w1 : ObjIs h' h.fresh [.int .i64 M, .slice a la ca] 50 true := ⟨t1.even, eX.new _ _ (e7.new _ _ t1.eq)⟩
      have w3 : ObjIs h' H2.fresh [.int .i64 0, .slice none 0 0] 50 true := ⟨t3.even, eX.new _ _ (e7.new _ _ t3.eq)⟩
      have w6 : ObjIs h' H6.fresh [Value.int IntKind.i64 M, Value.slice at_ (u64s (turnedS M.toNat ys M.toNat)).length (u64s (turnedS M.toNat ys M.toNat)).length] 50 true := ⟨u6.even, eX.new _ _ u6.eq⟩
      have slT' : SlIs h' at_ _ _ (u64s (turnedS M.toNat ys M.toNat)) := (hT.getSl.ext e7).ext eX
      have slX' : SlIs h' a la ca (u64s xs) := hx.ext ((e16.trans e7).trans eX)
      repeat' (first | refine V_seq ?_ | refine V_region ?_ | refine WS_nil ?_ | refine S_normal ?_ | refine V_block ?_ | refine V_skip ?_ | refine V_exit ?_ | refine S_exit ?_ | refine B_exit ?_ | refine WS_move ?_ | refine WS_assign ?_ | refine WS_cmp rfl ?_ | refine WS_fieldAddr ?_ | refine WS_load ?_ | refine WS_load_agg ?_ | (refine V_cond ?_ ?_ <;> intro hc <;> try (cases hc; done)))
      · have hi : i < M := by simpa using hc
        refine V_loop (fun d s h'' => ∃ (j : Int), d = (M - j).toNat ∧ 0 ≤ j ∧ j ≤ M ∧ Get s 10 (.int .i64 j) ∧ Get s 8 (.int .i64 i) ∧ Get s 2 (.pointer (some (ad h.fresh 0))) ∧ Get s 4 (.pointer (some (ad H2.fresh 0))) ∧ Get s 6 (.pointer (some (ad H6.fresh 0))) ∧ Get s 7 (.pointer (some (ad H7.fresh 0))) ∧ h'' = h' ∧ Get s 9 (.int .u64 (orK (fun j => oddS (xs.getD i.toNat 0 &&& (turnedS M.toNat ys M.toNat).getD j 0)) j.toNat : Nat))) M.toNat
          ⟨0, by omega, by omega, by omega, inferInstance, inferInstance, inferInstance, inferInstance, inferInstance, inferInstance, rfl, inferInstanceAs (Get _ 9 (.int .u64 (0 : Int)))⟩ ?_
        rintro d s h'' ⟨j, rfl, hj0, hj1, z10, z8, z2, z4, z6, z7, rfl, z9⟩
        repeat' (first | refine V_seq ?_ | refine V_region ?_ | refine WS_nil ?_ | refine S_normal ?_ | refine V_block ?_ | refine V_skip ?_ | refine V_exit ?_ | refine S_exit ?_ | refine B_exit ?_ | refine WS_move ?_ | refine WS_cmp rfl ?_ | refine WS_fieldAddr ?_ | refine WS_load ?_ | refine WS_buildSlice (by decide) rfl rfl (by simp [Value.cells]) ?_ | (refine V_cond ?_ ?_ <;> intro hc <;> try (cases hc; done)))
        · have hj : j < M := by simpa using hc
          obtain ⟨b1, v, rfl, hv, c2⟩ := slX'.at hi0 (show i < (la : Int) by omega)
          obtain ⟨r, rfl, hr⟩ := u64s_at hv
          have hr64 := hx64 r (List.mem_of_getElem? hr)
          obtain ⟨b2, w, rfl, hw, c3⟩ := slT'.at hj0 (show j < ((u64s (turnedS M.toNat ys M.toNat)).length : Int) by rw [turnedS_len]; omega)
          obtain ⟨q, rfl, hq⟩ := u64s_at hw
          have hq64 := turnedS_lt (show M.toNat ≤ 64 by omega) q (List.mem_of_getElem? hq)
          refine V_draw (plan := [.take 0, .take 1, .take 2, .take 3, .take 4, .take 5, .take 6, .take 7, .take 8, .take 9, .take 10, .take 11, .take 13, .one 12, .take 14, .take 15, .take 16]) (by kernel_rfl) ?_
          have hjb : 0 ≤ j ∧ j < ((u64s (turnedS M.toNat ys M.toNat)).length : Int) := by rw [turnedS_len]; omega
          repeat' (first | refine WS_nil ?_ | refine WS_move ?_ | refine WS_arith rfl ?_ | refine WS_fieldAddr ?_ | refine WS_indexAddr (by first | decide | omega) ?_ | refine WDT_go ?_ | refine WD_load rfl ?_ | refine WD_take rfl rfl ?_ | refine WD_one rfl ?_)
          rw [and_u64 hr64 hq64]
          refine WS_call (odd_ref (r &&& q) (Nat.and_lt_two_pow r hq64) _) ?_
          rintro _ h'' ⟨rfl, rfl⟩
          repeat' (first | refine V_region ?_ | refine WS_nil ?_ | refine S_normal ?_ | refine B_normal ?_ | refine WS_move ?_ | refine WS_assign ?_ | refine WS_addi (by omega) ?_ | refine WS_arith rfl ?_ | refine WS_shift (by first | decide | omega) rfl ?_ | refine WDK_go ?_ | refine WDT_go ?_ | refine WD_nil ?_ | refine WD_take rfl rfl ?_)
          have hodd : oddS (r &&& q) ≤ 1 := oddK_le _ _
          have hlt : orK (fun j => oddS (xs.getD i.toNat 0 &&& (turnedS M.toNat ys M.toNat).getD j 0)) j.toNat < 2 ^ 64 := Nat.lt_of_lt_of_le (orK_lt _ fun _ _ => oddK_le _ _) (Nat.pow_le_pow_right (by decide) (by omega))
          rw [shl_bit hodd hj0 (by omega), or_u64 hlt (bit_shl_lt hodd (by omega))]
          refine ⟨_, ?_, j + 1, rfl, by omega, by omega, inferInstance, inferInstance, inferInstance, inferInstance, inferInstance, inferInstance, rfl, ?_⟩
          · omega
          · rw [toNat_succ hj0]
            have : orK (fun j => oddS (xs.getD i.toNat 0 &&& (turnedS M.toNat ys M.toNat).getD j 0)) (j.toNat + 1) = orK (fun j => oddS (xs.getD i.toNat 0 &&& (turnedS M.toNat ys M.toNat).getD j 0)) j.toNat ||| oddS (r &&& q) <<< j.toNat := by
              simp only [orK, List.getD_eq_getElem?_getD, hr, hq, Option.getD_some]
            rw [this]; infer_instance
        · have hj : j = M := by simp at hc; omega
          subst hj
          obtain ⟨a', rfl⟩ := hL.isSlice
          skip
          refine WS_append1 (lo := H8.fresh) (hL.ext (Ext.push _ _)) (by rw [push_fresh]; have := eX.fresh; have := p7.lt; omega) (by rw [mulRefS_len]; omega) ?_
          intro v' h2 hL2 m2 hb
          have l7 := p7.lt
          have k7 : ObjIs h2 H7.fresh _ 50 true := m2.obj inferInstance (hL.notBlk (by omega))
          have e9 : Ext H7 h2 := m2.ext (eX.push' _) ((hL.ext (Ext.push _ _)).lower (by omega))
          rw [push_fresh] at hb
          obtain ⟨a'', rfl⟩ := hL2.isSlice
          repeat' (first | refine V_region ?_ | refine WS_nil ?_ | refine S_normal ?_ | refine B_normal ?_ | refine WS_move ?_ | refine WS_assign ?_ | refine WS_addi (by omega) ?_ | refine WS_fieldAddr ?_ | refine WS_store rfl ?_)
          refine ⟨_, ?_, i + 1, _, rfl, by omega, by omega, inferInstance, inferInstance, inferInstance, inferInstance, inferInstance, e9.putObj (Nat.le_refl _), inferInstance, ?_⟩
          · omega
          · rw [toNat_succ hi0, mulRefS_succ]; exact hL2.put (hL2.notBlk (by omega)) p7.even
      · have hi : i = M := by simp at hc; omega
        subst hi
        obtain ⟨a', rfl⟩ := hL.isSlice
        repeat' (first | refine WS_nil ?_ | refine S_normal ?_ | refine V_ret ?_ | refine WS_assign ?_ | refine WS_store rfl ?_)
        refine retK_ct ⟨((e16.trans e7).trans eX).putObj (by omega), ?_⟩ (.inr rfl)
        rw [if_pos ⟨hck, hck2, rfl⟩]
        exact ⟨_, rfl, (hL.put (hL.notBlk (by omega)) w3.even).lower (by omega)⟩
    · refine retK_ct ⟨e15.putObj (by omega), ?_⟩ (.inr rfl)
      rw [if_neg]
      rintro ⟨_, h2, _⟩
      simp_all
  · refine retK_ct ⟨e14.putObj (by omega), ?_⟩ (.inr rfl)
    rw [if_neg]
    rintro ⟨h2, _, _⟩
    simp_all
instance : CallIs Try.prog 22 := .of Try.func22 rfl rfl
end Go.Ideal
