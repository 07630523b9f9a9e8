/- Part 4 of what the proof stands on: an interpreter over an ideal memory that is proved sound, steps over it, and contracts of the functions that are called. No condition: no law is claimed here. -/
import Derived.Test.YtpdmbmekdkfaaaaC3
import Derived.ChangeArms
import Derived.ChangeShapes
import Derived.WideShapes
import Derived.SizedLaws
import Derived.KernelRfl
import Derived.Test.YtpdmbmekdkfaaaaProg
import Derived.Carry
import Derived.OpenShut
-- IdealTj
set_option linter.unusedSimpArgs false
set_option linter.unusedVariables false
namespace Go.Ideal
open Go Go.RowKit
variable {P : Program} {X : Cx} {E : Env} {σ : Nat → Tr} {B B' : Boxes} {ops : Array Oper} {K : TK} {l : List Oper} {d : Option Tmp} {ty : TypeId} {pos : String} {af : Array Edge} {H : List (Nat × Nat)} {F : Mem} {s : Nat → Value} {h : IHp} {held : Held} {plan : List PStep} {ph : Bool}

/-! ### Regions that draw their order -/
/-- cells that are the same in all the heaps since the region began; the number of cells is told in the entry's number -/
def PinOk (H : List (Nat × Nat)) (pins : Held) (snaps : List IHp) : Prop := ∀ b n, (1000000 + n, b) ∈ H → ∀ j, j < n → ∃ v, (1000000 + n, b, j, v) ∈ pins ∧ ∀ hs ∈ snaps, hs.cell? b j = some v
theorem pinOk_nil {pins : Held} {snaps : List IHp} : PinOk [] pins snaps := fun b n h => by cases h
@[irreducible] def TD (X : Cx) (P : Program) (E : Env) (ops : Array Oper) (K : TK) (plan : List PStep) (H : List (Nat × Nat)) (ph : Bool) (σ : Nat → Tr) (B : Boxes) : Prop :=
  ∀ F s h held snaps pins, TR X F σ B s h → HeldOk F B H h (held ++ pins) → (ph = true → snaps = [h]) → PinOk H pins snaps → WD P E ops (fun s' h' => ∃ F' σ' B', TR X F' σ' B' s' h' ∧ K σ' B') plan held snaps s h
theorem TV_draw {id : Nat} {l : List Oper} {Q : IExit → TK} {plan : List PStep} (hp : planOf l.toArray = some plan) (k : TD X P E l.toArray (Q .normal) plan [] true σ B) : TV X P E (.region id l.toArray true) Q σ B := by
  unfold TV; unfold TD at k
  intro F s h r
  exact V_draw hp (k F s h [] [h] [] r (fun e he => by cases he) (fun _ => rfl) pinOk_nil)
theorem TD_nil (k : K σ B) : TD X P E ops K [] H ph σ B := by
  unfold TD; intro F s h held snaps pins r hh hp hq; exact WD_nil ⟨F, σ, B, r, k⟩
theorem TD_take {i : Nat} {op : Op} {t : Tr} (ho : ops[i]? = some ⟨d, op, ty, pos, af, none⟩) (hq : (isQuiet op && !isLoad op) = true) [nb : NoBts P op] [p : Pu P σ B op t] (k : TD X P E ops K plan H ph (putT σ d t) B) : TD X P E ops K (.take i :: plan) H ph σ B := by
  unfold TD at *
  intro F s h held snaps pins r hh hp hpin
  refine WD_take ho (by simpa using hq) (p.eq r fun v hv => WS_nil ?_)
  unfold WDT
  exact k F _ h held snaps pins (r.put hv) hh hp hpin
theorem TD_takew {i : Nat} {op : Op} {t : Tr} (ho : ops[i]? = some ⟨d, op, ty, pos, af, none⟩) (hq : (isQuiet op && !isLoad op) = true) [nb : NoBts P op] (p : Pu P σ B op t) (k : TD X P E ops K plan H ph (putT σ d t) B) : TD X P E ops K (.take i :: plan) H ph σ B := TD_take ho hq (p := p) k
theorem TD_take_on {i j : Nat} {op : Op} {t : Tr} {u b : Bool} {x : Tmp} (ho : ops[i]? = some ⟨d, op, ty, pos, af, some (j, u)⟩) (hd : (ops[j]?).bind (·.dst) = some x) [g : TGet σ x (.v (.bool b))] (hb : b = u) (hq : (isQuiet op && !isLoad op) = true) [nb : NoBts P op] [p : Pu P σ B op t] (k : TD X P E ops K plan H ph (putT σ d t) B) : TD X P E ops K (.take i :: plan) H ph σ B := by
  unfold TD at *
  intro F s h held snaps pins r hh hp hpin
  have := g.is r
  refine WD_take_on ho hd hb hq (p.eq r fun v hv => WS_nil ?_)
  unfold WDT
  exact k F _ h held snaps pins (r.put hv) hh hp hpin
/-! loads that are taken first: the place, what is read, and whether it lies in own memory -/
/-- a load's reading; bs: the own block that is read, if any -/
class Lo (P : Program) (σ : Nat → Tr) (B : Boxes) (op : Op) (t : outParam Tr) (bs : outParam (List Nat)) : Prop where
  eq : ∀ {X : Cx} {F : Mem} {s : Nat → Value} {h : IHp}, TR X F σ B s h → ∃ ty x b off us, op = .load ty x ∧ EvalIs s x (.pointer (some (ad b off))) ∧ h.row b off us.length = some us ∧ (∀ u ∈ us, veq u u = true) ∧
    ((AggIs P ty false ∧ ∃ u, us = [u] ∧ Rep F t u) ∨ (AggIs P ty true ∧ SizeIs P ty us.length ∧ Rep F t (.agg us.toArray))) ∧ ((∀ i, i < us.length → F b (off + i) = us[i]?) ∨ (bs = [b] ∧ b ∈ B.map Prod.fst ∧ b % 2 = 0))
class VR (t : Tr) : Prop where eq : ∀ F v, Rep F t v → veq v v = true
instance VR.val {x : Value} [r : VRefl x] : VR (.v x) := ⟨fun F v h => by simp only [Rep] at h; subst h; exact r.eq⟩
instance VRefl.gsv {b n : Nat} : VRefl (gsv b n) := ⟨by unfold Go.Ideal.gsv; split <;> simp [veq]⟩
instance VRefl.elp {b m i j : Nat} : VRefl (elp b m i j) := ⟨by unfold Go.Ideal.elp; simp [veq]⟩
instance VR.sl {m : Nat} {rows : List (List Tr)} : VR (.sl m rows) := ⟨fun F v h => by simp only [Rep] at h; obtain ⟨a, n, c, rfl, _⟩ := h; simp [veq]⟩
instance VR.pf {cs : List Tr} : VR (.pf cs) := ⟨fun F v h => by simp only [Rep] at h; obtain ⟨b, o, vs, rfl, _⟩ := h; simp [veq]⟩
class VRL (ts : List Tr) : Prop where eq : ∀ F vs, RepL F ts vs → ∀ v ∈ vs, veq v v = true
instance VRL.nil : VRL [] := ⟨fun F vs h v hv => by simp only [RepL] at h; subst h; cases hv⟩
instance VRL.cons {t : Tr} {ts : List Tr} [a : VR t] [b : VRL ts] : VRL (t :: ts) := ⟨fun F vs h v hv => by
  simp only [RepL] at h
  obtain ⟨w, ws, rfl, h1, h2⟩ := h
  rcases List.mem_cons.1 hv with rfl | hv
  · exact a.eq F _ h1
  · exact b.eq F ws h2 v hv⟩
theorem row_len {h : IHp} {b off n : Nat} {us : List Value} (hr : h.row b off n = some us) : us.length = n := by rw [row_rowM] at hr; exact rowM_len hr
theorem TR.even (r : TR X F σ B s h) {b : Nat} {cs : List Tr} {t : Nat} {x : Bool} (bi : BoxIs B b (.cells cs t x)) : b % 2 = 0 ∧ b ∈ B.map Prod.fst := by
  obtain ⟨vs, _, o⟩ := r.boxOf bi
  exact ⟨o.even, List.mem_map.2 ⟨_, bi.mem, rfl⟩⟩
instance Lo.box {x : Operand} {t : TypeId} {b off bt : Nat} {bx : Bool} {cs : List Tr} {u : Tr} [e : TEval σ x (.v (.pointer (some (ad b off))))] [a : AggIs P t false] [bi : BoxIs B b (.cells cs bt bx)] [n : NthG cs off u] [vr : VR u] : Lo P σ B (.load t x) u [b] := ⟨fun {X F s h} q => by
  have h0 := e.is q.slot
  obtain ⟨vs, h1, h2⟩ := q.boxOf bi
  obtain ⟨v, h3, h4⟩ := h1.get n.eq
  refine ⟨t, x, b, off, [v], rfl, h0, ?_, ?_, .inl ⟨a, v, rfl, h4⟩, .inr ⟨rfl, (q.even bi).2, (q.even bi).1⟩⟩
  · have hlt := (List.getElem?_eq_some_iff.1 h3).1
    rw [List.length_singleton, row_obj h2 off (by omega)]
    rw [List.drop_eq_getElem_cons hlt]
    rw [List.getElem?_eq_getElem hlt] at h3
    simp [Option.some.inj h3]
  · intro w hw; simp at hw; subst hw; exact vr.eq F _ h4⟩
instance Lo.pf {x : Operand} {t : TypeId} {u : Tr} {cs : List Tr} [e : TEval σ x (.pf (u :: cs))] [a : AggIs P t false] [vr : VR u] : Lo P σ B (.load t x) u [] := ⟨fun {X F s h} q => by
  have h1 := evalIs_self (s := s) (x := x) (h := h)
  have h2 := e.eq F s q.slot h 0 [] false
  simp only [Rep] at h2
  obtain ⟨b, off, vs, h3, h4, h5⟩ := h2
  rw [h3] at h1
  simp only [RepL] at h5
  obtain ⟨v, ws, rfl, h6, h7⟩ := h5
  refine ⟨t, x, b, off, [v], rfl, h1, ?_, ?_, .inl ⟨a, v, rfl, h6⟩, .inl ?_⟩
  · have := rowM_part h4 0 1 (by simp)
    rw [row_rowM]
    exact rowM_sub q.sub (by simpa using this)
  · intro w hw; simp at hw; subst hw; exact vr.eq F _ h6
  · intro i hi
    have : i = 0 := by simpa using hi
    subst this
    have := rowM_get h4 0 (by simp)
    simpa using this⟩
instance Lo.box_agg {x : Operand} {t : TypeId} {b off n bt : Nat} {bx : Bool} {cs r1 r2 : List Tr} [e : TEval σ x (.v (.pointer (some (ad b off))))] [a : AggIs P t true] [z : SizeIs P t n] [bi : BoxIs B b (.cells cs bt bx)] [dr : DropT cs off r1] [tk : TakeT r1 n r2] [vr : VRL r2] : Lo P σ B (.load t x) (.agg r2) [b] := ⟨fun {X F s h} q => by
  have h0 := e.is q.slot
  obtain ⟨vs, h1, h2⟩ := q.boxOf bi
  obtain ⟨us, h3, h4⟩ := h1.row h2 dr tk
  have hl := row_len h3.eq
  refine ⟨t, x, b, off, us, rfl, h0, by rw [hl]; exact h3.eq, vr.eq F us h4, .inr ⟨a, by rw [hl]; exact z, by simp only [Rep]; exact ⟨us, rfl, h4⟩⟩, .inr ⟨rfl, (q.even bi).2, (q.even bi).1⟩⟩⟩
instance Lo.pf_agg {x : Operand} {t : TypeId} {n : Nat} {cs r : List Tr} [e : TEval σ x (.pf cs)] [a : AggIs P t true] [z : SizeIs P t n] [tk : TakeT cs n r] [vr : VRL r] : Lo P σ B (.load t x) (.agg r) [] := ⟨fun {X F s h} q => by
  have h1 := evalIs_self (s := s) (x := x) (h := h)
  have h2 := e.eq F s q.slot h 0 [] false
  simp only [Rep] at h2
  obtain ⟨b, off, vs, h3, h4, h5⟩ := h2
  rw [h3] at h1
  have h6 : RepL F r (vs.take n) := by rw [← tk.eq]; exact h5.take n
  have hl : (vs.take n).length = n := by have := rowM_len h4; have := tk.le; simp; omega
  have h7 : rowM F b off n = some (vs.take n) := by have := rowM_part h4 0 n (by have := tk.le; omega); simpa using this
  refine ⟨t, x, b, off, vs.take n, rfl, h1, ?_, vr.eq F _ h6, .inr ⟨a, by rw [hl]; exact z, by simp only [Rep]; exact ⟨_, rfl, h6⟩⟩, .inl ?_⟩
  · rw [hl, row_rowM]; exact rowM_sub q.sub h7
  · rw [hl]; exact fun i hi => rowM_get h7 i hi⟩
theorem TR.evenA (r : TR X F σ B s h) {b m : Nat} {rows : List (List Tr)} {t : Nat} {x : Bool} (bi : BoxIs B b (.arr m rows t x)) {i : Nat} {row : List Tr} (hr : rows[i]? = some row) : b % 2 = 0 ∧ b ∈ B.map Prod.fst := by
  obtain ⟨vs, _, o, _⟩ := Box.len_of (r.boxOf bi) hr
  exact ⟨o.even, List.mem_map.2 ⟨_, bi.mem, rfl⟩⟩
instance Lo.arr {x : Operand} {t : TypeId} {b m i j bt : Nat} {bx : Bool} {rows : List (List Tr)} {row : List Tr} {u : Tr} [e : TEval σ x (.v (elp b m i j))] [a : AggIs P t false] [bi : BoxIs B b (.arr m rows bt bx)] [ng : NthG rows i row] [n : NthG row j u] [vr : VR u] : Lo P σ B (.load t x) u [b] := ⟨fun {X F s h} q => by
  have h0 := e.is q.slot
  unfold elp at h0
  obtain ⟨us, h1, h2⟩ := arr_row (q.boxOf bi) ng.eq
  obtain ⟨v, h3, h4⟩ := h2.get n.eq
  have hj := (List.getElem?_eq_some_iff.1 h3).1
  have hm := row_len h1
  refine ⟨t, x, b, i * m + j, [v], rfl, h0, ?_, ?_, .inl ⟨a, v, rfl, h4⟩, .inr ⟨rfl, (q.evenA bi ng.eq).2, (q.evenA bi ng.eq).1⟩⟩
  · rw [List.length_singleton, row_part h1 j 1 (by omega), List.drop_eq_getElem_cons hj]
    rw [List.getElem?_eq_getElem hj] at h3
    simp [Option.some.inj h3]
  · intro w hw; simp at hw; subst hw; exact vr.eq F _ h4⟩
instance Lo.arr_agg {x : Operand} {t : TypeId} {b m i j n bt : Nat} {bx : Bool} {rows : List (List Tr)} {row r1 r2 : List Tr} [e : TEval σ x (.v (elp b m i j))] [a : AggIs P t true] [z : SizeIs P t n] [bi : BoxIs B b (.arr m rows bt bx)] [ng : NthG rows i row] [dr : DropT row j r1] [tk : TakeT r1 n r2] [vr : VRL r2] : Lo P σ B (.load t x) (.agg r2) [b] := ⟨fun {X F s h} q => by
  have h0 := e.is q.slot
  unfold elp at h0
  obtain ⟨us, h1, h2⟩ := arr_row (q.boxOf bi) ng.eq
  have hm := row_len h1
  have hl := h2.len
  have h3 := tk.le
  rw [← dr.eq, List.length_drop] at h3
  have h5 := dr.le
  have h6 : RepL F r2 ((us.drop j).take n) := by rw [← tk.eq, ← dr.eq]; exact (h2.drop j).take n
  have h7 : ((us.drop j).take n).length = n := by simp; omega
  refine ⟨t, x, b, i * m + j, _, rfl, h0, by rw [h7]; exact row_part h1 j n (by omega), vr.eq F _ h6, .inr ⟨a, by rw [h7]; exact z, by simp only [Rep]; exact ⟨_, rfl, h6⟩⟩, .inr ⟨rfl, (q.evenA bi ng.eq).2, (q.evenA bi ng.eq).1⟩⟩⟩
theorem cellsOf_at {i b : Nat} : ∀ {us : List Value} {off : Nat} {e : Nat × Nat × Nat × Value}, e ∈ cellsOf i b off us → ∃ j, j < us.length ∧ e.1 = i ∧ e.2.1 = b ∧ e.2.2.1 = off + j ∧ us[j]? = some e.2.2.2 := by
  intro us
  induction us with
  | nil => intro off e he; cases he
  | cons u us ih =>
    intro off e he
    simp only [cellsOf, List.mem_cons] at he
    rcases he with rfl | he
    · exact ⟨0, by simp, rfl, rfl, rfl, rfl⟩
    · obtain ⟨j, h1, h2, h3, h4, h5⟩ := ih he
      exact ⟨j + 1, by simp; omega, h2, h3, by rw [h4]; omega, by simpa using h5⟩
theorem held_more {i b off : Nat} {us : List Value} {bs : List Nat} (hh : HeldOk F B H h held) (hr : h.row b off us.length = some us) (hv : ∀ u ∈ us, veq u u = true) (hm : (∀ j, j < us.length → F b (off + j) = us[j]?) ∨ (bs = [b] ∧ b ∈ B.map Prod.fst ∧ b % 2 = 0)) : HeldOk F B (bs.map (fun b => (i, b)) ++ H) h (cellsOf i b off us ++ held) := by
  intro e he
  rcases List.mem_append.1 he with h1 | h1
  · obtain ⟨j, h2, h3, h4, h5, h6⟩ := cellsOf_at h1
    refine ⟨hv _ (List.mem_of_getElem? h6), ?_, ?_⟩
    · rw [h4, h5, row_cell hr j h2]; exact h6
    · rcases hm with hm | ⟨rfl, h7, h8⟩
      · exact .inl (by rw [h4, h5, hm j h2]; exact h6)
      · exact .inr ⟨by rw [h3, h4]; simp, by rw [h4]; exact h7, by rw [h4]; exact h8⟩
  · obtain ⟨h2, h3, h4⟩ := hh e h1
    refine ⟨h2, h3, ?_⟩
    rcases h4 with h4 | ⟨h4, h5⟩
    · exact .inl h4
    · exact .inr ⟨List.mem_append_right _ h4, h5⟩
theorem heldIn_cells {i b off : Nat} {us : List Value} (hr : h.row b off us.length = some us) (hv : ∀ u ∈ us, veq u u = true) : heldIn h (cellsOf i b off us) = true := by
  simp only [heldIn, List.all_eq_true]
  rintro ⟨i', b', o', v⟩ he
  obtain ⟨j, h2, h3, h4, h5, h6⟩ := cellsOf_at he
  simp only at h3 h4 h5 h6
  subst h3; subst h4; subst h5
  have hc := row_cell hr j h2
  rw [h6] at hc
  simp only [hc]
  exact hv _ (List.mem_of_getElem? h6)
theorem WD_loadG {K : SK} {i b off : Nat} {t : TypeId} {x : Operand} {us : List Value} {v : Value} {o : Oper} {snaps : List IHp} (ho : ops[i]? = some o) (hop : o.op = .load t x) (hw : iwanted ops s o = true) (e : EvalIs s x (.pointer (some (ad b off)))) (hr : h.row b off us.length = some us) (hv : ∀ u ∈ us, veq u u = true)
    (hc : (AggIs P t false ∧ us = [v]) ∨ (AggIs P t true ∧ SizeIs P t us.length ∧ v = .agg us.toArray)) (hs : snaps = [h]) (k : WD P E ops K plan (cellsOf i b off us ++ held) snaps (putS s o.dst v) h) : WD P E ops K (.take i :: plan) held snaps s h := by
  unfold WD at k ⊢
  obtain ⟨n, st', h5, h6⟩ := k
  refine ⟨n, st', ?_, h6⟩
  have he := ev_eq (E := E) (h := h) (x := x) (s := s)
  simp only [iplan, ho, Option.bind_some]
  rw [if_pos (show iwanted ops (E.st s h).s o = true from hw)]
  have hheld := heldIn_cells (i := i) hr hv
  simp only [Env.st] at he h5 ⊢
  subst hs
  rcases hc with ⟨ha, rfl⟩ | ⟨ha, hz, rfl⟩
  · have hcell : h.cell? b off = some v := by
      have := row_cell hr 0 (by simp)
      simpa using this
    have h7 : heldOf P h (St.eval { s := s, h := h, nt := E.nt, marks := E.marks, rd := E.rd }) i o = some (cellsOf i b off [v]) := by
      simp only [heldOf, hop, he, ha.eq, Option.bind_some, hcell, Option.map_some, cellsOf]
    have h8 : iheap P h (St.eval { s := s, h := h, nt := E.nt, marks := E.marks, rd := E.rd }) o = some (v, h) := by
      simp only [iheap, hop, he, iload, ha.eq, Option.bind_some, hcell, Option.map_some]
    rw [h7]
    simp only [Option.bind_some, List.all_cons, List.all_nil, Bool.and_true, hheld, if_true, h8]
    exact h5
  · have h7 : heldOf P h (St.eval { s := s, h := h, nt := E.nt, marks := E.marks, rd := E.rd }) i o = some (cellsOf i b off us) := by
      simp only [heldOf, hop, he, ha.eq, Option.bind_some, hz.eq, hr, Option.map_some]
    have h8 : iheap P h (St.eval { s := s, h := h, nt := E.nt, marks := E.marks, rd := E.rd }) o = some (.agg us.toArray, h) := by
      simp only [iheap, hop, he, iload, ha.eq, Option.bind_some, hz.eq, hr, Option.map_some]
    rw [h7]
    simp only [Option.bind_some, List.all_cons, List.all_nil, Bool.and_true, hheld, if_true, h8]
    exact h5
theorem PinOk.more {i : Nat} {bs : List Nat} {pins : Held} {snaps : List IHp} (x : PinOk H pins snaps) (hi : ∀ n, i ≠ 1000000 + n) : PinOk (bs.map (fun b => (i, b)) ++ H) pins snaps := fun b n hb j hj => by
  rcases List.mem_append.1 hb with h | h
  · obtain ⟨c, _, hc⟩ := List.mem_map.1 h
    simp only [Prod.mk.injEq] at hc
    exact absurd hc.1 (hi n)
  · exact x b n h j hj
theorem TD_loadG {i : Nat} {op : Op} {t : Tr} {bs : List Nat} {g : Option (Nat × Bool)} (ho : ops[i]? = some ⟨d, op, ty, pos, af, g⟩) (hlt : Nat.ble i 999999 = true) (hw : ∀ {X F s h}, TR X F σ B s h → iwanted ops s ⟨d, op, ty, pos, af, g⟩ = true) (p : Lo P σ B op t bs) (k : TD X P E ops K plan (bs.map (fun b => (i, b)) ++ H) true (putT σ d t) B) : TD X P E ops K (.take i :: plan) H true σ B := by
  unfold TD at *
  intro F s h held snaps pins r hh hp hpin
  obtain ⟨ty', x, b, off, us, h1, h2, h3, h4, h5, h6⟩ := p.eq r
  subst h1
  have hh' := held_more (i := i) (bs := bs) hh h3 h4 h6
  rw [← List.append_assoc] at hh'
  have hpin' : PinOk (bs.map (fun b => (i, b)) ++ H) pins snaps := hpin.more (by
    intro n hn
    simp only [Nat.ble_eq] at hlt
    omega)
  rcases h5 with ⟨ha, u, rfl, hu⟩ | ⟨ha, hz, hu⟩
  · exact WD_loadG (v := u) ho rfl (hw r) h2 h3 h4 (.inl ⟨ha, rfl⟩) (hp rfl) (k F _ h _ snaps pins (r.put hu) hh' hp hpin')
  · exact WD_loadG (v := .agg us.toArray) ho rfl (hw r) h2 h3 h4 (.inr ⟨ha, hz, rfl⟩) (hp rfl) (k F _ h _ snaps pins (r.put hu) hh' hp hpin')
theorem TD_load {i : Nat} {op : Op} {t : Tr} {bs : List Nat} (ho : ops[i]? = some ⟨d, op, ty, pos, af, none⟩) (hlt : Nat.ble i 999999 = true) [p : Lo P σ B op t bs] (k : TD X P E ops K plan (bs.map (fun b => (i, b)) ++ H) true (putT σ d t) B) : TD X P E ops K (.take i :: plan) H true σ B :=
  TD_loadG ho hlt (fun r => by simp [iwanted, Region.wanted]) p k
theorem TD_load_on {i j : Nat} {op : Op} {t : Tr} {bs : List Nat} {u b : Bool} {x : Tmp} (ho : ops[i]? = some ⟨d, op, ty, pos, af, some (j, u)⟩) (hd : (ops[j]?).bind (·.dst) = some x) [g : TGet σ x (.v (.bool b))] (hb : b = u) (hlt : Nat.ble i 999999 = true) [p : Lo P σ B op t bs] (k : TD X P E ops K plan (bs.map (fun b => (i, b)) ++ H) true (putT σ d t) B) : TD X P E ops K (.take i :: plan) H true σ B :=
  TD_loadG ho hlt (fun r => by have := (g.is r).eq; simp [iwanted, Region.wanted, iyielded, hd, this, hb]) p k
@[irreducible] def TDK (X : Cx) (P : Program) (E : Env) (ops : Array Oper) (K : TK) (plan : List PStep) (H : List (Nat × Nat)) : TK := fun σ B => TD X P E ops K plan H false σ B
theorem TDK_go (k : TD X P E ops K plan H false σ B) : TDK X P E ops K plan H σ B := by unfold TDK; exact k
@[irreducible] def FiltT (ops : Array Oper) (i : Nat) (H : List (Nat × Nat)) (C : List (Nat × Nat) → Prop) : Prop := C (H.filter fun e => Nat.ble 1000000 e.1 || quietAt ops i || !waitsL ops i e.1)
theorem FiltT_nil {i : Nat} {C : List (Nat × Nat) → Prop} (k : C []) : FiltT ops i [] C := by unfold FiltT; exact k
theorem FiltT_drop {i j b : Nat} {C : List (Nat × Nat) → Prop} (hk : (Nat.ble 1000000 j || quietAt ops i || !waitsL ops i j) = false) (k : FiltT ops i H C) : FiltT ops i ((j, b) :: H) C := by
  unfold FiltT at *; rw [List.filter_cons, if_neg (by simp only; rw [hk]; decide)]; exact k
theorem FiltT_keep {i j b : Nat} {C : List (Nat × Nat) → Prop} (hk : (Nat.ble 1000000 j || quietAt ops i || !waitsL ops i j) = true) (k : FiltT ops i H (fun r => C ((j, b) :: r))) : FiltT ops i ((j, b) :: H) C := by
  unfold FiltT at *; rw [List.filter_cons, if_pos (by simp only; exact hk)]; exact k
theorem TD_one {i : Nat} {op : Op} {g : Option (Nat × Bool)} (ho : ops[i]? = some ⟨d, op, ty, pos, af, g⟩) (k : FiltT ops i H (fun H' => TS X P E ops (TDK X P E ops K plan H') [⟨d, op, ty, pos, af, g⟩] H' σ B)) : TD X P E ops K (.one i :: plan) H ph σ B := by
  unfold TD
  unfold FiltT at k
  unfold TS at k
  intro F s h held snaps pins r hh hp hpin
  refine WD_one_of (held' := heldBut ops i held) ho (fun e he => he) (WS_mono ?_ (k F s h (heldBut ops i held ++ pins.filter fun e => Nat.ble 1000000 e.1) r ?_))
  · rintro s' h' ⟨F', σ', B', r', hh', hk⟩
    unfold TDK at hk
    unfold TD at hk
    unfold WDK
    have hh1 : HeldOk F' B' (H.filter fun e => Nat.ble 1000000 e.1 || quietAt ops i || !waitsL ops i e.1) h' (heldBut ops i held) := fun e he => hh' e (List.mem_append_left _ he)
    refine ⟨hh1.heldIn, hk F' s' h' _ _ _ r' hh' (by simp) fun b n hb j hj => ?_⟩
    obtain ⟨v, h1, h2⟩ := hpin b n (List.mem_filter.1 hb).1 j hj
    have h3 : (1000000 + n, b, j, v) ∈ pins.filter fun e => Nat.ble 1000000 e.1 := List.mem_filter.2 ⟨h1, by simp [Nat.ble_eq]⟩
    refine ⟨v, h3, fun hs hm => ?_⟩
    rcases List.mem_cons.1 hm with rfl | hm
    · exact (hh' _ (List.mem_append_right _ h3)).2.1
    · exact h2 hs hm
  · intro e he
    have he' : e ∈ held ++ pins ∧ (Nat.ble 1000000 e.1 || quietAt ops i || !waitsL ops i e.1) = true := by
      rcases List.mem_append.1 he with he | he
      · rw [waitsL_eq]
        unfold heldBut at he
        split at he
        · rename_i hq; exact ⟨List.mem_append_left _ he, by rw [hq]; simp⟩
        · have := List.mem_filter.1 he; exact ⟨List.mem_append_left _ this.1, by rw [this.2]; simp⟩
      · have := List.mem_filter.1 he
        exact ⟨List.mem_append_right _ this.1, by rw [this.2]; simp⟩
    obtain ⟨h1, h2, h3⟩ := hh e he'.1
    refine ⟨h1, h2, ?_⟩
    rcases h3 with h3 | ⟨h3, h4⟩
    · exact .inl h3
    · exact .inr ⟨List.mem_filter.2 ⟨h3, he'.2⟩, h4⟩
class PinIn (H : List (Nat × Nat)) (b n : Nat) : Prop where mem : (1000000 + n, b) ∈ H
class IsPin (i n : Nat) : Prop where eq : i = 1000000 + n
instance IsPin.of {n : Nat} : IsPin (1000000 + n) n := ⟨rfl⟩
instance (priority := 1000) PinIn.head {b n i : Nat} [p : IsPin i n] : PinIn ((i, b) :: H) b n := ⟨by rw [← p.eq]; exact List.mem_cons_self⟩
instance (priority := 900) PinIn.tail {p : Nat × Nat} {b n : Nat} [k : PinIn H b n] : PinIn (p :: H) b n := ⟨List.mem_cons_of_mem _ k.mem⟩
/-- an alloc ahead of its time -/
theorem TD_virt {i : Nat} {t : TypeId} {z : Value} {ws : List Value} {wt : List Tr} (ho : ops[i]? = some ⟨d, .alloc t, ty, pos, af, none⟩) (hlt : Nat.ble i 999999 = true) [zi : ZeroIs P t z] [cs : CellsOf z ws] [vt : ValsT ws wt] [vl : VRL wt] (hpos : ws.isEmpty = false) (k : ∀ b, TD X P E ops K plan ((i, b) :: H) false (putT σ d (.v (.pointer (some (ad b 0))))) ((b, .cells wt t true) :: B)) : TD X P E ops K (.virt i :: plan) H ph σ B := by
  unfold TD at *
  intro F s h held snaps pins r hh hp hpin
  have r' := r.push (x' := .cells wt t true) (o := .cells ws t true) ⟨ws, repL_of_vals vt, inferInstance⟩
  have o' : ObjIs (h.push (.cells ws t true)) h.fresh ws t true := inferInstance
  have hrow : (h.push (.cells ws t true)).row h.fresh 0 ws.length = some ws := by
    have := row_obj (n := ws.length) o' 0 (by omega)
    simpa using this
  have hh1 : HeldOk F ((h.fresh, Box.cells wt t true) :: B) H (h.push (.cells ws t true)) (held ++ pins) := hh.keys (fun b off v hc => cell_ext (Ext.push h _) hc) (Sub.refl F) (fun b hb => by rw [List.map_cons]; exact List.mem_cons_of_mem _ hb)
  have hh2 := held_more (i := i) (bs := [h.fresh]) hh1 hrow (vl.eq F ws (repL_of_vals vt)) (.inr ⟨rfl, by simp, o'.even⟩)
  rw [← List.append_assoc] at hh2
  have k1 := k h.fresh F _ _ (cellsOf i h.fresh 0 ws ++ held) ((h.push (.cells ws t true)) :: snaps) pins (r'.put (rep_v _)) hh2 (by simp) (by
    intro b' n' hb j' hj
    rcases List.mem_cons.1 hb with hb | hb
    · simp only [Prod.mk.injEq] at hb
      simp only [Nat.ble_eq] at hlt
      omega
    · obtain ⟨v, g1, g2⟩ := hpin b' n' hb j' hj
      refine ⟨v, g1, fun hs hm => ?_⟩
      rcases List.mem_cons.1 hm with rfl | hm
      · exact cell_ext (Ext.push h _) (hh _ (List.mem_append_right _ g1)).2.1
      · exact g2 hs hm)
  have l1 : CellsL i h.fresh 0 ws held (cellsOf i h.fresh 0 ws ++ held) := ⟨rfl⟩
  have hi : HeldIs (h.push (.cells ws t true)) (cellsOf i h.fresh 0 ws ++ held) := ⟨HeldOk.heldIn (H := (i, h.fresh) :: H) (B := (h.fresh, Box.cells wt t true) :: B) (F := F) fun e he => hh2 e (List.mem_append_left _ he)⟩
  exact WD_virt ho hpos k1
end Go.Ideal

-- IdealTk
set_option linter.unusedSimpArgs false
set_option linter.unusedVariables false
namespace Go.Ideal
open Go Go.RowKit
variable {P : Program} {X : Cx} {E : Env} {σ : Nat → Tr} {B B' : Boxes} {ops : Array Oper} {K : TK} {l : List Oper} {d : Option Tmp} {ty : TypeId} {pos : String} {af : Array Edge} {H : List (Nat × Nat)} {F : Mem} {s : Nat → Value} {h : IHp} {held : Held} {plan : List PStep} {ph : Bool}

/-! ### Boxes that are kept -/
class SubB (B' B : Boxes) : Prop where eq : B'.Sublist B
instance (priority := 1000) SubB.nil : SubB [] B := ⟨List.nil_sublist B⟩
instance (priority := 900) SubB.keep {p : Nat × Box} [i : SubB B' B] : SubB (p :: B') (p :: B) := ⟨i.eq.cons_cons p⟩
instance (priority := 800) SubB.skip {p : Nat × Box} [i : SubB B' B] : SubB B' (p :: B) := ⟨i.eq.cons p⟩

instance (priority := 950) SubB.same : SubB B B := ⟨List.Sublist.refl B⟩
theorem TR.perm (r : TR X F σ B s h) (p : B.Perm B') : TR X F σ B' s h :=
  ⟨r.ext, r.base, r.sub, r.own, fun q hq => r.box q (p.mem_iff.2 hq), fun q hq => r.sep q (p.mem_iff.2 hq), (p.map Prod.fst).nodup_iff.1 r.dis, r.gd, r.slot⟩
/-- B' is among B, in whatever order -/
class SubP (B B' : Boxes) : Prop where eq : ∃ C, B.Perm (B' ++ C)
instance (priority := 2000) SubP.nil : SubP B [] := ⟨B, List.Perm.refl B⟩
instance (priority := 1900) SubP.same : SubP B B := ⟨[], by simp⟩
instance (priority := 1000) SubP.cons {b : Nat} {x : Box} {B1 : Boxes} [d : BoxDel B b x B1] [k : SubP B1 B'] : SubP B ((b, x) :: B') := ⟨by
  obtain ⟨pre, post, h1, h2⟩ := d.eq
  obtain ⟨C, h3⟩ := k.eq
  refine ⟨C, ?_⟩
  rw [h1]
  refine List.perm_middle.trans ?_
  rw [← h2]
  exact h3.cons _⟩
instance (priority := 900) SubP.skip {p : Nat × Box} [k : SubP B B'] : SubP (p :: B) B' := ⟨by
  obtain ⟨C, h3⟩ := k.eq
  exact ⟨p :: C, (h3.cons p).trans List.perm_middle.symm⟩⟩
theorem SubP.last {k : Nat × Box} {L : Boxes} (h : SubP B (k :: L)) : SubP B (L ++ [k]) := ⟨by
  obtain ⟨C, h1⟩ := h.eq
  exact ⟨C, h1.trans ((List.perm_append_singleton k L).symm.append_right C)⟩⟩
theorem TR.keep (r : TR X F σ B s h) (k : SubP B B') : TR X F σ B' s h := by
  obtain ⟨C, h3⟩ := k.eq
  exact (r.perm h3).drop (List.sublist_append_left _ _)
theorem TV_keep {c : Code} {Q : IExit → TK} (B' : Boxes) [p : SubP B B'] (k : TV X P E c Q σ B') : TV X P E c Q σ B := by
  unfold TV at *; intro F s h r; exact k F s h (r.keep p)
/-! ### One step, found by the goal's form -/
class StepC (goal : Prop) (next : outParam Prop) : Prop where go : next → goal
instance {a b : Code} {Q : IExit → TK} : StepC (TV X P E (.seq a b) Q σ B) (TV X P E a (TseqK X P E b Q) σ B) := ⟨TV_seq⟩
instance {id : Nat} {b : Code} {Q : IExit → TK} : StepC (TV X P E (.block id b) Q σ B) (TV X P E b (TblockK id Q) σ B) := ⟨TV_block⟩
instance {Q : IExit → TK} : StepC (TV X P E .skip Q σ B) (Q .normal σ B) := ⟨TV_skip⟩
instance {Q : IExit → TK} {id : Nat} : StepC (TV X P E (.exit id) Q σ B) (Q (.exit id) σ B) := ⟨TV_exit⟩
instance {Q : IExit → TK} : StepC (TV X P E .ret Q σ B) (Q .ret σ B) := ⟨TV_ret⟩
instance {id : Nat} {l : List Oper} {Q : IExit → TK} : StepC (TV X P E (.region id l.toArray false) Q σ B) (TS X P E l.toArray (Q .normal) l [] σ B) := ⟨TV_region⟩
instance {b : Code} {Q : IExit → TK} : StepC (TseqK X P E b Q .normal σ B) (TV X P E b Q σ B) := ⟨TSQ_normal⟩
instance {b : Code} {Q : IExit → TK} {j : Nat} : StepC (TseqK X P E b Q (.exit j) σ B) (Q (.exit j) σ B) := ⟨TSQ_exit⟩
instance {b : Code} {Q : IExit → TK} : StepC (TseqK X P E b Q .ret σ B) (Q .ret σ B) := ⟨TSQ_ret⟩
instance {id : Nat} {Q : IExit → TK} : StepC (TblockK id Q .normal σ B) (Q .normal σ B) := ⟨TB_normal⟩
instance {id : Nat} {Q : IExit → TK} : StepC (TblockK id Q .ret σ B) (Q .ret σ B) := ⟨TB_ret⟩
instance (priority := 1100) {id : Nat} {Q : IExit → TK} : StepC (TblockK id Q (.exit id) σ B) (Q .normal σ B) := ⟨TB_exit⟩
instance (priority := 900) {id j : Nat} {Q : IExit → TK} [n : BeqIs j id false] : StepC (TblockK id Q (.exit j) σ B) (Q (.exit j) σ B) := ⟨TB_pass n.eq⟩
instance {I : TK} {K : IExit → TK} : StepC (TcutK I K .normal σ B) (I σ B) := ⟨TC_normal⟩
instance {I : TK} {K : IExit → TK} {j : Nat} : StepC (TcutK I K (.exit j) σ B) (K (.exit j) σ B) := ⟨TC_exit⟩
instance {I : TK} {K : IExit → TK} : StepC (TcutK I K .ret σ B) (K .ret σ B) := ⟨TC_ret⟩
instance : StepC (TS X P E ops K [] H σ B) (K σ B) := ⟨TS_nil⟩
instance (priority := 100) {op : Op} {t : Tr} [p : Pu P σ B op t] : StepC (TS X P E ops K (⟨d, op, ty, pos, af, none⟩ :: l) H σ B) (TS X P E ops K l H (putT σ d t) B) := ⟨TS_pu⟩
instance {t : TypeId} {z : Value} {ws : List Value} {wt : List Tr} [zi : ZeroIs P t z] [cs : CellsOf z ws] [vt : ValsT ws wt] : StepC (TS X P E ops K (⟨d, .alloc t, ty, pos, af, none⟩ :: l) H σ B) (∀ b, TS X P E ops K l H (putT σ d (.v (.pointer (some (ad b 0))))) ((b, .cells wt t true) :: B)) := ⟨TS_alloc⟩
instance {t : TypeId} {x : Operand} {u : Tr} {cs : List Tr} [e : TEval σ x u] [c : CellsT u cs] : StepC (TS X P E ops K (⟨d, .box t x, ty, pos, af, none⟩ :: l) H σ B) (∀ b, TS X P E ops K l H (putT σ d (.v (.pointer (some (ad b 0))))) ((b, .cells cs t true) :: B)) := ⟨TS_box⟩
instance {x y : Operand} {t : TypeId} {b off n : Nat} {u : Tr} {ws cs r' : List Tr} {bt : Nat} {bx : Bool} [e1 : TEval σ x (.v (.pointer (some (ad b off))))] [e2 : TEval σ y u] [z : SizeIs P t n] [c : CellsT u ws] [bi : BoxIs B b (.cells cs bt bx)] [ln : LenT ws n] [si : SetT cs off ws r'] [bp : BoxPut B b b (.cells r' bt bx) B'] [ap : Apart B b H] : StepC (TS X P E ops K (⟨d, .store t x y, ty, pos, af, none⟩ :: l) H σ B) (TS X P E ops K l H (putT σ d (.v undef)) B') := ⟨TS_store⟩
instance {x y : Operand} {t : TypeId} {b m i j n : Nat} {u : Tr} {ws row row' : List Tr} {rows rows' : List (List Tr)} {bt : Nat} {bx : Bool} [e1 : TEval σ x (.v (elp b m i j))] [e2 : TEval σ y u] [z : SizeIs P t n] [c : CellsT u ws] [bi : BoxIs B b (.arr m rows bt bx)] [ng : NthG rows i row] [ln : LenT ws n] [si : SetT row j ws row'] [sr : SetR rows i row' rows'] [bp : BoxPut B b b (.arr m rows' bt bx) B'] [ap : Apart B b H] : StepC (TS X P E ops K (⟨d, .store t x y, ty, pos, af, none⟩ :: l) H σ B) (TS X P E ops K l H (putT σ d (.v undef)) B') := ⟨TS_store_arr⟩
theorem buildSlice_side {m len : Nat} (h1 : Nat.beq m 0 = false) (h2 : Nat.ble (len * m) 16777216 = true) : (m != 0 && decide (len * m ≤ 2 ^ 24)) = true := by
  simp only [Nat.ble_eq] at h2
  have : m ≠ 0 := fun h => by subst h; simp at h1
  simp [this]; omega
instance {t e : TypeId} {len m : Nat} {ps : List (Nat × Operand)} {pt : List (Nat × Tr)} {ts : List Tr} {rows : List (List Tr)} {z : Value} {wz : List Value} [u : UnderIs P t (.slice e)] [zi : SizeIs P e m] [ze : ZeroIs P e z] [cz : CellsOf z wz] [lz : LenT wz m] [p : TParts σ ps pt] [en : EnumT 0 pt ts] [ro : RowsT m ts rows] [lt : LenT ts len] [s1 : BeqIs m 0 false] [s2 : LeIs (len * m) 16777216 true] : StepC (TS X P E ops K (⟨d, .buildSlice t len ps.toArray, ty, pos, af, none⟩ :: l) H σ B) (∀ b, TS X P E ops K l H (putT σ d (.v (.slice (some (ad b 0)) len len))) ((b, .arr m rows e true) :: B)) := ⟨TS_buildSlice (buildSlice_side s1.eq s2.eq)⟩
instance : StepC (TDK X P E ops K plan H σ B) (TD X P E ops K plan H false σ B) := ⟨TDK_go⟩
instance : StepC (TD X P E ops K [] H ph σ B) (K σ B) := ⟨TD_nil⟩

/-! ### Parts of slices -/
/-! ### Bounds that lie in what is handed in -/
/-- a slice of nothing reads as no rows -/
class Cv (t t' : Tr) : Prop where eq : ∀ F v, Rep F t v → Rep F t' v
class CvL (ts ts' : List Tr) : Prop where eq : ∀ F vs, RepL F ts vs → RepL F ts' vs
instance (priority := 2000) Cv.refl {t : Tr} : Cv t t := ⟨fun _ _ h => h⟩
instance Cv.nil {m : Nat} : Cv (.v (.slice none 0 0)) (.sl m []) := ⟨fun F v h => by
  simp only [Rep] at h
  subst h
  rw [Rep]
  exact ⟨none, 0, 0, rfl, rfl, Nat.le_refl _, by decide, (fun d hd => by cases hd), rfl⟩⟩
instance (priority := 2000) CvL.nil : CvL [] [] := ⟨fun _ _ h => h⟩
instance CvL.cons {t t' : Tr} {ts ts' : List Tr} [a : Cv t t'] [b : CvL ts ts'] : CvL (t :: ts) (t' :: ts') := ⟨fun F vs h => by
  simp only [RepL] at h
  obtain ⟨v, ws, rfl, h1, h2⟩ := h
  exact RepL.cons (a.eq F v h1) (b.eq F ws h2)⟩
instance Cv.agg {ts ts' : List Tr} [a : CvL ts ts'] : Cv (.agg ts) (.agg ts') := ⟨fun F v h => by
  simp only [Rep] at *
  obtain ⟨vs, rfl, h1⟩ := h
  exact ⟨vs, rfl, a.eq F vs h1⟩⟩
theorem RetIs.conv {rs : List ResultVar} {ts ts' : List Tr} (r : RetIs P σ B rs ts) (c : CvL ts ts') : RetIs P σ B rs ts' := ⟨fun X F s h E q G o => by
  obtain ⟨vs, h1, h2⟩ := r.eq X F s h E q G o
  exact ⟨vs, h1, c.eq G vs h2⟩⟩
theorem retT_2c {a b : ResultVar} {Φ : Tr → Prop} {e : IExit} {ts : List Tr} [r : RetIs P σ B [a, b] ts] (ts' : List Tr) [c : CvL ts ts'] (he : e = .normal ∨ e = .ret) (k : Φ (tret ts')) : retT P [a, b] Φ e σ B := retT_go (r := r.conv c) he k
theorem retT_3c {a b d : ResultVar} {Φ : Tr → Prop} {e : IExit} {ts : List Tr} [r : RetIs P σ B [a, b, d] ts] (ts' : List Tr) [c : CvL ts ts'] (he : e = .normal ∨ e = .ret) (k : Φ (tret ts')) : retT P [a, b, d] Φ e σ B := retT_go (r := r.conv c) he k
theorem retT_1 {a : ResultVar} {Φ : Tr → Prop} {e : IExit} {ts : List Tr} [r : RetIs P σ B [a] ts] (he : e = .normal ∨ e = .ret) (k : Φ (tret ts)) : retT P [a] Φ e σ B := retT_go he k
theorem retT_2 {a b : ResultVar} {Φ : Tr → Prop} {e : IExit} {ts : List Tr} [r : RetIs P σ B [a, b] ts] (he : e = .normal ∨ e = .ret) (k : Φ (tret ts)) : retT P [a, b] Φ e σ B := retT_go he k
theorem retT_3 {a b c : ResultVar} {Φ : Tr → Prop} {e : IExit} {ts : List Tr} [r : RetIs P σ B [a, b, c] ts] (he : e = .normal ∨ e = .ret) (k : Φ (tret ts)) : retT P [a, b, c] Φ e σ B := retT_go he k
end Go.Ideal

-- IdealTl
set_option linter.unusedSimpArgs false
set_option linter.unusedVariables false
namespace Go.Ideal
open Go Go.RowKit
variable {P : Program} {X : Cx} {E : Env} {σ : Nat → Tr} {B B' : Boxes} {ops : Array Oper} {K : TK} {l : List Oper} {d : Option Tmp} {ty : TypeId} {pos : String} {af : Array Edge} {H : List (Nat × Nat)} {F : Mem} {s : Nat → Value} {h : IHp} {held : Held}

/-! ### Loops over slices.Backward -/
/-- what is no cells may change -/
theorem TR.other {b : Nat} {o o' : IObj} (r : TR X F σ B s h) (a : AtIs h b o) (hn : ∀ c e x, o ≠ .cells c e x) (hb : X.h.fresh ≤ b) (hg : ∀ g ∈ X.G, g.1 / 2 ≠ b / 2) : TR X F σ B s (h.putObj b o') := by
  have hcell : ∀ b' off v, h.cell? b' off = some v → (h.putObj b o').cell? b' off = some v := by
    intro b' off v hc
    unfold IHp.cell? at *
    simp only [IHp.putObj]
    split
    · rename_i hbo; rw [if_pos hbo] at hc; exact hc
    · rename_i hbo
      rw [if_neg hbo] at hc
      have hne : b' / 2 ≠ b / 2 := by
        intro he
        rw [he, a.eq] at hc
        cases o with
        | cells c e x => exact hn _ _ _ rfl
        | _ => cases hc
      rw [List.getElem?_set_ne (fun h => hne h.symm)]; exact hc
  have hobj : ∀ b' vs t x, ObjIs h b' vs t x → ObjIs (h.putObj b o') b' vs t x := by
    intro b' vs t x oi
    have : NeB b' b := ⟨fun he => by
      have h1 := oi.eq
      rw [he, a.eq] at h1
      exact hn _ _ _ (Option.some.inj h1)⟩
    infer_instance
  refine ⟨r.ext.putObj hb, r.base, fun b' off v hf => hcell _ _ _ (r.sub _ _ _ hf), r.own, fun p hp => ?_, r.sep, r.dis, fun g hgm => ⟨⟨(r.gd g hgm).1.even, by
    simp only [IHp.putObj]
    rw [List.getElem?_set_ne (fun h => hg g hgm h.symm)]; exact (r.gd g hgm).1.eq⟩, (r.gd g hgm).2⟩, r.slot⟩
  have h1 := r.box p hp
  cases hx : p.2 with
  | cells cs t y => rw [hx] at h1; obtain ⟨vs, h2, h3⟩ := h1; exact ⟨vs, h2, hobj _ _ _ _ h3⟩
  | arr m rows t y =>
    rw [hx] at h1
    simp only [BoxRep] at h1 ⊢
    refine ⟨h1.1, ?_⟩
    rcases h1.2 with h2 | ⟨vs, h2, h3⟩
    · exact .inl h2
    · exact .inr ⟨vs, h2, hobj _ _ _ _ h3⟩
theorem TR.start {args : List Tr} {vs : List Value} {F0 : Mem} (h1 : Sub F0 h.cell?) (h2 : RepL F0 args vs) : TR ⟨h, F0, []⟩ F0 (argT args) [] (argS vs) h :=
  ⟨Ext.refl h, Sub.refl F0, h1, fun b off v hf => .inl hf, by simp, by simp, by simp, by simp, fun i => by
    by_cases hi : i < args.length
    · obtain ⟨v, h3, h4⟩ := h2.get (List.getElem?_eq_getElem hi)
      have h5 : argS vs i = v := by
        have hi2 := (List.getElem?_eq_some_iff.1 h3).1
        simp only [argS, Array.getD]
        rw [dif_pos (by simpa using hi2)]
        rw [List.getElem?_eq_getElem hi2] at h3
        simpa using Option.some.inj h3
      have h6 : argT args i = args[i] := by simp [argT, List.getD, hi]
      rw [h5, h6]; exact h4
    · have h5 : argS vs i = undef := by
        have := h2.len
        simp only [argS, Array.getD]
        rw [dif_neg (by simp; omega)]
      have h6 : argT args i = .v undef := by simp [argT, List.getD, hi]
      rw [h5, h6]; exact rep_v _⟩
end Go.Ideal

-- IdealTm
set_option linter.unusedSimpArgs false
set_option linter.unusedVariables false
namespace Go.Ideal
open Go Go.RowKit
variable {P : Program} {X : Cx} {E : Env} {σ : Nat → Tr} {B B' : Boxes} {ops : Array Oper} {K : TK} {l : List Oper} {d : Option Tmp} {ty : TypeId} {pos : String} {af : Array Edge} {H : List (Nat × Nat)} {F : Mem} {s : Nat → Value} {h : IHp} {held : Held}

/-! ### Room: cap, parts of own slices, append of a made slice, append that stays -/
instance Pu.cap_nil {x : Operand} {t te : TypeId} [e : TEval σ x (.v (.slice none 0 0))] [u : UnderIs P t (.slice te)] : Pu P σ B (.call ⟨.builtin .cap, #[x], #[t]⟩) (.v (.int .i64 0)) := ⟨fun {X F s h} q {E' _ _ _ _ _ _ _} kk => by
  have := e.is q.slot
  refine WS_pure rfl rfl ?_ (kk _ (rep_v _))
  have h1 := ev_eq (E := E') (h := h) (x := x) (s := s)
  simp [ipure, u.eq, h1]⟩
/-! ### Functions that answer own memory -/
@[irreducible] def FnO (P : Program) (f : FuncId) (args : List Tr) (Φ : Tr → Boxes → Prop) : Prop := ∀ (F0 : Mem) (h : IHp) (vs : List Value), Sub F0 h.cell? → RepL F0 args vs → EvX P f vs.toArray h (fun v h' => ∃ F r B, TR ⟨h, F0, []⟩ F (fun _ => r) B (fun _ => v) h' ∧ (∀ p ∈ B, p.1 % 2 = 0) ∧ Φ r B)
/-- results as they are, own memory and all -/
def RetTO (P : Program) (σ : Nat → Tr) (B : Boxes) (rs : List ResultVar) (ts : List Tr) : Prop := ∀ X F s h E, TR X F σ B s h → ∃ vs, iresults P (Env.st E s h) rs = some vs ∧ RepL F ts vs
class RetIsO (P : Program) (σ : Nat → Tr) (B : Boxes) (rs : List ResultVar) (ts : outParam (List Tr)) : Prop where eq : RetTO P σ B rs ts
instance RetIsO.nil : RetIsO P σ B [] [] := ⟨fun X F s h E r => ⟨[], rfl, RepL.nil⟩⟩
instance RetIsO.tmp {i : Nat} {t : Tr} {rs : List ResultVar} {ts : List Tr} [g : TGet σ i t] [k : RetIsO P σ B rs ts] : RetIsO P σ B (.tmp i :: rs) (t :: ts) := ⟨fun X F s h E r => by
  obtain ⟨vs, h1, h2⟩ := k.eq X F s h E r
  refine ⟨s i :: vs, by simp only [Env.st] at h1 ⊢; simp only [iresults, h1, Option.map_some], RepL.cons ?_ h2⟩
  rw [← g.eq]; exact r.slot i⟩
instance RetIsO.cell_agg {i ct b off n bt : Nat} {bx : Bool} {cs r1 r2 : List Tr} {rs : List ResultVar} {ts : List Tr} [g : TGet σ i (.v (.pointer (some (ad b off))))] [a : AggIs P ct true] [z : SizeIs P ct n] [bi : BoxIs B b (.cells cs bt bx)] [dr : DropT cs off r1] [tk : TakeT r1 n r2] [k : RetIsO P σ B rs ts] : RetIsO P σ B (.cell i ct :: rs) (.agg r2 :: ts) := ⟨fun X F s h E r => by
  obtain ⟨vs, h1, h2⟩ := k.eq X F s h E r
  have h3 := (g.is r).eq
  obtain ⟨us, h4, h5⟩ := r.boxOf bi
  obtain ⟨ws, h6, h7⟩ := h4.row h5 dr tk
  refine ⟨.agg ws.toArray :: vs, ?_, RepL.cons ?_ h2⟩
  · simp only [Env.st] at h1 ⊢; simp only [iresults, h1, Option.map_some, h3, iload, a.eq, Option.bind_some, z.eq, h6.eq]
  · simp only [Rep]; exact ⟨ws, rfl, h7⟩⟩
instance RetIsO.cell {i ct b off bt : Nat} {bx : Bool} {cs : List Tr} {t : Tr} {rs : List ResultVar} {ts : List Tr} [g : TGet σ i (.v (.pointer (some (ad b off))))] [a : AggIs P ct false] [bi : BoxIs B b (.cells cs bt bx)] [ng : NthG cs off t] [k : RetIsO P σ B rs ts] : RetIsO P σ B (.cell i ct :: rs) (t :: ts) := ⟨fun X F s h E r => by
  obtain ⟨vs, h1, h2⟩ := k.eq X F s h E r
  have h3 := (g.is r).eq
  obtain ⟨us, h4, h5⟩ := r.boxOf bi
  obtain ⟨v, h6, h7⟩ := h4.get ng.eq
  refine ⟨v :: vs, ?_, RepL.cons h7 h2⟩
  simp only [Env.st] at h1 ⊢
  simp only [iresults, h1, Option.map_some, h3, iload, a.eq, Option.bind_some, h5.cell, h6]⟩
/-- no ghost -/
def BoxReal : Box → Prop
  | .cells _ _ _ => True
  | .arr _ rows _ x => rows = [] → x = true
theorem BoxRep.real {b : Nat} {x : Box} (r : BoxRep F h b x) (hr : BoxReal x) : b % 2 = 0 := by
  cases x with
  | cells cs t y => obtain ⟨vs, _, o⟩ := r; exact o.even
  | arr m rows t y =>
    simp only [BoxRep] at r
    rcases r.2 with ⟨h1, h2, _⟩ | ⟨vs, _, o⟩
    · have := hr h1; rw [h2] at this; cases this
    · exact o.even
end Go.Ideal

-- IdealTn
set_option linter.unusedSimpArgs false
set_option linter.unusedVariables false
namespace Go.Ideal
open Go Go.RowKit
variable {P : Program} {X : Cx} {E : Env} {σ : Nat → Tr} {B B' : Boxes} {ops : Array Oper} {K : TK} {l : List Oper} {d : Option Tmp} {ty : TypeId} {pos : String} {af : Array Edge} {H : List (Nat × Nat)} {F : Mem} {s : Nat → Value} {h : IHp} {held : Held}

/-! ### Parts of own slices from a place on -/
theorem SrcT.mark {m c : Nat} {a : Addr} : SrcT B (.v (.slice (some a) 0 c)) m [] := ⟨fun X F σ s h r v hv => by
  simp only [Rep] at hv
  subst hv
  exact ⟨some a, 0, c, [], rfl, rfl, by simp [IHp.rowAt, IHp.row], by simpa using RepL.nil, by simp⟩⟩
theorem SrcT.part {m b j n c bt : Nat} {bx : Bool} {rows : List (List Tr)} [bi : BoxIs B b (.arr m rows bt bx)] [rx : RealX rows bx] (hn : j + n ≤ rows.length) : SrcT B (.v (.slice (some (ad b (j * m))) n c)) m ((rows.drop j).take n) := ⟨fun X F σ s h r v hv => by
  simp only [Rep] at hv
  subst hv
  have hb := r.boxOf bi
  obtain ⟨vs, g1, g2⟩ := rx.even hb
  simp only [BoxRep] at hb
  have hA : ∀ row ∈ rows.take j, row.length = m := fun row hr => hb.1 row (List.mem_of_mem_take hr)
  have hM : ∀ row ∈ (rows.drop j).take n, row.length = m := fun row hr => hb.1 row (List.mem_of_mem_drop (List.mem_of_mem_take hr))
  have hvl : vs.length = rows.length * m := by rw [g1.len, flat_len hb.1]
  have hle : j * m + n * m ≤ vs.length := by rw [hvl, ← Nat.add_mul]; exact Nat.mul_le_mul_right m hn
  have hsplit : rows.flatten = (rows.take j).flatten ++ (((rows.drop j).take n).flatten ++ (rows.drop (j + n)).flatten) := by
    rw [← List.flatten_append, ← List.flatten_append]
    congr 1
    conv => lhs; rw [← List.take_append_drop j rows, ← List.take_append_drop n (rows.drop j), List.drop_drop]
  have e3 : (rows.take j).flatten.length = j * m := by rw [flat_len hA, List.length_take, Nat.min_eq_left (by omega)]
  have e4 : ((rows.drop j).take n).flatten.length = n * m := by rw [flat_len hM, List.length_take, List.length_drop, Nat.min_eq_left (by omega)]
  refine ⟨some (ad b (j * m)), n, c, (vs.drop (j * m)).take (n * m), rfl, by simp; omega, ?_, ?_, hM⟩
  · simp only [IHp.rowAt]
    exact row_obj g2 (j * m) hle
  · have h5 : ((rows.drop j).take n).flatten = (rows.flatten.drop (j * m)).take (n * m) := by
      rw [hsplit, ← e3, List.drop_left, ← e4, List.take_left]
    rw [h5]
    exact (g1.drop _).take _⟩
end Go.Ideal

-- IdealTo
set_option linter.unusedSimpArgs false
set_option linter.unusedVariables false
namespace Go.Ideal
open Go Go.RowKit
variable {P : Program} {X : Cx} {E : Env} {σ : Nat → Tr} {B B' : Boxes} {ops : Array Oper} {K : TK} {l : List Oper} {d : Option Tmp} {ty : TypeId} {pos : String} {af : Array Edge} {H : List (Nat × Nat)} {F : Mem} {s : Nat → Value} {h : IHp} {held : Held}
/-! ### A place in an own slice that has room behind it -/
end Go.Ideal

-- IdealTp
set_option linter.unusedSimpArgs false
set_option linter.unusedVariables false
namespace Go.Ideal
open Go Go.RowKit
variable {P : Program} {X : Cx} {E : Env} {σ : Nat → Tr} {B B' : Boxes} {ops : Array Oper} {K : TK} {l : List Oper} {d : Option Tmp} {ty : TypeId} {pos : String} {af : Array Edge} {H : List (Nat × Nat)} {F : Mem} {s : Nat → Value} {h : IHp} {held : Held}
/-! ### Functions that change memory that they are handed -/
end Go.Ideal

-- IdealTq
set_option linter.unusedSimpArgs false
set_option linter.unusedVariables false
namespace Go.Ideal
open Go Go.RowKit
variable {P : Program} {X : Cx} {E : Env} {σ : Nat → Tr} {B B' : Boxes} {ops : Array Oper} {K : TK} {l : List Oper} {d : Option Tmp} {ty : TypeId} {pos : String} {af : Array Edge} {H : List (Nat × Nat)} {F : Mem} {s : Nat → Value} {h : IHp} {held : Held}
/-! ### Pointers that are not nil -/
instance Pu.nilCheck_v {x : Operand} {b off : Nat} [e : TEval σ x (.v (.pointer (some (ad b off))))] : Pu P σ B (.nilCheck x) (.v (.pointer (some (ad b off)))) := ⟨fun {X F s h} q {E' _ _ _ _ _ _ _} kk => by
  have h1 := e.is q.slot
  have g1 := ev_eq (E := E') (h := h) (x := x) (s := s)
  refine WS_pure rfl rfl ?_ (kk _ (rep_v _))
  simp only [ipure, g1]⟩
instance Pu.nilCheck_pf {x : Operand} {cs : List Tr} [e : TEval σ x (.pf cs)] : Pu P σ B (.nilCheck x) (.pf cs) := ⟨fun {X F s h} q {E' _ _ _ _ _ _ _} kk => by
  have h1 := evalIs_self (s := s) (x := x) (h := h)
  have h2 := e.eq F s q.slot h 0 [] false
  have h3 := h2
  simp only [Rep] at h2
  obtain ⟨b, off, vs, h4, h5, h6⟩ := h2
  rw [h4] at h1 h3
  have g1 := ev_eq (E := E') (h := h) (x := x) (s := s)
  refine WS_pure rfl rfl ?_ (kk _ h3)
  simp only [ipure, g1]⟩
end Go.Ideal

-- IdealTr
set_option linter.unusedSimpArgs false
set_option linter.unusedVariables false
namespace Go.Ideal
open Go Go.RowKit
variable {P : Program} {X : Cx} {E : Env} {σ : Nat → Tr} {B B' : Boxes} {ops : Array Oper} {K : TK} {l : List Oper} {d : Option Tmp} {ty : TypeId} {pos : String} {af : Array Edge} {H : List (Nat × Nat)} {F : Mem} {s : Nat → Value} {h : IHp} {held : Held}
/-! ### == of structs of numbers -/
theorem pureOf_bind {α β : Type} (f : α → Sem β) : ∀ {s : Sem α} {a : α}, pureOf P s = some a → pureOf P (s >>= f) = pureOf P (f a) := by
  intro s
  induction s with
  | pure a => intro b h; simp [pureOf] at h; subst h; rfl
  | program k ih => intro b h; exact ih P h
  | mark m k ih => intro b h; exact ih h
  | _ => intro b h; simp [pureOf] at h
theorem pureOf_under {t : TypeId} {td : TypeDesc} (u : P.underlying t = some td) : pureOf P (underlying t) = some td := by
  unfold underlying
  refine (pureOf_bind _ (s := program) (a := P) rfl).trans ?_
  rw [u]; rfl
theorem guard_struct {o : BinOp} (ho : o = .eql ∨ o = .neq) {t : TypeId} (hg : P.eqGuardType P.depth t = false) {x y : Operand} {vs ws : Array Value} : pureOf P (eqGuard o t x y (.agg vs) (.agg ws)) = some () := by
  rcases ho with rfl | rfl
  all_goals
    unfold eqGuard
    rw [if_neg (by decide)]
    simp only
    refine (pureOf_bind _ (s := program) (a := P) rfl).trans ?_
    refine (pureOf_bind _ (s := program) (a := P) rfl).trans ?_
    rw [hg]; rfl
theorem repL_vals_inv {F : Mem} : ∀ {vs ws : List Value}, RepL F (vs.map Tr.v) ws → ws = vs := by
  intro vs
  induction vs with
  | nil => intro ws h; simpa only [List.map_nil, RepL] using h
  | cons v vs ih =>
    intro ws h
    simp only [List.map_cons, RepL, Rep] at h
    obtain ⟨u, us, rfl, rfl, h3⟩ := h
    rw [ih h3]
theorem evalIs_agg {x : Operand} {ts : List Tr} {vs : List Value} (e : TEval σ x (.agg ts)) (h : ts = vs.map .v) (hs : ∀ i, Rep F (σ i) (s i)) : EvalIs s x (.agg vs.toArray) := ⟨fun h' nt m rd => by
  have := e.eq F s hs h' nt m rd
  simp only [Rep] at this
  obtain ⟨ws, h1, h2⟩ := this
  rw [h] at h2
  rw [h1, repL_vals_inv h2]⟩
end Go.Ideal

-- IdealTs
set_option linter.unusedSimpArgs false
set_option linter.unusedVariables false
namespace Go.Ideal
open Go
section
variable {P : Program} {E : ICall} {σ : Nat → Tr} {B : Boxes}
/-! ### A slice from its start on -/
end
end Go.Ideal

-- IdealTu
set_option linter.unusedSimpArgs false
set_option linter.unusedVariables false
namespace Go.Ideal
open Go Go.RowKit
variable {P : Program} {X : Cx} {E : Env} {σ : Nat → Tr} {B B' : Boxes} {ops : Array Oper} {K : TK} {l : List Oper} {d : Option Tmp} {ty : TypeId} {pos : String} {af : Array Edge} {H : List (Nat × Nat)} {F : Mem} {s : Nat → Value} {h : IHp} {held : Held}
/-! ### Own answers: frozen, or taken while what is handed in stays one's own -/
def FlatB : Box → Prop
  | .cells cs _ _ => FlatL cs
  | .arr _ rows _ _ => FlatL rows.flatten
theorem FlatL.app {a b : List Tr} (x : FlatL a) (y : FlatL b) : FlatL (a ++ b) := ⟨fun F G vs hv => by
  obtain ⟨p, q, rfl, h1, h2⟩ := hv.split
  exact (x.eq F G _ h1).append (y.eq F G _ h2)⟩
theorem FlatL.rows : ∀ {rows : List (List Tr)}, (∀ row ∈ rows, FlatL row) → FlatL rows.flatten := by
  intro rows
  induction rows with
  | nil => intro _; exact FlatL.nil
  | cons r rows ih => intro h; exact (h r (List.mem_cons_self ..)).app (ih fun row hr => h row (List.mem_cons_of_mem _ hr))
theorem BoxRep.flat {G : Mem} {b : Nat} {x : Box} (r : BoxRep F h b x) (fl : FlatB x) : BoxRep G h b x := by
  cases x with
  | cells cs t y =>
    obtain ⟨vs, h1, h2⟩ := r
    exact ⟨vs, FlatL.eq (self := fl) F G vs h1, h2⟩
  | arr m rows t y =>
    simp only [BoxRep] at r ⊢
    refine ⟨r.1, ?_⟩
    rcases r.2 with h1 | ⟨vs, h1, h2⟩
    · exact .inl h1
    · exact .inr ⟨vs, FlatL.eq (self := fl) F G vs h1, h2⟩
end Go.Ideal

-- IdealTv
set_option linter.unusedSimpArgs false
set_option linter.unusedVariables false
namespace Go.Ideal
open Go Go.RowKit
variable {P : Program} {X : Cx} {E : Env} {σ : Nat → Tr} {B B' : Boxes} {ops : Array Oper} {K : TK} {l : List Oper} {d : Option Tmp} {ty : TypeId} {pos : String} {af : Array Edge} {H : List (Nat × Nat)} {F : Mem} {s : Nat → Value} {h : IHp} {held : Held}
/-! ### Own slices with room behind, handed in; answers that may grow, borrowed -/
class PreR (rows : List (List Tr)) (n c : Nat) (r : outParam (List (List Tr))) : Prop where
  eq : rows.take n = r
  le : n ≤ rows.length
  cap : n ≤ c
instance (priority := 50) Frz.pre {b m n c : Nat} {rows r : List (List Tr)} {bt : Nat} {bx : Bool} [bi : BoxIs B b (.arr m rows bt bx)] [p : PreR rows n c r] [sm : Sm63 c] [rx : RealX rows bx] : Frz B (.v (.slice (some (ad b 0)) n c)) (.sl m r) := ⟨fun F G h o v hv => by
  have hN : rows.length < 2 ^ 63 ∨ True := .inr trivial
  simp only [Rep] at hv
  subst hv
  have hb := o.box _ bi.mem
  have hb' := hb
  simp only [BoxRep] at hb
  obtain ⟨vs, h1, h2⟩ := rx.even hb'
  simp only [Rep]
  have hl : r.length = n := by rw [← p.eq, List.length_take, Nat.min_eq_left p.le]
  refine ⟨_, n, c, rfl, hl, p.cap, sm.lt, fun d hd => ?_, ?_⟩
  · cases hd; exact .inl rfl
  · have h3 : RepR G b m rows 0 := frz_rows (fr := FrzR.same) o hb.1 h1 fun i hi => by
      rw [rowM_congr (F := h.cell?) (o.cell _ bi.mem h2.even), ← row_rowM]
      exact row_obj h2 i hi
    rw [← p.eq]
    exact h3.take n⟩
theorem FnO.mono {f : FuncId} {args : List Tr} {Φ Ψ : Tr → Boxes → Prop} (x : FnO P f args Φ) (k : ∀ r B, Φ r B → Ψ r B) : FnO P f args Ψ := by
  unfold FnO at *
  intro F0 h vs h1 h2
  exact (x F0 h vs h1 h2).mono fun v h' ⟨F, r, B, a1, a2, a3⟩ => ⟨F, r, B, a1, a2, k r B a3⟩
/-! ### A cut that nothing passes but the way on: the goals ahead of it stay small -/
@[irreducible] def TnormK (I : TK) : IExit → TK := fun e σ B => e = .normal ∧ I σ B
theorem TN_normal {I : TK} (k : I σ B) : TnormK I .normal σ B := by unfold TnormK; exact ⟨rfl, k⟩
instance {I : TK} : StepC (TnormK I .normal σ B) (I σ B) := ⟨TN_normal⟩
end Go.Ideal

-- IdealTw
set_option linter.unusedSimpArgs false
set_option linter.unusedVariables false
namespace Go.Ideal
open Go Go.RowKit
variable {P : Program} {X : Cx} {E : Env} {σ : Nat → Tr} {B B' : Boxes} {ops : Array Oper} {K : TK} {l : List Oper} {d : Option Tmp} {ty : TypeId} {pos : String} {af : Array Edge} {H : List (Nat × Nat)} {F : Mem} {s : Nat → Value} {h : IHp} {held : Held}
/-! ### Pointers and nil -/
instance Pu.ptr_nil {x : Operand} {t te yt : TypeId} {a : Option Addr} [e : TEval σ x (.v (.pointer a))] [u : UnderIs P t (.pointer te)] : Pu P σ B (.binOp .eql t x (.const (.pointer none)) yt) (.v (.bool a.isNone)) := ⟨fun {X F s h} q {E' _ _ _ _ _ _ _} kk => by
  have h1 := e.is q.slot
  have g1 := ev_eq (E := E') (h := h) (x := x) (s := s)
  have g2 : (E'.st s h).eval (.const (.pointer none)) = .pointer none := rfl
  refine WS_pure rfl rfl ?_ (kk _ (rep_v _))
  simp only [ipure, isNilConst, if_true, inil, u.eq, g1, g2]⟩
instance Pu.pf_nil {x : Operand} {t te yt : TypeId} {cs : List Tr} [e : TEval σ x (.pf cs)] [u : UnderIs P t (.pointer te)] : Pu P σ B (.binOp .eql t x (.const (.pointer none)) yt) (.v (.bool false)) := ⟨fun {X F s h} q {E' _ _ _ _ _ _ _} kk => by
  have h1 := evalIs_self (s := s) (x := x) (h := h)
  have h2 := e.eq F s q.slot h 0 [] false
  simp only [Rep] at h2
  obtain ⟨b, off, vs, h4, h5, h6⟩ := h2
  rw [h4] at h1
  have g1 := ev_eq (E := E') (h := h) (x := x) (s := s)
  have g2 : (E'.st s h).eval (.const (.pointer none)) = .pointer none := rfl
  refine WS_pure rfl rfl ?_ (kk _ (rep_v _))
  simp only [ipure, isNilConst, if_true, inil, u.eq, g1, g2]
  rfl⟩
end Go.Ideal

-- IdealTx
set_option linter.unusedSimpArgs false
set_option linter.unusedVariables false
namespace Go.Ideal
open Go Go.RowKit
variable {P : Program} {X : Cx} {E : Env} {σ : Nat → Tr} {B B' : Boxes} {F : Mem} {s : Nat → Value} {h : IHp}
/-! ### From a walk over values to one over trees, midway -/
def LiftQ (X : Cx) (Q' : IExit → TK) (Q : IExit → SK) : Prop := ∀ e F σ B s h, TR X F σ B s h → Q' e σ B → Q e s h
theorem V_of_TV {c : Code} {Q' : IExit → TK} {Q : IExit → SK} (r : TR X F σ B s h) (l : LiftQ X Q' Q) (k : TV X P E c Q' σ B) : V P E c Q s h := by
  unfold TV at k
  exact V_mono (fun e s h ⟨F', σ', B', r', hk⟩ => l e F' σ' B' s h r' hk) (k F s h r)
theorem LiftQ.seq {b : Code} {Q' : IExit → TK} {Q : IExit → SK} (l : LiftQ X Q' Q) : LiftQ X (TseqK X P E b Q') (VseqK P E b Q) := by
  intro e F σ B s h r hk
  unfold TseqK at hk
  unfold VseqK
  cases e with
  | normal => exact V_of_TV r l hk
  | exit j => exact l _ _ _ _ _ _ r hk
  | ret => exact l _ _ _ _ _ _ r hk
theorem LiftQ.ret {rs : List ResultVar} {Φ : Tr → Prop} {Ψ : Value → IHp → Prop} (hΨ : ∀ F r v h', Rep F r v → Φ r → Ψ v h') : LiftQ X (retT P rs Φ) (retK P E rs Ψ) := by
  intro e F' σ' B' s' h' r' hk
  unfold retT at hk
  obtain ⟨he, ts, h3, h4⟩ := hk
  obtain ⟨ws, h5, h6⟩ := h3 _ F' s' h' E r' (thaw F' B' h') r'.thawOk
  unfold retK
  refine ⟨he, ws, h5, hΨ (thaw F' B' h') (tret ts) _ _ ?_ h4⟩
  have hl := h6.len
  match ts, ws, h6, hl with
  | [], [], _, _ => simp only [tret, iret, Rep]; exact ⟨[], rfl, RepL.nil⟩
  | [t], [v], h6, _ =>
    simp only [RepL] at h6
    obtain ⟨v', ws', h7, h8, _⟩ := h6
    simp only [List.cons.injEq] at h7
    obtain ⟨rfl, rfl⟩ := h7
    exact h8
  | t :: t2 :: ts, v :: v2 :: vs, h6, _ => simp only [tret, iret, Rep]; exact ⟨_, rfl, h6⟩
/-- one object of one's own, all slots as they are -/
theorem TR.enter {h0 : IHp} {b t : Nat} {x : Bool} {cs : List Tr} {vs : List Value} (e : Ext h0 h) (hb : h0.fresh ≤ b) (o : ObjIs h b vs t x) (hr : RepL h0.cell? cs vs) : TR ⟨h0, h0.cell?, []⟩ h0.cell? (fun i => .v (s i)) [(b, .cells cs t x)] s h := by
  refine ⟨e, Sub.refl _, fun b off v hf => cell_ext e hf, fun b off v hf => .inl hf, fun p hp => ?_, fun p hp he => ?_, by simp, by simp, fun i => rep_v _⟩
  · rw [List.mem_singleton.1 hp]; exact ⟨vs, hr, o⟩
  · rw [List.mem_singleton.1 hp]
    refine ⟨hb, fun off => ?_⟩
    have he : b % 2 = 0 := o.even
    cases hc : h0.cell? b off with
    | none => rfl
    | some v =>
      simp only [IHp.cell?] at hc
      rw [if_neg (by omega)] at hc
      have : h0.new[b / 2]? = none := List.getElem?_eq_none (by unfold IHp.fresh at hb; omega)
      rw [this] at hc
      cases hc
end Go.Ideal

-- IdealBr
set_option linter.unusedSimpArgs false
set_option linter.unusedVariables false
namespace Go.Ideal
open Go Go.RowKit

/-! ### What a reading of the arguments says of the ideal heap -/
def up (v : Value) : Value := (upv v).getD undef
section
variable {H : Type} {enc : TypeId × Value → H} {P : Program} {w : World} {held : Bool}
end
end Go.Ideal

-- IdealTy
set_option linter.unusedSimpArgs false
set_option linter.unusedVariables false
namespace Go.Ideal
open Go Go.RowKit
/-! ### Slices of structs among the arguments, as trees -/
end Go.Ideal

-- IdealTz
set_option linter.unusedSimpArgs false
set_option linter.unusedVariables false
namespace Go.Ideal
open Go Go.RowKit
section
variable {H : Type} {enc : TypeId × Value → H} {P : Program} {w : World} {held : Bool}
end
end Go.Ideal

-- IdealUa
set_option linter.unusedSimpArgs false
set_option linter.unusedVariables false
namespace Go.Ideal
open Go Go.RowKit
variable {P : Program} {X : Cx} {E : Env} {σ : Nat → Tr} {B B' : Boxes} {ops : Array Oper} {K : TK} {l : List Oper} {d : Option Tmp} {ty : TypeId} {pos : String} {af : Array Edge} {H : List (Nat × Nat)} {F : Mem} {s : Nat → Value} {h : IHp} {held : Held}
/-! ### Loops over functions in functions that answer own memory -/
end Go.Ideal

-- IdealUb
set_option linter.unusedSimpArgs false
set_option linter.unusedVariables false
namespace Go.Ideal
open Go Go.RowKit
variable {P : Program} {X : Cx} {E : Env} {σ : Nat → Tr} {B B' : Boxes} {ops : Array Oper} {K : TK} {l : List Oper} {d : Option Tmp} {ty : TypeId} {pos : String} {af : Array Edge} {H : List (Nat × Nat)} {F : Mem} {s : Nat → Value} {h : IHp} {held : Held} {plan : List PStep} {ph : Bool}
/-! ### Slices that are made ahead of their time; strings made of bytes -/
instance VRL.flat0 : VRL (List.flatten []) := VRL.nil
instance VRL.flatS {r : List Tr} {rs : List (List Tr)} [x : VRL r] [y : VRL (List.flatten rs)] : VRL (List.flatten (r :: rs)) := ⟨fun F vs h v hv => by
  rw [List.flatten_cons] at h
  obtain ⟨p, q, rfl, h1, h2⟩ := h.split
  rcases List.mem_append.1 hv with hv | hv
  · exact x.eq F p h1 v hv
  · exact y.eq F q h2 v hv⟩
/-- rows of bytes, and the string of them -/
class StrOf (rows : List (List Tr)) (s : outParam ByteArray) : Prop where eq : ∃ vs : List Value, rows.flatten = vs.map Tr.v ∧ bytesStr vs .empty = some s
instance {n : Int} : StrOf [[.v (.int .u8 n)]] (ByteArray.empty.push (UInt8.ofNat n.toNat)) := ⟨[.int .u8 n], rfl, rfl⟩
theorem WS_bts {l : List Oper} {K : SK} {x : Operand} {src dst e : TypeId} {b n c : Nat} {vs : List Value} {r : ByteArray} (e1 : EvalIs s x (.slice (some (ad b 0)) n c)) [u : UnderIs P src (.slice e)] [u1 : UnderIs P dst .string] [u2 : UnderIs P e (.int .u8)] (hr : h.row b 0 n = some vs) (hb : bytesStr vs .empty = some r)
    (k : WS P E ops K l (putS s d (.string r)) h) : WS P E ops K (⟨d, .convert src dst x, ty, pos, af, none⟩ :: l) s h := by
  have g1 := ev_eq (E := E) (h := h) (x := x) (s := s)
  have hne : (src == dst) = false := by
    cases hs : src == dst with
    | false => rfl
    | true =>
      have : src = dst := by simpa using hs
      subst this
      have h1 := u.eq
      rw [u1.eq] at h1
      cases h1
  have hrow : ibtsRow P h src dst (.slice (some (ad b 0)) n c) = some (b, 0, vs) := by
    simp only [ibtsRow, Option.isNone_none, if_true, u.eq, u1.eq, u2.eq, hr, Option.map_some]
  refine WS_heap rfl (v := .string r) (h' := h) ?_ k
  simp only [iheap, g1, iconv, hne, Bool.false_and, Bool.false_eq_true, if_false, hrow, hb, Option.map_some]
instance (priority := 60) Pu.bts {x : Operand} {src dst e : TypeId} {b n c bt : Nat} {bx : Bool} {rows : List (List Tr)} {r : ByteArray} [e1 : TEval σ x (.v (.slice (some (ad b 0)) n c))] [u : UnderIs P src (.slice e)] [u1 : UnderIs P dst .string] [u2 : UnderIs P e (.int .u8)] [bi : BoxIs B b (.arr 1 rows bt bx)] [rx : RealX rows bx] [ln : LenT rows n] [st : StrOf rows r] : Pu P σ B (.convert src dst x) (.v (.string r)) := ⟨fun {X F s h} rr {E ops K l d ty pos af} k => by
  obtain ⟨vs, h1, h2⟩ := st.eq
  have hb := rr.boxOf bi
  have hb' := hb
  simp only [BoxRep] at hb
  obtain ⟨us, h3, h4⟩ := rx.even hb'
  have hus : us = vs := by
    rw [h1] at h3
    have : ∀ (vs us : List Value), RepL F (vs.map Tr.v) us → us = vs := by
      intro vs
      induction vs with
      | nil => intro us h; simp only [List.map_nil, RepL] at h; exact h
      | cons v vs ih =>
        intro us h
        simp only [List.map_cons, RepL, Rep] at h
        obtain ⟨w, ws, rfl, rfl, h5⟩ := h
        rw [ih ws h5]
    exact this vs us h3
  subst hus
  have hlen : us.length = n := by
    have := h3.len
    rw [flat_len hb.1, Nat.mul_one, ln.eq] at this
    exact this
  have hrow : h.row b 0 n = some us := by
    have := row_obj (n := us.length) h4 0 (by omega)
    rw [hlen] at this
    have h9 : us.take n = us := by rw [← hlen, List.take_length]
    simp only [List.drop_zero, h9] at this
    exact this
  exact WS_bts (e1.is rr.slot) hrow h2 (k _ (rep_v _))⟩
end Go.Ideal

-- IdealUc
set_option linter.unusedSimpArgs false
set_option linter.unusedVariables false
namespace Go.Ideal
open Go Go.RowKit
variable {P : Program} {X : Cx} {E : Env} {σ : Nat → Tr} {B B' : Boxes} {ops : Array Oper} {K : TK} {l : List Oper} {d : Option Tmp} {ty : TypeId} {pos : String} {af : Array Edge} {H : List (Nat × Nat)} {F : Mem} {s : Nat → Value} {h : IHp} {held : Held} {plan : List PStep} {ph : Bool}
/-! ### x[i:j] of a slice that is read alone -/
end Go.Ideal

-- IdealFl
set_option linter.unusedSimpArgs false
set_option linter.unusedVariables false
namespace Go.Ideal
open Go Ieee
/-! ### Whole numbers as floats: exact below 2^53 -/
theorem shl_eq (a b : Nat) : a <<< b = a * 2 ^ b := Nat.shiftLeft_eq a b
theorem log2_mul_pow {n k : Nat} (h : n ≠ 0) : (n * 2 ^ k).log2 = n.log2 + k := by
  have hp : (n * 2 ^ k) ≠ 0 := Nat.mul_ne_zero h (Nat.pos_iff_ne_zero.1 (Nat.two_pow_pos k))
  rw [Nat.log2_eq_iff hp]
  have h1 := (Nat.log2_eq_iff h).1 rfl
  refine ⟨?_, ?_⟩
  · rw [Nat.pow_add]; exact Nat.mul_le_mul_right _ h1.1
  · rw [show n.log2 + k + 1 = (n.log2 + 1) + k by omega, Nat.pow_add]; exact Nat.mul_lt_mul_of_pos_right h1.2 (Nat.two_pow_pos k)
theorem log2_lt53 {n : Nat} (h : n < 2 ^ 53) : n.log2 ≤ 52 := by
  by_cases h0 : n = 0
  · subst h0; decide
  · have h1 := (Nat.log2_eq_iff h0).1 rfl
    by_cases h2 : n.log2 ≤ 52
    · exact h2
    · exfalso
      have h3 : 2 ^ 53 ≤ 2 ^ n.log2 := Nat.pow_le_pow_right (by decide) (by omega)
      omega
/-- nothing is dropped -/
theorem cut_exact (neg : Bool) (n d : Nat) (h : d ≤ (n * 2 ^ d).log2 + 2) : Toward.even.cut neg (n * 2 ^ d) d = n := by
  unfold Toward.cut
  rw [Nat.min_eq_left h]
  have hg : 1 <<< d = 2 ^ d := by rw [shl_eq, Nat.one_mul]
  have hp := Nat.two_pow_pos d
  simp only [hg, Nat.mul_div_cancel _ hp, Nat.mul_mod_left, Nat.mul_zero]
  have h1 : decide (2 ^ d < 0) = false := by simp
  have h2 : (2 ^ d == 0) = false := by simp
  simp [h2]
/-- the bits of a whole number -/
def rungI (n : Nat) : Nat := if n = 0 then 0 else (1074 + n.log2 - 52) * 2 ^ 52 + n * 2 ^ (52 - n.log2)
def flb (n : Int) : Nat := double.word (decide (n < 0)) (rungI n.natAbs)
theorem least_double : double.leastPlace = -1074 := by decide
theorem nearest_whole (neg : Bool) {n m : Nat} {p : Int} (hn : n < 2 ^ 53) (h0 : n ≠ 0) (hp : p ≤ 0) (hm : m = n * 2 ^ (-p).toNat) : double.nearest neg m p = double.word neg (rungI n) := by
  have hL := log2_lt53 hn
  have hm0 : m ≠ 0 := by rw [hm]; exact Nat.mul_ne_zero h0 (Nat.pos_iff_ne_zero.1 (Nat.two_pow_pos _))
  have hlog : m.log2 = n.log2 + (-p).toNat := by rw [hm]; exact log2_mul_pow h0
  have hfb : (double.fractionBits : Int) = 52 := rfl
  unfold Format.nearest
  rw [if_neg hm0]
  simp only [hfb, least_double, hlog]
  have hlast : max (p + ((n.log2 + (-p).toNat : Nat) : Int) - 52) (-1074) = (n.log2 : Int) - 52 := by omega
  rw [hlast]
  have hkept : Toward.even.cut neg (m <<< (p - ((n.log2 : Int) - 52)).toNat) (((n.log2 : Int) - 52) - p).toNat = n * 2 ^ (52 - n.log2) := by
    rw [shl_eq, hm]
    by_cases hc : (-p).toNat ≤ 52 - n.log2
    · have h1 : (((n.log2 : Int) - 52) - p).toNat = 0 := by omega
      have h2 : (p - ((n.log2 : Int) - 52)).toNat = 52 - n.log2 - (-p).toNat := by omega
      rw [h1, h2, Nat.mul_assoc, ← Nat.pow_add, show (-p).toNat + (52 - n.log2 - (-p).toNat) = 52 - n.log2 by omega]
      have := cut_exact neg (n * 2 ^ (52 - n.log2)) 0 (by omega)
      simpa using this
    · have h1 : (p - ((n.log2 : Int) - 52)).toNat = 0 := by omega
      have h2 : (((n.log2 : Int) - 52) - p).toNat = (-p).toNat - (52 - n.log2) := by omega
      rw [h1, h2, Nat.pow_zero, Nat.mul_one]
      have h3 : n * 2 ^ (-p).toNat = n * 2 ^ (52 - n.log2) * 2 ^ ((-p).toNat - (52 - n.log2)) := by
        rw [Nat.mul_assoc, ← Nat.pow_add, show 52 - n.log2 + ((-p).toNat - (52 - n.log2)) = (-p).toNat by omega]
      rw [h3]
      refine cut_exact neg _ _ ?_
      rw [← h3, log2_mul_pow h0]
      omega
  rw [hkept]
  congr 1
  have hb : double.binade = 2 ^ 52 := rfl
  have hi : double.infRung = (2 ^ 11 - 1) * 2 ^ 52 := rfl
  have h1 : ((n.log2 : Int) - 52 - -1074).toNat = 1074 + n.log2 - 52 := by omega
  rw [h1, hb, hi]
  have hkb : n * 2 ^ (52 - n.log2) < 2 ^ 53 := by
    have h2 := ((Nat.log2_eq_iff h0).1 rfl).2
    have h3 : n * 2 ^ (52 - n.log2) < 2 ^ (n.log2 + 1) * 2 ^ (52 - n.log2) := Nat.mul_lt_mul_of_pos_right h2 (Nat.two_pow_pos _)
    rw [← Nat.pow_add, show n.log2 + 1 + (52 - n.log2) = 53 by omega] at h3
    exact h3
  unfold rungI
  rw [if_neg h0]
  have h4 : (1074 + n.log2 - 52) * 2 ^ 52 ≤ 1074 * 2 ^ 52 := Nat.mul_le_mul_right _ (by omega)
  have h5 : (2 : Nat) ^ 53 = 2 * 2 ^ 52 := by rw [Nat.pow_succ, Nat.mul_comm]
  have h6 : (2 : Nat) ^ 11 = 2048 := rfl
  rw [h5] at hkb
  rw [h6]
  clear hkept hlast hlog hm hm0 hn hi hb h1
  generalize (2 : Nat) ^ 52 = B at *
  generalize (1074 + n.log2 - 52) * B = C at *
  generalize n * 2 ^ (52 - n.log2) = D at *
  have h7 : C + D ≤ (2048 - 1) * B := by omega
  exact Nat.min_eq_left h7
/-- what the bits of a whole number stand for -/
theorem read_flb {n : Int} (h : n.natAbs < 2 ^ 53) : ∃ (m : Nat) (p : Int), double.read (flb n) = .number (decide (n < 0)) m p ∧ p ≤ 0 ∧ m = n.natAbs * 2 ^ (-p).toNat := by
  by_cases h0 : n = 0
  · subst h0
    exact ⟨0, -1074, by decide +kernel, by decide, by rw [Int.natAbs_zero, Nat.zero_mul]⟩
  obtain ⟨B, hB⟩ : ∃ B : Nat, B = 2 ^ 52 := ⟨_, rfl⟩
  have hB0 : 0 < B := by rw [hB]; exact Nat.two_pow_pos _
  have hsw : double.signWeight = 2048 * B := by rw [hB]; decide +kernel
  have hb : double.binade = B := by rw [hB]; decide +kernel
  have hi : double.infRung = 2047 * B := by rw [hB]; decide +kernel
  have hn0 : n.natAbs ≠ 0 := by omega
  have hL := log2_lt53 h
  obtain ⟨l1, l2⟩ := (Nat.log2_eq_iff hn0).1 rfl
  obtain ⟨N, hN⟩ : ∃ N, N = n.natAbs := ⟨_, rfl⟩
  rw [← hN] at hn0 hL l1 l2 ⊢
  clear h
  obtain ⟨K, hK⟩ : ∃ K, K = N * 2 ^ (52 - N.log2) := ⟨_, rfl⟩
  have k1 : B ≤ K := by
    have h3 : 2 ^ N.log2 * 2 ^ (52 - N.log2) ≤ N * 2 ^ (52 - N.log2) := Nat.mul_le_mul_right _ l1
    rw [← Nat.pow_add, show N.log2 + (52 - N.log2) = 52 by omega, ← hB, ← hK] at h3
    exact h3
  have k2 : K < 2 * B := by
    have h3 : N * 2 ^ (52 - N.log2) < 2 ^ (N.log2 + 1) * 2 ^ (52 - N.log2) := Nat.mul_lt_mul_of_pos_right l2 (Nat.two_pow_pos _)
    rw [← Nat.pow_add, show N.log2 + 1 + (52 - N.log2) = 52 + 1 by omega, Nat.pow_succ, ← hB, ← hK, Nat.mul_comm] at h3
    exact h3
  obtain ⟨A, hA⟩ : ∃ A, A = 1074 + N.log2 - 52 := ⟨_, rfl⟩
  have hA2 : 1022 ≤ A ∧ A ≤ 1074 := by omega
  have hR : rungI N = (A + 1) * B + (K - B) := by
    unfold rungI
    rw [if_neg hn0, ← hA, ← hB, ← hK, Nat.add_mul, Nat.one_mul]
    omega
  have hRlt : rungI N < 2047 * B := by
    rw [hR]
    have h4 : (A + 1) * B ≤ 1075 * B := Nat.mul_le_mul_right _ (by omega)
    omega
  have hRge : ¬ rungI N < B := by
    rw [hR]
    have h4 : 1 * B ≤ (A + 1) * B := Nat.mul_le_mul_right _ (by omega)
    omega
  have hdiv : rungI N / B = A + 1 := by
    rw [hR, Nat.mul_comm, Nat.mul_add_div hB0, Nat.div_eq_of_lt (by omega), Nat.add_zero]
  have hmod : rungI N % B = K - B := by
    rw [hR, Nat.mul_comm, Nat.mul_add_mod, Nat.mod_eq_of_lt (by omega)]
  have hR63 : rungI N < 2048 * B := by omega
  have hw : flb n = (if decide (n < 0) then 2048 * B + rungI N else rungI N) := by
    unfold flb Format.word
    rw [hsw, ← hN]
  have hS0 : 0 < 2048 * B := by omega
  have hneg : (flb n / (2048 * B) % 2 == 1) = decide (n < 0) := by
    rw [hw]
    by_cases hs : n < 0
    · simp only [hs, decide_true, if_true]
      have : (2048 * B + rungI N) / (2048 * B) = 1 := by
        rw [Nat.add_div_left _ hS0, Nat.div_eq_of_lt hR63]
      rw [this]; rfl
    · simp only [hs, decide_false, Bool.false_eq_true, if_false]
      rw [Nat.div_eq_of_lt hR63]; rfl
  have hrung : flb n % (2048 * B) = rungI N := by
    rw [hw]
    by_cases hs : n < 0
    · simp only [hs, decide_true, if_true]
      rw [Nat.add_mod_left, Nat.mod_eq_of_lt hR63]
    · simp only [hs, decide_false, Bool.false_eq_true, if_false]
      exact Nat.mod_eq_of_lt hR63
  refine ⟨K, (N.log2 : Int) - 52, ?_, by omega, ?_⟩
  · unfold Format.read
    simp only [hsw, hb, hi, least_double, hrung, hneg, hRge, hRlt, if_false, if_true, hdiv, hmod]
    congr 1
    · omega
    · omega
  · rw [hK, show (-((N.log2 : Int) - 52)).toNat = 52 - N.log2 by omega]
/-- the datum stands for the whole number n, with the sign s -/
def DI (s : Bool) (d : Datum) (n : Int) : Prop := ∃ (m : Nat) (p : Int), d = .number s m p ∧ p ≤ 0 ∧ m = n.natAbs * 2 ^ (-p).toNat ∧ (n ≠ 0 → s = decide (n < 0))
theorem DI.flb {n : Int} (h : n.natAbs < 2 ^ 53) : DI (decide (n < 0)) (double.read (flb n)) n := by
  obtain ⟨m, p, h1, h2, h3⟩ := read_flb h
  exact ⟨m, p, h1, h2, h3, fun _ => rfl⟩
theorem DI.opposite {s : Bool} {d : Datum} {n : Int} (h : DI s d n) : DI (!s) d.opposite (-n) := by
  obtain ⟨m, p, rfl, h2, h3, h4⟩ := h
  refine ⟨m, p, rfl, h2, by rw [h3, Int.natAbs_neg], fun h0 => ?_⟩
  have h5 : n ≠ 0 := by omega
  rw [h4 h5]
  by_cases h6 : n < 0
  · have : ¬ -n < 0 := by omega
    rw [decide_eq_true h6, decide_eq_false this]; rfl
  · have : -n < 0 := by omega
    rw [decide_eq_false h6, decide_eq_true this]; rfl
theorem signed_val {s : Bool} {n : Int} {a k : Nat} (h : n ≠ 0 → s = decide (n < 0)) : signed s (n.natAbs * 2 ^ a) k = n * ((2 ^ (a + k) : Nat) : Int) := by
  unfold signed
  rw [shl_eq, Nat.mul_assoc, ← Nat.pow_add]
  by_cases h0 : n = 0
  · subst h0; simp
  · rw [h h0]
    by_cases h1 : n < 0
    · simp only [h1, decide_true, if_true, Int.natCast_mul]
      rw [show ((n.natAbs : Nat) : Int) = -n by omega, Int.neg_mul, Int.neg_neg]
    · simp only [h1, decide_false, Bool.false_eq_true, if_false, Int.natCast_mul]
      rw [show ((n.natAbs : Nat) : Int) = n by omega]
def zeroF (s : Bool) : Nat := double.word s 0
theorem zeroF_false : zeroF false = flb 0 := by decide +kernel
theorem write_whole {s : Bool} {m : Nat} {p : Int} {n : Int} (h : n.natAbs < 2 ^ 53) (hp : p ≤ 0) (hm : m = n.natAbs * 2 ^ (-p).toNat) (hs : n ≠ 0 → s = decide (n < 0)) : double.write (.number s m p) = if n = 0 then zeroF s else flb n := by
  show double.nearest s m p = _
  by_cases h0 : n = 0
  · subst h0
    rw [if_pos rfl, hm, Int.natAbs_zero, Nat.zero_mul]
    unfold Format.nearest zeroF
    rw [if_pos rfl]
  · rw [if_neg h0, nearest_whole s h (by omega) hp hm, hs h0]
    rfl
theorem sum_val {s t : Bool} {d e : Datum} {a b : Int} (hd : DI s d a) (he : DI t e b) (h : (a + b).natAbs < 2 ^ 53) : (d.sum e).map double.write = some (if a + b = 0 then zeroF (s && t) else flb (a + b)) := by
  obtain ⟨m, i, rfl, h2, h3, h4⟩ := hd
  obtain ⟨n, j, rfl, k2, k3, k4⟩ := he
  simp only [Datum.sum, Option.map_some]
  have hb : min i j ≤ 0 := by omega
  have e1 : signed s m (i - min i j).toNat = a * ((2 ^ (-(min i j)).toNat : Nat) : Int) := by
    rw [h3, signed_val h4]
    congr 3
    have : (-i).toNat + (i - min i j).toNat = (-(min i j)).toNat := by omega
    rw [this]
  have e2 : signed t n (j - min i j).toNat = b * ((2 ^ (-(min i j)).toNat : Nat) : Int) := by
    rw [k3, signed_val k4]
    congr 3
    have : (-j).toNat + (j - min i j).toNat = (-(min i j)).toNat := by omega
    rw [this]
  rw [e1, e2, ← Int.add_mul]
  have hP : 0 < 2 ^ (-(min i j)).toNat := Nat.two_pow_pos _
  have hw := write_whole (s := if (a + b) * ((2 ^ (-(min i j)).toNat : Nat) : Int) = 0 then s && t else decide ((a + b) * ((2 ^ (-(min i j)).toNat : Nat) : Int) < 0)) (m := ((a + b) * ((2 ^ (-(min i j)).toNat : Nat) : Int)).natAbs) (p := min i j) (n := a + b) h hb (by rw [Int.natAbs_mul, Int.natAbs_natCast])
  generalize (2 ^ (-(min i j)).toNat : Nat) = P at hP hw ⊢
  have hz : (a + b) * (P : Int) = 0 ↔ a + b = 0 := by
    constructor
    · intro h5
      rcases Int.mul_eq_zero.1 h5 with h6 | h6
      · exact h6
      · omega
    · intro h5; rw [h5, Int.zero_mul]
  have hn : (a + b) * (P : Int) < 0 ↔ a + b < 0 := by
    constructor
    · intro h5
      by_cases h6 : a + b < 0
      · exact h6
      · have := Int.mul_nonneg (show 0 ≤ a + b by omega) (show (0 : Int) ≤ P by omega); omega
    · intro h5; exact Int.mul_neg_of_neg_of_pos h5 (by omega)
  simp only [hz, hn] at hw ⊢
  rw [hw (fun h0 => by rw [if_neg h0])]
  by_cases h0 : a + b = 0
  · simp [h0]
  · simp [h0]
theorem fl_add {a b : Int} (ha : a.natAbs < 2 ^ 53) (hb : b.natAbs < 2 ^ 53) (h : (a + b).natAbs < 2 ^ 53) : double.add (flb a) (flb b) = some (flb (a + b)) := by
  unfold Format.add
  rw [sum_val (DI.flb ha) (DI.flb hb) h]
  by_cases h0 : a + b = 0
  · rw [if_pos h0, h0]
    have : (decide (a < 0) && decide (b < 0)) = false := by
      by_cases h1 : a < 0
      · have : ¬ b < 0 := by omega
        simp [this]
      · simp [h1]
    rw [this, zeroF_false]
  · rw [if_neg h0]
theorem fl_sub {a b : Int} (ha : a.natAbs < 2 ^ 53) (hb : b.natAbs < 2 ^ 53) (h : (a - b).natAbs < 2 ^ 53) : double.sub (flb a) (flb b) = some (flb (a - b)) := by
  unfold Format.sub
  rw [sum_val (DI.flb ha) (DI.flb hb).opposite (by rw [← Int.sub_eq_add_neg]; exact h), ← Int.sub_eq_add_neg]
  by_cases h0 : a - b = 0
  · rw [if_pos h0, h0]
    have : (decide (a < 0) && !decide (b < 0)) = false := by
      by_cases h1 : a < 0
      · have : b < 0 := by omega
        simp [this]
      · simp [h1]
    rw [this, zeroF_false]
  · rw [if_neg h0]
/-- a product of nought may have a sign -/
theorem fl_mul {a b : Int} (ha : a.natAbs < 2 ^ 53) (hb : b.natAbs < 2 ^ 53) (h : (a * b).natAbs < 2 ^ 53) : double.mul (flb a) (flb b) = some (if a * b = 0 then zeroF (decide (a < 0) ^^ decide (b < 0)) else flb (a * b)) := by
  obtain ⟨m, i, e1, h2, h3, _⟩ := DI.flb ha
  obtain ⟨n, j, e2, k2, k3, _⟩ := DI.flb hb
  unfold Format.mul
  rw [e1, e2]
  simp only [Datum.product, Option.map_some]
  rw [write_whole (n := a * b) h (by omega) ?_ ?_]
  · rw [h3, k3, Int.natAbs_mul]
    have : (-(i + j)).toNat = (-i).toNat + (-j).toNat := by omega
    rw [this, Nat.pow_add]
    simp only [Nat.mul_assoc, Nat.mul_comm, Nat.mul_left_comm]
  · intro h0
    have ha0 : a ≠ 0 := fun h => h0 (by rw [h, Int.zero_mul])
    have hb0 : b ≠ 0 := fun h => h0 (by rw [h, Int.mul_zero])
    by_cases h1 : a < 0 <;> by_cases h5 : b < 0
    · have := Int.mul_pos_of_neg_of_neg h1 h5
      have h6 : ¬ a * b < 0 := by omega
      simp [h1, h5, h6]
    · have := Int.mul_neg_of_neg_of_pos h1 (show 0 < b by omega)
      simp [h1, h5, this]
    · have := Int.mul_neg_of_pos_of_neg (show 0 < a by omega) h5
      simp [h1, h5, this]
    · have := Int.mul_pos (show 0 < a by omega) (show 0 < b by omega)
      have h6 : ¬ a * b < 0 := by omega
      simp [h1, h5, h6]
theorem fl_add0 (s : Bool) : double.add (zeroF s) (flb 0) = some (flb 0) := by cases s <;> decide +kernel
theorem rungI_lt {n : Nat} (h : n < 2 ^ 53) : rungI n < 2 ^ 63 := by
  have h1 : (2 : Nat) ^ 63 = 2048 * 2 ^ 52 := by decide +kernel
  rw [h1]
  obtain ⟨B, hB⟩ : ∃ B : Nat, B = 2 ^ 52 := ⟨_, rfl⟩
  unfold rungI
  split
  · have := Nat.two_pow_pos 52; omega
  · rename_i h0
    have hL := log2_lt53 h
    obtain ⟨l1, l2⟩ := (Nat.log2_eq_iff h0).1 rfl
    have h3 : n * 2 ^ (52 - n.log2) < 2 ^ (n.log2 + 1) * 2 ^ (52 - n.log2) := Nat.mul_lt_mul_of_pos_right l2 (Nat.two_pow_pos _)
    rw [← Nat.pow_add, show n.log2 + 1 + (52 - n.log2) = 52 + 1 by omega, Nat.pow_succ, ← hB] at h3
    rw [← hB]
    have h4 : (1074 + n.log2 - 52) * B ≤ 1074 * B := Nat.mul_le_mul_right _ (by omega)
    omega
theorem sw_double : double.signWeight = 2 ^ 63 := by decide +kernel
theorem flb_pos {n : Int} (h : 0 ≤ n) : flb n = rungI n.natAbs := by
  unfold flb Format.word
  rw [decide_eq_false (by omega)]; rfl
theorem flb_neg {n : Int} (h : n < 0) : flb n = 2 ^ 63 + rungI n.natAbs := by
  unfold flb Format.word
  rw [decide_eq_true h, sw_double]; rfl
theorem xor_top {r : Nat} (h : r < 2 ^ 63) : r ^^^ 2 ^ 63 = 2 ^ 63 + r ∧ (2 ^ 63 + r) ^^^ 2 ^ 63 = r := by
  have key : r ^^^ 2 ^ 63 = 2 ^ 63 + r := by
    refine Nat.eq_of_testBit_eq fun i => ?_
    rw [Nat.testBit_xor, Nat.testBit_two_pow]
    by_cases hi : i = 63
    · subst hi
      rw [Nat.testBit_two_pow_add_eq, Nat.testBit_lt_two_pow h]; simp
    · have h63 : ¬ 63 = i := fun x => hi x.symm
      by_cases h2 : i < 63
      · rw [Nat.testBit_two_pow_add_gt h2]; simp [h63]
      · have h3 : r < 2 ^ i := Nat.lt_of_lt_of_le h (Nat.pow_le_pow_right (by decide) (by omega))
        have h4 : 2 ^ 63 + r < 2 ^ i := by
          have : 2 ^ 64 ≤ 2 ^ i := Nat.pow_le_pow_right (by decide) (by omega)
          omega
        rw [Nat.testBit_lt_two_pow h3, Nat.testBit_lt_two_pow h4]; simp [h63]
  refine ⟨key, ?_⟩
  rw [← key, Nat.xor_assoc, Nat.xor_self, Nat.xor_zero]
theorem fl_neg {n : Int} (h : n.natAbs < 2 ^ 53) : Op.negFloat .f64 (flb n) = if n = 0 then zeroF true else flb (-n) := by
  have hx := xor_top (rungI_lt h)
  show flb n ^^^ 2 ^ 63 = _
  by_cases h0 : n = 0
  · subst h0; rw [if_pos rfl]; decide +kernel
  · rw [if_neg h0]
    by_cases h1 : n < 0
    · rw [flb_neg h1, hx.2, flb_pos (by omega), Int.natAbs_neg]
    · rw [flb_pos (by omega), hx.1, flb_neg (by omega), Int.natAbs_neg]
theorem order_val {s t : Bool} {d e : Datum} {a b : Int} (hd : DI s d a) (he : DI t e b) : d.order e = some (compare a b) := by
  obtain ⟨m, i, rfl, h2, h3, h4⟩ := hd
  obtain ⟨n, j, rfl, k2, k3, k4⟩ := he
  simp only [Datum.order]
  have f1 : signed s m (i - min i j).toNat = a * ((2 ^ (-(min i j)).toNat : Nat) : Int) := by
    rw [h3, signed_val h4]
    congr 3
    have : (-i).toNat + (i - min i j).toNat = (-(min i j)).toNat := by omega
    rw [this]
  have f2 : signed t n (j - min i j).toNat = b * ((2 ^ (-(min i j)).toNat : Nat) : Int) := by
    rw [k3, signed_val k4]
    congr 3
    have : (-j).toNat + (j - min i j).toNat = (-(min i j)).toNat := by omega
    rw [this]
  rw [f1, f2]
  have hP : 0 < 2 ^ (-(min i j)).toNat := Nat.two_pow_pos _
  generalize (2 ^ (-(min i j)).toNat : Nat) = P at hP ⊢
  have hP' : (0 : Int) < P := by omega
  congr 1
  rcases Int.lt_trichotomy a b with h | h | h
  · rw [Int.compare_eq_lt.2 h, Int.compare_eq_lt.2 (Int.mul_lt_mul_of_pos_right h hP')]
  · rw [h]; simp
  · rw [Int.compare_eq_gt.2 h, Int.compare_eq_gt.2 (Int.mul_lt_mul_of_pos_right h hP')]
theorem DI.zero (s : Bool) : DI s (double.read (zeroF s)) 0 := ⟨0, -1074, by cases s <;> decide +kernel, by decide, by rw [Int.natAbs_zero, Nat.zero_mul], fun h => absurd rfl h⟩
theorem integral_whole {n : Int} (h : n.natAbs < 2 ^ 53) : (double.read (flb n)).integral .zero = .number (decide (n < 0)) n.natAbs 0 := by
  obtain ⟨m, p, e1, h2, h3⟩ := read_flb h
  rw [e1]
  simp only [Datum.integral]
  congr 1
  rw [show p.toNat = 0 by omega, Nat.shiftLeft_zero, h3]
  unfold Toward.cut
  by_cases h0 : n = 0
  · subst h0
    simp
  · have hn0 : n.natAbs ≠ 0 := by omega
    have hd : (-p).toNat ≤ (n.natAbs * 2 ^ (-p).toNat).log2 + 2 := by rw [log2_mul_pow hn0]; omega
    rw [Nat.min_eq_left hd]
    have hp := Nat.two_pow_pos (-p).toNat
    simp only [shl_eq, Nat.one_mul, Nat.mul_div_cancel _ hp]
    rfl
theorem fl_toInt {n : Int} (h : n.natAbs < 2 ^ 53) : (double.read (flb n)).toInt .zero = some n := by
  unfold Datum.toInt
  rw [integral_whole h]
  simp only
  have := signed_val (s := decide (n < 0)) (n := n) (a := 0) (k := 0) (fun _ => rfl)
  simp only [Nat.pow_zero, Nat.mul_one] at this
  rw [this]; simp
theorem fl_trunc {n : Int} (h : n.natAbs < 2 ^ 53) : double.write ((double.read (flb n)).integral .zero) = flb n := by
  rw [integral_whole h, write_whole (n := n) h (Int.le_refl _) (by simp) (fun _ => rfl)]
  split
  · rename_i h0; subst h0; exact zeroF_false
  · rfl
theorem fl_ofInt {n : Int} (h : n.natAbs < 2 ^ 53) : FloatKind.f64.nearest n = flb n := by
  show double.write (.number (decide (n < 0)) n.natAbs 0) = _
  rw [write_whole (n := n) h (Int.le_refl _) (by simp) (fun _ => rfl)]
  split
  · rename_i h0; subst h0; exact zeroF_false
  · rfl
end Go.Ideal

-- IdealFm
set_option linter.unusedSimpArgs false
set_option linter.unusedVariables false
namespace Go.Ideal
open Go Go.RowKit
section
variable {P : Program} {E : Env} {s : Nat → Value} {h : IHp} {ops : Array Oper} {K : SK} {l : List Oper} {d : Option Tmp} {ty : TypeId} {pos : String} {af : Array Edge}
/-! ### Floats and complex numbers at level 2 -/
theorem notNil_float {y : Operand} {k : FloatKind} {b : Nat} [e2 : EvalIs s y (.float k b)] (h : IHp) : isNilConst y = false := by
  cases y with
  | const c => have h2 := e2.eq h 0 [] false; simp only [St.eval] at h2; subst h2; rfl
  | _ => rfl
theorem guard_float {op : BinOp} {t : TypeId} {x y : Operand} {j k : FloatKind} {a b : Nat} (f : Sem Value) : (do eqGuard op t x y (.float j a) (.float k b); f) = f := by
  cases op <;> rfl
theorem WS_farith {op : BinOp} {t yt : TypeId} {x y : Operand} {u v r : Nat} [e1 : EvalIs s x (.float .f64 u)] [e2 : EvalIs s y (.float .f64 v)]
    (hr : (op = .add ∧ Ieee.double.add u v = some r) ∨ (op = .sub ∧ Ieee.double.sub u v = some r) ∨ (op = .mul ∧ Ieee.double.mul u v = some r)) (kk : WS P E ops K l (putS s d (.float .f64 r)) h) :
    WS P E ops K (⟨d, .binOp op t x y yt, ty, pos, af, none⟩ :: l) s h := by
  refine WS_pure rfl rfl (ipure_bin (ev_eq (E := E) (h := h) (x := x)) (ev_eq (E := E) (h := h) (x := y)) rfl rfl (notNil_float (s := s) (y := y) h) h ?_ rfl) kk
  rw [guard_float]
  rcases hr with ⟨rfl, hr⟩ | ⟨rfl, hr⟩ | ⟨rfl, hr⟩
  · have : (FloatKind.f64.format.add u v) = some r := hr
    simp [binOp, Op.floatArith, this, pureOf, bind, pure, Sem.bind]
  · have : (FloatKind.f64.format.sub u v) = some r := hr
    simp [binOp, Op.floatArith, this, pureOf, bind, pure, Sem.bind]
  · have : (FloatKind.f64.format.mul u v) = some r := hr
    simp [binOp, Op.floatArith, this, pureOf, bind, pure, Sem.bind]
theorem WS_fcmp {op : BinOp} {t yt : TypeId} {x y : Operand} {u v : Nat} {a b : Int} {r : Bool} [e1 : EvalIs s x (.float .f64 u)] [e2 : EvalIs s y (.float .f64 v)] (ho : Ieee.double.order u v = some (compare a b)) (hr : icmp op a b = some r) (kk : WS P E ops K l (putS s d (.bool r)) h) :
    WS P E ops K (⟨d, .binOp op t x y yt, ty, pos, af, none⟩ :: l) s h := by
  refine WS_pure rfl rfl (ipure_bin (ev_eq (E := E) (h := h) (x := x)) (ev_eq (E := E) (h := h) (x := y)) rfl rfl (notNil_float (s := s) (y := y) h) h ?_ rfl) kk
  rw [guard_float]
  have ho' : FloatKind.f64.format.order u v = some (compare a b) := ho
  have c1 : (some (compare a b) == some Ordering.eq) = decide (a = b) := by
    by_cases hab : a = b
    · subst hab; simp
    · have : compare a b ≠ .eq := fun x => hab (Int.compare_eq_eq.1 x)
      cases hc : compare a b <;> simp_all
  have c2 : (some (compare a b) == some Ordering.lt) = decide (a < b) := by
    by_cases hab : a < b
    · rw [Int.compare_eq_lt.2 hab]; simp [hab]
    · have : compare a b ≠ .lt := fun x => hab (Int.compare_eq_lt.1 x)
      cases hc : compare a b <;> simp_all
  have c3 : (some (compare a b) == some Ordering.gt) = decide (b < a) := by
    by_cases hab : b < a
    · rw [Int.compare_eq_gt.2 hab]; simp [hab]
    · have : compare a b ≠ .gt := fun x => hab (Int.compare_eq_gt.1 x)
      cases hc : compare a b <;> simp_all
  cases op <;> simp only [icmp, Option.some.injEq, reduceCtorEq] at hr <;> subst hr <;> simp only [binOp, Op.floatCmp, ho', ne_eq, not_true_eq_false, if_false, bne, c1, c2, c3, pureOf, pure]
  · congr 2
    rw [Bool.eq_iff_iff]; simp only [Bool.or_eq_true, decide_eq_true_eq]; omega
  · congr 2
    rw [Bool.eq_iff_iff]; simp only [Bool.or_eq_true, decide_eq_true_eq]; omega
theorem WS_fneg {x : Operand} {t : TypeId} {u : Nat} [e : EvalIs s x (.float .f64 u)] (k : WS P E ops K l (putS s d (.float .f64 (Op.negFloat .f64 u))) h) : WS P E ops K (⟨d, .unOp .neg t x, ty, pos, af, none⟩ :: l) s h := by
  refine WS_pure rfl rfl ?_ k
  have := ev_eq (E := E) (h := h) (x := x) (s := s)
  simp [ipure, opFlat, Op.operands, this, flat, flatN, iflat, execOp, Op.unary, pureOf, bind, pure, Sem.bind]
theorem WS_real {x : Operand} {at_ : Array TypeId} {u v : Nat} [e : EvalIs s x (.complex .f64 u v)] (k : WS P E ops K l (putS s d (.float .f64 u)) h) : WS P E ops K (⟨d, .call ⟨.builtin .real, #[x], at_⟩, ty, pos, af, none⟩ :: l) s h := by
  refine WS_pure rfl rfl ?_ k
  have := ev_eq (E := E) (h := h) (x := x) (s := s)
  have hR : ∀ a t, Builtin.real_ a t #[.complex .f64 u v] = pure (.float .f64 u) := fun _ _ => rfl
  simp [ipure, opFlat, Op.operands, Call.operands, this, flat, flatN, iflat, execOp, resolve, invoke, builtin, hR, pureOf, bind, pure, Sem.bind]
theorem WS_imag {x : Operand} {at_ : Array TypeId} {u v : Nat} [e : EvalIs s x (.complex .f64 u v)] (k : WS P E ops K l (putS s d (.float .f64 v)) h) : WS P E ops K (⟨d, .call ⟨.builtin .imag, #[x], at_⟩, ty, pos, af, none⟩ :: l) s h := by
  refine WS_pure rfl rfl ?_ k
  have := ev_eq (E := E) (h := h) (x := x) (s := s)
  have hR : ∀ a t, Builtin.imag_ a t #[.complex .f64 u v] = pure (.float .f64 v) := fun _ _ => rfl
  simp [ipure, opFlat, Op.operands, Call.operands, this, flat, flatN, iflat, execOp, resolve, invoke, builtin, hR, pureOf, bind, pure, Sem.bind]
theorem WS_complex {x y : Operand} {at_ : Array TypeId} {u v : Nat} [e : EvalIs s x (.float .f64 u)] [e2 : EvalIs s y (.float .f64 v)] (k : WS P E ops K l (putS s d (.complex .f64 u v)) h) : WS P E ops K (⟨d, .call ⟨.builtin .complex, #[x, y], at_⟩, ty, pos, af, none⟩ :: l) s h := by
  refine WS_pure rfl rfl ?_ k
  have h1 := ev_eq (E := E) (h := h) (x := x) (s := s)
  have h2 := ev_eq (E := E) (h := h) (x := y) (s := s)
  have hR : ∀ a t, Builtin.complex_ a t #[.float .f64 u, .float .f64 v] = pure (.complex .f64 u v) := fun _ _ => rfl
  simp [ipure, opFlat, Op.operands, Call.operands, h1, h2, flat, flatN, iflat, execOp, resolve, invoke, builtin, hR, pureOf, bind, pure, Sem.bind]
/-- a function without a body, of flat values -/
theorem WS_ext {f : FuncId} {x : Operand} {at_ : Array TypeId} {v r : Value} [e : EvalIs s x v] (fv : flat v = true) (hb : ((P.funcs[f]?).map fun fn => fn.body.isSome) = some false) (hr : pureOf P (callFunc f #[v]) = some (.value r)) (fr : flat r = true)
    (k : WS P E ops K l (putS s d r) h) : WS P E ops K (⟨d, .call ⟨.value (.func f), #[x], at_⟩, ty, pos, af, none⟩ :: l) s h := by
  have h1 := ev_eq (E := E) (h := h) (x := x) (s := s)
  obtain ⟨fn, hf, hb⟩ := Option.map_eq_some_iff.1 hb
  refine WS_pure (v := r) ?_ rfl ?_ k
  · simp only [icallee, icalleeV, St.eval, hf, hb]
    simp
  · have hof : opFlat (E.st s h).eval ⟨d, .call ⟨.value (.func f), #[x], at_⟩, ty, pos, af, none⟩ = true := by
      have hE : (E.st s h).eval (.func f) = .func (.func f) #[] #[] := rfl
      have hfl : flat (.func (.func f) #[] #[]) = true := rfl
      simp [opFlat, Op.operands, Call.operands, h1, fv, hE, hfl]
    simp only [ipure, hof, if_true, iflat]
    have hx : pureOf P (execOp (E.st s h).eval ⟨d, .call ⟨.value (.func f), #[x], at_⟩, ty, pos, af, none⟩) = some (.value r) := by
      rw [← hr]
      have hE : (E.st s h).eval (.func f) = .func (.func f) #[] #[] := rfl
      simp [execOp, resolve, hE, h1, Deferred.ofValue, invoke, bind, pure, Sem.bind]
    rw [hx]
    simp only [fr, if_true]
end
/-! ### Whole numbers as floats, at level 3 -/
instance CellsOf.float {k : FloatKind} {a : Nat} : CellsOf (.float k a) [.float k a] := ⟨rfl, rfl⟩
instance CellsOf.complex {k : FloatKind} {a b : Nat} : CellsOf (.complex k a b) [.complex k a b] := ⟨rfl, rfl⟩
instance VRefl.float {k : FloatKind} {a : Nat} : VRefl (.float k a) := ⟨by simp [veq]⟩
instance VRefl.complex {k : FloatKind} {a b : Nat} : VRefl (.complex k a b) := ⟨by simp [veq]⟩
class Sm53 (n : Int) : Prop where lt : n.natAbs < 2 ^ 53
class FlIs (w : Nat) (n : outParam Int) : Prop where
  eq : w = flb n
  sm : n.natAbs < 2 ^ 53
/-- it may be a nought with a sign -/
class FzIs (w : Nat) (n : outParam Int) : Prop where
  eq : w = flb n ∨ (n = 0 ∧ ∃ s, w = zeroF s)
  sm : n.natAbs < 2 ^ 53
instance {n : Int} [h : Sm53 n] : FlIs (flb n) n := ⟨rfl, h.lt⟩
instance : FlIs (no_index 0) 0 := ⟨by decide +kernel, by decide⟩
instance : FlIs (no_index 4607182418800017408) 1 := ⟨by decide +kernel, by decide⟩
instance : FlIs (no_index 4845873199050653695) 9007199254740991 := ⟨by decide +kernel, by decide⟩
instance (priority := 100) FzIs.of {w : Nat} {n : Int} [h : FlIs w n] : FzIs w n := ⟨.inl h.eq, h.sm⟩
theorem FzIs.di {w : Nat} {n : Int} (h : FzIs w n) : ∃ s, DI s (Ieee.double.read w) n ∧ (n < 0 → s = true) := by
  rcases h.eq with h1 | ⟨rfl, s, h1⟩
  · exact ⟨decide (n < 0), by rw [h1]; exact DI.flb h.sm, fun h => by simp [h]⟩
  · exact ⟨s, by rw [h1]; exact DI.zero s, fun h => by omega⟩
section
variable {P : Program} {X : Cx} {E : Env} {σ : Nat → Tr} {B B' : Boxes} {ops : Array Oper} {K : TK} {l : List Oper} {d : Option Tmp} {ty : TypeId} {pos : String} {af : Array Edge} {H : List (Nat × Nat)}
instance Pu.fadd {t yt : TypeId} {x y : Operand} {u v : Nat} {m n : Int} [e1 : TEval σ x (.v (.float .f64 u))] [e2 : TEval σ y (.v (.float .f64 v))] [a : FlIs u m] [b : FlIs v n] [s : Sm53 (m + n)] : Pu P σ B (.binOp .add t x y yt) (.v (.float .f64 (flb (m + n)))) := ⟨fun {X F s' h} q {_ _ _ _ _ _ _ _} kk => by
  have := e1.is q.slot
  have := e2.is q.slot
  exact WS_farith (.inl ⟨rfl, by rw [a.eq, b.eq]; exact fl_add a.sm b.sm s.lt⟩) (kk _ (rep_v _))⟩
instance Pu.fsub {t yt : TypeId} {x y : Operand} {u v : Nat} {m n : Int} [e1 : TEval σ x (.v (.float .f64 u))] [e2 : TEval σ y (.v (.float .f64 v))] [a : FlIs u m] [b : FlIs v n] [s : Sm53 (m - n)] : Pu P σ B (.binOp .sub t x y yt) (.v (.float .f64 (flb (m - n)))) := ⟨fun {X F s' h} q {_ _ _ _ _ _ _ _} kk => by
  have := e1.is q.slot
  have := e2.is q.slot
  exact WS_farith (.inr (.inl ⟨rfl, by rw [a.eq, b.eq]; exact fl_sub a.sm b.sm s.lt⟩)) (kk _ (rep_v _))⟩
theorem fz_add0 {u : Nat} {m : Int} (a : FzIs u m) : Ieee.double.add u 0 = some (flb m) := by
  have h0 : (0 : Nat) = flb 0 := by decide +kernel
  rw [h0]
  rcases a.eq with h1 | ⟨rfl, s, h1⟩
  · rw [h1]
    have := fl_add (b := 0) a.sm (by decide) (by rw [Int.add_zero]; exact a.sm)
    rw [Int.add_zero] at this
    exact this
  · rw [h1]; exact fl_add0 s
instance (priority := 1200) Pu.fadd0 {t yt : TypeId} {x : Operand} {u : Nat} {m : Int} [e1 : TEval σ x (.v (.float .f64 u))] [a : FzIs u m] : Pu P σ B (.binOp .add t x (.const (.float .f64 (no_index 0))) yt) (.v (.float .f64 (flb m))) := ⟨fun {X F s' h} q {_ _ _ _ _ _ _ _} kk => by
  have := e1.is q.slot
  have : EvalIs s' (.const (.float .f64 0)) (.float .f64 0) := ⟨fun _ _ _ _ => rfl⟩
  exact WS_farith (v := 0) (.inl ⟨rfl, fz_add0 a⟩) (kk _ (rep_v _))⟩
theorem TS_fmul {t yt : TypeId} {x y : Operand} {u v : Nat} {m n : Int} [e1 : TEval σ x (.v (.float .f64 u))] [e2 : TEval σ y (.v (.float .f64 v))] [a : FlIs u m] [b : FlIs v n] [s : Sm53 (m * n)]
    (k : ∀ w, FzIs w (m * n) → TS X P E ops K l H (putT σ d (.v (.float .f64 w))) B) : TS X P E ops K (⟨d, .binOp .mul t x y yt, ty, pos, af, none⟩ :: l) H σ B := by
  unfold TS at *
  intro F s' h held r hh
  have := e1.is r.slot
  have := e2.is r.slot
  have hm := fl_mul a.sm b.sm s.lt
  refine WS_farith (.inr (.inr ⟨rfl, by rw [a.eq, b.eq]; exact hm⟩)) (k _ ⟨?_, s.lt⟩ F _ h held (r.put (rep_v _)) hh)
  split
  · rename_i h0; exact .inr ⟨h0, _, rfl⟩
  · exact .inl rfl
theorem TS_fneg {t : TypeId} {x : Operand} {u : Nat} {n : Int} [e1 : TEval σ x (.v (.float .f64 u))] [a : FlIs u n]
    (k : ∀ w, FzIs w (-n) → TS X P E ops K l H (putT σ d (.v (.float .f64 w))) B) : TS X P E ops K (⟨d, .unOp .neg t x, ty, pos, af, none⟩ :: l) H σ B := by
  unfold TS at *
  intro F s' h held r hh
  have := e1.is r.slot
  refine WS_fneg (k _ ⟨?_, by rw [Int.natAbs_neg]; exact a.sm⟩ F _ h held (r.put (rep_v _)) hh)
  rw [a.eq, fl_neg a.sm]
  split
  · rename_i h0; exact .inr ⟨by omega, _, rfl⟩
  · exact .inl rfl
instance {t yt : TypeId} {x y : Operand} {u v : Nat} {m n : Int} [e1 : TEval σ x (.v (.float .f64 u))] [e2 : TEval σ y (.v (.float .f64 v))] [a : FlIs u m] [b : FlIs v n] [s : Sm53 (m * n)] : StepC (TS X P E ops K (⟨d, .binOp .mul t x y yt, ty, pos, af, none⟩ :: l) H σ B) (∀ w, FzIs w (m * n) → TS X P E ops K l H (putT σ d (.v (.float .f64 w))) B) := ⟨TS_fmul⟩
instance {t : TypeId} {x : Operand} {u : Nat} {n : Int} [e1 : TEval σ x (.v (.float .f64 u))] [a : FlIs u n] : StepC (TS X P E ops K (⟨d, .unOp .neg t x, ty, pos, af, none⟩ :: l) H σ B) (∀ w, FzIs w (-n) → TS X P E ops K l H (putT σ d (.v (.float .f64 w))) B) := ⟨TS_fneg⟩
class ICmp (op : BinOp) (a b : Int) (r : outParam Bool) : Prop where eq : icmp op a b = some r
instance {a b : Int} : ICmp .eql a b (decide (a = b)) := ⟨rfl⟩
instance {a b : Int} : ICmp .neq a b (!decide (a = b)) := ⟨rfl⟩
instance {a b : Int} : ICmp .lss a b (decide (a < b)) := ⟨rfl⟩
instance {a b : Int} : ICmp .leq a b (decide (a ≤ b)) := ⟨rfl⟩
instance {a b : Int} : ICmp .gtr a b (decide (b < a)) := ⟨rfl⟩
instance {a b : Int} : ICmp .geq a b (decide (b ≤ a)) := ⟨rfl⟩
instance Pu.fcmp {op : BinOp} {t yt : TypeId} {x y : Operand} {u v : Nat} {m n : Int} {c : Bool} [e1 : TEval σ x (.v (.float .f64 u))] [e2 : TEval σ y (.v (.float .f64 v))] [a : FzIs u m] [b : FzIs v n] [ic : ICmp op m n c] : Pu P σ B (.binOp op t x y yt) (.v (.bool c)) := ⟨fun {X F s' h} q {_ _ _ _ _ _ _ _} kk => by
  have := e1.is q.slot
  have := e2.is q.slot
  obtain ⟨s1, d1, _⟩ := a.di
  obtain ⟨s2, d2, _⟩ := b.di
  exact WS_fcmp (order_val d1 d2) ic.eq (kk _ (rep_v _))⟩
instance Pu.freal {x : Operand} {at_ : Array TypeId} {u v : Nat} [e1 : TEval σ x (.v (.complex .f64 u v))] : Pu P σ B (.call ⟨.builtin .real, #[x], at_⟩) (.v (.float .f64 u)) := ⟨fun {X F s' h} q {_ _ _ _ _ _ _ _} kk => by
  have := e1.is q.slot
  exact WS_real (kk _ (rep_v _))⟩
instance Pu.fimag {x : Operand} {at_ : Array TypeId} {u v : Nat} [e1 : TEval σ x (.v (.complex .f64 u v))] : Pu P σ B (.call ⟨.builtin .imag, #[x], at_⟩) (.v (.float .f64 v)) := ⟨fun {X F s' h} q {_ _ _ _ _ _ _ _} kk => by
  have := e1.is q.slot
  exact WS_imag (kk _ (rep_v _))⟩
instance Pu.fcomplex {x y : Operand} {at_ : Array TypeId} {u v : Nat} [e1 : TEval σ x (.v (.float .f64 u))] [e2 : TEval σ y (.v (.float .f64 v))] : Pu P σ B (.call ⟨.builtin .complex, #[x, y], at_⟩) (.v (.complex .f64 u v)) := ⟨fun {X F s' h} q {_ _ _ _ _ _ _ _} kk => by
  have := e1.is q.slot
  have := e2.is q.slot
  exact WS_complex (kk _ (rep_v _))⟩
theorem TS_ext {f : FuncId} {x : Operand} {at_ : Array TypeId} {v r : Value} [e1 : TEval σ x (.v v)] (fv : flat v = true) (hb : ((P.funcs[f]?).map fun fn => fn.body.isSome) = some false) (hr : pureOf P (callFunc f #[v]) = some (.value r)) (fr : flat r = true)
    (k : TS X P E ops K l H (putT σ d (.v r)) B) : TS X P E ops K (⟨d, .call ⟨.value (.func f), #[x], at_⟩, ty, pos, af, none⟩ :: l) H σ B := by
  unfold TS at *
  intro F s' h held r' hh
  have := e1.is r'.slot
  exact WS_ext fv hb hr fr (k F _ h held (r'.put (rep_v _)) hh)
end
end Go.Ideal

-- IdealFn
set_option linter.unusedSimpArgs false
set_option linter.unusedVariables false
namespace Go.Ideal
open Go Go.RowKit
/-! ### Whole numbers to floats and back; 1 / 0 -/
section
variable {P : Program} {E : Env} {s : Nat → Value} {h : IHp} {ops : Array Oper} {K : SK} {l : List Oper} {d : Option Tmp} {ty : TypeId} {pos : String} {af : Array Edge}
theorem WS_ftoi {x : Operand} {src dst : TypeId} {u : Nat} {n : Int} [e : EvalIs s x (.float .f64 u)] [us : UnderIs P src (.float .f64)] [ud : UnderIs P dst (.int .i64)] (hu : u = flb n) (hn : n.natAbs < 2 ^ 53) (kk : WS P E ops K l (putS s d (.int .i64 n)) h) : WS P E ops K (⟨d, .convert src dst x, ty, pos, af, none⟩ :: l) s h := by
  refine WS_pure rfl (by
    have := ev_eq (E := E) (h := h) (x := x) (s := s)
    simp only [iheap, this, iconv, ibtsRow]) ?_ kk
  have := ev_eq (E := E) (h := h) (x := x) (s := s)
  have h1 : pureOf P (convert src dst (.float .f64 u)) = some (.int .i64 n) := by
    simp only [convert, underlying, program]
    show pureOf P (Sem.bind _ _) = _
    have h2 : (FloatKind.f64.decode u).toInt .zero = some n := by rw [hu]; exact fl_toInt hn
    have h3 : IntKind.i64.min ≤ n ∧ n ≤ IntKind.i64.max := by
      have a : IntKind.i64.min = -9223372036854775808 := by decide
      have b : IntKind.i64.max = 9223372036854775807 := by decide
      rw [a, b]; omega
    have h4 : n ≤ 9223372036854775807 := by omega
    simp [pureOf, bind, pure, Sem.bind, us.eq, ud.eq, Conv.floatToInt, h2, h3, h4]
  simp only [ipure, opFlat, Op.operands, List.all_cons, List.all_nil, Bool.and_true, this, flat, flatN, if_true, iflat, execOp]
  rw [pureOf_map Next.value h1]
  rfl
theorem WS_itof {x : Operand} {src dst : TypeId} {k : IntKind} {ds : TypeDesc} {n : Int} [e : EvalIs s x (.int k n)] [us : UnderIs P src ds] [ud : UnderIs P dst (.float .f64)] (hn : n.natAbs < 2 ^ 53) (kk : WS P E ops K l (putS s d (.float .f64 (flb n))) h) : WS P E ops K (⟨d, .convert src dst x, ty, pos, af, none⟩ :: l) s h := by
  refine WS_pure rfl (by
    have := ev_eq (E := E) (h := h) (x := x) (s := s)
    simp only [iheap, this, iconv, ibtsRow]) ?_ kk
  have := ev_eq (E := E) (h := h) (x := x) (s := s)
  have h1 : pureOf P (convert src dst (.int k n)) = some (.float .f64 (flb n)) := by
    simp only [convert, underlying, program]
    show pureOf P (Sem.bind _ _) = _
    have h2 : FloatKind.f64.nearest n = flb n := fl_ofInt hn
    simp [pureOf, bind, pure, Sem.bind, us.eq, ud.eq, Conv.intToFloat, h2]
  simp only [ipure, opFlat, Op.operands, List.all_cons, List.all_nil, Bool.and_true, this, flat, flatN, if_true, iflat, execOp]
  rw [pureOf_map Next.value h1]
  rfl
theorem WS_fdiv0 {t yt : TypeId} {x y : Operand} [e1 : EvalIs s x (.float .f64 4607182418800017408)] [e2 : EvalIs s y (.float .f64 0)] (kk : WS P E ops K l (putS s d (.float .f64 9218868437227405312)) h) :
    WS P E ops K (⟨d, .binOp .quo t x y yt, ty, pos, af, none⟩ :: l) s h := by
  refine WS_pure rfl rfl (ipure_bin (ev_eq (E := E) (h := h) (x := x)) (ev_eq (E := E) (h := h) (x := y)) rfl rfl (notNil_float (s := s) (y := y) h) h ?_ rfl) kk
  rw [guard_float]
  have : (FloatKind.f64.format.div 4607182418800017408 0) = some 9218868437227405312 := by decide +kernel
  simp [binOp, Op.floatArith, this, pureOf, bind, pure, Sem.bind]
theorem WS_finf {t yt : TypeId} {x y : Operand} [e1 : EvalIs s x (.float .f64 9218868437227405312)] [e2 : EvalIs s y (.float .f64 0)] (kk : WS P E ops K l (putS s d (.bool false)) h) :
    WS P E ops K (⟨d, .binOp .lss t x y yt, ty, pos, af, none⟩ :: l) s h := by
  refine WS_pure rfl rfl (ipure_bin (ev_eq (E := E) (h := h) (x := x)) (ev_eq (E := E) (h := h) (x := y)) rfl rfl (notNil_float (s := s) (y := y) h) h ?_ rfl) kk
  rw [guard_float]
  have ho : FloatKind.f64.format.order 9218868437227405312 0 = some .gt := by decide +kernel
  simp [binOp, Op.floatCmp, ho, pureOf, pure]
end
section
variable {P : Program} {X : Cx} {E : Env} {σ : Nat → Tr} {B B' : Boxes} {ops : Array Oper} {K : TK} {l : List Oper} {d : Option Tmp} {ty : TypeId} {pos : String} {af : Array Edge} {H : List (Nat × Nat)}
instance Pu.ftoi {x : Operand} {src dst : TypeId} {u : Nat} {n : Int} [e : TEval σ x (.v (.float .f64 u))] [us : UnderIs P src (.float .f64)] [ud : UnderIs P dst (.int .i64)] [a : FlIs u n] : Pu P σ B (.convert src dst x) (.v (.int .i64 n)) := ⟨fun {X F s h} q {_ _ _ _ _ _ _ _} kk => by
  have := e.is q.slot
  exact WS_ftoi a.eq a.sm (kk _ (rep_v _))⟩
instance Pu.itof {x : Operand} {src dst : TypeId} {k : IntKind} {n : Int} {ds : TypeDesc} [e : TEval σ x (.v (.int k n))] [us : UnderIs P src ds] [ud : UnderIs P dst (.float .f64)] [a : Sm53 n] : Pu P σ B (.convert src dst x) (.v (.float .f64 (flb n))) := ⟨fun {X F s h} q {_ _ _ _ _ _ _ _} kk => by
  have := e.is q.slot
  exact WS_itof a.lt (kk _ (rep_v _))⟩
instance (priority := 1200) Pu.fdiv0 {t yt : TypeId} {x y : Operand} [e1 : TEval σ x (.v (.float .f64 4607182418800017408))] [e2 : TEval σ y (.v (.float .f64 0))] : Pu P σ B (.binOp .quo t x y yt) (.v (.float .f64 9218868437227405312)) := ⟨fun {X F s' h} q {_ _ _ _ _ _ _ _} kk => by
  have := e1.is q.slot
  have := e2.is q.slot
  exact WS_fdiv0 (kk _ (rep_v _))⟩
instance (priority := 1200) Pu.finf {t yt : TypeId} {x y : Operand} [e1 : TEval σ x (.v (.float .f64 9218868437227405312))] [e2 : TEval σ y (.v (.float .f64 0))] : Pu P σ B (.binOp .lss t x y yt) (.v (.bool false)) := ⟨fun {X F s' h} q {_ _ _ _ _ _ _ _} kk => by
  have := e1.is q.slot
  have := e2.is q.slot
  exact WS_finf (kk _ (rep_v _))⟩
end
end Go.Ideal

-- IdealFo
set_option linter.unusedSimpArgs false
set_option linter.unusedVariables false
namespace Go.Ideal
open Go Go.RowKit
variable {P : Program} {X : Cx} {E : Env} {σ : Nat → Tr} {B B' : Boxes} {ops : Array Oper} {K : TK} {l : List Oper} {d : Option Tmp} {ty : TypeId} {pos : String} {af : Array Edge} {H : List (Nat × Nat)} {F : Mem} {s : Nat → Value} {h : IHp} {held : Held}
/-! ### == of structs with complex parts, and of structs in structs -/
inductive EqG (P : Program) (n : Nat) : List Field → Array Value → Array Value → Bool → Prop where
  | nil {xs ys : Array Value} : EqG P n [] xs ys true
  | cons {f : Field} {fs : List Field} {xs ys : Array Value} {a b : Value} {c r : Bool} (hn : f.name ≠ "_") (ha : pureOf P (part f.type xs f.offset) = some a) (hb : pureOf P (part f.type ys f.offset) = some b) (hc : pureOf P (Op.equalIn n f.type a b) = some c) (hr : EqG P n fs xs ys r) : EqG P n (f :: fs) xs ys (c && r)
theorem pureOf_loopG {xs ys : Array Value} {n : Nat} : ∀ {fs : List Field} {r : Bool}, EqG P n fs xs ys r →
    pureOf P (forIn fs ((none, ()) : Option Bool × Unit) fun f s =>
      if f.name ≠ "_" then do
        let a ← part f.type xs f.offset
        let b ← part f.type ys f.offset
        let c ← Op.equalIn n f.type a b
        if (!c) = true then pure (ForInStep.done (some false, ())) else pure (ForInStep.yield (none, ()))
      else pure (ForInStep.yield (none, ()))) = some (if r then none else some false, ()) := by
  intro fs
  induction fs with
  | nil => intro r e; cases e; rfl
  | cons f fs ih =>
    intro r e
    cases e with
    | cons hn ha hb hc hr =>
      rename_i a b c r
      rw [List.forIn_cons]
      have h1 : pureOf P (do
          let a ← part f.type xs f.offset
          let b ← part f.type ys f.offset
          let c ← Op.equalIn n f.type a b
          if (!c) = true then pure (ForInStep.done ((some false, ()) : Option Bool × Unit)) else pure (ForInStep.yield (none, ()))) = some (if c then .yield (none, ()) else .done (some false, ())) := by
        refine (pureOf_bind _ ha).trans ?_
        refine (pureOf_bind _ hb).trans ?_
        refine (pureOf_bind _ hc).trans ?_
        cases c <;> rfl
      rw [if_pos hn]
      refine (pureOf_bind _ h1).trans ?_
      cases c with
      | true => simpa using ih hr
      | false => rfl
theorem eqIn_struct {n : Nat} {t : TypeId} {fs : Array Field} {xs ys : Array Value} {r : Bool} (u : P.underlying t = some (.struct fs)) (hs : P.stoodInHeld t = false) (e : EqG P n fs.toList xs ys r) : pureOf P (Op.equalIn (n + 1) t (.agg xs) (.agg ys)) = some r := by
  simp only [Op.equalIn]
  refine (pureOf_bind _ (pureOf_under u)).trans ?_
  refine (pureOf_bind _ (s := program) (a := P) rfl).trans ?_
  simp only [hs, Bool.false_eq_true, if_false]
  rw [← Array.forIn_toList]
  refine (pureOf_bind _ (pureOf_loopG e)).trans ?_
  cases r <;> rfl
theorem eqIn_int {n : Nat} {t : TypeId} {k k0 : IntKind} {a b : Int} (u : P.underlying t = some (.int k0)) : pureOf P (Op.equalIn (n + 1) t (.int k a) (.int k b)) = some (a == b) := by
  simp only [Op.equalIn]
  refine (pureOf_bind _ (pureOf_under u)).trans ?_
  simp only [if_true]; rfl
theorem floatEq_flb {a b : Int} (ha : a.natAbs < 2 ^ 53) (hb : b.natAbs < 2 ^ 53) : Op.floatEq .f64 (flb a) (flb b) = decide (a = b) := by
  have ho : FloatKind.f64.format.order (flb a) (flb b) = some (compare a b) := order_val (DI.flb ha) (DI.flb hb)
  unfold Op.floatEq
  rw [ho]
  by_cases hab : a = b
  · subst hab; simp
  · have : compare a b ≠ .eq := fun x => hab (Int.compare_eq_eq.1 x)
    cases hc : compare a b <;> simp_all
theorem eqIn_complex {n : Nat} {t : TypeId} {k0 : FloatKind} {a b c d : Int} (u : P.underlying t = some (.complex k0)) (ha : a.natAbs < 2 ^ 53) (hb : b.natAbs < 2 ^ 53) (hc : c.natAbs < 2 ^ 53) (hd : d.natAbs < 2 ^ 53) :
    pureOf P (Op.equalIn (n + 1) t (.complex .f64 (flb a) (flb b)) (.complex .f64 (flb c) (flb d))) = some (decide (a = c) && decide (b = d)) := by
  simp only [Op.equalIn]
  refine (pureOf_bind _ (pureOf_under u)).trans ?_
  simp only [if_true, floatEq_flb ha hc, floatEq_flb hb hd]; rfl
theorem part_leaf {t : TypeId} {td : TypeDesc} {xs : Array Value} {off : Nat} {v : Value} (hu : P.underlying t = some td) (h1 : ∀ fs, td ≠ .struct fs) (h2 : ∀ n e, td ≠ .array n e) (hx : xs[off]? = some v) : pureOf P (part t xs off) = some v := by
  unfold part isAgg
  refine (pureOf_bind _ (a := false) ?_).trans ?_
  · refine (pureOf_bind _ (pureOf_under hu)).trans ?_
    cases td <;> first | rfl | exact absurd rfl (h1 _) | exact absurd rfl (h2 _ _)
  · simp only [Bool.false_eq_true, if_false, hx]; rfl
theorem part_struct {t : TypeId} {fs : Array Field} {xs : Array Value} {off n : Nat} (hu : P.underlying t = some (.struct fs)) (hz : pureOf P (sizeOf t) = some n) : pureOf P (part t xs off) = some (.agg (xs.extract off (off + n))) := by
  unfold part isAgg
  refine (pureOf_bind _ (a := true) ?_).trans ?_
  · refine (pureOf_bind _ (pureOf_under hu)).trans ?_
    rfl
  · simp only [if_true]
    exact (pureOf_bind _ hz).trans rfl
theorem WS_eqG {K : SK} {o : BinOp} {t yt : TypeId} {x y : Operand} {vs ws : Array Value} {fs : Array Field} {r r' : Bool} [e1 : EvalIs s x (.agg vs)] [e2 : EvalIs s y (.agg ws)] (ho : (o = .eql ∧ r' = r) ∨ (o = .neq ∧ r' = !r)) (u : P.underlying t = some (.struct fs)) (hs : P.stoodInHeld t = false) (hg : P.eqGuardType P.depth t = false)
    (f1 : flat (.agg vs) = true) (f2 : flat (.agg ws) = true) (e : EqG P 9999 fs.toList vs ws r) (kk : WS P E ops K l (putS s d (.bool r')) h) :
    WS P E ops K (⟨d, .binOp o t x y yt, ty, pos, af, none⟩ :: l) s h := by
  have hn : isNilConst y = false := by
    cases y with
    | const c => have h2 := e2.eq h 0 [] false; simp only [St.eval] at h2; subst h2; rfl
    | _ => rfl
  refine WS_pure rfl rfl (ipure_bin (ev_eq (E := E) (h := h) (x := x)) (ev_eq (E := E) (h := h) (x := y)) f1 f2 hn h ?_ rfl) kk
  have he : pureOf P (Op.equal t (.agg vs) (.agg ws)) = some r := by rw [equal_succ]; exact eqIn_struct u hs e
  rcases ho with ⟨rfl, rfl⟩ | ⟨rfl, rfl⟩
  · have h1 := pureOf_map (P := P) (fun b => Value.bool b) he
    refine (pureOf_bind _ (guard_struct (.inl rfl) hg)).trans ?_
    simpa [binOp] using h1
  · have h1 := pureOf_map (P := P) (fun b => Value.bool (!b)) he
    refine (pureOf_bind _ (guard_struct (.inr rfl) hg)).trans ?_
    simpa [binOp] using h1
theorem Pu.eqG {o : BinOp} {t yt : TypeId} {x y : Operand} {ts us : List Tr} (vs ws : List Value) {fs : Array Field} {r r' : Bool} [e1 : TEval σ x (.agg ts)] [e2 : TEval σ y (.agg us)] (ho : (o = .eql ∧ r' = r) ∨ (o = .neq ∧ r' = !r)) (h1 : ts = vs.map .v) (h2 : us = ws.map .v) (u : P.underlying t = some (.struct fs)) (hs : P.stoodInHeld t = false) (hg : P.eqGuardType P.depth t = false)
    (f1 : flat (.agg vs.toArray) = true) (f2 : flat (.agg ws.toArray) = true) (e : EqG P 9999 fs.toList vs.toArray ws.toArray r) : Pu P σ B (.binOp o t x y yt) (.v (.bool r')) := ⟨fun {X F s h} q {_ _ _ _ _ _ _ _} kk => by
  have i1 := evalIs_agg (F := F) (s := s) e1 h1 q.slot
  have i2 := evalIs_agg (F := F) (s := s) e2 h2 q.slot
  exact WS_eqG ho u hs hg f1 f2 e (kk _ (rep_v _))⟩
end Go.Ideal

-- IdealFp
set_option linter.unusedSimpArgs false
set_option linter.unusedVariables false
namespace Go.Ideal
open Go
/-! ### Loops round by round; arrays; sums of noughts with a sign -/
section
variable {P : Program} {E : Env} {Q : IExit → SK} {s : Nat → Value} {h : IHp}
theorem V_unroll {b : Code} (k : V P E b (VseqK P E (.loop b) Q) s h) : V P E (.loop b) Q s h := by
  unfold V at *; rw [W_loop_round]; exact W_mono lift_seq k
end
section
variable {P : Program} {X : Cx} {E : Env} {σ : Nat → Tr} {B B' : Boxes} {ops : Array Oper} {K : TK} {l : List Oper} {d : Option Tmp} {ty : TypeId} {pos : String} {af : Array Edge} {H : List (Nat × Nat)}
theorem TV_unroll {b : Code} {Q : IExit → TK} (k : TV X P E b (TseqK X P E (.loop b) Q) σ B) : TV X P E (.loop b) Q σ B := by
  unfold TV at k ⊢
  intro F s h r
  refine V_unroll (V_mono ?_ (k F s h r))
  rintro e s' h' ⟨F', σ', B', r', hk⟩
  unfold VseqK
  unfold TseqK at hk
  cases e with
  | normal => unfold TV at hk; exact hk F' s' h' r'
  | exit j => exact ⟨F', σ', B', r', hk⟩
  | ret => exact ⟨F', σ', B', r', hk⟩
theorem fz_add {u v : Nat} {m n : Int} (a : FzIs u m) (b : FzIs v n) (h : (m + n).natAbs < 2 ^ 53) : ∃ w, Ieee.double.add u v = some w ∧ FzIs w (m + n) := by
  obtain ⟨s1, d1, _⟩ := a.di
  obtain ⟨s2, d2, _⟩ := b.di
  refine ⟨_, sum_val d1 d2 h, ?_, h⟩
  split
  · rename_i h0; exact .inr ⟨h0, _, rfl⟩
  · exact .inl rfl
theorem fz_sub {u v : Nat} {m n : Int} (a : FzIs u m) (b : FzIs v n) (h : (m - n).natAbs < 2 ^ 53) : ∃ w, Ieee.double.sub u v = some w ∧ FzIs w (m - n) := by
  obtain ⟨s1, d1, _⟩ := a.di
  obtain ⟨s2, d2, _⟩ := b.di
  refine ⟨_, sum_val d1 d2.opposite (by rw [← Int.sub_eq_add_neg]; exact h), ?_, h⟩
  rw [← Int.sub_eq_add_neg]
  split
  · rename_i h0; exact .inr ⟨h0, _, rfl⟩
  · exact .inl rfl
theorem TS_faddz {t yt : TypeId} {x y : Operand} {u v : Nat} {m n : Int} [e1 : TEval σ x (.v (.float .f64 u))] [e2 : TEval σ y (.v (.float .f64 v))] [a : FzIs u m] [b : FzIs v n] [s : Sm53 (m + n)]
    (k : ∀ w, FzIs w (m + n) → TS X P E ops K l H (putT σ d (.v (.float .f64 w))) B) : TS X P E ops K (⟨d, .binOp .add t x y yt, ty, pos, af, none⟩ :: l) H σ B := by
  unfold TS at *
  intro F s' h held r hh
  have := e1.is r.slot
  have := e2.is r.slot
  obtain ⟨w, h1, h2⟩ := fz_add a b s.lt
  exact WS_farith (.inl ⟨rfl, h1⟩) (k _ h2 F _ h held (r.put (rep_v _)) hh)
theorem TS_fsubz {t yt : TypeId} {x y : Operand} {u v : Nat} {m n : Int} [e1 : TEval σ x (.v (.float .f64 u))] [e2 : TEval σ y (.v (.float .f64 v))] [a : FzIs u m] [b : FzIs v n] [s : Sm53 (m - n)]
    (k : ∀ w, FzIs w (m - n) → TS X P E ops K l H (putT σ d (.v (.float .f64 w))) B) : TS X P E ops K (⟨d, .binOp .sub t x y yt, ty, pos, af, none⟩ :: l) H σ B := by
  unfold TS at *
  intro F s' h held r hh
  have := e1.is r.slot
  have := e2.is r.slot
  obtain ⟨w, h1, h2⟩ := fz_sub a b s.lt
  exact WS_farith (.inr (.inl ⟨rfl, h1⟩)) (k _ h2 F _ h held (r.put (rep_v _)) hh)
instance (priority := 50) {t yt : TypeId} {x y : Operand} {u v : Nat} {m n : Int} [e1 : TEval σ x (.v (.float .f64 u))] [e2 : TEval σ y (.v (.float .f64 v))] [a : FzIs u m] [b : FzIs v n] [s : Sm53 (m + n)] : StepC (TS X P E ops K (⟨d, .binOp .add t x y yt, ty, pos, af, none⟩ :: l) H σ B) (∀ w, FzIs w (m + n) → TS X P E ops K l H (putT σ d (.v (.float .f64 w))) B) := ⟨TS_faddz⟩
instance (priority := 50) {t yt : TypeId} {x y : Operand} {u v : Nat} {m n : Int} [e1 : TEval σ x (.v (.float .f64 u))] [e2 : TEval σ y (.v (.float .f64 v))] [a : FzIs u m] [b : FzIs v n] [s : Sm53 (m - n)] : StepC (TS X P E ops K (⟨d, .binOp .sub t x y yt, ty, pos, af, none⟩ :: l) H σ B) (∀ w, FzIs w (m - n) → TS X P E ops K l H (putT σ d (.v (.float .f64 w))) B) := ⟨TS_fsubz⟩
/-! arrays -/
theorem WS_indexAddrA {K : SK} {s : Nat → Value} {h : IHp} {x y : Operand} {t te : TypeId} {b off len m : Nat} {k : IntKind} {i : Int} [e : EvalIs s x (.pointer (some (ad b off)))] [e2 : EvalIs s y (.int k i)] [u : UnderIs P t (.array len te)] [z : SizeIs P te m] (hi : 0 ≤ i ∧ i < len) (kk : WS P E ops K l (putS s d (.pointer (some (ad b (off + i.toNat * m))))) h) : WS P E ops K (⟨d, .indexAddr t x y, ty, pos, af, none⟩ :: l) s h := by
  refine WS_pure rfl rfl ?_ kk
  have h1 := ev_eq (E := E) (h := h) (x := x) (s := s)
  have h2 := ev_eq (E := E) (h := h) (x := y) (s := s)
  simp only [ipure, h1, h2, u.eq, if_pos hi, z.eq, Option.bind_some]
theorem WS_indexA {K : SK} {s : Nat → Value} {h : IHp} {x y : Operand} {t te : TypeId} {len m : Nat} {k : IntKind} {i : Int} {cs : List Value} [e : EvalIs s x (.agg cs.toArray)] [e2 : EvalIs s y (.int k i)] [u : UnderIs P t (.array len te)] [z : SizeIs P te m] [ag : AggIs P te true] (hi : 0 ≤ i ∧ i < len) (hc : i.toNat * m + m ≤ cs.length) (kk : WS P E ops K l (putS s d (.agg ((cs.drop (i.toNat * m)).take m).toArray)) h) : WS P E ops K (⟨d, .index t x y, ty, pos, af, none⟩ :: l) s h := by
  refine WS_pure rfl rfl ?_ kk
  have h1 := ev_eq (E := E) (h := h) (x := x) (s := s)
  have h2 := ev_eq (E := E) (h := h) (x := y) (s := s)
  simp only [ipure, h1, h2, u.eq, if_pos hi, z.eq, Option.bind_some, ipart, ag.eq]
  rw [if_pos (by simpa using hc)]
  congr 2
  apply Array.toList_inj.1
  rw [Array.toList_extract]
  simp [List.extract_eq_take_drop]
theorem Pu.index_arr {x y : Operand} {t te : TypeId} {len m : Nat} {k : IntKind} {i : Int} {j : Nat} {cs r : List Tr} [e : TEval σ x (.agg cs)] [e2 : TEval σ y (.v (.int k i))] [a : AsNat i j] [u : UnderIs P t (.array len te)] [z : SizeIs P te m] [ag : AggIs P te true] (hj : j < len) (hc : j * m + m ≤ cs.length) (hr : (cs.drop (j * m)).take m = r) : Pu P σ B (.index t x y) (.agg r) := ⟨fun {X F s h} q {_ _ _ _ _ _ _ _} kk => by
  have h1 := evalIs_self (s := s) (x := x) (h := h)
  have h2 := e.eq F s q.slot h 0 [] false
  have h9 := e2.is q.slot
  rw [a.eq] at h9
  simp only [Rep] at h2
  obtain ⟨vs, h3, h4⟩ := h2
  rw [h3] at h1
  have hl := h4.len
  refine WS_indexA (by omega) (by rw [Int.toNat_natCast]; omega) (kk _ ?_)
  rw [Int.toNat_natCast, ← hr]
  simp only [Rep]
  exact ⟨_, rfl, (h4.drop _).take _⟩⟩
theorem Pu.indexAddr_arr {x y : Operand} {t te : TypeId} {b off off' len m : Nat} {k : IntKind} {i : Int} {j : Nat} [e : TEval σ x (.v (.pointer (some (ad b off))))] [e2 : TEval σ y (.v (.int k i))] [a : AsNat i j] [u : UnderIs P t (.array len te)] [z : SizeIs P te m] (hj : j < len) (ho : off + j * m = off') : Pu P σ B (.indexAddr t x y) (.v (.pointer (some (ad b off')))) := ⟨fun {X F s h} q {_ _ _ _ _ _ _ _} kk => by
  have := e.is q.slot
  have h9 := e2.is q.slot
  rw [a.eq] at h9
  refine WS_indexAddrA (by omega) (kk _ ?_)
  rw [Int.toNat_natCast, ho]
  exact rep_v _⟩
class FlatRw (rows : List (List Tr)) (r : outParam (List Tr)) : Prop where eq : rows.flatten = r
class AppT (a b : List Tr) (r : outParam (List Tr)) : Prop where eq : a ++ b = r
instance AppT.nil {b : List Tr} : AppT [] b b := ⟨rfl⟩
instance AppT.cons {x : Tr} {a b r : List Tr} [i : AppT a b r] : AppT (x :: a) b (x :: r) := ⟨by simp [i.eq]⟩
instance FlatRw.nil : FlatRw [] [] := ⟨rfl⟩
instance FlatRw.cons {row r r2 : List Tr} {rows : List (List Tr)} [i : FlatRw rows r] [a : AppT row r r2] : FlatRw (row :: rows) r2 := ⟨by simp [i.eq, a.eq]⟩
theorem enum_vals {ts : List Tr} {pt : List (Nat × Tr)} {pv : List (Nat × Value)} {F : Mem} (he : pt = (ts.zipIdx 0).map fun p => (p.2, p.1)) (h2 : pv.map Prod.fst = pt.map Prod.fst) (h3 : RepL F ts (pv.map Prod.snd)) : pv = ((pv.map Prod.snd).zipIdx 0).map fun p => (p.2, p.1) := by
  have h4 : pv.map Prod.fst = (ts.zipIdx 0).map Prod.snd := by rw [h2, he]; exact enum_fst ts 0
  have h5 := h3.len
  apply List.ext_getElem?
  intro i
  have h6 := congrArg (fun z : List Nat => z[i]?) h4
  simp only [List.getElem?_map, List.getElem?_zipIdx] at h6 ⊢
  cases hi : pv[i]? with
  | none => rfl
  | some q =>
    rw [hi] at h6
    simp at h6
    have h7 : i < ts.length := by
      have := (List.getElem?_eq_some_iff.1 hi).1
      simp at h5; omega
    rw [List.getElem?_eq_getElem h7] at h6
    simp at h6
    simp [← h6]
theorem Pu.buildA {t te : TypeId} {len m : Nat} {ps : List (Nat × Operand)} {pt : List (Nat × Tr)} {z : List Value} {ts r : List Tr} {rows : List (List Tr)} [p : TParts σ ps pt] [u : UnderIs P t (.array len te)] [zi : SizeIs P te m] [ze : ZeroIs P t (.agg z.toArray)] [en : EnumT 0 pt ts] [ro : RowsT m ts rows] [lt : LenT ts len] [fr : FlatRw rows r] (hz : z.length = len * m) : Pu P σ B (.build t ps.toArray) (.agg r) := ⟨fun {X F s h} q {E' _ _ _ _ _ _ _} kk => by
  obtain ⟨pv, h1, h2, h3⟩ := p.eq F s q.slot h 0 [] false
  have hp : PartsIs s ps pv := ⟨fun h' nt mk rd => by
    rw [← h1]
    apply List.map_congr_left
    rintro ⟨i, x⟩ _
    simp only [Prod.mk.injEq, true_and]
    exact (evalIs_self (s := s) (x := x) (h := h)).eq h' nt mk rd⟩
  have hts : pt.map Prod.snd = ts := by rw [en.eq]; exact enum_snd ts 0
  rw [hts] at h3
  have hen := enum_vals en.eq h2 h3
  obtain ⟨g1, g2, g3⟩ := ro.eq F _ h3
  have hl : (pv.map Prod.snd).length = len := by rw [h3.len]; exact lt.eq
  have hb : BuildIs P t pv ((pv.map Prod.snd).map fun v => v.cells.toList).flatten := ⟨by
    simp only [ibuild, ze.eq, Option.bind_some, u.eq, zi.eq, ifill, Value.cells]
    have hf := fill_row m (pv.map Prod.snd) [] z 0 (fun v hv => ⟨v.cells.toList, by simp, by simpa using g2 v hv⟩) (by simp) (by rw [hz, hl])
    simp only [List.nil_append] at hf
    rw [← hen] at hf
    rw [hf]; rfl⟩
  refine WS_build (kk _ ?_)
  simp only [Rep]
  exact ⟨_, rfl, by rw [← fr.eq]; exact g1⟩⟩
end
end Go.Ideal

-- IdealFq
set_option linter.unusedSimpArgs false
set_option linter.unusedVariables false
namespace Go.Ideal
open Go
/-! ### Regions that draw: loads of what lies frozen, behind calls whose answers hold no memory -/
section
variable {P : Program} {X : Cx} {E : Env} {σ : Nat → Tr} {B B' : Boxes} {ops : Array Oper} {K : TK} {d : Option Tmp} {ty : TypeId} {pos : String} {af : Array Edge} {H : List (Nat × Nat)} {plan : List PStep}
end
end Go.Ideal

-- R6Ty
set_option linter.unusedSimpArgs false
set_option linter.unusedVariables false
namespace Go.Ideal
open Go Go.Proofs
instance : SizeIs Try.prog 1 1 := ⟨by kernel_rfl⟩
instance : AggIs Try.prog 1 false := ⟨by kernel_rfl⟩
instance : ZeroIs Try.prog 1 (Value.nilFunc) := ⟨by kernel_rfl⟩
instance : BytesIs Try.prog 1 1 8 := ⟨Try.t1, _, by kernel_rfl, rfl, rfl, rfl, rfl, by decide, by decide⟩
instance : UnderIs Try.prog 2 (.int IntKind.i64) := ⟨Try.underlying2⟩
instance : SizeIs Try.prog 2 1 := ⟨by kernel_rfl⟩
instance : AggIs Try.prog 2 false := ⟨by kernel_rfl⟩
instance : ZeroIs Try.prog 2 ((Value.int IntKind.i64 0)) := ⟨by kernel_rfl⟩
instance : BytesIs Try.prog 2 1 8 := ⟨Try.t2, _, by kernel_rfl, rfl, rfl, rfl, rfl, by decide, by decide⟩
instance : UnderIs Try.prog 3 (.int IntKind.i64) := ⟨Try.underlying3⟩
instance : SizeIs Try.prog 3 1 := ⟨by kernel_rfl⟩
instance : AggIs Try.prog 3 false := ⟨by kernel_rfl⟩
instance : ZeroIs Try.prog 3 ((Value.int IntKind.i64 0)) := ⟨by kernel_rfl⟩
instance : BytesIs Try.prog 3 1 8 := ⟨Try.t3, _, by kernel_rfl, rfl, rfl, rfl, rfl, by decide, by decide⟩
instance : UnderIs Try.prog 4 (.bool) := ⟨Try.underlying4⟩
instance : SizeIs Try.prog 4 1 := ⟨by kernel_rfl⟩
instance : AggIs Try.prog 4 false := ⟨by kernel_rfl⟩
instance : ZeroIs Try.prog 4 ((Value.bool false)) := ⟨by kernel_rfl⟩
instance : BytesIs Try.prog 4 1 1 := ⟨Try.t4, _, by kernel_rfl, rfl, rfl, rfl, rfl, by decide, by decide⟩
instance : UnderIs Try.prog 5 (.int IntKind.u8) := ⟨Try.underlying5⟩
instance : SizeIs Try.prog 5 1 := ⟨by kernel_rfl⟩
instance : AggIs Try.prog 5 false := ⟨by kernel_rfl⟩
instance : ZeroIs Try.prog 5 ((Value.int IntKind.u8 0)) := ⟨by kernel_rfl⟩
instance : BytesIs Try.prog 5 1 1 := ⟨Try.t5, _, by kernel_rfl, rfl, rfl, rfl, rfl, by decide, by decide⟩
instance : UnderIs Try.prog 6 (.int IntKind.u8) := ⟨Try.underlying6⟩
instance : SizeIs Try.prog 6 1 := ⟨by kernel_rfl⟩
instance : AggIs Try.prog 6 false := ⟨by kernel_rfl⟩
instance : ZeroIs Try.prog 6 ((Value.int IntKind.u8 0)) := ⟨by kernel_rfl⟩
instance : BytesIs Try.prog 6 1 1 := ⟨Try.t6, _, by kernel_rfl, rfl, rfl, rfl, rfl, by decide, by decide⟩
instance : FieldIs Try.prog 7 0 0 2 1 := ⟨_, _, Try.underlying7, rfl, rfl, rfl, by kernel_rfl, by decide⟩
instance : FieldIs Try.prog 7 1 1 3 1 := ⟨_, _, Try.underlying7, rfl, rfl, rfl, by kernel_rfl, by decide⟩
instance : FieldIs Try.prog 7 2 2 4 1 := ⟨_, _, Try.underlying7, rfl, rfl, rfl, by kernel_rfl, by decide⟩
instance : FieldIs Try.prog 7 3 3 6 1 := ⟨_, _, Try.underlying7, rfl, rfl, rfl, by kernel_rfl, by decide⟩
instance : StructOk Try.prog 7 := ⟨_, Try.underlying7, by kernel_rfl⟩
instance : SizeIs Try.prog 7 4 := ⟨by kernel_rfl⟩
instance : AggIs Try.prog 7 true := ⟨by kernel_rfl⟩
instance : ZeroIs Try.prog 7 ((Value.agg #[Value.int IntKind.i64 0, Value.int IntKind.i64 0, Value.bool false, Value.int IntKind.u8 0])) := ⟨by kernel_rfl⟩
instance : BytesIs Try.prog 7 4 24 := ⟨Try.t7, _, by kernel_rfl, rfl, rfl, rfl, rfl, by decide, by decide⟩
instance : FieldIs Try.prog 8 0 0 2 1 := ⟨_, _, Try.underlying8, rfl, rfl, rfl, by kernel_rfl, by decide⟩
instance : FieldIs Try.prog 8 1 1 3 1 := ⟨_, _, Try.underlying8, rfl, rfl, rfl, by kernel_rfl, by decide⟩
instance : FieldIs Try.prog 8 2 2 4 1 := ⟨_, _, Try.underlying8, rfl, rfl, rfl, by kernel_rfl, by decide⟩
instance : FieldIs Try.prog 8 3 3 6 1 := ⟨_, _, Try.underlying8, rfl, rfl, rfl, by kernel_rfl, by decide⟩
instance : StructOk Try.prog 8 := ⟨_, Try.underlying8, by kernel_rfl⟩
instance : SizeIs Try.prog 8 4 := ⟨by kernel_rfl⟩
instance : AggIs Try.prog 8 true := ⟨by kernel_rfl⟩
instance : ZeroIs Try.prog 8 ((Value.agg #[Value.int IntKind.i64 0, Value.int IntKind.i64 0, Value.bool false, Value.int IntKind.u8 0])) := ⟨by kernel_rfl⟩
instance : BytesIs Try.prog 8 4 24 := ⟨Try.t8, _, by kernel_rfl, rfl, rfl, rfl, rfl, by decide, by decide⟩
instance : UnderIs Try.prog 9 (.string) := ⟨Try.underlying9⟩
instance : SizeIs Try.prog 9 1 := ⟨by kernel_rfl⟩
instance : AggIs Try.prog 9 false := ⟨by kernel_rfl⟩
instance : ZeroIs Try.prog 9 ((Value.string ByteArray.empty)) := ⟨by kernel_rfl⟩
instance : BytesIs Try.prog 9 1 16 := ⟨Try.t9, _, by kernel_rfl, rfl, rfl, rfl, rfl, by decide, by decide⟩
instance : UnderIs Try.prog 10 (.string) := ⟨Try.underlying10⟩
instance : SizeIs Try.prog 10 1 := ⟨by kernel_rfl⟩
instance : AggIs Try.prog 10 false := ⟨by kernel_rfl⟩
instance : ZeroIs Try.prog 10 ((Value.string ByteArray.empty)) := ⟨by kernel_rfl⟩
instance : BytesIs Try.prog 10 1 16 := ⟨Try.t10, _, by kernel_rfl, rfl, rfl, rfl, rfl, by decide, by decide⟩
instance : UnderIs Try.prog 11 (.string) := ⟨Try.underlying11⟩
instance : SizeIs Try.prog 11 1 := ⟨by kernel_rfl⟩
instance : AggIs Try.prog 11 false := ⟨by kernel_rfl⟩
instance : ZeroIs Try.prog 11 ((Value.string ByteArray.empty)) := ⟨by kernel_rfl⟩
instance : BytesIs Try.prog 11 1 16 := ⟨Try.t11, _, by kernel_rfl, rfl, rfl, rfl, rfl, by decide, by decide⟩
instance : UnderIs Try.prog 12 (.int IntKind.u64) := ⟨Try.underlying12⟩
instance : SizeIs Try.prog 12 1 := ⟨by kernel_rfl⟩
instance : AggIs Try.prog 12 false := ⟨by kernel_rfl⟩
instance : ZeroIs Try.prog 12 ((Value.int IntKind.u64 0)) := ⟨by kernel_rfl⟩
instance : BytesIs Try.prog 12 1 8 := ⟨Try.t12, _, by kernel_rfl, rfl, rfl, rfl, rfl, by decide, by decide⟩
instance : FieldIs Try.prog 13 0 0 9 1 := ⟨_, _, Try.underlying13, rfl, rfl, rfl, by kernel_rfl, by decide⟩
instance : FieldIs Try.prog 13 1 1 12 1 := ⟨_, _, Try.underlying13, rfl, rfl, rfl, by kernel_rfl, by decide⟩
instance : StructOk Try.prog 13 := ⟨_, Try.underlying13, by kernel_rfl⟩
instance : SizeIs Try.prog 13 2 := ⟨by kernel_rfl⟩
instance : AggIs Try.prog 13 true := ⟨by kernel_rfl⟩
instance : ZeroIs Try.prog 13 ((Value.agg #[Value.string ByteArray.empty, Value.int IntKind.u64 0])) := ⟨by kernel_rfl⟩
instance : BytesIs Try.prog 13 2 24 := ⟨Try.t13, _, by kernel_rfl, rfl, rfl, rfl, rfl, by decide, by decide⟩
instance : FieldIs Try.prog 14 0 0 9 1 := ⟨_, _, Try.underlying14, rfl, rfl, rfl, by kernel_rfl, by decide⟩
instance : FieldIs Try.prog 14 1 1 12 1 := ⟨_, _, Try.underlying14, rfl, rfl, rfl, by kernel_rfl, by decide⟩
instance : StructOk Try.prog 14 := ⟨_, Try.underlying14, by kernel_rfl⟩
instance : SizeIs Try.prog 14 2 := ⟨by kernel_rfl⟩
instance : AggIs Try.prog 14 true := ⟨by kernel_rfl⟩
instance : ZeroIs Try.prog 14 ((Value.agg #[Value.string ByteArray.empty, Value.int IntKind.u64 0])) := ⟨by kernel_rfl⟩
instance : BytesIs Try.prog 14 2 24 := ⟨Try.t14, _, by kernel_rfl, rfl, rfl, rfl, rfl, by decide, by decide⟩
instance : UnderIs Try.prog 15 (.pointer 128) := ⟨Try.underlying15⟩
instance : SizeIs Try.prog 15 1 := ⟨by kernel_rfl⟩
instance : AggIs Try.prog 15 false := ⟨by kernel_rfl⟩
instance : ZeroIs Try.prog 15 ((Value.pointer none)) := ⟨by kernel_rfl⟩
instance : BytesIs Try.prog 15 1 8 := ⟨Try.t15, _, by kernel_rfl, rfl, rfl, rfl, rfl, by decide, by decide⟩
instance : UnderIs Try.prog 16 (.pointer 131) := ⟨Try.underlying16⟩
instance : SizeIs Try.prog 16 1 := ⟨by kernel_rfl⟩
instance : AggIs Try.prog 16 false := ⟨by kernel_rfl⟩
instance : ZeroIs Try.prog 16 ((Value.pointer none)) := ⟨by kernel_rfl⟩
instance : BytesIs Try.prog 16 1 8 := ⟨Try.t16, _, by kernel_rfl, rfl, rfl, rfl, rfl, by decide, by decide⟩
instance : UnderIs Try.prog 17 (.pointer 141) := ⟨Try.underlying17⟩
instance : SizeIs Try.prog 17 1 := ⟨by kernel_rfl⟩
instance : AggIs Try.prog 17 false := ⟨by kernel_rfl⟩
instance : ZeroIs Try.prog 17 ((Value.pointer none)) := ⟨by kernel_rfl⟩
instance : BytesIs Try.prog 17 1 8 := ⟨Try.t17, _, by kernel_rfl, rfl, rfl, rfl, rfl, by decide, by decide⟩
instance : FieldIs Try.prog 18 0 0 17 1 := ⟨_, _, Try.underlying18, rfl, rfl, rfl, by kernel_rfl, by decide⟩
instance : StructOk Try.prog 18 := ⟨_, Try.underlying18, by kernel_rfl⟩
instance : SizeIs Try.prog 18 1 := ⟨by kernel_rfl⟩
instance : AggIs Try.prog 18 true := ⟨by kernel_rfl⟩
instance : ZeroIs Try.prog 18 ((Value.agg #[Value.pointer none])) := ⟨by kernel_rfl⟩
instance : BytesIs Try.prog 18 1 8 := ⟨Try.t18, _, by kernel_rfl, rfl, rfl, rfl, rfl, by decide, by decide⟩
instance : FieldIs Try.prog 19 0 0 17 1 := ⟨_, _, Try.underlying19, rfl, rfl, rfl, by kernel_rfl, by decide⟩
instance : StructOk Try.prog 19 := ⟨_, Try.underlying19, by kernel_rfl⟩
instance : SizeIs Try.prog 19 1 := ⟨by kernel_rfl⟩
instance : AggIs Try.prog 19 true := ⟨by kernel_rfl⟩
instance : ZeroIs Try.prog 19 ((Value.agg #[Value.pointer none])) := ⟨by kernel_rfl⟩
instance : BytesIs Try.prog 19 1 8 := ⟨Try.t19, _, by kernel_rfl, rfl, rfl, rfl, rfl, by decide, by decide⟩
instance : UnderIs Try.prog 21 (.int IntKind.i32) := ⟨Try.underlying21⟩
instance : SizeIs Try.prog 21 1 := ⟨by kernel_rfl⟩
instance : AggIs Try.prog 21 false := ⟨by kernel_rfl⟩
instance : ZeroIs Try.prog 21 ((Value.int IntKind.i32 0)) := ⟨by kernel_rfl⟩
instance : BytesIs Try.prog 21 1 4 := ⟨Try.t21, _, by kernel_rfl, rfl, rfl, rfl, rfl, by decide, by decide⟩
instance : SizeIs Try.prog 22 1 := ⟨by kernel_rfl⟩
instance : AggIs Try.prog 22 false := ⟨by kernel_rfl⟩
instance : ZeroIs Try.prog 22 (Value.nilFunc) := ⟨by kernel_rfl⟩
instance : BytesIs Try.prog 22 1 8 := ⟨Try.t22, _, by kernel_rfl, rfl, rfl, rfl, rfl, by decide, by decide⟩
instance : SizeIs Try.prog 23 1 := ⟨by kernel_rfl⟩
instance : AggIs Try.prog 23 false := ⟨by kernel_rfl⟩
instance : ZeroIs Try.prog 23 (Value.nilFunc) := ⟨by kernel_rfl⟩
instance : BytesIs Try.prog 23 1 8 := ⟨Try.t23, _, by kernel_rfl, rfl, rfl, rfl, rfl, by decide, by decide⟩
instance : SizeIs Try.prog 24 1 := ⟨by kernel_rfl⟩
instance : AggIs Try.prog 24 false := ⟨by kernel_rfl⟩
instance : ZeroIs Try.prog 24 (Value.nilFunc) := ⟨by kernel_rfl⟩
instance : BytesIs Try.prog 24 1 8 := ⟨Try.t24, _, by kernel_rfl, rfl, rfl, rfl, rfl, by decide, by decide⟩
instance : UnderIs Try.prog 25 (.int IntKind.i64) := ⟨Try.underlying25⟩
instance : SizeIs Try.prog 25 1 := ⟨by kernel_rfl⟩
instance : AggIs Try.prog 25 false := ⟨by kernel_rfl⟩
instance : ZeroIs Try.prog 25 ((Value.int IntKind.i64 0)) := ⟨by kernel_rfl⟩
instance : BytesIs Try.prog 25 1 8 := ⟨Try.t25, _, by kernel_rfl, rfl, rfl, rfl, rfl, by decide, by decide⟩
instance : SizeIs Try.prog 27 1 := ⟨by kernel_rfl⟩
instance : AggIs Try.prog 27 false := ⟨by kernel_rfl⟩
instance : ZeroIs Try.prog 27 (Value.nilFunc) := ⟨by kernel_rfl⟩
instance : BytesIs Try.prog 27 1 8 := ⟨Try.t27, _, by kernel_rfl, rfl, rfl, rfl, rfl, by decide, by decide⟩
instance : SizeIs Try.prog 29 1 := ⟨by kernel_rfl⟩
instance : AggIs Try.prog 29 false := ⟨by kernel_rfl⟩
instance : ZeroIs Try.prog 29 (Value.nilFunc) := ⟨by kernel_rfl⟩
instance : BytesIs Try.prog 29 1 8 := ⟨Try.t29, _, by kernel_rfl, rfl, rfl, rfl, rfl, by decide, by decide⟩
instance : UnderIs Try.prog 30 (.slice 37) := ⟨Try.underlying30⟩
instance : SizeIs Try.prog 30 1 := ⟨by kernel_rfl⟩
instance : AggIs Try.prog 30 false := ⟨by kernel_rfl⟩
instance : ZeroIs Try.prog 30 ((Value.slice none 0 0)) := ⟨by kernel_rfl⟩
instance : BytesIs Try.prog 30 1 24 := ⟨Try.t30, _, by kernel_rfl, rfl, rfl, rfl, rfl, by decide, by decide⟩
instance : SizeIs Try.prog 32 1 := ⟨by kernel_rfl⟩
instance : AggIs Try.prog 32 false := ⟨by kernel_rfl⟩
instance : ZeroIs Try.prog 32 (Value.nilFunc) := ⟨by kernel_rfl⟩
instance : BytesIs Try.prog 32 1 8 := ⟨Try.t32, _, by kernel_rfl, rfl, rfl, rfl, rfl, by decide, by decide⟩
instance : SizeIs Try.prog 34 1 := ⟨by kernel_rfl⟩
instance : AggIs Try.prog 34 false := ⟨by kernel_rfl⟩
instance : ZeroIs Try.prog 34 (Value.nilFunc) := ⟨by kernel_rfl⟩
instance : BytesIs Try.prog 34 1 8 := ⟨Try.t34, _, by kernel_rfl, rfl, rfl, rfl, rfl, by decide, by decide⟩
instance : SizeIs Try.prog 35 1 := ⟨by kernel_rfl⟩
instance : AggIs Try.prog 35 false := ⟨by kernel_rfl⟩
instance : ZeroIs Try.prog 35 (Value.nilFunc) := ⟨by kernel_rfl⟩
instance : BytesIs Try.prog 35 1 8 := ⟨Try.t35, _, by kernel_rfl, rfl, rfl, rfl, rfl, by decide, by decide⟩
instance : UnderIs Try.prog 36 (.slice 3) := ⟨Try.underlying36⟩
instance : SizeIs Try.prog 36 1 := ⟨by kernel_rfl⟩
instance : AggIs Try.prog 36 false := ⟨by kernel_rfl⟩
instance : ZeroIs Try.prog 36 ((Value.slice none 0 0)) := ⟨by kernel_rfl⟩
instance : BytesIs Try.prog 36 1 24 := ⟨Try.t36, _, by kernel_rfl, rfl, rfl, rfl, rfl, by decide, by decide⟩
instance : UnderIs Try.prog 37 (.slice 46) := ⟨Try.underlying37⟩
instance : SizeIs Try.prog 37 1 := ⟨by kernel_rfl⟩
instance : AggIs Try.prog 37 false := ⟨by kernel_rfl⟩
instance : ZeroIs Try.prog 37 ((Value.slice none 0 0)) := ⟨by kernel_rfl⟩
instance : BytesIs Try.prog 37 1 24 := ⟨Try.t37, _, by kernel_rfl, rfl, rfl, rfl, rfl, by decide, by decide⟩
instance : SizeIs Try.prog 39 1 := ⟨by kernel_rfl⟩
instance : AggIs Try.prog 39 false := ⟨by kernel_rfl⟩
instance : ZeroIs Try.prog 39 (Value.nilFunc) := ⟨by kernel_rfl⟩
instance : BytesIs Try.prog 39 1 8 := ⟨Try.t39, _, by kernel_rfl, rfl, rfl, rfl, rfl, by decide, by decide⟩
instance : SizeIs Try.prog 41 1 := ⟨by kernel_rfl⟩
instance : AggIs Try.prog 41 false := ⟨by kernel_rfl⟩
instance : ZeroIs Try.prog 41 (Value.nilFunc) := ⟨by kernel_rfl⟩
instance : BytesIs Try.prog 41 1 8 := ⟨Try.t41, _, by kernel_rfl, rfl, rfl, rfl, rfl, by decide, by decide⟩
instance : UnderIs Try.prog 42 (.complex Go.FloatKind.f64) := ⟨Try.underlying42⟩
instance : SizeIs Try.prog 42 1 := ⟨by kernel_rfl⟩
instance : AggIs Try.prog 42 false := ⟨by kernel_rfl⟩
instance : ZeroIs Try.prog 42 ((Value.complex FloatKind.f64 0 0)) := ⟨by kernel_rfl⟩
instance : BytesIs Try.prog 42 1 16 := ⟨Try.t42, _, by kernel_rfl, rfl, rfl, rfl, rfl, by decide, by decide⟩
instance : FieldIs Try.prog 43 0 0 42 1 := ⟨_, _, Try.underlying43, rfl, rfl, rfl, by kernel_rfl, by decide⟩
instance : FieldIs Try.prog 43 1 1 42 1 := ⟨_, _, Try.underlying43, rfl, rfl, rfl, by kernel_rfl, by decide⟩
instance : StructOk Try.prog 43 := ⟨_, Try.underlying43, by kernel_rfl⟩
instance : SizeIs Try.prog 43 2 := ⟨by kernel_rfl⟩
instance : AggIs Try.prog 43 true := ⟨by kernel_rfl⟩
instance : ZeroIs Try.prog 43 ((Value.agg #[Value.complex FloatKind.f64 0 0, Value.complex FloatKind.f64 0 0])) := ⟨by kernel_rfl⟩
instance : BytesIs Try.prog 43 2 32 := ⟨Try.t43, _, by kernel_rfl, rfl, rfl, rfl, rfl, by decide, by decide⟩
instance : FieldIs Try.prog 44 0 0 42 1 := ⟨_, _, Try.underlying44, rfl, rfl, rfl, by kernel_rfl, by decide⟩
instance : FieldIs Try.prog 44 1 1 42 1 := ⟨_, _, Try.underlying44, rfl, rfl, rfl, by kernel_rfl, by decide⟩
instance : StructOk Try.prog 44 := ⟨_, Try.underlying44, by kernel_rfl⟩
instance : SizeIs Try.prog 44 2 := ⟨by kernel_rfl⟩
instance : AggIs Try.prog 44 true := ⟨by kernel_rfl⟩
instance : ZeroIs Try.prog 44 ((Value.agg #[Value.complex FloatKind.f64 0 0, Value.complex FloatKind.f64 0 0])) := ⟨by kernel_rfl⟩
instance : BytesIs Try.prog 44 2 32 := ⟨Try.t44, _, by kernel_rfl, rfl, rfl, rfl, rfl, by decide, by decide⟩
instance : FieldIs Try.prog 45 0 0 44 2 := ⟨_, _, Try.underlying45, rfl, rfl, rfl, by kernel_rfl, by decide⟩
instance : FieldIs Try.prog 45 1 2 3 1 := ⟨_, _, Try.underlying45, rfl, rfl, rfl, by kernel_rfl, by decide⟩
instance : StructOk Try.prog 45 := ⟨_, Try.underlying45, by kernel_rfl⟩
instance : SizeIs Try.prog 45 3 := ⟨by kernel_rfl⟩
instance : AggIs Try.prog 45 true := ⟨by kernel_rfl⟩
instance : ZeroIs Try.prog 45 ((Value.agg #[Value.complex FloatKind.f64 0 0, Value.complex FloatKind.f64 0 0, Value.int IntKind.i64 0])) := ⟨by kernel_rfl⟩
instance : BytesIs Try.prog 45 3 40 := ⟨Try.t45, _, by kernel_rfl, rfl, rfl, rfl, rfl, by decide, by decide⟩
instance : FieldIs Try.prog 46 0 0 44 2 := ⟨_, _, Try.underlying46, rfl, rfl, rfl, by kernel_rfl, by decide⟩
instance : FieldIs Try.prog 46 1 2 3 1 := ⟨_, _, Try.underlying46, rfl, rfl, rfl, by kernel_rfl, by decide⟩
instance : StructOk Try.prog 46 := ⟨_, Try.underlying46, by kernel_rfl⟩
instance : SizeIs Try.prog 46 3 := ⟨by kernel_rfl⟩
instance : AggIs Try.prog 46 true := ⟨by kernel_rfl⟩
instance : ZeroIs Try.prog 46 ((Value.agg #[Value.complex FloatKind.f64 0 0, Value.complex FloatKind.f64 0 0, Value.int IntKind.i64 0])) := ⟨by kernel_rfl⟩
instance : BytesIs Try.prog 46 3 40 := ⟨Try.t46, _, by kernel_rfl, rfl, rfl, rfl, rfl, by decide, by decide⟩
instance : SizeIs Try.prog 47 1 := ⟨by kernel_rfl⟩
instance : AggIs Try.prog 47 false := ⟨by kernel_rfl⟩
instance : ZeroIs Try.prog 47 (Value.nilFunc) := ⟨by kernel_rfl⟩
instance : BytesIs Try.prog 47 1 8 := ⟨Try.t47, _, by kernel_rfl, rfl, rfl, rfl, rfl, by decide, by decide⟩
instance : UnderIs Try.prog 48 (.slice 9) := ⟨Try.underlying48⟩
instance : SizeIs Try.prog 48 1 := ⟨by kernel_rfl⟩
instance : AggIs Try.prog 48 false := ⟨by kernel_rfl⟩
instance : ZeroIs Try.prog 48 ((Value.slice none 0 0)) := ⟨by kernel_rfl⟩
instance : BytesIs Try.prog 48 1 24 := ⟨Try.t48, _, by kernel_rfl, rfl, rfl, rfl, rfl, by decide, by decide⟩
instance : SizeIs Try.prog 49 1 := ⟨by kernel_rfl⟩
instance : AggIs Try.prog 49 false := ⟨by kernel_rfl⟩
instance : ZeroIs Try.prog 49 (Value.nilFunc) := ⟨by kernel_rfl⟩
instance : BytesIs Try.prog 49 1 8 := ⟨Try.t49, _, by kernel_rfl, rfl, rfl, rfl, rfl, by decide, by decide⟩
instance : SizeIs Try.prog 50 1 := ⟨by kernel_rfl⟩
instance : AggIs Try.prog 50 false := ⟨by kernel_rfl⟩
instance : ZeroIs Try.prog 50 (Value.nilFunc) := ⟨by kernel_rfl⟩
instance : BytesIs Try.prog 50 1 8 := ⟨Try.t50, _, by kernel_rfl, rfl, rfl, rfl, rfl, by decide, by decide⟩
instance : SizeIs Try.prog 51 1 := ⟨by kernel_rfl⟩
instance : AggIs Try.prog 51 false := ⟨by kernel_rfl⟩
instance : ZeroIs Try.prog 51 (Value.nilFunc) := ⟨by kernel_rfl⟩
instance : BytesIs Try.prog 51 1 8 := ⟨Try.t51, _, by kernel_rfl, rfl, rfl, rfl, rfl, by decide, by decide⟩
instance : UnderIs Try.prog 52 (.slice 48) := ⟨Try.underlying52⟩
instance : SizeIs Try.prog 52 1 := ⟨by kernel_rfl⟩
instance : AggIs Try.prog 52 false := ⟨by kernel_rfl⟩
instance : ZeroIs Try.prog 52 ((Value.slice none 0 0)) := ⟨by kernel_rfl⟩
instance : BytesIs Try.prog 52 1 24 := ⟨Try.t52, _, by kernel_rfl, rfl, rfl, rfl, rfl, by decide, by decide⟩
instance : SizeIs Try.prog 53 1 := ⟨by kernel_rfl⟩
instance : AggIs Try.prog 53 false := ⟨by kernel_rfl⟩
instance : ZeroIs Try.prog 53 (Value.nilFunc) := ⟨by kernel_rfl⟩
instance : BytesIs Try.prog 53 1 8 := ⟨Try.t53, _, by kernel_rfl, rfl, rfl, rfl, rfl, by decide, by decide⟩
instance : SizeIs Try.prog 54 1 := ⟨by kernel_rfl⟩
instance : AggIs Try.prog 54 false := ⟨by kernel_rfl⟩
instance : ZeroIs Try.prog 54 (Value.nilFunc) := ⟨by kernel_rfl⟩
instance : BytesIs Try.prog 54 1 8 := ⟨Try.t54, _, by kernel_rfl, rfl, rfl, rfl, rfl, by decide, by decide⟩
instance : SizeIs Try.prog 55 1 := ⟨by kernel_rfl⟩
instance : AggIs Try.prog 55 false := ⟨by kernel_rfl⟩
instance : ZeroIs Try.prog 55 (Value.nilFunc) := ⟨by kernel_rfl⟩
instance : BytesIs Try.prog 55 1 8 := ⟨Try.t55, _, by kernel_rfl, rfl, rfl, rfl, rfl, by decide, by decide⟩
instance : SizeIs Try.prog 57 1 := ⟨by kernel_rfl⟩
instance : AggIs Try.prog 57 false := ⟨by kernel_rfl⟩
instance : ZeroIs Try.prog 57 (Value.nilFunc) := ⟨by kernel_rfl⟩
instance : BytesIs Try.prog 57 1 8 := ⟨Try.t57, _, by kernel_rfl, rfl, rfl, rfl, rfl, by decide, by decide⟩
instance : SizeIs Try.prog 58 1 := ⟨by kernel_rfl⟩
instance : AggIs Try.prog 58 false := ⟨by kernel_rfl⟩
instance : ZeroIs Try.prog 58 (Value.nilFunc) := ⟨by kernel_rfl⟩
instance : BytesIs Try.prog 58 1 8 := ⟨Try.t58, _, by kernel_rfl, rfl, rfl, rfl, rfl, by decide, by decide⟩
instance : SizeIs Try.prog 59 1 := ⟨by kernel_rfl⟩
instance : AggIs Try.prog 59 false := ⟨by kernel_rfl⟩
instance : ZeroIs Try.prog 59 (Value.nilFunc) := ⟨by kernel_rfl⟩
instance : BytesIs Try.prog 59 1 8 := ⟨Try.t59, _, by kernel_rfl, rfl, rfl, rfl, rfl, by decide, by decide⟩
instance : FieldIs Try.prog 60 0 0 3 1 := ⟨_, _, Try.underlying60, rfl, rfl, rfl, by kernel_rfl, by decide⟩
instance : FieldIs Try.prog 60 1 1 3 1 := ⟨_, _, Try.underlying60, rfl, rfl, rfl, by kernel_rfl, by decide⟩
instance : FieldIs Try.prog 60 2 2 4 1 := ⟨_, _, Try.underlying60, rfl, rfl, rfl, by kernel_rfl, by decide⟩
instance : FieldIs Try.prog 60 3 3 4 1 := ⟨_, _, Try.underlying60, rfl, rfl, rfl, by kernel_rfl, by decide⟩
instance : FieldIs Try.prog 60 4 4 9 1 := ⟨_, _, Try.underlying60, rfl, rfl, rfl, by kernel_rfl, by decide⟩
instance : FieldIs Try.prog 60 5 5 59 1 := ⟨_, _, Try.underlying60, rfl, rfl, rfl, by kernel_rfl, by decide⟩
instance : StructOk Try.prog 60 := ⟨_, Try.underlying60, by kernel_rfl⟩
instance : SizeIs Try.prog 60 6 := ⟨by kernel_rfl⟩
instance : AggIs Try.prog 60 true := ⟨by kernel_rfl⟩
instance : ZeroIs Try.prog 60 ((Value.agg #[Value.int IntKind.i64 0, Value.int IntKind.i64 0, Value.bool false, Value.bool false, Value.string ByteArray.empty, Value.nilFunc])) := ⟨by kernel_rfl⟩
instance : BytesIs Try.prog 60 6 48 := ⟨Try.t60, _, by kernel_rfl, rfl, rfl, rfl, rfl, by decide, by decide⟩
instance : FieldIs Try.prog 61 0 0 3 1 := ⟨_, _, Try.underlying61, rfl, rfl, rfl, by kernel_rfl, by decide⟩
instance : FieldIs Try.prog 61 1 1 3 1 := ⟨_, _, Try.underlying61, rfl, rfl, rfl, by kernel_rfl, by decide⟩
instance : FieldIs Try.prog 61 2 2 4 1 := ⟨_, _, Try.underlying61, rfl, rfl, rfl, by kernel_rfl, by decide⟩
instance : FieldIs Try.prog 61 3 3 4 1 := ⟨_, _, Try.underlying61, rfl, rfl, rfl, by kernel_rfl, by decide⟩
instance : FieldIs Try.prog 61 4 4 9 1 := ⟨_, _, Try.underlying61, rfl, rfl, rfl, by kernel_rfl, by decide⟩
instance : FieldIs Try.prog 61 5 5 59 1 := ⟨_, _, Try.underlying61, rfl, rfl, rfl, by kernel_rfl, by decide⟩
instance : StructOk Try.prog 61 := ⟨_, Try.underlying61, by kernel_rfl⟩
instance : SizeIs Try.prog 61 6 := ⟨by kernel_rfl⟩
instance : AggIs Try.prog 61 true := ⟨by kernel_rfl⟩
instance : ZeroIs Try.prog 61 ((Value.agg #[Value.int IntKind.i64 0, Value.int IntKind.i64 0, Value.bool false, Value.bool false, Value.string ByteArray.empty, Value.nilFunc])) := ⟨by kernel_rfl⟩
instance : BytesIs Try.prog 61 6 48 := ⟨Try.t61, _, by kernel_rfl, rfl, rfl, rfl, rfl, by decide, by decide⟩
instance : UnderIs Try.prog 62 (.map 9 61) := ⟨Try.underlying62⟩
instance : SizeIs Try.prog 62 1 := ⟨by kernel_rfl⟩
instance : AggIs Try.prog 62 false := ⟨by kernel_rfl⟩
instance : ZeroIs Try.prog 62 ((Value.map none)) := ⟨by kernel_rfl⟩
instance : BytesIs Try.prog 62 1 8 := ⟨Try.t62, _, by kernel_rfl, rfl, rfl, rfl, rfl, by decide, by decide⟩
instance : SizeIs Try.prog 63 1 := ⟨by kernel_rfl⟩
instance : AggIs Try.prog 63 false := ⟨by kernel_rfl⟩
instance : ZeroIs Try.prog 63 (Value.nilFunc) := ⟨by kernel_rfl⟩
instance : BytesIs Try.prog 63 1 8 := ⟨Try.t63, _, by kernel_rfl, rfl, rfl, rfl, rfl, by decide, by decide⟩
instance : UnderIs Try.prog 65 (.slice 67) := ⟨Try.underlying65⟩
instance : SizeIs Try.prog 65 1 := ⟨by kernel_rfl⟩
instance : AggIs Try.prog 65 false := ⟨by kernel_rfl⟩
instance : ZeroIs Try.prog 65 ((Value.slice none 0 0)) := ⟨by kernel_rfl⟩
instance : BytesIs Try.prog 65 1 24 := ⟨Try.t65, _, by kernel_rfl, rfl, rfl, rfl, rfl, by decide, by decide⟩
instance : FieldIs Try.prog 66 0 0 3 1 := ⟨_, _, Try.underlying66, rfl, rfl, rfl, by kernel_rfl, by decide⟩
instance : FieldIs Try.prog 66 1 1 3 1 := ⟨_, _, Try.underlying66, rfl, rfl, rfl, by kernel_rfl, by decide⟩
instance : FieldIs Try.prog 66 2 2 3 1 := ⟨_, _, Try.underlying66, rfl, rfl, rfl, by kernel_rfl, by decide⟩
instance : StructOk Try.prog 66 := ⟨_, Try.underlying66, by kernel_rfl⟩
instance : SizeIs Try.prog 66 3 := ⟨by kernel_rfl⟩
instance : AggIs Try.prog 66 true := ⟨by kernel_rfl⟩
instance : ZeroIs Try.prog 66 ((Value.agg #[Value.int IntKind.i64 0, Value.int IntKind.i64 0, Value.int IntKind.i64 0])) := ⟨by kernel_rfl⟩
instance : BytesIs Try.prog 66 3 24 := ⟨Try.t66, _, by kernel_rfl, rfl, rfl, rfl, rfl, by decide, by decide⟩
instance : FieldIs Try.prog 67 0 0 3 1 := ⟨_, _, Try.underlying67, rfl, rfl, rfl, by kernel_rfl, by decide⟩
instance : FieldIs Try.prog 67 1 1 3 1 := ⟨_, _, Try.underlying67, rfl, rfl, rfl, by kernel_rfl, by decide⟩
instance : FieldIs Try.prog 67 2 2 3 1 := ⟨_, _, Try.underlying67, rfl, rfl, rfl, by kernel_rfl, by decide⟩
instance : StructOk Try.prog 67 := ⟨_, Try.underlying67, by kernel_rfl⟩
instance : SizeIs Try.prog 67 3 := ⟨by kernel_rfl⟩
instance : AggIs Try.prog 67 true := ⟨by kernel_rfl⟩
instance : ZeroIs Try.prog 67 ((Value.agg #[Value.int IntKind.i64 0, Value.int IntKind.i64 0, Value.int IntKind.i64 0])) := ⟨by kernel_rfl⟩
instance : BytesIs Try.prog 67 3 24 := ⟨Try.t67, _, by kernel_rfl, rfl, rfl, rfl, rfl, by decide, by decide⟩
instance : SizeIs Try.prog 68 1 := ⟨by kernel_rfl⟩
instance : AggIs Try.prog 68 false := ⟨by kernel_rfl⟩
instance : ZeroIs Try.prog 68 (Value.nilFunc) := ⟨by kernel_rfl⟩
instance : BytesIs Try.prog 68 1 8 := ⟨Try.t68, _, by kernel_rfl, rfl, rfl, rfl, rfl, by decide, by decide⟩
instance : SizeIs Try.prog 70 1 := ⟨by kernel_rfl⟩
instance : AggIs Try.prog 70 false := ⟨by kernel_rfl⟩
instance : ZeroIs Try.prog 70 (Value.nilFunc) := ⟨by kernel_rfl⟩
instance : BytesIs Try.prog 70 1 8 := ⟨Try.t70, _, by kernel_rfl, rfl, rfl, rfl, rfl, by decide, by decide⟩
instance : SizeIs Try.prog 71 1 := ⟨by kernel_rfl⟩
instance : AggIs Try.prog 71 false := ⟨by kernel_rfl⟩
instance : ZeroIs Try.prog 71 (Value.nilFunc) := ⟨by kernel_rfl⟩
instance : BytesIs Try.prog 71 1 8 := ⟨Try.t71, _, by kernel_rfl, rfl, rfl, rfl, rfl, by decide, by decide⟩
instance : SizeIs Try.prog 73 1 := ⟨by kernel_rfl⟩
instance : AggIs Try.prog 73 false := ⟨by kernel_rfl⟩
instance : ZeroIs Try.prog 73 (Value.nilFunc) := ⟨by kernel_rfl⟩
instance : BytesIs Try.prog 73 1 8 := ⟨Try.t73, _, by kernel_rfl, rfl, rfl, rfl, rfl, by decide, by decide⟩
instance : SizeIs Try.prog 74 1 := ⟨by kernel_rfl⟩
instance : AggIs Try.prog 74 false := ⟨by kernel_rfl⟩
instance : ZeroIs Try.prog 74 (Value.nilFunc) := ⟨by kernel_rfl⟩
instance : BytesIs Try.prog 74 1 8 := ⟨Try.t74, _, by kernel_rfl, rfl, rfl, rfl, rfl, by decide, by decide⟩
instance : SizeIs Try.prog 75 1 := ⟨by kernel_rfl⟩
instance : AggIs Try.prog 75 false := ⟨by kernel_rfl⟩
instance : ZeroIs Try.prog 75 (Value.nilFunc) := ⟨by kernel_rfl⟩
instance : BytesIs Try.prog 75 1 8 := ⟨Try.t75, _, by kernel_rfl, rfl, rfl, rfl, rfl, by decide, by decide⟩
instance : SizeIs Try.prog 76 1 := ⟨by kernel_rfl⟩
instance : AggIs Try.prog 76 false := ⟨by kernel_rfl⟩
instance : ZeroIs Try.prog 76 (Value.nilFunc) := ⟨by kernel_rfl⟩
instance : BytesIs Try.prog 76 1 8 := ⟨Try.t76, _, by kernel_rfl, rfl, rfl, rfl, rfl, by decide, by decide⟩
instance : SizeIs Try.prog 77 1 := ⟨by kernel_rfl⟩
instance : AggIs Try.prog 77 false := ⟨by kernel_rfl⟩
instance : ZeroIs Try.prog 77 (Value.nilFunc) := ⟨by kernel_rfl⟩
instance : BytesIs Try.prog 77 1 8 := ⟨Try.t77, _, by kernel_rfl, rfl, rfl, rfl, rfl, by decide, by decide⟩
instance : SizeIs Try.prog 78 1 := ⟨by kernel_rfl⟩
instance : AggIs Try.prog 78 false := ⟨by kernel_rfl⟩
instance : ZeroIs Try.prog 78 (Value.nilFunc) := ⟨by kernel_rfl⟩
instance : BytesIs Try.prog 78 1 8 := ⟨Try.t78, _, by kernel_rfl, rfl, rfl, rfl, rfl, by decide, by decide⟩
instance : SizeIs Try.prog 79 1 := ⟨by kernel_rfl⟩
instance : AggIs Try.prog 79 false := ⟨by kernel_rfl⟩
instance : ZeroIs Try.prog 79 (Value.nilFunc) := ⟨by kernel_rfl⟩
instance : BytesIs Try.prog 79 1 8 := ⟨Try.t79, _, by kernel_rfl, rfl, rfl, rfl, rfl, by decide, by decide⟩
instance : SizeIs Try.prog 81 1 := ⟨by kernel_rfl⟩
instance : AggIs Try.prog 81 false := ⟨by kernel_rfl⟩
instance : ZeroIs Try.prog 81 (Value.nilFunc) := ⟨by kernel_rfl⟩
instance : BytesIs Try.prog 81 1 8 := ⟨Try.t81, _, by kernel_rfl, rfl, rfl, rfl, rfl, by decide, by decide⟩
instance : SizeIs Try.prog 82 1 := ⟨by kernel_rfl⟩
instance : AggIs Try.prog 82 false := ⟨by kernel_rfl⟩
instance : ZeroIs Try.prog 82 (Value.nilFunc) := ⟨by kernel_rfl⟩
instance : BytesIs Try.prog 82 1 8 := ⟨Try.t82, _, by kernel_rfl, rfl, rfl, rfl, rfl, by decide, by decide⟩
instance : SizeIs Try.prog 84 1 := ⟨by kernel_rfl⟩
instance : AggIs Try.prog 84 false := ⟨by kernel_rfl⟩
instance : ZeroIs Try.prog 84 (Value.nilFunc) := ⟨by kernel_rfl⟩
instance : BytesIs Try.prog 84 1 8 := ⟨Try.t84, _, by kernel_rfl, rfl, rfl, rfl, rfl, by decide, by decide⟩
instance : SizeIs Try.prog 85 1 := ⟨by kernel_rfl⟩
instance : AggIs Try.prog 85 false := ⟨by kernel_rfl⟩
instance : ZeroIs Try.prog 85 (Value.nilFunc) := ⟨by kernel_rfl⟩
instance : BytesIs Try.prog 85 1 8 := ⟨Try.t85, _, by kernel_rfl, rfl, rfl, rfl, rfl, by decide, by decide⟩
instance : SizeIs Try.prog 86 1 := ⟨by kernel_rfl⟩
instance : AggIs Try.prog 86 false := ⟨by kernel_rfl⟩
instance : ZeroIs Try.prog 86 (Value.nilFunc) := ⟨by kernel_rfl⟩
instance : BytesIs Try.prog 86 1 8 := ⟨Try.t86, _, by kernel_rfl, rfl, rfl, rfl, rfl, by decide, by decide⟩
instance : SizeIs Try.prog 87 1 := ⟨by kernel_rfl⟩
instance : AggIs Try.prog 87 false := ⟨by kernel_rfl⟩
instance : ZeroIs Try.prog 87 (Value.nilFunc) := ⟨by kernel_rfl⟩
instance : BytesIs Try.prog 87 1 8 := ⟨Try.t87, _, by kernel_rfl, rfl, rfl, rfl, rfl, by decide, by decide⟩
instance : SizeIs Try.prog 88 1 := ⟨by kernel_rfl⟩
instance : AggIs Try.prog 88 false := ⟨by kernel_rfl⟩
instance : ZeroIs Try.prog 88 (Value.nilFunc) := ⟨by kernel_rfl⟩
instance : BytesIs Try.prog 88 1 8 := ⟨Try.t88, _, by kernel_rfl, rfl, rfl, rfl, rfl, by decide, by decide⟩
instance : SizeIs Try.prog 89 1 := ⟨by kernel_rfl⟩
instance : AggIs Try.prog 89 false := ⟨by kernel_rfl⟩
instance : ZeroIs Try.prog 89 (Value.nilFunc) := ⟨by kernel_rfl⟩
instance : BytesIs Try.prog 89 1 8 := ⟨Try.t89, _, by kernel_rfl, rfl, rfl, rfl, rfl, by decide, by decide⟩
instance : SizeIs Try.prog 90 1 := ⟨by kernel_rfl⟩
instance : AggIs Try.prog 90 false := ⟨by kernel_rfl⟩
instance : ZeroIs Try.prog 90 (Value.nilFunc) := ⟨by kernel_rfl⟩
instance : BytesIs Try.prog 90 1 8 := ⟨Try.t90, _, by kernel_rfl, rfl, rfl, rfl, rfl, by decide, by decide⟩
instance : SizeIs Try.prog 92 1 := ⟨by kernel_rfl⟩
instance : AggIs Try.prog 92 false := ⟨by kernel_rfl⟩
instance : ZeroIs Try.prog 92 (Value.nilFunc) := ⟨by kernel_rfl⟩
instance : BytesIs Try.prog 92 1 8 := ⟨Try.t92, _, by kernel_rfl, rfl, rfl, rfl, rfl, by decide, by decide⟩
instance : SizeIs Try.prog 93 1 := ⟨by kernel_rfl⟩
instance : AggIs Try.prog 93 false := ⟨by kernel_rfl⟩
instance : ZeroIs Try.prog 93 (Value.nilFunc) := ⟨by kernel_rfl⟩
instance : BytesIs Try.prog 93 1 8 := ⟨Try.t93, _, by kernel_rfl, rfl, rfl, rfl, rfl, by decide, by decide⟩
instance : SizeIs Try.prog 94 1 := ⟨by kernel_rfl⟩
instance : AggIs Try.prog 94 false := ⟨by kernel_rfl⟩
instance : ZeroIs Try.prog 94 (Value.nilFunc) := ⟨by kernel_rfl⟩
instance : BytesIs Try.prog 94 1 8 := ⟨Try.t94, _, by kernel_rfl, rfl, rfl, rfl, rfl, by decide, by decide⟩
instance : SizeIs Try.prog 96 1 := ⟨by kernel_rfl⟩
instance : AggIs Try.prog 96 false := ⟨by kernel_rfl⟩
instance : ZeroIs Try.prog 96 (Value.nilFunc) := ⟨by kernel_rfl⟩
instance : BytesIs Try.prog 96 1 8 := ⟨Try.t96, _, by kernel_rfl, rfl, rfl, rfl, rfl, by decide, by decide⟩
instance : SizeIs Try.prog 97 1 := ⟨by kernel_rfl⟩
instance : AggIs Try.prog 97 false := ⟨by kernel_rfl⟩
instance : ZeroIs Try.prog 97 (Value.nilFunc) := ⟨by kernel_rfl⟩
instance : BytesIs Try.prog 97 1 8 := ⟨Try.t97, _, by kernel_rfl, rfl, rfl, rfl, rfl, by decide, by decide⟩
instance : UnderIs Try.prog 98 (.array 4 42) := ⟨Try.underlying98⟩
instance : SizeIs Try.prog 98 4 := ⟨by kernel_rfl⟩
instance : AggIs Try.prog 98 true := ⟨by kernel_rfl⟩
instance : ZeroIs Try.prog 98 ((Value.agg #[Value.complex FloatKind.f64 0 0, Value.complex FloatKind.f64 0 0, Value.complex FloatKind.f64 0 0, Value.complex FloatKind.f64 0 0])) := ⟨by kernel_rfl⟩
instance : BytesIs Try.prog 98 4 64 := ⟨Try.t98, _, by kernel_rfl, rfl, rfl, rfl, rfl, by decide, by decide⟩
instance : UnderIs Try.prog 99 (.array 2 42) := ⟨Try.underlying99⟩
instance : SizeIs Try.prog 99 2 := ⟨by kernel_rfl⟩
instance : AggIs Try.prog 99 true := ⟨by kernel_rfl⟩
instance : ZeroIs Try.prog 99 ((Value.agg #[Value.complex FloatKind.f64 0 0, Value.complex FloatKind.f64 0 0])) := ⟨by kernel_rfl⟩
instance : BytesIs Try.prog 99 2 32 := ⟨Try.t99, _, by kernel_rfl, rfl, rfl, rfl, rfl, by decide, by decide⟩
instance : UnderIs Try.prog 100 (.array 4 99) := ⟨Try.underlying100⟩
instance : SizeIs Try.prog 100 8 := ⟨by kernel_rfl⟩
instance : AggIs Try.prog 100 true := ⟨by kernel_rfl⟩
instance : ZeroIs Try.prog 100 ((Value.agg #[Value.complex FloatKind.f64 0 0, Value.complex FloatKind.f64 0 0, Value.complex FloatKind.f64 0 0, Value.complex FloatKind.f64 0 0, Value.complex FloatKind.f64 0 0, Value.complex FloatKind.f64 0 0, Value.complex FloatKind.f64 0 0, Value.complex FloatKind.f64 0 0])) := ⟨by kernel_rfl⟩
instance : BytesIs Try.prog 100 8 128 := ⟨Try.t100, _, by kernel_rfl, rfl, rfl, rfl, rfl, by decide, by decide⟩
instance : SizeIs Try.prog 101 1 := ⟨by kernel_rfl⟩
instance : AggIs Try.prog 101 false := ⟨by kernel_rfl⟩
instance : ZeroIs Try.prog 101 (Value.nilFunc) := ⟨by kernel_rfl⟩
instance : BytesIs Try.prog 101 1 8 := ⟨Try.t101, _, by kernel_rfl, rfl, rfl, rfl, rfl, by decide, by decide⟩
instance : SizeIs Try.prog 103 1 := ⟨by kernel_rfl⟩
instance : AggIs Try.prog 103 false := ⟨by kernel_rfl⟩
instance : ZeroIs Try.prog 103 (Value.nilFunc) := ⟨by kernel_rfl⟩
instance : BytesIs Try.prog 103 1 8 := ⟨Try.t103, _, by kernel_rfl, rfl, rfl, rfl, rfl, by decide, by decide⟩
instance : SizeIs Try.prog 104 1 := ⟨by kernel_rfl⟩
instance : AggIs Try.prog 104 false := ⟨by kernel_rfl⟩
instance : ZeroIs Try.prog 104 (Value.nilFunc) := ⟨by kernel_rfl⟩
instance : BytesIs Try.prog 104 1 8 := ⟨Try.t104, _, by kernel_rfl, rfl, rfl, rfl, rfl, by decide, by decide⟩
instance : SizeIs Try.prog 105 1 := ⟨by kernel_rfl⟩
instance : AggIs Try.prog 105 false := ⟨by kernel_rfl⟩
instance : ZeroIs Try.prog 105 (Value.nilFunc) := ⟨by kernel_rfl⟩
instance : BytesIs Try.prog 105 1 8 := ⟨Try.t105, _, by kernel_rfl, rfl, rfl, rfl, rfl, by decide, by decide⟩
instance : UnderIs Try.prog 106 (.float Go.FloatKind.f64) := ⟨Try.underlying106⟩
instance : SizeIs Try.prog 106 1 := ⟨by kernel_rfl⟩
instance : AggIs Try.prog 106 false := ⟨by kernel_rfl⟩
instance : ZeroIs Try.prog 106 ((Value.float FloatKind.f64 0)) := ⟨by kernel_rfl⟩
instance : BytesIs Try.prog 106 1 8 := ⟨Try.t106, _, by kernel_rfl, rfl, rfl, rfl, rfl, by decide, by decide⟩
instance : SizeIs Try.prog 107 1 := ⟨by kernel_rfl⟩
instance : AggIs Try.prog 107 false := ⟨by kernel_rfl⟩
instance : ZeroIs Try.prog 107 (Value.nilFunc) := ⟨by kernel_rfl⟩
instance : BytesIs Try.prog 107 1 8 := ⟨Try.t107, _, by kernel_rfl, rfl, rfl, rfl, rfl, by decide, by decide⟩
instance : SizeIs Try.prog 108 1 := ⟨by kernel_rfl⟩
instance : AggIs Try.prog 108 false := ⟨by kernel_rfl⟩
instance : ZeroIs Try.prog 108 (Value.nilFunc) := ⟨by kernel_rfl⟩
instance : BytesIs Try.prog 108 1 8 := ⟨Try.t108, _, by kernel_rfl, rfl, rfl, rfl, rfl, by decide, by decide⟩
instance : SizeIs Try.prog 110 1 := ⟨by kernel_rfl⟩
instance : AggIs Try.prog 110 false := ⟨by kernel_rfl⟩
instance : ZeroIs Try.prog 110 (Value.nilFunc) := ⟨by kernel_rfl⟩
instance : BytesIs Try.prog 110 1 8 := ⟨Try.t110, _, by kernel_rfl, rfl, rfl, rfl, rfl, by decide, by decide⟩
instance : SizeIs Try.prog 112 1 := ⟨by kernel_rfl⟩
instance : AggIs Try.prog 112 false := ⟨by kernel_rfl⟩
instance : ZeroIs Try.prog 112 (Value.nilFunc) := ⟨by kernel_rfl⟩
instance : BytesIs Try.prog 112 1 8 := ⟨Try.t112, _, by kernel_rfl, rfl, rfl, rfl, rfl, by decide, by decide⟩
instance : SizeIs Try.prog 113 1 := ⟨by kernel_rfl⟩
instance : AggIs Try.prog 113 false := ⟨by kernel_rfl⟩
instance : ZeroIs Try.prog 113 (Value.nilFunc) := ⟨by kernel_rfl⟩
instance : BytesIs Try.prog 113 1 8 := ⟨Try.t113, _, by kernel_rfl, rfl, rfl, rfl, rfl, by decide, by decide⟩
instance : SizeIs Try.prog 114 1 := ⟨by kernel_rfl⟩
instance : AggIs Try.prog 114 false := ⟨by kernel_rfl⟩
instance : ZeroIs Try.prog 114 (Value.nilFunc) := ⟨by kernel_rfl⟩
instance : BytesIs Try.prog 114 1 8 := ⟨Try.t114, _, by kernel_rfl, rfl, rfl, rfl, rfl, by decide, by decide⟩
instance : SizeIs Try.prog 115 1 := ⟨by kernel_rfl⟩
instance : AggIs Try.prog 115 false := ⟨by kernel_rfl⟩
instance : ZeroIs Try.prog 115 (Value.nilFunc) := ⟨by kernel_rfl⟩
instance : BytesIs Try.prog 115 1 8 := ⟨Try.t115, _, by kernel_rfl, rfl, rfl, rfl, rfl, by decide, by decide⟩
instance : SizeIs Try.prog 116 1 := ⟨by kernel_rfl⟩
instance : AggIs Try.prog 116 false := ⟨by kernel_rfl⟩
instance : ZeroIs Try.prog 116 (Value.nilFunc) := ⟨by kernel_rfl⟩
instance : BytesIs Try.prog 116 1 8 := ⟨Try.t116, _, by kernel_rfl, rfl, rfl, rfl, rfl, by decide, by decide⟩
instance : SizeIs Try.prog 117 1 := ⟨by kernel_rfl⟩
instance : AggIs Try.prog 117 false := ⟨by kernel_rfl⟩
instance : ZeroIs Try.prog 117 (Value.nilFunc) := ⟨by kernel_rfl⟩
instance : BytesIs Try.prog 117 1 8 := ⟨Try.t117, _, by kernel_rfl, rfl, rfl, rfl, rfl, by decide, by decide⟩
instance : SizeIs Try.prog 118 1 := ⟨by kernel_rfl⟩
instance : AggIs Try.prog 118 false := ⟨by kernel_rfl⟩
instance : ZeroIs Try.prog 118 (Value.nilFunc) := ⟨by kernel_rfl⟩
instance : BytesIs Try.prog 118 1 8 := ⟨Try.t118, _, by kernel_rfl, rfl, rfl, rfl, rfl, by decide, by decide⟩
instance : UnderIs Try.prog 119 (.slice 106) := ⟨Try.underlying119⟩
instance : SizeIs Try.prog 119 1 := ⟨by kernel_rfl⟩
instance : AggIs Try.prog 119 false := ⟨by kernel_rfl⟩
instance : ZeroIs Try.prog 119 ((Value.slice none 0 0)) := ⟨by kernel_rfl⟩
instance : BytesIs Try.prog 119 1 24 := ⟨Try.t119, _, by kernel_rfl, rfl, rfl, rfl, rfl, by decide, by decide⟩
instance : SizeIs Try.prog 120 1 := ⟨by kernel_rfl⟩
instance : AggIs Try.prog 120 false := ⟨by kernel_rfl⟩
instance : ZeroIs Try.prog 120 (Value.nilFunc) := ⟨by kernel_rfl⟩
instance : BytesIs Try.prog 120 1 8 := ⟨Try.t120, _, by kernel_rfl, rfl, rfl, rfl, rfl, by decide, by decide⟩
instance : SizeIs Try.prog 121 1 := ⟨by kernel_rfl⟩
instance : AggIs Try.prog 121 false := ⟨by kernel_rfl⟩
instance : ZeroIs Try.prog 121 (Value.nilFunc) := ⟨by kernel_rfl⟩
instance : BytesIs Try.prog 121 1 8 := ⟨Try.t121, _, by kernel_rfl, rfl, rfl, rfl, rfl, by decide, by decide⟩
instance : UnderIs Try.prog 122 (.int IntKind.u64) := ⟨Try.underlying122⟩
instance : SizeIs Try.prog 122 1 := ⟨by kernel_rfl⟩
instance : AggIs Try.prog 122 false := ⟨by kernel_rfl⟩
instance : ZeroIs Try.prog 122 ((Value.int IntKind.u64 0)) := ⟨by kernel_rfl⟩
instance : BytesIs Try.prog 122 1 8 := ⟨Try.t122, _, by kernel_rfl, rfl, rfl, rfl, rfl, by decide, by decide⟩
instance : SizeIs Try.prog 123 1 := ⟨by kernel_rfl⟩
instance : AggIs Try.prog 123 false := ⟨by kernel_rfl⟩
instance : ZeroIs Try.prog 123 (Value.nilFunc) := ⟨by kernel_rfl⟩
instance : BytesIs Try.prog 123 1 8 := ⟨Try.t123, _, by kernel_rfl, rfl, rfl, rfl, rfl, by decide, by decide⟩
instance : SizeIs Try.prog 124 1 := ⟨by kernel_rfl⟩
instance : AggIs Try.prog 124 false := ⟨by kernel_rfl⟩
instance : ZeroIs Try.prog 124 (Value.nilFunc) := ⟨by kernel_rfl⟩
instance : BytesIs Try.prog 124 1 8 := ⟨Try.t124, _, by kernel_rfl, rfl, rfl, rfl, rfl, by decide, by decide⟩
instance : UnderIs Try.prog 125 (.int IntKind.u64) := ⟨Try.underlying125⟩
instance : SizeIs Try.prog 125 1 := ⟨by kernel_rfl⟩
instance : AggIs Try.prog 125 false := ⟨by kernel_rfl⟩
instance : ZeroIs Try.prog 125 ((Value.int IntKind.u64 0)) := ⟨by kernel_rfl⟩
instance : BytesIs Try.prog 125 1 8 := ⟨Try.t125, _, by kernel_rfl, rfl, rfl, rfl, rfl, by decide, by decide⟩
instance : SizeIs Try.prog 126 1 := ⟨by kernel_rfl⟩
instance : AggIs Try.prog 126 false := ⟨by kernel_rfl⟩
instance : ZeroIs Try.prog 126 (Value.nilFunc) := ⟨by kernel_rfl⟩
instance : BytesIs Try.prog 126 1 8 := ⟨Try.t126, _, by kernel_rfl, rfl, rfl, rfl, rfl, by decide, by decide⟩
instance : FieldIs Try.prog 127 0 0 17 1 := ⟨_, _, Try.underlying127, rfl, rfl, rfl, by kernel_rfl, by decide⟩
instance : FieldIs Try.prog 127 1 1 17 1 := ⟨_, _, Try.underlying127, rfl, rfl, rfl, by kernel_rfl, by decide⟩
instance : FieldIs Try.prog 127 2 2 17 1 := ⟨_, _, Try.underlying127, rfl, rfl, rfl, by kernel_rfl, by decide⟩
instance : FieldIs Try.prog 127 3 3 9 1 := ⟨_, _, Try.underlying127, rfl, rfl, rfl, by kernel_rfl, by decide⟩
instance : StructOk Try.prog 127 := ⟨_, Try.underlying127, by kernel_rfl⟩
instance : SizeIs Try.prog 127 4 := ⟨by kernel_rfl⟩
instance : AggIs Try.prog 127 true := ⟨by kernel_rfl⟩
instance : ZeroIs Try.prog 127 ((Value.agg #[Value.pointer none, Value.pointer none, Value.pointer none, Value.string ByteArray.empty])) := ⟨by kernel_rfl⟩
instance : BytesIs Try.prog 127 4 40 := ⟨Try.t127, _, by kernel_rfl, rfl, rfl, rfl, rfl, by decide, by decide⟩
instance : FieldIs Try.prog 128 0 0 17 1 := ⟨_, _, Try.underlying128, rfl, rfl, rfl, by kernel_rfl, by decide⟩
instance : FieldIs Try.prog 128 1 1 17 1 := ⟨_, _, Try.underlying128, rfl, rfl, rfl, by kernel_rfl, by decide⟩
instance : FieldIs Try.prog 128 2 2 17 1 := ⟨_, _, Try.underlying128, rfl, rfl, rfl, by kernel_rfl, by decide⟩
instance : FieldIs Try.prog 128 3 3 9 1 := ⟨_, _, Try.underlying128, rfl, rfl, rfl, by kernel_rfl, by decide⟩
instance : StructOk Try.prog 128 := ⟨_, Try.underlying128, by kernel_rfl⟩
instance : SizeIs Try.prog 128 4 := ⟨by kernel_rfl⟩
instance : AggIs Try.prog 128 true := ⟨by kernel_rfl⟩
instance : ZeroIs Try.prog 128 ((Value.agg #[Value.pointer none, Value.pointer none, Value.pointer none, Value.string ByteArray.empty])) := ⟨by kernel_rfl⟩
instance : BytesIs Try.prog 128 4 40 := ⟨Try.t128, _, by kernel_rfl, rfl, rfl, rfl, rfl, by decide, by decide⟩
instance : UnderIs Try.prog 129 (.array 0 16) := ⟨Try.underlying129⟩
instance : SizeIs Try.prog 129 0 := ⟨by kernel_rfl⟩
instance : AggIs Try.prog 129 true := ⟨by kernel_rfl⟩
instance : StructOk Try.prog 130 := ⟨_, Try.underlying130, by kernel_rfl⟩
instance : SizeIs Try.prog 130 0 := ⟨by kernel_rfl⟩
instance : AggIs Try.prog 130 true := ⟨by kernel_rfl⟩
instance : StructOk Try.prog 131 := ⟨_, Try.underlying131, by kernel_rfl⟩
instance : SizeIs Try.prog 131 0 := ⟨by kernel_rfl⟩
instance : AggIs Try.prog 131 true := ⟨by kernel_rfl⟩
instance : SizeIs Try.prog 132 1 := ⟨by kernel_rfl⟩
instance : AggIs Try.prog 132 false := ⟨by kernel_rfl⟩
instance : ZeroIs Try.prog 132 (Value.nilFunc) := ⟨by kernel_rfl⟩
instance : BytesIs Try.prog 132 1 8 := ⟨Try.t132, _, by kernel_rfl, rfl, rfl, rfl, rfl, by decide, by decide⟩
instance : UnderIs Try.prog 133 (.int IntKind.u32) := ⟨Try.underlying133⟩
instance : SizeIs Try.prog 133 1 := ⟨by kernel_rfl⟩
instance : AggIs Try.prog 133 false := ⟨by kernel_rfl⟩
instance : ZeroIs Try.prog 133 ((Value.int IntKind.u32 0)) := ⟨by kernel_rfl⟩
instance : BytesIs Try.prog 133 1 4 := ⟨Try.t133, _, by kernel_rfl, rfl, rfl, rfl, rfl, by decide, by decide⟩
instance : UnderIs Try.prog 134 (.int IntKind.u8) := ⟨Try.underlying134⟩
instance : SizeIs Try.prog 134 1 := ⟨by kernel_rfl⟩
instance : AggIs Try.prog 134 false := ⟨by kernel_rfl⟩
instance : ZeroIs Try.prog 134 ((Value.int IntKind.u8 0)) := ⟨by kernel_rfl⟩
instance : BytesIs Try.prog 134 1 1 := ⟨Try.t134, _, by kernel_rfl, rfl, rfl, rfl, rfl, by decide, by decide⟩
instance : UnderIs Try.prog 135 (.int IntKind.u8) := ⟨Try.underlying135⟩
instance : SizeIs Try.prog 135 1 := ⟨by kernel_rfl⟩
instance : AggIs Try.prog 135 false := ⟨by kernel_rfl⟩
instance : ZeroIs Try.prog 135 ((Value.int IntKind.u8 0)) := ⟨by kernel_rfl⟩
instance : BytesIs Try.prog 135 1 1 := ⟨Try.t135, _, by kernel_rfl, rfl, rfl, rfl, rfl, by decide, by decide⟩
instance : SizeIs Try.prog 136 1 := ⟨by kernel_rfl⟩
instance : AggIs Try.prog 136 false := ⟨by kernel_rfl⟩
instance : ZeroIs Try.prog 136 (Value.nilFunc) := ⟨by kernel_rfl⟩
instance : BytesIs Try.prog 136 1 8 := ⟨Try.t136, _, by kernel_rfl, rfl, rfl, rfl, rfl, by decide, by decide⟩
instance : UnderIs Try.prog 137 (.pointer 5) := ⟨Try.underlying137⟩
instance : SizeIs Try.prog 137 1 := ⟨by kernel_rfl⟩
instance : AggIs Try.prog 137 false := ⟨by kernel_rfl⟩
instance : ZeroIs Try.prog 137 ((Value.pointer none)) := ⟨by kernel_rfl⟩
instance : BytesIs Try.prog 137 1 8 := ⟨Try.t137, _, by kernel_rfl, rfl, rfl, rfl, rfl, by decide, by decide⟩
instance : UnderIs Try.prog 138 (.int IntKind.i32) := ⟨Try.underlying138⟩
instance : SizeIs Try.prog 138 1 := ⟨by kernel_rfl⟩
instance : AggIs Try.prog 138 false := ⟨by kernel_rfl⟩
instance : ZeroIs Try.prog 138 ((Value.int IntKind.i32 0)) := ⟨by kernel_rfl⟩
instance : BytesIs Try.prog 138 1 4 := ⟨Try.t138, _, by kernel_rfl, rfl, rfl, rfl, rfl, by decide, by decide⟩
instance : UnderIs Try.prog 139 (.int IntKind.i32) := ⟨Try.underlying139⟩
instance : SizeIs Try.prog 139 1 := ⟨by kernel_rfl⟩
instance : AggIs Try.prog 139 false := ⟨by kernel_rfl⟩
instance : ZeroIs Try.prog 139 ((Value.int IntKind.i32 0)) := ⟨by kernel_rfl⟩
instance : BytesIs Try.prog 139 1 4 := ⟨Try.t139, _, by kernel_rfl, rfl, rfl, rfl, rfl, by decide, by decide⟩
instance : FieldIs Try.prog 140 0 0 12 1 := ⟨_, _, Try.underlying140, rfl, rfl, rfl, by kernel_rfl, by decide⟩
instance : FieldIs Try.prog 140 1 1 12 1 := ⟨_, _, Try.underlying140, rfl, rfl, rfl, by kernel_rfl, by decide⟩
instance : FieldIs Try.prog 140 2 2 133 1 := ⟨_, _, Try.underlying140, rfl, rfl, rfl, by kernel_rfl, by decide⟩
instance : FieldIs Try.prog 140 3 3 134 1 := ⟨_, _, Try.underlying140, rfl, rfl, rfl, by kernel_rfl, by decide⟩
instance : FieldIs Try.prog 140 4 4 5 1 := ⟨_, _, Try.underlying140, rfl, rfl, rfl, by kernel_rfl, by decide⟩
instance : FieldIs Try.prog 140 5 5 5 1 := ⟨_, _, Try.underlying140, rfl, rfl, rfl, by kernel_rfl, by decide⟩
instance : FieldIs Try.prog 140 6 6 135 1 := ⟨_, _, Try.underlying140, rfl, rfl, rfl, by kernel_rfl, by decide⟩
instance : FieldIs Try.prog 140 7 7 136 1 := ⟨_, _, Try.underlying140, rfl, rfl, rfl, by kernel_rfl, by decide⟩
instance : FieldIs Try.prog 140 8 8 137 1 := ⟨_, _, Try.underlying140, rfl, rfl, rfl, by kernel_rfl, by decide⟩
instance : FieldIs Try.prog 140 9 9 138 1 := ⟨_, _, Try.underlying140, rfl, rfl, rfl, by kernel_rfl, by decide⟩
instance : FieldIs Try.prog 140 10 10 139 1 := ⟨_, _, Try.underlying140, rfl, rfl, rfl, by kernel_rfl, by decide⟩
instance : StructOk Try.prog 140 := ⟨_, Try.underlying140, by kernel_rfl⟩
instance : SizeIs Try.prog 140 11 := ⟨by kernel_rfl⟩
instance : AggIs Try.prog 140 true := ⟨by kernel_rfl⟩
instance : ZeroIs Try.prog 140 ((Value.agg #[Value.int IntKind.u64 0, Value.int IntKind.u64 0, Value.int IntKind.u32 0, Value.int IntKind.u8 0, Value.int IntKind.u8 0, Value.int IntKind.u8 0, Value.int IntKind.u8 0, Value.nilFunc, Value.pointer none, Value.int IntKind.i32 0, Value.int IntKind.i32 0])) := ⟨by kernel_rfl⟩
instance : BytesIs Try.prog 140 11 48 := ⟨Try.t140, _, by kernel_rfl, rfl, rfl, rfl, rfl, by decide, by decide⟩
instance : FieldIs Try.prog 141 0 0 12 1 := ⟨_, _, Try.underlying141, rfl, rfl, rfl, by kernel_rfl, by decide⟩
instance : FieldIs Try.prog 141 1 1 12 1 := ⟨_, _, Try.underlying141, rfl, rfl, rfl, by kernel_rfl, by decide⟩
instance : FieldIs Try.prog 141 2 2 133 1 := ⟨_, _, Try.underlying141, rfl, rfl, rfl, by kernel_rfl, by decide⟩
instance : FieldIs Try.prog 141 3 3 134 1 := ⟨_, _, Try.underlying141, rfl, rfl, rfl, by kernel_rfl, by decide⟩
instance : FieldIs Try.prog 141 4 4 5 1 := ⟨_, _, Try.underlying141, rfl, rfl, rfl, by kernel_rfl, by decide⟩
instance : FieldIs Try.prog 141 5 5 5 1 := ⟨_, _, Try.underlying141, rfl, rfl, rfl, by kernel_rfl, by decide⟩
instance : FieldIs Try.prog 141 6 6 135 1 := ⟨_, _, Try.underlying141, rfl, rfl, rfl, by kernel_rfl, by decide⟩
instance : FieldIs Try.prog 141 7 7 136 1 := ⟨_, _, Try.underlying141, rfl, rfl, rfl, by kernel_rfl, by decide⟩
instance : FieldIs Try.prog 141 8 8 137 1 := ⟨_, _, Try.underlying141, rfl, rfl, rfl, by kernel_rfl, by decide⟩
instance : FieldIs Try.prog 141 9 9 138 1 := ⟨_, _, Try.underlying141, rfl, rfl, rfl, by kernel_rfl, by decide⟩
instance : FieldIs Try.prog 141 10 10 139 1 := ⟨_, _, Try.underlying141, rfl, rfl, rfl, by kernel_rfl, by decide⟩
instance : StructOk Try.prog 141 := ⟨_, Try.underlying141, by kernel_rfl⟩
instance : SizeIs Try.prog 141 11 := ⟨by kernel_rfl⟩
instance : AggIs Try.prog 141 true := ⟨by kernel_rfl⟩
instance : ZeroIs Try.prog 141 ((Value.agg #[Value.int IntKind.u64 0, Value.int IntKind.u64 0, Value.int IntKind.u32 0, Value.int IntKind.u8 0, Value.int IntKind.u8 0, Value.int IntKind.u8 0, Value.int IntKind.u8 0, Value.nilFunc, Value.pointer none, Value.int IntKind.i32 0, Value.int IntKind.i32 0])) := ⟨by kernel_rfl⟩
instance : BytesIs Try.prog 141 11 48 := ⟨Try.t141, _, by kernel_rfl, rfl, rfl, rfl, rfl, by decide, by decide⟩
end Go.Ideal

-- La
set_option linter.unusedSimpArgs false
set_option linter.unusedVariables false
namespace Go.Ideal
open Go Go.Proofs
/-! ### Words of 64 bits -/
end Go.Ideal

-- Ca
set_option linter.unusedSimpArgs false
set_option linter.unusedVariables false
namespace Go.Ideal
open Go Go.Proofs
/-! ### What is known of the gates -/
structure KE where
  name : ByteArray
  arity : Int
  halves : Int
  cliff : Bool
  diag : Bool
  back : ByteArray
def KT : List KE := [
  ⟨(⟨#[105]⟩ : ByteArray), 1, 0, true, true, (⟨#[105]⟩ : ByteArray)⟩,
  ⟨(⟨#[120]⟩ : ByteArray), 1, 0, true, false, (⟨#[120]⟩ : ByteArray)⟩,
  ⟨(⟨#[121]⟩ : ByteArray), 1, 0, true, false, (⟨#[121]⟩ : ByteArray)⟩,
  ⟨(⟨#[122]⟩ : ByteArray), 1, 0, true, true, (⟨#[122]⟩ : ByteArray)⟩,
  ⟨(⟨#[104]⟩ : ByteArray), 1, 1, true, false, (⟨#[104]⟩ : ByteArray)⟩,
  ⟨(⟨#[115]⟩ : ByteArray), 1, 0, true, true, (⟨#[115, 100, 103]⟩ : ByteArray)⟩,
  ⟨(⟨#[115, 100, 103]⟩ : ByteArray), 1, 0, true, true, (⟨#[115]⟩ : ByteArray)⟩,
  ⟨(⟨#[116]⟩ : ByteArray), 1, 0, false, true, (⟨#[116, 100, 103]⟩ : ByteArray)⟩,
  ⟨(⟨#[116, 100, 103]⟩ : ByteArray), 1, 0, false, true, (⟨#[116]⟩ : ByteArray)⟩,
  ⟨(⟨#[118]⟩ : ByteArray), 1, 1, true, false, (⟨#[118, 100, 103]⟩ : ByteArray)⟩,
  ⟨(⟨#[118, 100, 103]⟩ : ByteArray), 1, 1, true, false, (⟨#[118]⟩ : ByteArray)⟩,
  ⟨(⟨#[119]⟩ : ByteArray), 1, 0, true, true, (⟨#[119, 100, 103]⟩ : ByteArray)⟩,
  ⟨(⟨#[119, 100, 103]⟩ : ByteArray), 1, 0, true, true, (⟨#[119]⟩ : ByteArray)⟩,
  ⟨(⟨#[99, 120]⟩ : ByteArray), 2, 0, true, false, (⟨#[99, 120]⟩ : ByteArray)⟩,
  ⟨(⟨#[99, 121]⟩ : ByteArray), 2, 0, true, false, (⟨#[99, 121]⟩ : ByteArray)⟩,
  ⟨(⟨#[99, 122]⟩ : ByteArray), 2, 0, true, true, (⟨#[99, 122]⟩ : ByteArray)⟩,
  ⟨(⟨#[99, 104]⟩ : ByteArray), 2, 1, false, false, (⟨#[99, 104]⟩ : ByteArray)⟩,
  ⟨(⟨#[99, 115]⟩ : ByteArray), 2, 0, false, true, (⟨#[99, 115, 100, 103]⟩ : ByteArray)⟩,
  ⟨(⟨#[99, 115, 100, 103]⟩ : ByteArray), 2, 0, false, true, (⟨#[99, 115]⟩ : ByteArray)⟩,
  ⟨(⟨#[115, 119, 97, 112]⟩ : ByteArray), 2, 0, true, false, (⟨#[115, 119, 97, 112]⟩ : ByteArray)⟩,
  ⟨(⟨#[105, 115, 119, 97, 112]⟩ : ByteArray), 2, 0, true, false, (⟨#[105, 115, 119, 97, 112, 100, 103]⟩ : ByteArray)⟩,
  ⟨(⟨#[105, 115, 119, 97, 112, 100, 103]⟩ : ByteArray), 2, 0, true, false, (⟨#[105, 115, 119, 97, 112]⟩ : ByteArray)⟩,
  ⟨(⟨#[99, 99, 120]⟩ : ByteArray), 3, 0, false, false, (⟨#[99, 99, 120]⟩ : ByteArray)⟩,
  ⟨(⟨#[99, 99, 122]⟩ : ByteArray), 3, 0, false, true, (⟨#[99, 99, 122]⟩ : ByteArray)⟩,
  ⟨(⟨#[99, 115, 119, 97, 112]⟩ : ByteArray), 3, 0, false, false, (⟨#[99, 115, 119, 97, 112]⟩ : ByteArray)⟩]
def krow (e : KE) (c : Value) : ByteArray × Value := (e.name, .agg [.int .i64 e.arity, .int .i64 e.halves, .bool e.cliff, .bool e.diag, .string e.back, c].toArray)
def kOf (b : ByteArray) : Option KE := KT.find? fun e => beqS b e.name
def arityS (b : ByteArray) : Int := match kOf b with | some e => e.arity | none => 0
def halvesS (b : ByteArray) : Int := match kOf b with | some e => e.halves | none => 0
def cliffS (b : ByteArray) : Bool := match kOf b with | some e => e.cliff | none => false
def diagS (b : ByteArray) : Bool := match kOf b with | some e => e.diag | none => false
def backS (b : ByteArray) : ByteArray × Int := match kOf b with | some e => (e.back, 0) | none => (⟨#[]⟩, 80)
def IsFn (v : Value) : Prop := ∃ f a b, v = .func (.func f) a b
theorem flip_spec (b : Int) (a : Option Addr) (l c : Nat) (h : IHp) : EvX Try.prog 41 [.int .i64 b, .slice a l c].toArray h (fun v h' => Ext h h' ∧ IsFn v) := by
  refine EvX_of Try.func41 rfl (by show 2 ≤ 6; decide) ?_
  repeat' (first | refine V_seq ?_ | refine V_region ?_ | refine WS_nil ?_ | refine S_normal ?_ | refine V_ret ?_ | refine WS_assign ?_ | refine WS_box rfl ?_ | refine WS_makeFunc ?_)
  exact retK_1 ⟨(Ext.push _ _).push' _, _, _, _, rfl⟩ (.inr rfl)
instance : CallIs Try.prog 41 := .of Try.func41 rfl rfl
theorem last_spec (b c : Int) (h : IHp) : EvX Try.prog 42 [.int .i64 b, .int .i64 c].toArray h (fun v h' => Ext h h' ∧ IsFn v) := by
  refine EvX_of Try.func42 rfl (by show 2 ≤ 6; decide) ?_
  repeat' (first | refine V_seq ?_ | refine V_region ?_ | refine WS_nil ?_ | refine S_normal ?_ | refine V_ret ?_ | refine WS_assign ?_ | refine WS_box rfl ?_ | refine WS_makeFunc ?_)
  exact retK_1 ⟨(Ext.push _ _).push' _, _, _, _, rfl⟩ (.inr rfl)
instance : CallIs Try.prog 42 := .of Try.func42 rfl rfl
theorem mixed_spec (b c d : Int) (h : IHp) : EvX Try.prog 43 [.int .i64 b, .int .i64 c, .int .i64 d].toArray h (fun v h' => Ext h h' ∧ IsFn v) := by
  refine EvX_of Try.func43 rfl (by show 3 ≤ 8; decide) ?_
  repeat' (first | refine V_seq ?_ | refine V_region ?_ | refine WS_nil ?_ | refine S_normal ?_ | refine V_ret ?_ | refine WS_assign ?_ | refine WS_box rfl ?_ | refine WS_makeFunc ?_)
  exact retK_1 ⟨((Ext.push _ _).push' _).push' _, _, _, _, rfl⟩ (.inr rfl)
instance : CallIs Try.prog 43 := .of Try.func43 rfl rfl
theorem swapped_spec (b c d : Int) (h : IHp) : EvX Try.prog 44 [.int .i64 b, .int .i64 c, .int .i64 d].toArray h (fun v h' => Ext h h' ∧ IsFn v) := by
  refine EvX_of Try.func44 rfl (by show 3 ≤ 8; decide) ?_
  repeat' (first | refine V_seq ?_ | refine V_region ?_ | refine WS_nil ?_ | refine S_normal ?_ | refine V_ret ?_ | refine WS_assign ?_ | refine WS_box rfl ?_ | refine WS_makeFunc ?_)
  exact retK_1 ⟨((Ext.push _ _).push' _).push' _, _, _, _, rfl⟩ (.inr rfl)
instance : CallIs Try.prog 44 := .of Try.func44 rfl rfl
def rowsOf (es : List KE) (cs : List Value) : List (ByteArray × Value) := List.zipWith krow es cs
theorem look_none {b : ByteArray} : ∀ (es : List KE) (cs : List Value), (es.all fun e => !beqS b e.name) = true → lookB b (rowsOf es cs) = none := by
  intro es
  induction es with
  | nil => intro cs _; rfl
  | cons e es ih =>
    intro cs h
    simp only [List.all_cons, Bool.and_eq_true, Bool.not_eq_true'] at h
    cases cs with
    | nil => rfl
    | cons c cs => simp only [rowsOf, List.zipWith_cons_cons, krow, lookB, h.1, Bool.false_eq_true, if_false]; exact ih cs h.2
theorem look_some {b : ByteArray} : ∀ (es : List KE) (cs : List Value), cs.length = es.length → match es.find? (fun e => beqS b e.name) with
    | none => lookB b (rowsOf es cs) = none
    | some e => ∃ c ∈ cs, lookB b (rowsOf es cs) = some (krow e c).2 := by
  intro es
  induction es with
  | nil => intro cs h; cases cs <;> simp [rowsOf, lookB] at h ⊢
  | cons e es ih =>
    intro cs h
    cases cs with
    | nil => simp at h
    | cons c cs =>
      simp only [List.length_cons, Nat.add_right_cancel_iff] at h
      rw [List.find?_cons]
      cases hb : beqS b e.name with
      | true => exact ⟨c, List.mem_cons_self, by simp [rowsOf, krow, lookB, hb]⟩
      | false =>
        have h1 := ih cs h
        cases hf : es.find? (fun e => beqS b e.name) with
        | none => rw [hf] at h1; simp only at h1 ⊢; simpa [rowsOf, krow, lookB, hb] using h1
        | some e' =>
          rw [hf] at h1
          obtain ⟨c', h2, h3⟩ := h1
          exact ⟨c', List.mem_cons_of_mem _ h2, by simpa [rowsOf, krow, lookB, hb] using h3⟩
/-- the map, as far as it is built -/
structure KInv (h0 H : IHp) (m n : Nat) (cs : List Value) : Prop where
  ext : Ext h0 H
  lo : h0.fresh ≤ m
  map : MapIs H m (rowsOf (KT.take n) cs)
  len : cs.length = n
  fns : ∀ c ∈ cs, IsFn c
theorem KInv.grow {h0 H H' : IHp} {m n : Nat} {cs : List Value} (k : KInv h0 H m n cs) (e : Ext H H') : KInv h0 H' m n cs := ⟨k.ext.trans e, k.lo, k.map.ext e, k.len, k.fns⟩
theorem KInv.add {h0 H H' : IHp} {m n : Nat} {cs : List Value} {c : Value} {e : KE} {b : ByteArray} {v : Value} (k : KInv h0 H m n cs) (he : KT[n]? = some e) (hb : (b, v) = krow e c) (hc : IsFn c)
    (hH : H' = H.putObj m (.map (ents (rowsOf (KT.take n) cs ++ [(b, v)]) 0) (rowsOf (KT.take n) cs ++ [(b, v)]).length)) : KInv h0 H' m (n + 1) (cs ++ [c]) := by
  have hn : n < KT.length := (List.getElem?_eq_some_iff.1 he).1
  have hr : rowsOf (KT.take (n + 1)) (cs ++ [c]) = rowsOf (KT.take n) cs ++ [(b, v)] := by
    rw [List.take_add_one, he, rowsOf, rowsOf, hb]
    simp only [Option.toList_some]
    rw [List.zipWith_append (by rw [List.length_take, k.len]; omega)]
    rfl
  refine ⟨by rw [hH]; exact k.ext.putObj k.lo, k.lo, ?_, by simp [k.len], fun c' hc' => ?_⟩
  · rw [hr, hH]
    refine ⟨k.map.even, ?_⟩
    have := (List.getElem?_eq_some_iff.1 k.map.eq).1
    simp [IHp.putObj, this]
  · rcases List.mem_append.1 hc' with h1 | h1
    · exact k.fns c' h1
    · simp at h1; subst h1; exact hc
set_option maxHeartbeats 4000000 in
theorem kinds_spec (h : IHp) : EvX Try.prog 30 [].toArray h (fun v h' => Ext h h' ∧ ∃ m cs, v = .map (some m) ∧ h.fresh ≤ m ∧ MapIs h' m (rowsOf KT cs) ∧ cs.length = 25 ∧ ∀ c ∈ cs, IsFn c) := by
  refine EvX_of Try.func30 rfl (by show 0 ≤ 56; decide) ?_
  repeat (first | refine V_seq ?_ | refine V_region ?_ | refine WS_nil ?_ | refine S_normal ?_ | refine WS_assign ?_)
  refine WS_makeMap ?_
  refine WS_gen ?_
  intro H0 hH0
  have k0 : KInv h H0 h.fresh 0 [] := ⟨hH0 ▸ Ext.push _ _, Nat.le_refl _, ⟨by unfold IHp.fresh; omega, by rw [hH0]; exact obj_push h _⟩, rfl, fun c hc => by simp at hc⟩
  generalize h.fresh = m at *
  clear hH0
  repeat (refine WS_buildSlice (by decide) rfl rfl (by simp [Value.cells]) ?_)
  refine WS_gen ?_
  intro G hG
  have k0 := k0.grow (H' := G) (hG ▸ Ext.push _ _)
  clear hG
  refine WS_call (flip_spec _ _ _ _ _) ?_
  rintro _ G ⟨eG, f, a, b, rfl⟩
  have k0 := k0.grow eG
  repeat (refine WS_build ?_)
  refine WS_insert (mi := k0.map) (look_none _ _ (by decide +kernel)) ?_
  refine WS_gen ?_
  intro H1 hH
  have k1 := k0.add (e := ⟨(⟨#[105]⟩ : ByteArray), 1, 0, true, true, (⟨#[105]⟩ : ByteArray)⟩) rfl rfl ⟨_, _, _, rfl⟩ hH
  refine WS_live1 1 ?_
  intro s g1
  clear hH
  repeat (refine WS_buildSlice (by decide) rfl rfl (by simp [Value.cells]) ?_)
  refine WS_gen ?_
  intro G hG
  have k1 := k1.grow (H' := G) (hG ▸ Ext.push _ _)
  clear hG
  refine WS_call (flip_spec _ _ _ _ _) ?_
  rintro _ G ⟨eG, f, a, b, rfl⟩
  have k1 := k1.grow eG
  repeat (refine WS_build ?_)
  refine WS_insert (mi := k1.map) (look_none _ _ (by decide +kernel)) ?_
  refine WS_gen ?_
  intro H2 hH
  have k2 := k1.add (e := ⟨(⟨#[120]⟩ : ByteArray), 1, 0, true, false, (⟨#[120]⟩ : ByteArray)⟩) rfl rfl ⟨_, _, _, rfl⟩ hH
  refine WS_live1 1 ?_
  intro s g1
  clear hH
  repeat (refine WS_buildSlice (by decide) rfl rfl (by simp [Value.cells]) ?_)
  refine WS_gen ?_
  intro G hG
  have k2 := k2.grow (H' := G) (hG ▸ Ext.push _ _)
  clear hG
  refine WS_call (flip_spec _ _ _ _ _) ?_
  rintro _ G ⟨eG, f, a, b, rfl⟩
  have k2 := k2.grow eG
  repeat (refine WS_build ?_)
  refine WS_insert (mi := k2.map) (look_none _ _ (by decide +kernel)) ?_
  refine WS_gen ?_
  intro H3 hH
  have k3 := k2.add (e := ⟨(⟨#[121]⟩ : ByteArray), 1, 0, true, false, (⟨#[121]⟩ : ByteArray)⟩) rfl rfl ⟨_, _, _, rfl⟩ hH
  refine WS_live1 1 ?_
  intro s g1
  clear hH
  skip
  refine WS_call (last_spec _ _ _) ?_
  rintro _ G ⟨eG, f, a, b, rfl⟩
  have k3 := k3.grow eG
  repeat (refine WS_build ?_)
  refine WS_insert (mi := k3.map) (look_none _ _ (by decide +kernel)) ?_
  refine WS_gen ?_
  intro H4 hH
  have k4 := k3.add (e := ⟨(⟨#[122]⟩ : ByteArray), 1, 0, true, true, (⟨#[122]⟩ : ByteArray)⟩) rfl rfl ⟨_, _, _, rfl⟩ hH
  refine WS_live1 1 ?_
  intro s g1
  clear hH
  skip
  refine WS_call (mixed_spec _ _ _ _) ?_
  rintro _ G ⟨eG, f, a, b, rfl⟩
  have k4 := k4.grow eG
  repeat (refine WS_build ?_)
  refine WS_insert (mi := k4.map) (look_none _ _ (by decide +kernel)) ?_
  refine WS_gen ?_
  intro H5 hH
  have k5 := k4.add (e := ⟨(⟨#[104]⟩ : ByteArray), 1, 1, true, false, (⟨#[104]⟩ : ByteArray)⟩) rfl rfl ⟨_, _, _, rfl⟩ hH
  refine WS_live1 1 ?_
  intro s g1
  clear hH
  skip
  refine WS_call (last_spec _ _ _) ?_
  rintro _ G ⟨eG, f, a, b, rfl⟩
  have k5 := k5.grow eG
  repeat (refine WS_build ?_)
  refine WS_insert (mi := k5.map) (look_none _ _ (by decide +kernel)) ?_
  refine WS_gen ?_
  intro H6 hH
  have k6 := k5.add (e := ⟨(⟨#[115]⟩ : ByteArray), 1, 0, true, true, (⟨#[115, 100, 103]⟩ : ByteArray)⟩) rfl rfl ⟨_, _, _, rfl⟩ hH
  refine WS_live1 1 ?_
  intro s g1
  clear hH
  skip
  refine WS_call (last_spec _ _ _) ?_
  rintro _ G ⟨eG, f, a, b, rfl⟩
  have k6 := k6.grow eG
  repeat (refine WS_build ?_)
  refine WS_insert (mi := k6.map) (look_none _ _ (by decide +kernel)) ?_
  refine WS_gen ?_
  intro H7 hH
  have k7 := k6.add (e := ⟨(⟨#[115, 100, 103]⟩ : ByteArray), 1, 0, true, true, (⟨#[115]⟩ : ByteArray)⟩) rfl rfl ⟨_, _, _, rfl⟩ hH
  refine WS_live1 1 ?_
  intro s g1
  clear hH
  skip
  refine WS_call (last_spec _ _ _) ?_
  rintro _ G ⟨eG, f, a, b, rfl⟩
  have k7 := k7.grow eG
  repeat (refine WS_build ?_)
  refine WS_insert (mi := k7.map) (look_none _ _ (by decide +kernel)) ?_
  refine WS_gen ?_
  intro H8 hH
  have k8 := k7.add (e := ⟨(⟨#[116]⟩ : ByteArray), 1, 0, false, true, (⟨#[116, 100, 103]⟩ : ByteArray)⟩) rfl rfl ⟨_, _, _, rfl⟩ hH
  refine WS_live1 1 ?_
  intro s g1
  clear hH
  skip
  refine WS_call (last_spec _ _ _) ?_
  rintro _ G ⟨eG, f, a, b, rfl⟩
  have k8 := k8.grow eG
  repeat (refine WS_build ?_)
  refine WS_insert (mi := k8.map) (look_none _ _ (by decide +kernel)) ?_
  refine WS_gen ?_
  intro H9 hH
  have k9 := k8.add (e := ⟨(⟨#[116, 100, 103]⟩ : ByteArray), 1, 0, false, true, (⟨#[116]⟩ : ByteArray)⟩) rfl rfl ⟨_, _, _, rfl⟩ hH
  refine WS_live1 1 ?_
  intro s g1
  clear hH
  skip
  refine WS_call (mixed_spec _ _ _ _) ?_
  rintro _ G ⟨eG, f, a, b, rfl⟩
  have k9 := k9.grow eG
  repeat (refine WS_build ?_)
  refine WS_insert (mi := k9.map) (look_none _ _ (by decide +kernel)) ?_
  refine WS_gen ?_
  intro H10 hH
  have k10 := k9.add (e := ⟨(⟨#[118]⟩ : ByteArray), 1, 1, true, false, (⟨#[118, 100, 103]⟩ : ByteArray)⟩) rfl rfl ⟨_, _, _, rfl⟩ hH
  refine WS_live1 1 ?_
  intro s g1
  clear hH
  skip
  refine WS_call (mixed_spec _ _ _ _) ?_
  rintro _ G ⟨eG, f, a, b, rfl⟩
  have k10 := k10.grow eG
  repeat (refine WS_build ?_)
  refine WS_insert (mi := k10.map) (look_none _ _ (by decide +kernel)) ?_
  refine WS_gen ?_
  intro H11 hH
  have k11 := k10.add (e := ⟨(⟨#[118, 100, 103]⟩ : ByteArray), 1, 1, true, false, (⟨#[118]⟩ : ByteArray)⟩) rfl rfl ⟨_, _, _, rfl⟩ hH
  refine WS_live1 1 ?_
  intro s g1
  clear hH
  repeat (refine WS_buildSlice (by decide) rfl rfl (by simp [Value.cells]) ?_)
  refine WS_gen ?_
  intro G hG
  have k11 := k11.grow (H' := G) (hG ▸ Ext.push _ _)
  clear hG
  refine WS_call (flip_spec _ _ _ _ _) ?_
  rintro _ G ⟨eG, f, a, b, rfl⟩
  have k11 := k11.grow eG
  repeat (refine WS_build ?_)
  refine WS_insert (mi := k11.map) (look_none _ _ (by decide +kernel)) ?_
  refine WS_gen ?_
  intro H12 hH
  have k12 := k11.add (e := ⟨(⟨#[119]⟩ : ByteArray), 1, 0, true, true, (⟨#[119, 100, 103]⟩ : ByteArray)⟩) rfl rfl ⟨_, _, _, rfl⟩ hH
  refine WS_live1 1 ?_
  intro s g1
  clear hH
  repeat (refine WS_buildSlice (by decide) rfl rfl (by simp [Value.cells]) ?_)
  refine WS_gen ?_
  intro G hG
  have k12 := k12.grow (H' := G) (hG ▸ Ext.push _ _)
  clear hG
  refine WS_call (flip_spec _ _ _ _ _) ?_
  rintro _ G ⟨eG, f, a, b, rfl⟩
  have k12 := k12.grow eG
  repeat (refine WS_build ?_)
  refine WS_insert (mi := k12.map) (look_none _ _ (by decide +kernel)) ?_
  refine WS_gen ?_
  intro H13 hH
  have k13 := k12.add (e := ⟨(⟨#[119, 100, 103]⟩ : ByteArray), 1, 0, true, true, (⟨#[119]⟩ : ByteArray)⟩) rfl rfl ⟨_, _, _, rfl⟩ hH
  refine WS_live1 1 ?_
  intro s g1
  clear hH
  skip
  refine WS_call (swapped_spec _ _ _ _) ?_
  rintro _ G ⟨eG, f, a, b, rfl⟩
  have k13 := k13.grow eG
  repeat (refine WS_build ?_)
  refine WS_insert (mi := k13.map) (look_none _ _ (by decide +kernel)) ?_
  refine WS_gen ?_
  intro H14 hH
  have k14 := k13.add (e := ⟨(⟨#[99, 120]⟩ : ByteArray), 2, 0, true, false, (⟨#[99, 120]⟩ : ByteArray)⟩) rfl rfl ⟨_, _, _, rfl⟩ hH
  refine WS_live1 1 ?_
  intro s g1
  clear hH
  repeat (refine WS_build ?_)
  refine WS_insert (mi := k14.map) (look_none _ _ (by decide +kernel)) ?_
  refine WS_gen ?_
  intro H15 hH
  have k15 := k14.add (e := ⟨(⟨#[99, 121]⟩ : ByteArray), 2, 0, true, false, (⟨#[99, 121]⟩ : ByteArray)⟩) rfl rfl ⟨_, _, _, rfl⟩ hH
  refine WS_live1 1 ?_
  intro s g1
  clear hH
  skip
  refine WS_call (last_spec _ _ _) ?_
  rintro _ G ⟨eG, f, a, b, rfl⟩
  have k15 := k15.grow eG
  repeat (refine WS_build ?_)
  refine WS_insert (mi := k15.map) (look_none _ _ (by decide +kernel)) ?_
  refine WS_gen ?_
  intro H16 hH
  have k16 := k15.add (e := ⟨(⟨#[99, 122]⟩ : ByteArray), 2, 0, true, true, (⟨#[99, 122]⟩ : ByteArray)⟩) rfl rfl ⟨_, _, _, rfl⟩ hH
  refine WS_live1 1 ?_
  intro s g1
  clear hH
  repeat (refine WS_build ?_)
  refine WS_insert (mi := k16.map) (look_none _ _ (by decide +kernel)) ?_
  refine WS_gen ?_
  intro H17 hH
  have k17 := k16.add (e := ⟨(⟨#[99, 104]⟩ : ByteArray), 2, 1, false, false, (⟨#[99, 104]⟩ : ByteArray)⟩) rfl rfl ⟨_, _, _, rfl⟩ hH
  refine WS_live1 1 ?_
  intro s g1
  clear hH
  skip
  refine WS_call (last_spec _ _ _) ?_
  rintro _ G ⟨eG, f, a, b, rfl⟩
  have k17 := k17.grow eG
  repeat (refine WS_build ?_)
  refine WS_insert (mi := k17.map) (look_none _ _ (by decide +kernel)) ?_
  refine WS_gen ?_
  intro H18 hH
  have k18 := k17.add (e := ⟨(⟨#[99, 115]⟩ : ByteArray), 2, 0, false, true, (⟨#[99, 115, 100, 103]⟩ : ByteArray)⟩) rfl rfl ⟨_, _, _, rfl⟩ hH
  refine WS_live1 1 ?_
  intro s g1
  clear hH
  skip
  refine WS_call (last_spec _ _ _) ?_
  rintro _ G ⟨eG, f, a, b, rfl⟩
  have k18 := k18.grow eG
  repeat (refine WS_build ?_)
  refine WS_insert (mi := k18.map) (look_none _ _ (by decide +kernel)) ?_
  refine WS_gen ?_
  intro H19 hH
  have k19 := k18.add (e := ⟨(⟨#[99, 115, 100, 103]⟩ : ByteArray), 2, 0, false, true, (⟨#[99, 115]⟩ : ByteArray)⟩) rfl rfl ⟨_, _, _, rfl⟩ hH
  refine WS_live1 1 ?_
  intro s g1
  clear hH
  skip
  refine WS_call (swapped_spec _ _ _ _) ?_
  rintro _ G ⟨eG, f, a, b, rfl⟩
  have k19 := k19.grow eG
  repeat (refine WS_build ?_)
  refine WS_insert (mi := k19.map) (look_none _ _ (by decide +kernel)) ?_
  refine WS_gen ?_
  intro H20 hH
  have k20 := k19.add (e := ⟨(⟨#[115, 119, 97, 112]⟩ : ByteArray), 2, 0, true, false, (⟨#[115, 119, 97, 112]⟩ : ByteArray)⟩) rfl rfl ⟨_, _, _, rfl⟩ hH
  refine WS_live1 1 ?_
  intro s g1
  clear hH
  skip
  refine WS_call (swapped_spec _ _ _ _) ?_
  rintro _ G ⟨eG, f, a, b, rfl⟩
  have k20 := k20.grow eG
  repeat (refine WS_build ?_)
  refine WS_insert (mi := k20.map) (look_none _ _ (by decide +kernel)) ?_
  refine WS_gen ?_
  intro H21 hH
  have k21 := k20.add (e := ⟨(⟨#[105, 115, 119, 97, 112]⟩ : ByteArray), 2, 0, true, false, (⟨#[105, 115, 119, 97, 112, 100, 103]⟩ : ByteArray)⟩) rfl rfl ⟨_, _, _, rfl⟩ hH
  refine WS_live1 1 ?_
  intro s g1
  clear hH
  skip
  refine WS_call (swapped_spec _ _ _ _) ?_
  rintro _ G ⟨eG, f, a, b, rfl⟩
  have k21 := k21.grow eG
  repeat (refine WS_build ?_)
  refine WS_insert (mi := k21.map) (look_none _ _ (by decide +kernel)) ?_
  refine WS_gen ?_
  intro H22 hH
  have k22 := k21.add (e := ⟨(⟨#[105, 115, 119, 97, 112, 100, 103]⟩ : ByteArray), 2, 0, true, false, (⟨#[105, 115, 119, 97, 112]⟩ : ByteArray)⟩) rfl rfl ⟨_, _, _, rfl⟩ hH
  refine WS_live1 1 ?_
  intro s g1
  clear hH
  skip
  refine WS_call (swapped_spec _ _ _ _) ?_
  rintro _ G ⟨eG, f, a, b, rfl⟩
  have k22 := k22.grow eG
  repeat (refine WS_build ?_)
  refine WS_insert (mi := k22.map) (look_none _ _ (by decide +kernel)) ?_
  refine WS_gen ?_
  intro H23 hH
  have k23 := k22.add (e := ⟨(⟨#[99, 99, 120]⟩ : ByteArray), 3, 0, false, false, (⟨#[99, 99, 120]⟩ : ByteArray)⟩) rfl rfl ⟨_, _, _, rfl⟩ hH
  refine WS_live1 1 ?_
  intro s g1
  clear hH
  skip
  refine WS_call (last_spec _ _ _) ?_
  rintro _ G ⟨eG, f, a, b, rfl⟩
  have k23 := k23.grow eG
  repeat (refine WS_build ?_)
  refine WS_insert (mi := k23.map) (look_none _ _ (by decide +kernel)) ?_
  refine WS_gen ?_
  intro H24 hH
  have k24 := k23.add (e := ⟨(⟨#[99, 99, 122]⟩ : ByteArray), 3, 0, false, true, (⟨#[99, 99, 122]⟩ : ByteArray)⟩) rfl rfl ⟨_, _, _, rfl⟩ hH
  refine WS_live1 1 ?_
  intro s g1
  clear hH
  skip
  refine WS_call (swapped_spec _ _ _ _) ?_
  rintro _ G ⟨eG, f, a, b, rfl⟩
  have k24 := k24.grow eG
  repeat (refine WS_build ?_)
  refine WS_insert (mi := k24.map) (look_none _ _ (by decide +kernel)) ?_
  refine WS_gen ?_
  intro H25 hH
  have k25 := k24.add (e := ⟨(⟨#[99, 115, 119, 97, 112]⟩ : ByteArray), 3, 0, false, false, (⟨#[99, 115, 119, 97, 112]⟩ : ByteArray)⟩) rfl rfl ⟨_, _, _, rfl⟩ hH
  refine WS_live1 1 ?_
  intro s g1
  clear hH
  repeat (first | refine WS_nil ?_ | refine S_normal ?_ | refine V_ret ?_ | refine WS_move ?_ | refine WS_assign ?_)
  exact retK_1 ⟨k25.ext, _, _, rfl, Nat.le_refl _, k25.map, k25.len, k25.fns⟩ (.inr rfl)
instance : CallIs Try.prog 30 := .of Try.func30 rfl rfl
theorem look_row (b : ByteArray) {cs : List Value} (hl : cs.length = 25) : ∃ c, (lookB b (rowsOf KT cs)).getD (.agg [.int .i64 0, .int .i64 0, .bool false, .bool false, .string ByteArray.empty, .nilFunc].toArray) = .agg [.int .i64 (arityS b), .int .i64 (halvesS b), .bool (cliffS b), .bool (diagS b), .string (backS b).1, c].toArray ∧ (lookB b (rowsOf KT cs)).isSome = (kOf b).isSome := by
  have h := look_some (b := b) KT cs hl
  unfold arityS halvesS cliffS diagS backS
  cases hk : kOf b with
  | none => unfold kOf at hk; rw [hk] at h; simp only at h; rw [h]; exact ⟨_, rfl, rfl⟩
  | some e => unfold kOf at hk; rw [hk] at h; obtain ⟨c, _, h⟩ := h; rw [h]; exact ⟨c, rfl, rfl⟩
theorem gateArity_spec (b : ByteArray) (h : IHp) : EvX Try.prog 8 [.string b].toArray h (fun v h' => v = .int .i64 (arityS b) ∧ Ext h h') := by
  refine EvX_of Try.func8 rfl (by show 1 ≤ 7; decide) ?_
  repeat' (first | refine V_seq ?_ | refine V_region ?_ | refine WS_nil ?_ | refine S_normal ?_ | refine WS_assign ?_)
  refine WS_call (kinds_spec h) ?_
  rintro _ H ⟨eH, m, cs, rfl, hm, hmap, hl, _⟩
  obtain ⟨c, hc, _⟩ := look_row b hl
  repeat' (refine WS_move ?_)
  refine WS_lookup (mi := hmap) ?_
  rw [hc]
  repeat' (first | refine WS_nil ?_ | refine S_normal ?_ | refine V_ret ?_ | refine WS_assign ?_ | refine WS_field ?_)
  exact retK_1 ⟨rfl, eH⟩ (.inr rfl)
instance : CallIs Try.prog 8 := .of Try.func8 rfl rfl
theorem gateHalves_spec (b : ByteArray) (h : IHp) : EvX Try.prog 10 [.string b].toArray h (fun v h' => v = .int .i64 (halvesS b) ∧ Ext h h') := by
  refine EvX_of Try.func10 rfl (by show 1 ≤ 7; decide) ?_
  repeat' (first | refine V_seq ?_ | refine V_region ?_ | refine WS_nil ?_ | refine S_normal ?_ | refine WS_assign ?_)
  refine WS_call (kinds_spec h) ?_
  rintro _ H ⟨eH, m, cs, rfl, hm, hmap, hl, _⟩
  obtain ⟨c, hc, _⟩ := look_row b hl
  repeat' (refine WS_move ?_)
  refine WS_lookup (mi := hmap) ?_
  rw [hc]
  repeat' (first | refine WS_nil ?_ | refine S_normal ?_ | refine V_ret ?_ | refine WS_assign ?_ | refine WS_field ?_)
  exact retK_1 ⟨rfl, eH⟩ (.inr rfl)
instance : CallIs Try.prog 10 := .of Try.func10 rfl rfl
theorem gateClifford_spec (b : ByteArray) (h : IHp) : EvX Try.prog 12 [.string b].toArray h (fun v h' => v = .bool (cliffS b) ∧ Ext h h') := by
  refine EvX_of Try.func12 rfl (by show 1 ≤ 7; decide) ?_
  repeat' (first | refine V_seq ?_ | refine V_region ?_ | refine WS_nil ?_ | refine S_normal ?_ | refine WS_assign ?_)
  refine WS_call (kinds_spec h) ?_
  rintro _ H ⟨eH, m, cs, rfl, hm, hmap, hl, _⟩
  obtain ⟨c, hc, _⟩ := look_row b hl
  repeat' (refine WS_move ?_)
  refine WS_lookup (mi := hmap) ?_
  rw [hc]
  repeat' (first | refine WS_nil ?_ | refine S_normal ?_ | refine V_ret ?_ | refine WS_assign ?_ | refine WS_field ?_)
  exact retK_1 ⟨rfl, eH⟩ (.inr rfl)
instance : CallIs Try.prog 12 := .of Try.func12 rfl rfl
theorem gateInverse_spec (b : ByteArray) (h : IHp) : EvX Try.prog 16 [.string b].toArray h (fun v h' => v = .tuple [.string (backS b).1, .int .i64 (backS b).2].toArray ∧ Ext h h') := by
  refine EvX_of Try.func16 rfl (by show 1 ≤ 16; decide) ?_
  repeat' (first | refine V_seq ?_ | refine V_region ?_ | refine WS_nil ?_ | refine S_normal ?_ | refine WS_assign ?_)
  refine WS_call (kinds_spec h) ?_
  rintro _ H ⟨eH, m, cs, rfl, hm, hmap, hl, hfn⟩
  obtain ⟨c, hc, hs⟩ := look_row b hl
  have hcell : CellsOf c [c] := by
    have h := look_some (b := b) KT cs hl
    cases hk : KT.find? (fun e => beqS b e.name) with
    | none => rw [hk] at h; simp only at h; rw [h] at hc; simp at hc; rw [← hc.2.2.2.2.2]; infer_instance
    | some e =>
      rw [hk] at h
      obtain ⟨c', hc', h⟩ := h
      rw [h] at hc
      simp [krow] at hc
      obtain ⟨f, x, y, rfl⟩ := hfn c' hc'
      rw [← hc.2.2.2.2.2]; infer_instance
  repeat' (refine WS_move ?_)
  refine WS_lookup_ok (mi := hmap) ?_
  rw [hc, hs]
  repeat' (first | refine V_seq ?_ | refine V_region ?_ | refine WS_nil ?_ | refine S_normal ?_ | refine V_skip ?_ | refine V_ret ?_ | refine S_ret ?_ | refine WS_move ?_ | refine WS_assign ?_ | refine WS_not ?_ | refine WS_fieldAddr ?_ | refine WS_load ?_ | refine WS_extract ?_ | refine WS_alloc ?_ | refine WS_store rfl ?_ | (refine V_cond ?_ ?_ <;> intro hc <;> try (cases hc; done)))
  · have hn : kOf b = none := by
      cases hk : kOf b with
      | none => rfl
      | some e => rw [hk] at hc; simp at hc
    refine retK_2 ⟨?_, (eH.push' _).putObj eH.fresh⟩ (.inr rfl)
    simp [backS, hn]
  · have hn : ∃ e, kOf b = some e := by
      cases hk : kOf b with
      | none => rw [hk] at hc; simp at hc
      | some e => exact ⟨e, rfl⟩
    obtain ⟨e, hn⟩ := hn
    refine retK_2 ⟨?_, (eH.push' _).putObj eH.fresh⟩ (.inr rfl)
    simp [backS, hn]
instance : CallIs Try.prog 16 := .of Try.func16 rfl rfl
end Go.Ideal

-- Cb
set_option linter.unusedSimpArgs false
set_option linter.unusedVariables false
namespace Go.Ideal
open Go Go.Proofs
/-! ### The reference's switches over the names -/
instance : CallIs Try.prog 9 := .of Try.func9 rfl rfl
instance : CallIs Try.prog 11 := .of Try.func11 rfl rfl
instance : CallIs Try.prog 13 := .of Try.func13 rfl rfl
end Go.Ideal

-- Bra
set_option linter.unusedSimpArgs false
set_option linter.unusedVariables false
namespace Go.Ideal
open Go Go.Proofs Go.RowKit
theorem law_of_EvX {P : Program} {f : Nat} {args args' : Array Value} {w : World} (hP : okProg P = true) (h : EvX P f args (heapOf w) (fun v _ => v = .bool true)) (ha : RA RM0 args args') :
    Calls P f args' w fun e w' => e = .returned (.bool true) ∧ Below w.heap.size w w' := by
  unfold EvX at h
  obtain ⟨v, h', ⟨n, h1⟩, rfl⟩ := h
  exact law_of_ideal hP h1 ha
end Go.Ideal

-- Cia
set_option linter.unusedSimpArgs false
set_option linter.unusedVariables false
namespace Go.Ideal
open Go Go.Proofs Go.RowKit
end Go.Ideal
