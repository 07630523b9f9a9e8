/- Part 4 of what the proof stands on: an interpreter over an ideal memory that is proved sound, steps over it, and contracts of the functions that are called. No condition: no law is claimed here. -/
import Derived.Test.YtggdcgipeijilaaC3
import Derived.ChangeArms
import Derived.ChangeShapes
import Derived.WideShapes
import Derived.KernelRfl
import Derived.Test.YtggdcgipeijilaaProg
-- IdealTk
set_option linter.unusedSimpArgs false
set_option linter.unusedVariables false
namespace Go.Ideal
open Go Go.RowKit
variable {P : Program} {X : Cx} {E : Env} {σ : Nat → Tr} {B B' : Boxes} {ops : Array Oper} {K : TK} {l : List Oper} {d : Option Tmp} {ty : TypeId} {pos : String} {af : Array Edge} {H : List (Nat × Nat)} {F : Mem} {s : Nat → Value} {h : IHp} {held : Held} {plan : List PStep} {ph : Bool}

/-! ### Boxes that are kept -/
class SubB (B' B : Boxes) : Prop where eq : B'.Sublist B
instance (priority := 1000) SubB.nil : SubB [] B := ⟨List.nil_sublist B⟩
instance (priority := 900) SubB.keep {p : Nat × Box} [i : SubB B' B] : SubB (p :: B') (p :: B) := ⟨i.eq.cons_cons p⟩
instance (priority := 800) SubB.skip {p : Nat × Box} [i : SubB B' B] : SubB B' (p :: B) := ⟨i.eq.cons p⟩

instance (priority := 950) SubB.same : SubB B B := ⟨List.Sublist.refl B⟩
theorem TR.perm (r : TR X F σ B s h) (p : B.Perm B') : TR X F σ B' s h :=
  ⟨r.ext, r.base, r.sub, r.own, fun q hq => r.box q (p.mem_iff.2 hq), fun q hq => r.sep q (p.mem_iff.2 hq), (p.map Prod.fst).nodup_iff.1 r.dis, r.gd, r.slot⟩
/-- B' is among B, in whatever order -/
class SubP (B B' : Boxes) : Prop where eq : ∃ C, B.Perm (B' ++ C)
instance (priority := 2000) SubP.nil : SubP B [] := ⟨B, List.Perm.refl B⟩
instance (priority := 1900) SubP.same : SubP B B := ⟨[], by simp⟩
instance (priority := 1000) SubP.cons {b : Nat} {x : Box} {B1 : Boxes} [d : BoxDel B b x B1] [k : SubP B1 B'] : SubP B ((b, x) :: B') := ⟨by
  obtain ⟨pre, post, h1, h2⟩ := d.eq
  obtain ⟨C, h3⟩ := k.eq
  refine ⟨C, ?_⟩
  rw [h1]
  refine List.perm_middle.trans ?_
  rw [← h2]
  exact h3.cons _⟩
instance (priority := 900) SubP.skip {p : Nat × Box} [k : SubP B B'] : SubP (p :: B) B' := ⟨by
  obtain ⟨C, h3⟩ := k.eq
  exact ⟨p :: C, (h3.cons p).trans List.perm_middle.symm⟩⟩
theorem SubP.last {k : Nat × Box} {L : Boxes} (h : SubP B (k :: L)) : SubP B (L ++ [k]) := ⟨by
  obtain ⟨C, h1⟩ := h.eq
  exact ⟨C, h1.trans ((List.perm_append_singleton k L).symm.append_right C)⟩⟩
theorem TR.keep (r : TR X F σ B s h) (k : SubP B B') : TR X F σ B' s h := by
  obtain ⟨C, h3⟩ := k.eq
  exact (r.perm h3).drop (List.sublist_append_left _ _)
theorem TV_keep {c : Code} {Q : IExit → TK} (B' : Boxes) [p : SubP B B'] (k : TV X P E c Q σ B') : TV X P E c Q σ B := by
  unfold TV at *; intro F s h r; exact k F s h (r.keep p)
/-- x == nil, of a slice that is read alone: it may be so if there is nothing in it -/
theorem TS_isnil {x : Operand} {t yt te : TypeId} {m : Nat} {rows : List (List Tr)} [e : TEval σ x (.sl m rows)] [u : UnderIs P t (.slice te)] (k : ∀ b : Bool, (b = true → rows = []) → TS X P E ops K l H (putT σ d (.v (.bool b))) B) : TS X P E ops K (⟨d, .binOp .eql t x (.const (.slice none 0 0)) yt, ty, pos, af, none⟩ :: l) H σ B := by
  unfold TS at *
  intro F s h held r hh
  have h1 := evalIs_self (s := s) (x := x) (h := h)
  have h2 := e.eq F s r.slot h 0 [] false
  simp only [Rep] at h2
  obtain ⟨a, n, c, h3, h4, h5, h6, h7, h8⟩ := h2
  rw [h3] at h1
  refine WS_isnil (k a.isNone (fun ha => ?_) F _ h held (r.put (rep_v _)) hh)
  cases a with
  | none => simp only at h8; exact List.eq_nil_of_length_eq_zero (by omega)
  | some a => cases ha

/-! ### One step, found by the goal's form -/
class StepC (goal : Prop) (next : outParam Prop) : Prop where go : next → goal
instance {a b : Code} {Q : IExit → TK} : StepC (TV X P E (.seq a b) Q σ B) (TV X P E a (TseqK X P E b Q) σ B) := ⟨TV_seq⟩
instance {id : Nat} {b : Code} {Q : IExit → TK} : StepC (TV X P E (.block id b) Q σ B) (TV X P E b (TblockK id Q) σ B) := ⟨TV_block⟩
instance {Q : IExit → TK} : StepC (TV X P E .skip Q σ B) (Q .normal σ B) := ⟨TV_skip⟩
instance {Q : IExit → TK} {id : Nat} : StepC (TV X P E (.exit id) Q σ B) (Q (.exit id) σ B) := ⟨TV_exit⟩
instance {Q : IExit → TK} : StepC (TV X P E .ret Q σ B) (Q .ret σ B) := ⟨TV_ret⟩
instance {id : Nat} {l : List Oper} {Q : IExit → TK} : StepC (TV X P E (.region id l.toArray false) Q σ B) (TS X P E l.toArray (Q .normal) l [] σ B) := ⟨TV_region⟩
instance {b : Code} {Q : IExit → TK} : StepC (TseqK X P E b Q .normal σ B) (TV X P E b Q σ B) := ⟨TSQ_normal⟩
instance {b : Code} {Q : IExit → TK} {j : Nat} : StepC (TseqK X P E b Q (.exit j) σ B) (Q (.exit j) σ B) := ⟨TSQ_exit⟩
instance {b : Code} {Q : IExit → TK} : StepC (TseqK X P E b Q .ret σ B) (Q .ret σ B) := ⟨TSQ_ret⟩
instance {id : Nat} {Q : IExit → TK} : StepC (TblockK id Q .normal σ B) (Q .normal σ B) := ⟨TB_normal⟩
instance {id : Nat} {Q : IExit → TK} : StepC (TblockK id Q .ret σ B) (Q .ret σ B) := ⟨TB_ret⟩
instance (priority := 1100) {id : Nat} {Q : IExit → TK} : StepC (TblockK id Q (.exit id) σ B) (Q .normal σ B) := ⟨TB_exit⟩
instance (priority := 900) {id j : Nat} {Q : IExit → TK} [n : BeqIs j id false] : StepC (TblockK id Q (.exit j) σ B) (Q (.exit j) σ B) := ⟨TB_pass n.eq⟩
instance {I : TK} {K : IExit → TK} : StepC (TcutK I K .normal σ B) (I σ B) := ⟨TC_normal⟩
instance {I : TK} {K : IExit → TK} {j : Nat} : StepC (TcutK I K (.exit j) σ B) (K (.exit j) σ B) := ⟨TC_exit⟩
instance {I : TK} {K : IExit → TK} : StepC (TcutK I K .ret σ B) (K .ret σ B) := ⟨TC_ret⟩
instance : StepC (TS X P E ops K [] H σ B) (K σ B) := ⟨TS_nil⟩
instance (priority := 100) {op : Op} {t : Tr} [p : Pu P σ B op t] : StepC (TS X P E ops K (⟨d, op, ty, pos, af, none⟩ :: l) H σ B) (TS X P E ops K l H (putT σ d t) B) := ⟨TS_pu⟩
instance {t : TypeId} {z : Value} {ws : List Value} {wt : List Tr} [zi : ZeroIs P t z] [cs : CellsOf z ws] [vt : ValsT ws wt] : StepC (TS X P E ops K (⟨d, .alloc t, ty, pos, af, none⟩ :: l) H σ B) (∀ b, TS X P E ops K l H (putT σ d (.v (.pointer (some (ad b 0))))) ((b, .cells wt t true) :: B)) := ⟨TS_alloc⟩
instance {t : TypeId} {x : Operand} {u : Tr} {cs : List Tr} [e : TEval σ x u] [c : CellsT u cs] : StepC (TS X P E ops K (⟨d, .box t x, ty, pos, af, none⟩ :: l) H σ B) (∀ b, TS X P E ops K l H (putT σ d (.v (.pointer (some (ad b 0))))) ((b, .cells cs t true) :: B)) := ⟨TS_box⟩
instance {x y : Operand} {t : TypeId} {b off n : Nat} {u : Tr} {ws cs r' : List Tr} {bt : Nat} {bx : Bool} [e1 : TEval σ x (.v (.pointer (some (ad b off))))] [e2 : TEval σ y u] [z : SizeIs P t n] [c : CellsT u ws] [bi : BoxIs B b (.cells cs bt bx)] [ln : LenT ws n] [si : SetT cs off ws r'] [bp : BoxPut B b b (.cells r' bt bx) B'] [ap : Apart B b H] : StepC (TS X P E ops K (⟨d, .store t x y, ty, pos, af, none⟩ :: l) H σ B) (TS X P E ops K l H (putT σ d (.v undef)) B') := ⟨TS_store⟩
instance {x y : Operand} {t : TypeId} {b m i j n : Nat} {u : Tr} {ws row row' : List Tr} {rows rows' : List (List Tr)} {bt : Nat} {bx : Bool} [e1 : TEval σ x (.v (elp b m i j))] [e2 : TEval σ y u] [z : SizeIs P t n] [c : CellsT u ws] [bi : BoxIs B b (.arr m rows bt bx)] [ng : NthG rows i row] [ln : LenT ws n] [si : SetT row j ws row'] [sr : SetR rows i row' rows'] [bp : BoxPut B b b (.arr m rows' bt bx) B'] [ap : Apart B b H] : StepC (TS X P E ops K (⟨d, .store t x y, ty, pos, af, none⟩ :: l) H σ B) (TS X P E ops K l H (putT σ d (.v undef)) B') := ⟨TS_store_arr⟩
theorem buildSlice_side {m len : Nat} (h1 : Nat.beq m 0 = false) (h2 : Nat.ble (len * m) 16777216 = true) : (m != 0 && decide (len * m ≤ 2 ^ 24)) = true := by
  simp only [Nat.ble_eq] at h2
  have : m ≠ 0 := fun h => by subst h; simp at h1
  simp [this]; omega
instance {t e : TypeId} {len m : Nat} {ps : List (Nat × Operand)} {pt : List (Nat × Tr)} {ts : List Tr} {rows : List (List Tr)} {z : Value} {wz : List Value} [u : UnderIs P t (.slice e)] [zi : SizeIs P e m] [ze : ZeroIs P e z] [cz : CellsOf z wz] [lz : LenT wz m] [p : TParts σ ps pt] [en : EnumT 0 pt ts] [ro : RowsT m ts rows] [lt : LenT ts len] [s1 : BeqIs m 0 false] [s2 : LeIs (len * m) 16777216 true] : StepC (TS X P E ops K (⟨d, .buildSlice t len ps.toArray, ty, pos, af, none⟩ :: l) H σ B) (∀ b, TS X P E ops K l H (putT σ d (.v (.slice (some (ad b 0)) len len))) ((b, .arr m rows e true) :: B)) := ⟨TS_buildSlice (buildSlice_side s1.eq s2.eq)⟩
instance : StepC (TDK X P E ops K plan H σ B) (TD X P E ops K plan H false σ B) := ⟨TDK_go⟩
instance : StepC (TD X P E ops K [] H ph σ B) (K σ B) := ⟨TD_nil⟩

/-! ### Parts of slices -/
/-! ### Bounds that lie in what is handed in -/
theorem TV_fact (i : Nat) {c : Code} {Q : IExit → TK} {t : Tr} [g : TGet σ i t] {p : Prop} (hp : ∀ F v, Rep F t v → p) (k : p → TV X P E c Q σ B) : TV X P E c Q σ B := by
  unfold TV at *
  intro F s h r
  exact k (hp F (s i) (by rw [← g.eq]; exact r.slot i)) F s h r
theorem rep_small {m : Nat} {rows : List (List Tr)} {v : Value} (h : Rep F (.sl m rows) v) : rows.length < 2 ^ 63 := by
  simp only [Rep] at h
  obtain ⟨a, n, c, _, h2, h3, h4, _⟩ := h
  omega
theorem rep_agg_at {cs : List Tr} {v : Value} (h : Rep F (.agg cs) v) {i : Nat} {t : Tr} (hi : cs[i]? = some t) : ∃ w, Rep F t w := by
  simp only [Rep] at h
  obtain ⟨vs, _, h1⟩ := h
  obtain ⟨w, _, h2⟩ := h1.get hi
  exact ⟨w, h2⟩
/-- a slice of nothing reads as no rows -/
class Cv (t t' : Tr) : Prop where eq : ∀ F v, Rep F t v → Rep F t' v
class CvL (ts ts' : List Tr) : Prop where eq : ∀ F vs, RepL F ts vs → RepL F ts' vs
instance (priority := 2000) Cv.refl {t : Tr} : Cv t t := ⟨fun _ _ h => h⟩
instance Cv.nil {m : Nat} : Cv (.v (.slice none 0 0)) (.sl m []) := ⟨fun F v h => by
  simp only [Rep] at h
  subst h
  rw [Rep]
  exact ⟨none, 0, 0, rfl, rfl, Nat.le_refl _, by decide, (fun d hd => by cases hd), rfl⟩⟩
instance (priority := 2000) CvL.nil : CvL [] [] := ⟨fun _ _ h => h⟩
instance CvL.cons {t t' : Tr} {ts ts' : List Tr} [a : Cv t t'] [b : CvL ts ts'] : CvL (t :: ts) (t' :: ts') := ⟨fun F vs h => by
  simp only [RepL] at h
  obtain ⟨v, ws, rfl, h1, h2⟩ := h
  exact RepL.cons (a.eq F v h1) (b.eq F ws h2)⟩
instance Cv.agg {ts ts' : List Tr} [a : CvL ts ts'] : Cv (.agg ts) (.agg ts') := ⟨fun F v h => by
  simp only [Rep] at *
  obtain ⟨vs, rfl, h1⟩ := h
  exact ⟨vs, rfl, a.eq F vs h1⟩⟩
theorem RetIs.conv {rs : List ResultVar} {ts ts' : List Tr} (r : RetIs P σ B rs ts) (c : CvL ts ts') : RetIs P σ B rs ts' := ⟨fun X F s h E q G o => by
  obtain ⟨vs, h1, h2⟩ := r.eq X F s h E q G o
  exact ⟨vs, h1, c.eq G vs h2⟩⟩
theorem retT_1c {a : ResultVar} {Φ : Tr → Prop} {e : IExit} {ts : List Tr} [r : RetIs P σ B [a] ts] (ts' : List Tr) [c : CvL ts ts'] (he : e = .normal ∨ e = .ret) (k : Φ (tret ts')) : retT P [a] Φ e σ B := retT_go (r := r.conv c) he k
theorem retT_2c {a b : ResultVar} {Φ : Tr → Prop} {e : IExit} {ts : List Tr} [r : RetIs P σ B [a, b] ts] (ts' : List Tr) [c : CvL ts ts'] (he : e = .normal ∨ e = .ret) (k : Φ (tret ts')) : retT P [a, b] Φ e σ B := retT_go (r := r.conv c) he k
theorem retT_1 {a : ResultVar} {Φ : Tr → Prop} {e : IExit} {ts : List Tr} [r : RetIs P σ B [a] ts] (he : e = .normal ∨ e = .ret) (k : Φ (tret ts)) : retT P [a] Φ e σ B := retT_go he k
theorem retT_2 {a b : ResultVar} {Φ : Tr → Prop} {e : IExit} {ts : List Tr} [r : RetIs P σ B [a, b] ts] (he : e = .normal ∨ e = .ret) (k : Φ (tret ts)) : retT P [a, b] Φ e σ B := retT_go he k
theorem retT_4 {a b c d : ResultVar} {Φ : Tr → Prop} {e : IExit} {ts : List Tr} [r : RetIs P σ B [a, b, c, d] ts] (he : e = .normal ∨ e = .ret) (k : Φ (tret ts)) : retT P [a, b, c, d] Φ e σ B := retT_go he k
end Go.Ideal

-- IdealTl
set_option linter.unusedSimpArgs false
set_option linter.unusedVariables false
namespace Go.Ideal
open Go Go.RowKit
variable {P : Program} {X : Cx} {E : Env} {σ : Nat → Tr} {B B' : Boxes} {ops : Array Oper} {K : TK} {l : List Oper} {d : Option Tmp} {ty : TypeId} {pos : String} {af : Array Edge} {H : List (Nat × Nat)} {F : Mem} {s : Nat → Value} {h : IHp} {held : Held}

/-! ### Loops over slices.Backward -/
/-- what is no cells may change -/
theorem TR.other {b : Nat} {o o' : IObj} (r : TR X F σ B s h) (a : AtIs h b o) (hn : ∀ c e x, o ≠ .cells c e x) (hb : X.h.fresh ≤ b) (hg : ∀ g ∈ X.G, g.1 / 2 ≠ b / 2) : TR X F σ B s (h.putObj b o') := by
  have hcell : ∀ b' off v, h.cell? b' off = some v → (h.putObj b o').cell? b' off = some v := by
    intro b' off v hc
    unfold IHp.cell? at *
    simp only [IHp.putObj]
    split
    · rename_i hbo; rw [if_pos hbo] at hc; exact hc
    · rename_i hbo
      rw [if_neg hbo] at hc
      have hne : b' / 2 ≠ b / 2 := by
        intro he
        rw [he, a.eq] at hc
        cases o with
        | cells c e x => exact hn _ _ _ rfl
        | _ => cases hc
      rw [List.getElem?_set_ne (fun h => hne h.symm)]; exact hc
  have hobj : ∀ b' vs t x, ObjIs h b' vs t x → ObjIs (h.putObj b o') b' vs t x := by
    intro b' vs t x oi
    have : NeB b' b := ⟨fun he => by
      have h1 := oi.eq
      rw [he, a.eq] at h1
      exact hn _ _ _ (Option.some.inj h1)⟩
    infer_instance
  refine ⟨r.ext.putObj hb, r.base, fun b' off v hf => hcell _ _ _ (r.sub _ _ _ hf), r.own, fun p hp => ?_, r.sep, r.dis, fun g hgm => ⟨⟨(r.gd g hgm).1.even, by
    simp only [IHp.putObj]
    rw [List.getElem?_set_ne (fun h => hg g hgm h.symm)]; exact (r.gd g hgm).1.eq⟩, (r.gd g hgm).2⟩, r.slot⟩
  have h1 := r.box p hp
  cases hx : p.2 with
  | cells cs t y => rw [hx] at h1; obtain ⟨vs, h2, h3⟩ := h1; exact ⟨vs, h2, hobj _ _ _ _ h3⟩
  | arr m rows t y =>
    rw [hx] at h1
    simp only [BoxRep] at h1 ⊢
    refine ⟨h1.1, ?_⟩
    rcases h1.2 with h2 | ⟨vs, h2, h3⟩
    · exact .inl h2
    · exact .inr ⟨vs, h2, hobj _ _ _ _ h3⟩
theorem TR.pushO {o : IObj} (r : TR X F σ B s h) : TR X F σ B s (h.push o) :=
  r.grow (Ext.push h o) (Sub.refl F) (fun b off v hf => cell_ext (Ext.push h o) (r.sub _ _ _ hf)) (fun b off v hf => .inl hf)
def FnPost (X : Cx) (Φ : Tr → Prop) : Value → IHp → Prop := fun v h' => Ext X.h h' ∧ ∃ F r, Sub X.F F ∧ Sub F h'.cell? ∧ (∀ b off v, F b off = some v → X.F b off = some v ∨ X.h.fresh ≤ b) ∧ Rep F r v ∧ Φ r
@[irreducible] def rangeT (X : Cx) (P : Program) (nt : Nat) (rs : List ResultVar) (f : Operand) (ps : Array Tmp) (ac bd t : Code) (Φ : Tr → Prop) : IExit → TK
  | .normal, σ, B => ∀ F s h, TR X F σ B s h → rangeK P nt rs f ps ac bd t (FnPost X Φ) .normal s h
  | e, σ, B => retT P rs Φ e σ B
theorem rangeT_ret {nt : Nat} {rs : List ResultVar} {f : Operand} {ps : Array Tmp} {ac bd t : Code} {Φ : Tr → Prop} (k : retT P rs Φ .ret σ B) : rangeT X P nt rs f ps ac bd t Φ .ret σ B := by unfold rangeT; exact k
/-- from the results' trees to what is asked of a function's end -/
theorem retK_of_retT {rs : List ResultVar} {Φ : Tr → Prop} {e : IExit} (r : TR X F σ B s h) (hk : retT P rs Φ e σ B) : retK P E rs (FnPost X Φ) e s h := by
  unfold retT at hk
  obtain ⟨he, ts, h3, h4⟩ := hk
  obtain ⟨ws, h5, h6⟩ := h3 _ F s h E r (thaw F B h) r.thawOk
  unfold retK
  refine ⟨he, ws, h5, r.ext, thaw F B h, tret ts, r.base.trans r.thawOk.sub, r.thawSub, fun b off v hf => ?_, ?_, h4⟩
  · rcases r.thawOwn b off v hf with h7 | h7
    · exact r.own b off v h7
    · exact .inr h7
  · have hl := h6.len
    match ts, ws, h6, hl with
    | [], [], _, _ => simp only [tret, iret, Rep]; exact ⟨[], rfl, RepL.nil⟩
    | [t], [v], h6, _ =>
      simp only [RepL] at h6
      obtain ⟨v', ws', h7, h8, _⟩ := h6
      simp only [List.cons.injEq] at h7
      obtain ⟨rfl, rfl⟩ := h7
      exact h8
    | t :: t2 :: ts, v :: v2 :: vs, h6, _ => simp only [tret, iret, Rep]; exact ⟨_, rfl, h6⟩
theorem TR.start {args : List Tr} {vs : List Value} {F0 : Mem} (h1 : Sub F0 h.cell?) (h2 : RepL F0 args vs) : TR ⟨h, F0, []⟩ F0 (argT args) [] (argS vs) h :=
  ⟨Ext.refl h, Sub.refl F0, h1, fun b off v hf => .inl hf, by simp, by simp, by simp, by simp, fun i => by
    by_cases hi : i < args.length
    · obtain ⟨v, h3, h4⟩ := h2.get (List.getElem?_eq_getElem hi)
      have h5 : argS vs i = v := by
        have hi2 := (List.getElem?_eq_some_iff.1 h3).1
        simp only [argS, Array.getD]
        rw [dif_pos (by simpa using hi2)]
        rw [List.getElem?_eq_getElem hi2] at h3
        simpa using Option.some.inj h3
      have h6 : argT args i = args[i] := by simp [argT, List.getD, hi]
      rw [h5, h6]; exact h4
    · have h5 : argS vs i = undef := by
        have := h2.len
        simp only [argS, Array.getD]
        rw [dif_neg (by simp; omega)]
      have h6 : argT args i = .v undef := by simp [argT, List.getD, hi]
      rw [h5, h6]; exact rep_v _⟩
theorem Fn_of_range {fid : FuncId} {fn : Func} {c a : Code} {id : Nat} {f : Operand} {ps : Array Tmp} {ac bd t : Code} {args : List Tr} {Φ : Tr → Prop} (hf : P.funcs[fid]? = some fn) (hb : fn.body = some c)
    (hs : splitR c = some (a, id, f, ps, ac, bd, t)) (hsz : args.length ≤ fn.ntmps)
    (hw : ∀ X, TV X P ⟨fn.ntmps, [], false⟩ a (rangeT X P fn.ntmps fn.results.toList f ps ac bd t Φ) (argT args) []) : Fn P fid args Φ := by
  unfold Fn
  intro F0 h vs h1 h2
  have hw := hw ⟨h, F0, []⟩
  unfold TV at hw
  refine EvX_of_range (Φ := FnPost ⟨h, F0, []⟩ Φ) hf hb hs (by rw [h2.len]; exact hsz) (V_mono ?_ (hw F0 _ h (TR.start h1 h2)))
  rintro e s' h' ⟨F', σ', B', r', hk⟩
  unfold rangeT at hk
  cases e with
  | normal => exact hk F' s' h' r'
  | exit j => simp only at hk; unfold retT at hk; obtain ⟨he, _⟩ := hk; rcases he with he | he <;> cases he
  | ret => unfold rangeK; exact retK_of_retT r' hk
/-- what slices.Backward's function does: from the last to the first -/
def BackSpec (P : Program) (G m : Nat) : Prop := ∀ (y bx off n cap : Nat) (sa : Option Addr) (cs : Nat → List Value) (I : Nat → IHp → Prop) (h : IHp), n < 2 ^ 62 →
    (∀ i h, i ≤ n → I i h → CellIs h bx off (.slice sa n cap)) → (∀ i h, i < n → I (i + 1) h → ∃ a, sa = some a ∧ RowIs h a.block (a.off + i * m) m (cs i)) →
    (∀ i h, i < n → I (i + 1) h → EvY P y [.int .i64 (i : Int), .agg (cs i).toArray].toArray h (fun v h' => v = .bool true ∧ I i h')) → I n h →
    EvX P G [.func (.yield y) #[] #[], .pointer (some (ad bx off))].toArray h (fun _ h' => I 0 h')
/-- a loop over slices.Backward of a slice that is read alone: the boxes change, the slots don't -/
theorem rangeT_back {nt G m : Nat} {rs : List ResultVar} {f : Operand} {p0 p1 : Tmp} {ac bd t : Code} {Φ : Tr → Prop} {rows : List (List Tr)} [cg : CallIs P G] (spec : BackSpec P G m) [e : TEval σ f (.fn G [] [.pf [.sl m rows]])] (J : Nat → Boxes → Prop) (hn : rows.length < 2 ^ 62)
    (first : J rows.length B)
    (round : ∀ X1 X2 i row B, rows[i]? = some row → J (i + 1) B → TV X1 P ⟨nt, [], true⟩ ac (fun e σ' B' => e = .normal ∧ TV X2 P ⟨nt, [], true⟩ bd (fun e σ' B' => e = .normal ∧ J i B') σ' B') (putT (putT σ (some p0) (.v (.int .i64 (i : Int)))) (some p1) (.agg row)) B)
    (last : ∀ B mk, J 0 B → ∀ X2, TV X2 P ⟨nt, [mk], false⟩ t (retT P rs Φ) σ B) : rangeT X P nt rs f #[p0, p1] ac bd t Φ .normal σ B := by
  unfold rangeT
  intro F s h r
  have hf := evalIs_self (s := s) (x := f) (h := h)
  have hf2 := e.eq F s r.slot h 0 [] false
  simp only [Rep, RepL] at hf2
  obtain ⟨va, vb, hf3, rfl, v1, _, rfl, ⟨bx, off, us, rfl, hrow, v2, _, rfl, ⟨sa, n, cap, rfl, hl, hc, _, _, hsa⟩, rfl⟩, rfl⟩ := hf2
  rw [hf3] at hf
  subst hl
  -- the rows' values
  have hcs : ∀ i, ∃ vs, ∀ row, rows[i]? = some row → RepL F row vs ∧ ∃ a, sa = some a ∧ rowM F a.block (a.off + i * m) m = some vs := by
    intro i
    cases hi : rows[i]? with
    | none => exact ⟨[], fun row hr => by cases hr⟩
    | some row =>
      cases sa with
      | none =>
        simp only at hsa
        have := (List.getElem?_eq_some_iff.1 hi).1
        omega
      | some a =>
        obtain ⟨vs, h1, h2⟩ := RepR.get hsa hi
        exact ⟨vs, fun row' hr => by cases hr; exact ⟨h2, a, rfl, h1⟩⟩
  obtain ⟨cs, hcs⟩ := Classical.axiomOfChoice hcs
  have hcell : F bx off = some (.slice sa rows.length cap) := by
    have := rowM_get hrow 0 (by simp)
    simpa using this
  obtain ⟨L, hL⟩ : ∃ L, L = IObj.loop nt s #[p0, p1] ac bd .ready none := ⟨_, rfl⟩
  obtain ⟨LB, hLB⟩ : ∃ L, L = IObj.loop nt s #[p0, p1] ac bd .busy none := ⟨_, rfl⟩
  have hLc : ∀ c e x, L ≠ .cells c e x := by intro c e x he; rw [hL] at he; cases he
  have hLBc : ∀ c e x, LB ≠ .cells c e x := by intro c e x he; rw [hLB] at he; cases he
  have hDc : ∀ c e x, IObj.defr ≠ .cells c e x := by intro c e x he; cases he
  have hlp : X.h.fresh ≤ h.fresh + 2 := Nat.le_trans r.ext.fresh (Nat.le_add_right _ _)
  have ndl : NeB h.fresh (h.fresh + 2) := ⟨by omega⟩
  have ndl' : NeB (h.fresh + 2) h.fresh := ⟨by omega⟩
  have hgl : ∀ g ∈ X.G, g.1 < h.fresh := fun g hg => (r.gd g hg).1.lt
  have hgne : ∀ g ∈ X.G, g.1 / 2 ≠ (h.fresh + 2) / 2 := fun g hg => by have := hgl g hg; unfold IHp.fresh at *; omega
  have hgnd : ∀ g ∈ X.G, g.1 / 2 ≠ h.fresh / 2 := fun g hg => by have := hgl g hg; unfold IHp.fresh at *; omega
  let I : Nat → IHp → Prop := fun i h' => ∃ F' B', TR X F' σ B' s h' ∧ Sub F F' ∧ J i B' ∧ AtIs h' h.fresh .defr ∧ AtIs h' (h.fresh + 2) L
  refine rangeK_go (g := G) (a := #[]) (c := #[.pointer (some (ad bx off))]) (Ψ := fun _ h3 => I 0 h3) ?_ ?_
  · have hA : ((#[] : Array Value) ++ #[.func (.yield (h.fresh + 2)) #[] #[]]) ++ #[.pointer (some (ad bx off))] = [.func (.yield (h.fresh + 2)) #[] #[], .pointer (some (ad bx off))].toArray := rfl
    rw [hA]
    refine spec (h.fresh + 2) bx off rows.length cap sa cs I _ hn ?_ ?_ ?_ ?_
    · rintro i h' _ ⟨F', B', r', hs, _, _, _⟩
      exact ⟨r'.sub _ _ _ (hs _ _ _ hcell)⟩
    · rintro i h' hi ⟨F', B', r', hs, _, _, _⟩
      obtain ⟨_, a, h2, h3⟩ := hcs i rows[i] (List.getElem?_eq_getElem hi)
      exact ⟨a, h2, r'.rowF (rowM_sub hs h3)⟩
    · rintro i h' hi ⟨F', B', r', hs, hJ, hD, hLo⟩
      obtain ⟨hrep, _⟩ := hcs i rows[i] (List.getElem?_eq_getElem hi)
      rw [hL] at hLo
      have hslots : putAll s ([p0, p1].zip [.int .i64 (i : Int), .agg (cs i).toArray]) = putS (putS s (some p0) (.int .i64 (i : Int))) (some p1) (.agg (cs i).toArray) := rfl
      refine EvY_of hLo rfl ?_
      show V P ⟨nt, [], true⟩ ac _ (putAll s ([p0, p1].zip [.int .i64 (i : Int), .agg (cs i).toArray])) h'
      rw [hslots]
      have r1 := (r'.put (d := some p0) (rep_v (.int .i64 (i : Int)))).put (d := some p1) (t := .agg rows[i]) (v := .agg (cs i).toArray) (by simp only [Rep]; exact ⟨_, rfl, hrep.sub hs⟩)
      have hround := round ⟨X.h, F, (h.fresh, .defr) :: (h.fresh + 2, L) :: X.G⟩ ⟨X.h, F, (h.fresh, .defr) :: (h.fresh + 2, LB) :: X.G⟩ i rows[i] B' (List.getElem?_eq_getElem hi) hJ
      unfold TV at hround
      have own1 : ∀ {F'' : Mem}, (∀ b off v, F'' b off = some v → X.F b off = some v ∨ X.h.fresh ≤ b) → ∀ b off v, F'' b off = some v → F b off = some v ∨ X.h.fresh ≤ b := fun ho b off v hf => by
        rcases ho b off v hf with h1 | h1
        · exact .inl (r.base _ _ _ h1)
        · exact .inr h1
      have own2 : ∀ {F'' : Mem}, (∀ b off v, F'' b off = some v → F b off = some v ∨ X.h.fresh ≤ b) → ∀ b off v, F'' b off = some v → X.F b off = some v ∨ X.h.fresh ≤ b := fun ho b off v hf => by
        rcases ho b off v hf with h1 | h1
        · exact r.own _ _ _ h1
        · exact .inr h1
      rw [← hL] at hLo
      have r2 : TR ⟨X.h, F, (h.fresh, .defr) :: (h.fresh + 2, L) :: X.G⟩ F' (putT (putT σ (some p0) (.v (.int .i64 (i : Int)))) (some p1) (.agg rows[i])) B' (putS (putS s (some p0) (.int .i64 (i : Int))) (some p1) (.agg (cs i).toArray)) h' :=
        ⟨r1.ext, hs, r1.sub, own1 r1.own, r1.box, r1.sep, r1.dis, fun g hg => by
          rcases List.mem_cons.1 hg with rfl | hg
          · exact ⟨hD, hDc⟩
          · rcases List.mem_cons.1 hg with rfl | hg
            · exact ⟨hLo, hLc⟩
            · exact r1.gd g hg, r1.slot⟩
      refine V_mono ?_ (hround F' _ h' r2)
      rintro e s2 h2 ⟨F2, σ2, B2, t2, rfl, hbd⟩
      have a2 := (t2.gd (h.fresh + 2, L) (by simp)).1
      have d2 := (t2.gd (h.fresh, .defr) (by simp)).1
      rw [hL] at a2
      refine roundK_go (i := a2) ?_
      rw [← hLB]
      rw [← hL] at a2
      have t3 : TR ⟨X.h, F, (h.fresh, .defr) :: (h.fresh + 2, LB) :: X.G⟩ F2 σ2 B2 s2 (h2.putObj (h.fresh + 2) LB) := by
        have u : TR ⟨X.h, F, X.G⟩ F2 σ2 B2 s2 h2 := ⟨t2.ext, t2.base, t2.sub, t2.own, t2.box, t2.sep, t2.dis, fun g hg => t2.gd g (List.mem_cons_of_mem _ (List.mem_cons_of_mem _ hg)), t2.slot⟩
        have u2 := u.other (o' := LB) a2 hLc hlp hgne
        refine ⟨u2.ext, u2.base, u2.sub, u2.own, u2.box, u2.sep, u2.dis, fun g hg => ?_, u2.slot⟩
        rcases List.mem_cons.1 hg with rfl | hg
        · exact ⟨inferInstance, hDc⟩
        · rcases List.mem_cons.1 hg with rfl | hg
          · exact ⟨a2.put, hLBc⟩
          · exact u2.gd g hg
      refine V_mono ?_ (hbd F2 s2 _ t3)
      rintro e s4 h4 ⟨F4, σ4, B4, t4, rfl, hJ4⟩
      have a4 := (t4.gd (h.fresh + 2, LB) (by simp)).1
      have d4 := (t4.gd (h.fresh, .defr) (by simp)).1
      rw [hLB] at a4
      refine roundK2_go (i := a4) ⟨rfl, ?_⟩
      rw [← hL]
      rw [← hLB] at a4
      have u4 : TR ⟨X.h, F, X.G⟩ F4 σ4 B4 s4 h4 := ⟨t4.ext, t4.base, t4.sub, t4.own, t4.box, t4.sep, t4.dis, fun g hg => t4.gd g (List.mem_cons_of_mem _ (List.mem_cons_of_mem _ hg)), t4.slot⟩
      have u5 := u4.other (o' := L) a4 hLBc hlp hgne
      exact ⟨F4, B4, ⟨u5.ext, r.base.trans u5.base, u5.sub, own2 u5.own, u5.box, u5.sep, u5.dis, u5.gd, fun j => (r.slot j).sub u5.base⟩, u5.base, hJ4, inferInstance, a4.put⟩
    · exact ⟨F, B, r.pushO.pushO, Sub.refl F, first, inferInstance, by
        have hf2 : (h.push .defr).fresh = h.fresh + 2 := push_fresh _ _
        rw [hL, ← hf2]; infer_instance⟩
  · rintro v h3 ⟨F', B', r', hs, hJ, hD, hLo⟩
    rw [hL] at hLo
    refine ⟨_, _, _, _, _, hLo, rfl, ?_⟩
    rw [← hL] at hLo
    obtain ⟨LE, hLE⟩ : ∃ L, L = IObj.loop nt s #[p0, p1] ac bd .exhausted none := ⟨_, rfl⟩
    rw [← hLE]
    have r2 := r'.other (o' := LE) hLo hLc hlp hgne
    have hl := last B' (h.fresh / 2) hJ ⟨X.h, X.F, (h.fresh, .defr) :: X.G⟩
    unfold TV at hl
    have r3 : TR ⟨X.h, X.F, (h.fresh, .defr) :: X.G⟩ F' σ B' s (h3.putObj (h.fresh + 2) LE) := ⟨r2.ext, r2.base, r2.sub, r2.own, r2.box, r2.sep, r2.dis, fun g hg => by
      rcases List.mem_cons.1 hg with rfl | hg
      · exact ⟨inferInstance, hDc⟩
      · exact r2.gd g hg, r2.slot⟩
    refine V_mono ?_ (hl F' s _ r3)
    rintro e s5 h5 ⟨F5, σ5, B5, t5, hk⟩
    have d5 := (t5.gd (h.fresh, .defr) (by simp)).1
    refine tailK_go (i := d5) ?_
    have u5 : TR X F5 σ5 B5 s5 h5 := ⟨t5.ext, t5.base, t5.sub, t5.own, t5.box, t5.sep, t5.dis, fun g hg => t5.gd g (List.mem_cons_of_mem _ hg), t5.slot⟩
    exact retK_of_retT (u5.other (o' := .dead) d5 hDc r.ext.fresh hgnd) hk
end Go.Ideal

-- IdealBr
set_option linter.unusedSimpArgs false
set_option linter.unusedVariables false
namespace Go.Ideal
open Go Go.RowKit

/-! ### What a reading of the arguments says of the ideal heap -/
def up (v : Value) : Value := (upv v).getD undef
def IRd (P : Program) (h : IHp) : Nat → TypeId → List Value → Prop
  | 0, _, _ => False
  | n + 1, t, cs =>
    match P.underlying t with
    | some .bool => ∃ b, cs = [.bool b]
    | some (.int k) => ∃ i, cs = [.int k i] ∧ (Lit.int k i).wf = true
    | some .string => ∃ s, cs = [.string s] ∧ s.size ≤ maxLen
    | some (.slice e) => cs = [.slice none 0 0] ∨ ∃ a l c, cs = [.slice (some a) l c] ∧ l ≤ c ∧ c ≤ maxLen ∧ (a.spot = none ∨ c = 0) ∧ ∀ i, i < c → ∃ row, h.row a.block (a.off + i * P.cellsOf e) (P.cellsOf e) = some row ∧ IRd P h n e row
    | some (.struct fs) => cs.length = P.cellsOf t ∧ ∀ (i : Nat) (f : Field), fs[i]? = some f → IRd P h n f.type ((cs.drop f.offset).take (P.cellsOf f.type))
    | _ => False
/-- the fields lie one behind the other -/
def tiles (P : Program) : List Field → Nat → Nat → Bool
  | [], at_, all => at_ == all
  | f :: fs, at_, all => f.offset == at_ && tiles P fs (at_ + P.cellsOf f.type) all
/-- plain data -/
def plainT (P : Program) : Nat → TypeId → Bool
  | 0, _ => false
  | n + 1, t =>
    match P.underlying t with
    | some .bool | some (.int _) | some .string => true
    | some (.slice e) => P.cellsOf e != 0 && plainT P n e
    | some (.struct fs) => tiles P fs.toList 0 (P.cellsOf t) && fs.toList.all fun f => plainT P n f.type
    | _ => false
theorem tiles_mem {P : Program} {cs : List Value} : ∀ (fs : List Field) (at_ : Nat), tiles P fs at_ cs.length = true → ∀ v ∈ cs.drop at_, ∃ f ∈ fs, v ∈ (cs.drop f.offset).take (P.cellsOf f.type) := by
  intro fs
  induction fs with
  | nil =>
    intro at_ h v hv
    simp only [tiles, beq_iff_eq] at h
    rw [List.drop_of_length_le (by omega)] at hv
    cases hv
  | cons f fs ih =>
    intro at_ h v hv
    simp only [tiles, Bool.and_eq_true, beq_iff_eq] at h
    obtain ⟨h1, h2⟩ := h
    rw [← List.take_append_drop (P.cellsOf f.type) (cs.drop at_)] at hv
    rcases List.mem_append.1 hv with h3 | h3
    · exact ⟨f, List.mem_cons_self, by rw [h1]; exact h3⟩
    · rw [List.drop_drop] at h3
      obtain ⟨g, h4, h5⟩ := ih _ h2 v h3
      exact ⟨g, List.mem_cons_of_mem _ h4, h5⟩
theorem up_of {v u : Value} (h : upv v = some u) : up v = u := by simp [up, h]
theorem mapM_cells {w : World} {a : Addr} (hs : a.spot = none) : ∀ (n k : Nat) (row : List Value), ((List.range' k n).mapM fun i => w.cell? (a.add i)) = some row → (∀ v ∈ row, (upv v).isSome = true) → (heapOf w).row (2 * a.block + 1) (a.off + k) n = some (row.map up) := by
  intro n
  induction n with
  | zero => intro k row h _; simp at h; subst h; rfl
  | succ n ih =>
    intro k row h hup
    rw [List.range'_succ, List.mapM_cons] at h
    cases h1 : w.cell? (a.add k) with
    | none => simp [h1] at h
    | some v =>
      cases h2 : (List.range' (k + 1) n).mapM fun i => w.cell? (a.add i) with
      | none => simp [h1, h2] at h
      | some vs =>
        simp [h1, h2] at h
        subst h
        have h3 := ih (k + 1) vs h2 (fun v hv => hup v (List.mem_cons_of_mem _ hv))
        obtain ⟨u, hu⟩ := Option.isSome_iff_exists.1 (hup v List.mem_cons_self)
        have hadd : a.add k = ⟨a.block, a.off + k, none⟩ := by
          unfold Addr.add
          split
          · rename_i h0; subst h0; cases a; simp at hs; subst hs; rfl
          · rfl
        rw [hadd] at h1
        have hb : a.block < w.heap.size := by
          simp only [World.cell?] at h1
          split at h1
          · rename_i hx; exact (Array.getElem?_eq_some_iff.1 hx).1
          · cases h1
        have h4 : (heapOf w).cell? (2 * a.block + 1) (a.off + k) = some u := by
          simp only [IHp.cell?, heapOf]
          rw [if_pos (by omega), show (2 * a.block + 1) / 2 = a.block by omega, if_pos hb, h1]
          exact hu
        simp only [IHp.row, h4, Option.bind_some, show a.off + k + 1 = a.off + (k + 1) by omega, h3, List.map_cons, up_of hu]
theorem irow {w : World} {a : Addr} {n : Nat} {row : List Value} (hs : a.spot = none) (h : w.cells? 0 a n = some row) (hup : ∀ v ∈ row, (upv v).isSome = true) : (heapOf w).row (2 * a.block + 1) a.off n = some (row.map up) := by
  simp only [World.cells?, Nat.zero_le, if_true] at h
  rw [List.range_eq_range'] at h
  simpa using mapM_cells hs n 0 row h hup
section
variable {H : Type} {enc : TypeId × Value → H} {P : Program} {w : World} {held : Bool}
theorem bridge : ∀ (N : Nat) (t : TypeId) (fuel : Nat) (cs : List Value) (x : DataW H × List MemPlace), plainT P N t = true → DataW.trod enc P w 0 (fun _ => true) held fuel t cs = some x → (∀ v ∈ cs, (upv v).isSome = true) ∧ IRd P (heapOf w) N t (cs.map up) := by
  intro N
  induction N with
  | zero => intro t fuel cs x h; simp [plainT] at h
  | succ N ih =>
    intro t fuel cs x hp h
    rw [plainT] at hp
    rw [IRd]
    split at hp
    · rename_i hu
      obtain ⟨b, rfl, _⟩ := DataW.trod_bool hu h
      exact ⟨by simp [upv], b, by simp [up, upv]⟩
    · rename_i k hu
      obtain ⟨i, rfl, _, hw⟩ := DataW.trod_int hu h
      exact ⟨by simp [upv], i, by simp [up, upv], hw⟩
    · rename_i hu
      obtain ⟨s, rfl, _, hw⟩ := DataW.trod_string hu h
      exact ⟨by simp [upv], s, by simp [up, upv], hw⟩
    · rename_i e hu
      simp only [Bool.and_eq_true, bne_iff_ne, ne_eq] at hp
      obtain ⟨hn, hpe⟩ := hp
      rcases DataW.trod_slice hu h with ⟨rfl, _⟩ | ⟨a, l, c, elems, rest, m, rfl, rfl, _, _, hlc, hcm, hel, he, hr, _⟩
      · exact ⟨by simp [upv], .inl (by simp [up, upv])⟩
      · obtain ⟨hrl, hr⟩ := hr rfl
        have hat : ∀ i, i < c → ∃ row y, w.cells? 0 (a.add (i * P.cellsOf e)) (P.cellsOf e) = some row ∧ DataW.trod enc P w 0 (fun _ => true) held m e row = some y := by
          intro i hi
          by_cases hil : i < l
          · have h1 := he i hil
            rw [List.getElem?_eq_getElem (by omega)] at h1
            simp only [Option.bind_eq_some_iff] at h1
            obtain ⟨row, h2, h3⟩ := h1
            exact ⟨row, _, h2, h3⟩
          · have h1 := hr (i - l) (by omega)
            rw [List.getElem?_eq_getElem (by omega), show l + (i - l) = i by omega] at h1
            simp only [Option.bind_eq_some_iff] at h1
            obtain ⟨row, h2, h3⟩ := h1
            exact ⟨row, _, h2, h3⟩
        by_cases hs : a.spot = none
        · have hup : upv (.slice (some a) l c) = some (.slice (some { block := 2 * a.block + 1, off := a.off }) l c) := by simp [upv, hs]
          refine ⟨by simp [hup], .inr ⟨{ block := 2 * a.block + 1, off := a.off }, l, c, by simp [up_of hup], hlc, hcm, .inl rfl, fun i hi => ?_⟩⟩
          obtain ⟨row, y, h1, h2⟩ := hat i hi
          obtain ⟨h3, h4⟩ := ih e m row y hpe h2
          refine ⟨row.map up, ?_, h4⟩
          have hsp : (a.add (i * P.cellsOf e)).spot = none := by unfold Addr.add; split <;> simp [hs]
          have h5 := irow hsp h1 h3
          have hblk : (a.add (i * P.cellsOf e)).block = a.block := by unfold Addr.add; split <;> rfl
          have hoff : (a.add (i * P.cellsOf e)).off = a.off + i * P.cellsOf e := by unfold Addr.add; split <;> simp_all
          rw [hblk, hoff] at h5
          exact h5
        · have hc0 : c = 0 := by
            apply Decidable.byContradiction
            intro hc
            obtain ⟨row, y, h1, _⟩ := hat 0 (by omega)
            have ha0 : a.add (0 * P.cellsOf e) = a := by simp [Addr.add]
            rw [ha0] at h1
            simp only [World.cells?, Nat.zero_le, if_true] at h1
            obtain ⟨m', hm'⟩ : ∃ m', P.cellsOf e = m' + 1 := ⟨P.cellsOf e - 1, by omega⟩
            rw [hm', List.range_succ_eq_map, List.mapM_cons] at h1
            have : w.cell? (a.add 0) = none := by
              simp only [World.cell?, Addr.add, if_true]
              split
              · rw [if_pos]; cases hsp : a.spot with
                | none => exact absurd hsp hs
                | some _ => rfl
              · rfl
            rw [this] at h1
            simp at h1
          have hl0 : l = 0 := by omega
          subst hc0; subst hl0
          have hup : upv (.slice (some a) 0 0) = some (.slice (some a) 0 0) := by simp [upv, hs]
          exact ⟨by simp [hup], .inr ⟨a, 0, 0, by simp [up_of hup], Nat.le_refl _, Nat.zero_le _, .inr rfl, fun i hi => absurd hi (Nat.not_lt_zero i)⟩⟩
    · rename_i fs hu
      simp only [Bool.and_eq_true, List.all_eq_true] at hp
      obtain ⟨htile, hall⟩ := hp
      obtain ⟨xs, m, rfl, _, hlen, hxl, hf⟩ := DataW.trod_struct hu h
      have hfield : ∀ (i : Nat) (f : Field), fs[i]? = some f → (∀ v ∈ (cs.drop f.offset).take (P.cellsOf f.type), (upv v).isSome = true) ∧ IRd P (heapOf w) N f.type (((cs.drop f.offset).take (P.cellsOf f.type)).map up) := by
        intro i f hfi
        have h1 := hf i f hfi
        have hi : i < xs.length := by rw [hxl]; exact (Array.getElem?_eq_some_iff.1 hfi).1
        rw [List.getElem?_eq_getElem hi] at h1
        exact ih _ _ _ _ (hall f (by rw [Array.mem_toList_iff]; exact Array.mem_of_getElem? hfi)) h1
      refine ⟨fun v hv => ?_, by simpa using hlen, fun i f hfi => ?_⟩
      · rw [← hlen] at htile
        obtain ⟨f, h1, h2⟩ := tiles_mem fs.toList 0 htile v (by simpa using hv)
        obtain ⟨i, hi⟩ := Array.mem_iff_getElem?.1 (Array.mem_toList_iff.1 h1)
        exact (hfield i f hi).1 v h2
      · have := (hfield i f hfi).2
        simpa [List.map_take, List.map_drop] using this
    · cases hp
/-- an argument -/
def upA : Value → Value
  | .agg cs => .agg (cs.toList.map up).toArray
  | v => up v
theorem RA_up {ρ : RM} {cs : Array Value} (h : ∀ v ∈ cs.toList, (upv v).isSome = true) : RA ρ (cs.toList.map up).toArray cs := by
  refine ⟨by simp, fun i hi => ?_⟩
  have hi' : i < cs.size := by simpa using hi
  obtain ⟨u, hu⟩ := Option.isSome_iff_exists.1 (h cs[i] (by simp))
  have h1 : (cs.toList.map up).toArray[i] = u := by simp [up_of hu]
  rw [h1]
  have h2 : cs.getD i undef = cs[i] := by simp [Array.getD, hi']
  rw [h2]
  exact upv_R hu
theorem bridge_struct {N base : Nat} {t : TypeId} {fs : Array Field} {v : Value} {d : DataW H} {p : List MemPlace} (hu : P.underlying t = some (.struct fs)) (hp : plainT P N t = true) (hv : Value.okWide P w .any base t v) (h : DataW.Trod enc P w 0 (fun _ => true) held t v d p) :
    R RM0 (upA v) v ∧ ∃ cs : List Value, upA v = .agg cs.toArray ∧ IRd P (heapOf w) N t cs := by
  simp only [Value.okWide, hu] at hv
  obtain ⟨cs, rfl, _, _⟩ := hv
  obtain ⟨fuel, h⟩ := h
  obtain ⟨h1, h2⟩ := bridge N t fuel _ _ hp h
  exact ⟨by rw [upA, R_agg]; exact ⟨cs, rfl, RA_up h1⟩, _, rfl, h2⟩
end
end Go.Ideal

-- R1Ty
set_option linter.unusedSimpArgs false
set_option linter.unusedVariables false
namespace Go.Ideal
open Go Go.Proofs
instance : SizeIs Try.prog 1 1 := ⟨by kernel_rfl⟩
instance : AggIs Try.prog 1 false := ⟨by kernel_rfl⟩
instance : ZeroIs Try.prog 1 (Value.nilFunc) := ⟨by kernel_rfl⟩
instance : BytesIs Try.prog 1 1 8 := ⟨Try.t1, _, by kernel_rfl, rfl, rfl, rfl, rfl, by decide, by decide⟩
instance : UnderIs Try.prog 2 (.int IntKind.i64) := ⟨Try.underlying2⟩
instance : SizeIs Try.prog 2 1 := ⟨by kernel_rfl⟩
instance : AggIs Try.prog 2 false := ⟨by kernel_rfl⟩
instance : ZeroIs Try.prog 2 ((Value.int IntKind.i64 0)) := ⟨by kernel_rfl⟩
instance : BytesIs Try.prog 2 1 8 := ⟨Try.t2, _, by kernel_rfl, rfl, rfl, rfl, rfl, by decide, by decide⟩
instance : UnderIs Try.prog 3 (.int IntKind.i64) := ⟨Try.underlying3⟩
instance : SizeIs Try.prog 3 1 := ⟨by kernel_rfl⟩
instance : AggIs Try.prog 3 false := ⟨by kernel_rfl⟩
instance : ZeroIs Try.prog 3 ((Value.int IntKind.i64 0)) := ⟨by kernel_rfl⟩
instance : BytesIs Try.prog 3 1 8 := ⟨Try.t3, _, by kernel_rfl, rfl, rfl, rfl, rfl, by decide, by decide⟩
instance : UnderIs Try.prog 4 (.bool) := ⟨Try.underlying4⟩
instance : SizeIs Try.prog 4 1 := ⟨by kernel_rfl⟩
instance : AggIs Try.prog 4 false := ⟨by kernel_rfl⟩
instance : ZeroIs Try.prog 4 ((Value.bool false)) := ⟨by kernel_rfl⟩
instance : BytesIs Try.prog 4 1 1 := ⟨Try.t4, _, by kernel_rfl, rfl, rfl, rfl, rfl, by decide, by decide⟩
instance : UnderIs Try.prog 5 (.int IntKind.u8) := ⟨Try.underlying5⟩
instance : SizeIs Try.prog 5 1 := ⟨by kernel_rfl⟩
instance : AggIs Try.prog 5 false := ⟨by kernel_rfl⟩
instance : ZeroIs Try.prog 5 ((Value.int IntKind.u8 0)) := ⟨by kernel_rfl⟩
instance : BytesIs Try.prog 5 1 1 := ⟨Try.t5, _, by kernel_rfl, rfl, rfl, rfl, rfl, by decide, by decide⟩
instance : UnderIs Try.prog 6 (.int IntKind.u8) := ⟨Try.underlying6⟩
instance : SizeIs Try.prog 6 1 := ⟨by kernel_rfl⟩
instance : AggIs Try.prog 6 false := ⟨by kernel_rfl⟩
instance : ZeroIs Try.prog 6 ((Value.int IntKind.u8 0)) := ⟨by kernel_rfl⟩
instance : BytesIs Try.prog 6 1 1 := ⟨Try.t6, _, by kernel_rfl, rfl, rfl, rfl, rfl, by decide, by decide⟩
instance : FieldIs Try.prog 7 0 0 2 1 := ⟨_, _, Try.underlying7, rfl, rfl, rfl, by kernel_rfl, by decide⟩
instance : FieldIs Try.prog 7 1 1 3 1 := ⟨_, _, Try.underlying7, rfl, rfl, rfl, by kernel_rfl, by decide⟩
instance : FieldIs Try.prog 7 2 2 4 1 := ⟨_, _, Try.underlying7, rfl, rfl, rfl, by kernel_rfl, by decide⟩
instance : FieldIs Try.prog 7 3 3 6 1 := ⟨_, _, Try.underlying7, rfl, rfl, rfl, by kernel_rfl, by decide⟩
instance : StructOk Try.prog 7 := ⟨_, Try.underlying7, by kernel_rfl⟩
instance : SizeIs Try.prog 7 4 := ⟨by kernel_rfl⟩
instance : AggIs Try.prog 7 true := ⟨by kernel_rfl⟩
instance : ZeroIs Try.prog 7 ((Value.agg #[Value.int IntKind.i64 0, Value.int IntKind.i64 0, Value.bool false, Value.int IntKind.u8 0])) := ⟨by kernel_rfl⟩
instance : BytesIs Try.prog 7 4 24 := ⟨Try.t7, _, by kernel_rfl, rfl, rfl, rfl, rfl, by decide, by decide⟩
instance : FieldIs Try.prog 8 0 0 2 1 := ⟨_, _, Try.underlying8, rfl, rfl, rfl, by kernel_rfl, by decide⟩
instance : FieldIs Try.prog 8 1 1 3 1 := ⟨_, _, Try.underlying8, rfl, rfl, rfl, by kernel_rfl, by decide⟩
instance : FieldIs Try.prog 8 2 2 4 1 := ⟨_, _, Try.underlying8, rfl, rfl, rfl, by kernel_rfl, by decide⟩
instance : FieldIs Try.prog 8 3 3 6 1 := ⟨_, _, Try.underlying8, rfl, rfl, rfl, by kernel_rfl, by decide⟩
instance : StructOk Try.prog 8 := ⟨_, Try.underlying8, by kernel_rfl⟩
instance : SizeIs Try.prog 8 4 := ⟨by kernel_rfl⟩
instance : AggIs Try.prog 8 true := ⟨by kernel_rfl⟩
instance : ZeroIs Try.prog 8 ((Value.agg #[Value.int IntKind.i64 0, Value.int IntKind.i64 0, Value.bool false, Value.int IntKind.u8 0])) := ⟨by kernel_rfl⟩
instance : BytesIs Try.prog 8 4 24 := ⟨Try.t8, _, by kernel_rfl, rfl, rfl, rfl, rfl, by decide, by decide⟩
instance : UnderIs Try.prog 9 (.string) := ⟨Try.underlying9⟩
instance : SizeIs Try.prog 9 1 := ⟨by kernel_rfl⟩
instance : AggIs Try.prog 9 false := ⟨by kernel_rfl⟩
instance : ZeroIs Try.prog 9 ((Value.string ByteArray.empty)) := ⟨by kernel_rfl⟩
instance : BytesIs Try.prog 9 1 16 := ⟨Try.t9, _, by kernel_rfl, rfl, rfl, rfl, rfl, by decide, by decide⟩
instance : UnderIs Try.prog 10 (.string) := ⟨Try.underlying10⟩
instance : SizeIs Try.prog 10 1 := ⟨by kernel_rfl⟩
instance : AggIs Try.prog 10 false := ⟨by kernel_rfl⟩
instance : ZeroIs Try.prog 10 ((Value.string ByteArray.empty)) := ⟨by kernel_rfl⟩
instance : BytesIs Try.prog 10 1 16 := ⟨Try.t10, _, by kernel_rfl, rfl, rfl, rfl, rfl, by decide, by decide⟩
instance : UnderIs Try.prog 11 (.string) := ⟨Try.underlying11⟩
instance : SizeIs Try.prog 11 1 := ⟨by kernel_rfl⟩
instance : AggIs Try.prog 11 false := ⟨by kernel_rfl⟩
instance : ZeroIs Try.prog 11 ((Value.string ByteArray.empty)) := ⟨by kernel_rfl⟩
instance : BytesIs Try.prog 11 1 16 := ⟨Try.t11, _, by kernel_rfl, rfl, rfl, rfl, rfl, by decide, by decide⟩
instance : UnderIs Try.prog 12 (.int IntKind.u64) := ⟨Try.underlying12⟩
instance : SizeIs Try.prog 12 1 := ⟨by kernel_rfl⟩
instance : AggIs Try.prog 12 false := ⟨by kernel_rfl⟩
instance : ZeroIs Try.prog 12 ((Value.int IntKind.u64 0)) := ⟨by kernel_rfl⟩
instance : BytesIs Try.prog 12 1 8 := ⟨Try.t12, _, by kernel_rfl, rfl, rfl, rfl, rfl, by decide, by decide⟩
instance : FieldIs Try.prog 13 0 0 9 1 := ⟨_, _, Try.underlying13, rfl, rfl, rfl, by kernel_rfl, by decide⟩
instance : FieldIs Try.prog 13 1 1 12 1 := ⟨_, _, Try.underlying13, rfl, rfl, rfl, by kernel_rfl, by decide⟩
instance : StructOk Try.prog 13 := ⟨_, Try.underlying13, by kernel_rfl⟩
instance : SizeIs Try.prog 13 2 := ⟨by kernel_rfl⟩
instance : AggIs Try.prog 13 true := ⟨by kernel_rfl⟩
instance : ZeroIs Try.prog 13 ((Value.agg #[Value.string ByteArray.empty, Value.int IntKind.u64 0])) := ⟨by kernel_rfl⟩
instance : BytesIs Try.prog 13 2 24 := ⟨Try.t13, _, by kernel_rfl, rfl, rfl, rfl, rfl, by decide, by decide⟩
instance : FieldIs Try.prog 14 0 0 9 1 := ⟨_, _, Try.underlying14, rfl, rfl, rfl, by kernel_rfl, by decide⟩
instance : FieldIs Try.prog 14 1 1 12 1 := ⟨_, _, Try.underlying14, rfl, rfl, rfl, by kernel_rfl, by decide⟩
instance : StructOk Try.prog 14 := ⟨_, Try.underlying14, by kernel_rfl⟩
instance : SizeIs Try.prog 14 2 := ⟨by kernel_rfl⟩
instance : AggIs Try.prog 14 true := ⟨by kernel_rfl⟩
instance : ZeroIs Try.prog 14 ((Value.agg #[Value.string ByteArray.empty, Value.int IntKind.u64 0])) := ⟨by kernel_rfl⟩
instance : BytesIs Try.prog 14 2 24 := ⟨Try.t14, _, by kernel_rfl, rfl, rfl, rfl, rfl, by decide, by decide⟩
instance : UnderIs Try.prog 15 (.pointer 186) := ⟨Try.underlying15⟩
instance : SizeIs Try.prog 15 1 := ⟨by kernel_rfl⟩
instance : AggIs Try.prog 15 false := ⟨by kernel_rfl⟩
instance : ZeroIs Try.prog 15 ((Value.pointer none)) := ⟨by kernel_rfl⟩
instance : BytesIs Try.prog 15 1 8 := ⟨Try.t15, _, by kernel_rfl, rfl, rfl, rfl, rfl, by decide, by decide⟩
instance : UnderIs Try.prog 16 (.pointer 189) := ⟨Try.underlying16⟩
instance : SizeIs Try.prog 16 1 := ⟨by kernel_rfl⟩
instance : AggIs Try.prog 16 false := ⟨by kernel_rfl⟩
instance : ZeroIs Try.prog 16 ((Value.pointer none)) := ⟨by kernel_rfl⟩
instance : BytesIs Try.prog 16 1 8 := ⟨Try.t16, _, by kernel_rfl, rfl, rfl, rfl, rfl, by decide, by decide⟩
instance : UnderIs Try.prog 17 (.pointer 199) := ⟨Try.underlying17⟩
instance : SizeIs Try.prog 17 1 := ⟨by kernel_rfl⟩
instance : AggIs Try.prog 17 false := ⟨by kernel_rfl⟩
instance : ZeroIs Try.prog 17 ((Value.pointer none)) := ⟨by kernel_rfl⟩
instance : BytesIs Try.prog 17 1 8 := ⟨Try.t17, _, by kernel_rfl, rfl, rfl, rfl, rfl, by decide, by decide⟩
instance : FieldIs Try.prog 18 0 0 17 1 := ⟨_, _, Try.underlying18, rfl, rfl, rfl, by kernel_rfl, by decide⟩
instance : StructOk Try.prog 18 := ⟨_, Try.underlying18, by kernel_rfl⟩
instance : SizeIs Try.prog 18 1 := ⟨by kernel_rfl⟩
instance : AggIs Try.prog 18 true := ⟨by kernel_rfl⟩
instance : ZeroIs Try.prog 18 ((Value.agg #[Value.pointer none])) := ⟨by kernel_rfl⟩
instance : BytesIs Try.prog 18 1 8 := ⟨Try.t18, _, by kernel_rfl, rfl, rfl, rfl, rfl, by decide, by decide⟩
instance : FieldIs Try.prog 19 0 0 17 1 := ⟨_, _, Try.underlying19, rfl, rfl, rfl, by kernel_rfl, by decide⟩
instance : StructOk Try.prog 19 := ⟨_, Try.underlying19, by kernel_rfl⟩
instance : SizeIs Try.prog 19 1 := ⟨by kernel_rfl⟩
instance : AggIs Try.prog 19 true := ⟨by kernel_rfl⟩
instance : ZeroIs Try.prog 19 ((Value.agg #[Value.pointer none])) := ⟨by kernel_rfl⟩
instance : BytesIs Try.prog 19 1 8 := ⟨Try.t19, _, by kernel_rfl, rfl, rfl, rfl, rfl, by decide, by decide⟩
instance : UnderIs Try.prog 21 (.int IntKind.i32) := ⟨Try.underlying21⟩
instance : SizeIs Try.prog 21 1 := ⟨by kernel_rfl⟩
instance : AggIs Try.prog 21 false := ⟨by kernel_rfl⟩
instance : ZeroIs Try.prog 21 ((Value.int IntKind.i32 0)) := ⟨by kernel_rfl⟩
instance : BytesIs Try.prog 21 1 4 := ⟨Try.t21, _, by kernel_rfl, rfl, rfl, rfl, rfl, by decide, by decide⟩
instance : UnderIs Try.prog 22 (.slice 25) := ⟨Try.underlying22⟩
instance : SizeIs Try.prog 22 1 := ⟨by kernel_rfl⟩
instance : AggIs Try.prog 22 false := ⟨by kernel_rfl⟩
instance : ZeroIs Try.prog 22 ((Value.slice none 0 0)) := ⟨by kernel_rfl⟩
instance : BytesIs Try.prog 22 1 24 := ⟨Try.t22, _, by kernel_rfl, rfl, rfl, rfl, rfl, by decide, by decide⟩
instance : FieldIs Try.prog 23 0 0 3 1 := ⟨_, _, Try.underlying23, rfl, rfl, rfl, by kernel_rfl, by decide⟩
instance : FieldIs Try.prog 23 1 1 22 1 := ⟨_, _, Try.underlying23, rfl, rfl, rfl, by kernel_rfl, by decide⟩
instance : StructOk Try.prog 23 := ⟨_, Try.underlying23, by kernel_rfl⟩
instance : SizeIs Try.prog 23 2 := ⟨by kernel_rfl⟩
instance : AggIs Try.prog 23 true := ⟨by kernel_rfl⟩
instance : ZeroIs Try.prog 23 ((Value.agg #[Value.int IntKind.i64 0, Value.slice none 0 0])) := ⟨by kernel_rfl⟩
instance : BytesIs Try.prog 23 2 32 := ⟨Try.t23, _, by kernel_rfl, rfl, rfl, rfl, rfl, by decide, by decide⟩
instance : FieldIs Try.prog 24 0 0 3 1 := ⟨_, _, Try.underlying24, rfl, rfl, rfl, by kernel_rfl, by decide⟩
instance : FieldIs Try.prog 24 1 1 22 1 := ⟨_, _, Try.underlying24, rfl, rfl, rfl, by kernel_rfl, by decide⟩
instance : StructOk Try.prog 24 := ⟨_, Try.underlying24, by kernel_rfl⟩
instance : SizeIs Try.prog 24 2 := ⟨by kernel_rfl⟩
instance : AggIs Try.prog 24 true := ⟨by kernel_rfl⟩
instance : ZeroIs Try.prog 24 ((Value.agg #[Value.int IntKind.i64 0, Value.slice none 0 0])) := ⟨by kernel_rfl⟩
instance : BytesIs Try.prog 24 2 32 := ⟨Try.t24, _, by kernel_rfl, rfl, rfl, rfl, rfl, by decide, by decide⟩
instance : UnderIs Try.prog 25 (.int IntKind.u64) := ⟨Try.underlying25⟩
instance : SizeIs Try.prog 25 1 := ⟨by kernel_rfl⟩
instance : AggIs Try.prog 25 false := ⟨by kernel_rfl⟩
instance : ZeroIs Try.prog 25 ((Value.int IntKind.u64 0)) := ⟨by kernel_rfl⟩
instance : BytesIs Try.prog 25 1 8 := ⟨Try.t25, _, by kernel_rfl, rfl, rfl, rfl, rfl, by decide, by decide⟩
instance : SizeIs Try.prog 26 1 := ⟨by kernel_rfl⟩
instance : AggIs Try.prog 26 false := ⟨by kernel_rfl⟩
instance : ZeroIs Try.prog 26 (Value.nilFunc) := ⟨by kernel_rfl⟩
instance : BytesIs Try.prog 26 1 8 := ⟨Try.t26, _, by kernel_rfl, rfl, rfl, rfl, rfl, by decide, by decide⟩
instance : UnderIs Try.prog 27 (.int IntKind.i64) := ⟨Try.underlying27⟩
instance : SizeIs Try.prog 27 1 := ⟨by kernel_rfl⟩
instance : AggIs Try.prog 27 false := ⟨by kernel_rfl⟩
instance : ZeroIs Try.prog 27 ((Value.int IntKind.i64 0)) := ⟨by kernel_rfl⟩
instance : BytesIs Try.prog 27 1 8 := ⟨Try.t27, _, by kernel_rfl, rfl, rfl, rfl, rfl, by decide, by decide⟩
instance : SizeIs Try.prog 28 1 := ⟨by kernel_rfl⟩
instance : AggIs Try.prog 28 false := ⟨by kernel_rfl⟩
instance : ZeroIs Try.prog 28 (Value.nilFunc) := ⟨by kernel_rfl⟩
instance : BytesIs Try.prog 28 1 8 := ⟨Try.t28, _, by kernel_rfl, rfl, rfl, rfl, rfl, by decide, by decide⟩
instance : SizeIs Try.prog 29 1 := ⟨by kernel_rfl⟩
instance : AggIs Try.prog 29 false := ⟨by kernel_rfl⟩
instance : ZeroIs Try.prog 29 (Value.nilFunc) := ⟨by kernel_rfl⟩
instance : BytesIs Try.prog 29 1 8 := ⟨Try.t29, _, by kernel_rfl, rfl, rfl, rfl, rfl, by decide, by decide⟩
instance : SizeIs Try.prog 31 1 := ⟨by kernel_rfl⟩
instance : AggIs Try.prog 31 false := ⟨by kernel_rfl⟩
instance : ZeroIs Try.prog 31 (Value.nilFunc) := ⟨by kernel_rfl⟩
instance : BytesIs Try.prog 31 1 8 := ⟨Try.t31, _, by kernel_rfl, rfl, rfl, rfl, rfl, by decide, by decide⟩
instance : SizeIs Try.prog 33 1 := ⟨by kernel_rfl⟩
instance : AggIs Try.prog 33 false := ⟨by kernel_rfl⟩
instance : ZeroIs Try.prog 33 (Value.nilFunc) := ⟨by kernel_rfl⟩
instance : BytesIs Try.prog 33 1 8 := ⟨Try.t33, _, by kernel_rfl, rfl, rfl, rfl, rfl, by decide, by decide⟩
instance : SizeIs Try.prog 34 1 := ⟨by kernel_rfl⟩
instance : AggIs Try.prog 34 false := ⟨by kernel_rfl⟩
instance : ZeroIs Try.prog 34 (Value.nilFunc) := ⟨by kernel_rfl⟩
instance : BytesIs Try.prog 34 1 8 := ⟨Try.t34, _, by kernel_rfl, rfl, rfl, rfl, rfl, by decide, by decide⟩
instance : SizeIs Try.prog 35 1 := ⟨by kernel_rfl⟩
instance : AggIs Try.prog 35 false := ⟨by kernel_rfl⟩
instance : ZeroIs Try.prog 35 (Value.nilFunc) := ⟨by kernel_rfl⟩
instance : BytesIs Try.prog 35 1 8 := ⟨Try.t35, _, by kernel_rfl, rfl, rfl, rfl, rfl, by decide, by decide⟩
instance : SizeIs Try.prog 36 1 := ⟨by kernel_rfl⟩
instance : AggIs Try.prog 36 false := ⟨by kernel_rfl⟩
instance : ZeroIs Try.prog 36 (Value.nilFunc) := ⟨by kernel_rfl⟩
instance : BytesIs Try.prog 36 1 8 := ⟨Try.t36, _, by kernel_rfl, rfl, rfl, rfl, rfl, by decide, by decide⟩
instance : SizeIs Try.prog 38 1 := ⟨by kernel_rfl⟩
instance : AggIs Try.prog 38 false := ⟨by kernel_rfl⟩
instance : ZeroIs Try.prog 38 (Value.nilFunc) := ⟨by kernel_rfl⟩
instance : BytesIs Try.prog 38 1 8 := ⟨Try.t38, _, by kernel_rfl, rfl, rfl, rfl, rfl, by decide, by decide⟩
instance : SizeIs Try.prog 40 1 := ⟨by kernel_rfl⟩
instance : AggIs Try.prog 40 false := ⟨by kernel_rfl⟩
instance : ZeroIs Try.prog 40 (Value.nilFunc) := ⟨by kernel_rfl⟩
instance : BytesIs Try.prog 40 1 8 := ⟨Try.t40, _, by kernel_rfl, rfl, rfl, rfl, rfl, by decide, by decide⟩
instance : SizeIs Try.prog 42 1 := ⟨by kernel_rfl⟩
instance : AggIs Try.prog 42 false := ⟨by kernel_rfl⟩
instance : ZeroIs Try.prog 42 (Value.nilFunc) := ⟨by kernel_rfl⟩
instance : BytesIs Try.prog 42 1 8 := ⟨Try.t42, _, by kernel_rfl, rfl, rfl, rfl, rfl, by decide, by decide⟩
instance : SizeIs Try.prog 44 1 := ⟨by kernel_rfl⟩
instance : AggIs Try.prog 44 false := ⟨by kernel_rfl⟩
instance : ZeroIs Try.prog 44 (Value.nilFunc) := ⟨by kernel_rfl⟩
instance : BytesIs Try.prog 44 1 8 := ⟨Try.t44, _, by kernel_rfl, rfl, rfl, rfl, rfl, by decide, by decide⟩
instance : SizeIs Try.prog 45 1 := ⟨by kernel_rfl⟩
instance : AggIs Try.prog 45 false := ⟨by kernel_rfl⟩
instance : ZeroIs Try.prog 45 (Value.nilFunc) := ⟨by kernel_rfl⟩
instance : BytesIs Try.prog 45 1 8 := ⟨Try.t45, _, by kernel_rfl, rfl, rfl, rfl, rfl, by decide, by decide⟩
instance : SizeIs Try.prog 46 1 := ⟨by kernel_rfl⟩
instance : AggIs Try.prog 46 false := ⟨by kernel_rfl⟩
instance : ZeroIs Try.prog 46 (Value.nilFunc) := ⟨by kernel_rfl⟩
instance : BytesIs Try.prog 46 1 8 := ⟨Try.t46, _, by kernel_rfl, rfl, rfl, rfl, rfl, by decide, by decide⟩
instance : SizeIs Try.prog 47 1 := ⟨by kernel_rfl⟩
instance : AggIs Try.prog 47 false := ⟨by kernel_rfl⟩
instance : ZeroIs Try.prog 47 (Value.nilFunc) := ⟨by kernel_rfl⟩
instance : BytesIs Try.prog 47 1 8 := ⟨Try.t47, _, by kernel_rfl, rfl, rfl, rfl, rfl, by decide, by decide⟩
instance : FieldIs Try.prog 48 0 0 24 2 := ⟨_, _, Try.underlying48, rfl, rfl, rfl, by kernel_rfl, by decide⟩
instance : FieldIs Try.prog 48 1 2 24 2 := ⟨_, _, Try.underlying48, rfl, rfl, rfl, by kernel_rfl, by decide⟩
instance : FieldIs Try.prog 48 2 4 24 2 := ⟨_, _, Try.underlying48, rfl, rfl, rfl, by kernel_rfl, by decide⟩
instance : FieldIs Try.prog 48 3 6 25 1 := ⟨_, _, Try.underlying48, rfl, rfl, rfl, by kernel_rfl, by decide⟩
instance : FieldIs Try.prog 48 4 7 25 1 := ⟨_, _, Try.underlying48, rfl, rfl, rfl, by kernel_rfl, by decide⟩
instance : StructOk Try.prog 48 := ⟨_, Try.underlying48, by kernel_rfl⟩
instance : SizeIs Try.prog 48 8 := ⟨by kernel_rfl⟩
instance : AggIs Try.prog 48 true := ⟨by kernel_rfl⟩
instance : ZeroIs Try.prog 48 ((Value.agg #[Value.int IntKind.i64 0, Value.slice none 0 0, Value.int IntKind.i64 0, Value.slice none 0 0, Value.int IntKind.i64 0, Value.slice none 0 0, Value.int IntKind.u64 0, Value.int IntKind.u64 0])) := ⟨by kernel_rfl⟩
instance : BytesIs Try.prog 48 8 112 := ⟨Try.t48, _, by kernel_rfl, rfl, rfl, rfl, rfl, by decide, by decide⟩
instance : FieldIs Try.prog 49 0 0 24 2 := ⟨_, _, Try.underlying49, rfl, rfl, rfl, by kernel_rfl, by decide⟩
instance : FieldIs Try.prog 49 1 2 24 2 := ⟨_, _, Try.underlying49, rfl, rfl, rfl, by kernel_rfl, by decide⟩
instance : FieldIs Try.prog 49 2 4 24 2 := ⟨_, _, Try.underlying49, rfl, rfl, rfl, by kernel_rfl, by decide⟩
instance : FieldIs Try.prog 49 3 6 25 1 := ⟨_, _, Try.underlying49, rfl, rfl, rfl, by kernel_rfl, by decide⟩
instance : FieldIs Try.prog 49 4 7 25 1 := ⟨_, _, Try.underlying49, rfl, rfl, rfl, by kernel_rfl, by decide⟩
instance : StructOk Try.prog 49 := ⟨_, Try.underlying49, by kernel_rfl⟩
instance : SizeIs Try.prog 49 8 := ⟨by kernel_rfl⟩
instance : AggIs Try.prog 49 true := ⟨by kernel_rfl⟩
instance : ZeroIs Try.prog 49 ((Value.agg #[Value.int IntKind.i64 0, Value.slice none 0 0, Value.int IntKind.i64 0, Value.slice none 0 0, Value.int IntKind.i64 0, Value.slice none 0 0, Value.int IntKind.u64 0, Value.int IntKind.u64 0])) := ⟨by kernel_rfl⟩
instance : BytesIs Try.prog 49 8 112 := ⟨Try.t49, _, by kernel_rfl, rfl, rfl, rfl, rfl, by decide, by decide⟩
instance : SizeIs Try.prog 50 1 := ⟨by kernel_rfl⟩
instance : AggIs Try.prog 50 false := ⟨by kernel_rfl⟩
instance : ZeroIs Try.prog 50 (Value.nilFunc) := ⟨by kernel_rfl⟩
instance : BytesIs Try.prog 50 1 8 := ⟨Try.t50, _, by kernel_rfl, rfl, rfl, rfl, rfl, by decide, by decide⟩
instance : SizeIs Try.prog 51 1 := ⟨by kernel_rfl⟩
instance : AggIs Try.prog 51 false := ⟨by kernel_rfl⟩
instance : ZeroIs Try.prog 51 (Value.nilFunc) := ⟨by kernel_rfl⟩
instance : BytesIs Try.prog 51 1 8 := ⟨Try.t51, _, by kernel_rfl, rfl, rfl, rfl, rfl, by decide, by decide⟩
instance : UnderIs Try.prog 52 (.slice 9) := ⟨Try.underlying52⟩
instance : SizeIs Try.prog 52 1 := ⟨by kernel_rfl⟩
instance : AggIs Try.prog 52 false := ⟨by kernel_rfl⟩
instance : ZeroIs Try.prog 52 ((Value.slice none 0 0)) := ⟨by kernel_rfl⟩
instance : BytesIs Try.prog 52 1 24 := ⟨Try.t52, _, by kernel_rfl, rfl, rfl, rfl, rfl, by decide, by decide⟩
instance : SizeIs Try.prog 53 1 := ⟨by kernel_rfl⟩
instance : AggIs Try.prog 53 false := ⟨by kernel_rfl⟩
instance : ZeroIs Try.prog 53 (Value.nilFunc) := ⟨by kernel_rfl⟩
instance : BytesIs Try.prog 53 1 8 := ⟨Try.t53, _, by kernel_rfl, rfl, rfl, rfl, rfl, by decide, by decide⟩
instance : SizeIs Try.prog 54 1 := ⟨by kernel_rfl⟩
instance : AggIs Try.prog 54 false := ⟨by kernel_rfl⟩
instance : ZeroIs Try.prog 54 (Value.nilFunc) := ⟨by kernel_rfl⟩
instance : BytesIs Try.prog 54 1 8 := ⟨Try.t54, _, by kernel_rfl, rfl, rfl, rfl, rfl, by decide, by decide⟩
instance : SizeIs Try.prog 55 1 := ⟨by kernel_rfl⟩
instance : AggIs Try.prog 55 false := ⟨by kernel_rfl⟩
instance : ZeroIs Try.prog 55 (Value.nilFunc) := ⟨by kernel_rfl⟩
instance : BytesIs Try.prog 55 1 8 := ⟨Try.t55, _, by kernel_rfl, rfl, rfl, rfl, rfl, by decide, by decide⟩
instance : SizeIs Try.prog 57 1 := ⟨by kernel_rfl⟩
instance : AggIs Try.prog 57 false := ⟨by kernel_rfl⟩
instance : ZeroIs Try.prog 57 (Value.nilFunc) := ⟨by kernel_rfl⟩
instance : BytesIs Try.prog 57 1 8 := ⟨Try.t57, _, by kernel_rfl, rfl, rfl, rfl, rfl, by decide, by decide⟩
instance : SizeIs Try.prog 59 1 := ⟨by kernel_rfl⟩
instance : AggIs Try.prog 59 false := ⟨by kernel_rfl⟩
instance : ZeroIs Try.prog 59 (Value.nilFunc) := ⟨by kernel_rfl⟩
instance : BytesIs Try.prog 59 1 8 := ⟨Try.t59, _, by kernel_rfl, rfl, rfl, rfl, rfl, by decide, by decide⟩
instance : UnderIs Try.prog 60 (.slice 67) := ⟨Try.underlying60⟩
instance : SizeIs Try.prog 60 1 := ⟨by kernel_rfl⟩
instance : AggIs Try.prog 60 false := ⟨by kernel_rfl⟩
instance : ZeroIs Try.prog 60 ((Value.slice none 0 0)) := ⟨by kernel_rfl⟩
instance : BytesIs Try.prog 60 1 24 := ⟨Try.t60, _, by kernel_rfl, rfl, rfl, rfl, rfl, by decide, by decide⟩
instance : SizeIs Try.prog 62 1 := ⟨by kernel_rfl⟩
instance : AggIs Try.prog 62 false := ⟨by kernel_rfl⟩
instance : ZeroIs Try.prog 62 (Value.nilFunc) := ⟨by kernel_rfl⟩
instance : BytesIs Try.prog 62 1 8 := ⟨Try.t62, _, by kernel_rfl, rfl, rfl, rfl, rfl, by decide, by decide⟩
instance : SizeIs Try.prog 64 1 := ⟨by kernel_rfl⟩
instance : AggIs Try.prog 64 false := ⟨by kernel_rfl⟩
instance : ZeroIs Try.prog 64 (Value.nilFunc) := ⟨by kernel_rfl⟩
instance : BytesIs Try.prog 64 1 8 := ⟨Try.t64, _, by kernel_rfl, rfl, rfl, rfl, rfl, by decide, by decide⟩
instance : SizeIs Try.prog 65 1 := ⟨by kernel_rfl⟩
instance : AggIs Try.prog 65 false := ⟨by kernel_rfl⟩
instance : ZeroIs Try.prog 65 (Value.nilFunc) := ⟨by kernel_rfl⟩
instance : BytesIs Try.prog 65 1 8 := ⟨Try.t65, _, by kernel_rfl, rfl, rfl, rfl, rfl, by decide, by decide⟩
instance : UnderIs Try.prog 66 (.slice 3) := ⟨Try.underlying66⟩
instance : SizeIs Try.prog 66 1 := ⟨by kernel_rfl⟩
instance : AggIs Try.prog 66 false := ⟨by kernel_rfl⟩
instance : ZeroIs Try.prog 66 ((Value.slice none 0 0)) := ⟨by kernel_rfl⟩
instance : BytesIs Try.prog 66 1 24 := ⟨Try.t66, _, by kernel_rfl, rfl, rfl, rfl, rfl, by decide, by decide⟩
instance : UnderIs Try.prog 67 (.slice 76) := ⟨Try.underlying67⟩
instance : SizeIs Try.prog 67 1 := ⟨by kernel_rfl⟩
instance : AggIs Try.prog 67 false := ⟨by kernel_rfl⟩
instance : ZeroIs Try.prog 67 ((Value.slice none 0 0)) := ⟨by kernel_rfl⟩
instance : BytesIs Try.prog 67 1 24 := ⟨Try.t67, _, by kernel_rfl, rfl, rfl, rfl, rfl, by decide, by decide⟩
instance : SizeIs Try.prog 69 1 := ⟨by kernel_rfl⟩
instance : AggIs Try.prog 69 false := ⟨by kernel_rfl⟩
instance : ZeroIs Try.prog 69 (Value.nilFunc) := ⟨by kernel_rfl⟩
instance : BytesIs Try.prog 69 1 8 := ⟨Try.t69, _, by kernel_rfl, rfl, rfl, rfl, rfl, by decide, by decide⟩
instance : SizeIs Try.prog 71 1 := ⟨by kernel_rfl⟩
instance : AggIs Try.prog 71 false := ⟨by kernel_rfl⟩
instance : ZeroIs Try.prog 71 (Value.nilFunc) := ⟨by kernel_rfl⟩
instance : BytesIs Try.prog 71 1 8 := ⟨Try.t71, _, by kernel_rfl, rfl, rfl, rfl, rfl, by decide, by decide⟩
instance : FieldIs Try.prog 73 0 0 72 1 := ⟨_, _, Try.underlying73, rfl, rfl, rfl, by kernel_rfl, by decide⟩
instance : FieldIs Try.prog 73 1 1 72 1 := ⟨_, _, Try.underlying73, rfl, rfl, rfl, by kernel_rfl, by decide⟩
instance : StructOk Try.prog 73 := ⟨_, Try.underlying73, by kernel_rfl⟩
instance : SizeIs Try.prog 73 2 := ⟨by kernel_rfl⟩
instance : AggIs Try.prog 73 true := ⟨by kernel_rfl⟩
instance : FieldIs Try.prog 74 0 0 72 1 := ⟨_, _, Try.underlying74, rfl, rfl, rfl, by kernel_rfl, by decide⟩
instance : FieldIs Try.prog 74 1 1 72 1 := ⟨_, _, Try.underlying74, rfl, rfl, rfl, by kernel_rfl, by decide⟩
instance : StructOk Try.prog 74 := ⟨_, Try.underlying74, by kernel_rfl⟩
instance : SizeIs Try.prog 74 2 := ⟨by kernel_rfl⟩
instance : AggIs Try.prog 74 true := ⟨by kernel_rfl⟩
instance : FieldIs Try.prog 75 0 0 74 2 := ⟨_, _, Try.underlying75, rfl, rfl, rfl, by kernel_rfl, by decide⟩
instance : FieldIs Try.prog 75 1 2 3 1 := ⟨_, _, Try.underlying75, rfl, rfl, rfl, by kernel_rfl, by decide⟩
instance : StructOk Try.prog 75 := ⟨_, Try.underlying75, by kernel_rfl⟩
instance : SizeIs Try.prog 75 3 := ⟨by kernel_rfl⟩
instance : AggIs Try.prog 75 true := ⟨by kernel_rfl⟩
instance : FieldIs Try.prog 76 0 0 74 2 := ⟨_, _, Try.underlying76, rfl, rfl, rfl, by kernel_rfl, by decide⟩
instance : FieldIs Try.prog 76 1 2 3 1 := ⟨_, _, Try.underlying76, rfl, rfl, rfl, by kernel_rfl, by decide⟩
instance : StructOk Try.prog 76 := ⟨_, Try.underlying76, by kernel_rfl⟩
instance : SizeIs Try.prog 76 3 := ⟨by kernel_rfl⟩
instance : AggIs Try.prog 76 true := ⟨by kernel_rfl⟩
instance : SizeIs Try.prog 77 1 := ⟨by kernel_rfl⟩
instance : AggIs Try.prog 77 false := ⟨by kernel_rfl⟩
instance : ZeroIs Try.prog 77 (Value.nilFunc) := ⟨by kernel_rfl⟩
instance : BytesIs Try.prog 77 1 8 := ⟨Try.t77, _, by kernel_rfl, rfl, rfl, rfl, rfl, by decide, by decide⟩
instance : SizeIs Try.prog 78 1 := ⟨by kernel_rfl⟩
instance : AggIs Try.prog 78 false := ⟨by kernel_rfl⟩
instance : ZeroIs Try.prog 78 (Value.nilFunc) := ⟨by kernel_rfl⟩
instance : BytesIs Try.prog 78 1 8 := ⟨Try.t78, _, by kernel_rfl, rfl, rfl, rfl, rfl, by decide, by decide⟩
instance : SizeIs Try.prog 79 1 := ⟨by kernel_rfl⟩
instance : AggIs Try.prog 79 false := ⟨by kernel_rfl⟩
instance : ZeroIs Try.prog 79 (Value.nilFunc) := ⟨by kernel_rfl⟩
instance : BytesIs Try.prog 79 1 8 := ⟨Try.t79, _, by kernel_rfl, rfl, rfl, rfl, rfl, by decide, by decide⟩
instance : UnderIs Try.prog 80 (.slice 122) := ⟨Try.underlying80⟩
instance : SizeIs Try.prog 80 1 := ⟨by kernel_rfl⟩
instance : AggIs Try.prog 80 false := ⟨by kernel_rfl⟩
instance : ZeroIs Try.prog 80 ((Value.slice none 0 0)) := ⟨by kernel_rfl⟩
instance : BytesIs Try.prog 80 1 24 := ⟨Try.t80, _, by kernel_rfl, rfl, rfl, rfl, rfl, by decide, by decide⟩
instance : FieldIs Try.prog 81 0 0 3 1 := ⟨_, _, Try.underlying81, rfl, rfl, rfl, by kernel_rfl, by decide⟩
instance : FieldIs Try.prog 81 1 1 3 1 := ⟨_, _, Try.underlying81, rfl, rfl, rfl, by kernel_rfl, by decide⟩
instance : FieldIs Try.prog 81 2 2 80 1 := ⟨_, _, Try.underlying81, rfl, rfl, rfl, by kernel_rfl, by decide⟩
instance : StructOk Try.prog 81 := ⟨_, Try.underlying81, by kernel_rfl⟩
instance : SizeIs Try.prog 81 3 := ⟨by kernel_rfl⟩
instance : AggIs Try.prog 81 true := ⟨by kernel_rfl⟩
instance : ZeroIs Try.prog 81 ((Value.agg #[Value.int IntKind.i64 0, Value.int IntKind.i64 0, Value.slice none 0 0])) := ⟨by kernel_rfl⟩
instance : BytesIs Try.prog 81 3 40 := ⟨Try.t81, _, by kernel_rfl, rfl, rfl, rfl, rfl, by decide, by decide⟩
instance : FieldIs Try.prog 82 0 0 3 1 := ⟨_, _, Try.underlying82, rfl, rfl, rfl, by kernel_rfl, by decide⟩
instance : FieldIs Try.prog 82 1 1 3 1 := ⟨_, _, Try.underlying82, rfl, rfl, rfl, by kernel_rfl, by decide⟩
instance : FieldIs Try.prog 82 2 2 80 1 := ⟨_, _, Try.underlying82, rfl, rfl, rfl, by kernel_rfl, by decide⟩
instance : StructOk Try.prog 82 := ⟨_, Try.underlying82, by kernel_rfl⟩
instance : SizeIs Try.prog 82 3 := ⟨by kernel_rfl⟩
instance : AggIs Try.prog 82 true := ⟨by kernel_rfl⟩
instance : ZeroIs Try.prog 82 ((Value.agg #[Value.int IntKind.i64 0, Value.int IntKind.i64 0, Value.slice none 0 0])) := ⟨by kernel_rfl⟩
instance : BytesIs Try.prog 82 3 40 := ⟨Try.t82, _, by kernel_rfl, rfl, rfl, rfl, rfl, by decide, by decide⟩
instance : SizeIs Try.prog 83 1 := ⟨by kernel_rfl⟩
instance : AggIs Try.prog 83 false := ⟨by kernel_rfl⟩
instance : ZeroIs Try.prog 83 (Value.nilFunc) := ⟨by kernel_rfl⟩
instance : BytesIs Try.prog 83 1 8 := ⟨Try.t83, _, by kernel_rfl, rfl, rfl, rfl, rfl, by decide, by decide⟩
instance : SizeIs Try.prog 85 1 := ⟨by kernel_rfl⟩
instance : AggIs Try.prog 85 false := ⟨by kernel_rfl⟩
instance : ZeroIs Try.prog 85 (Value.nilFunc) := ⟨by kernel_rfl⟩
instance : BytesIs Try.prog 85 1 8 := ⟨Try.t85, _, by kernel_rfl, rfl, rfl, rfl, rfl, by decide, by decide⟩
instance : SizeIs Try.prog 86 1 := ⟨by kernel_rfl⟩
instance : AggIs Try.prog 86 false := ⟨by kernel_rfl⟩
instance : ZeroIs Try.prog 86 (Value.nilFunc) := ⟨by kernel_rfl⟩
instance : BytesIs Try.prog 86 1 8 := ⟨Try.t86, _, by kernel_rfl, rfl, rfl, rfl, rfl, by decide, by decide⟩
instance : SizeIs Try.prog 88 1 := ⟨by kernel_rfl⟩
instance : AggIs Try.prog 88 false := ⟨by kernel_rfl⟩
instance : ZeroIs Try.prog 88 (Value.nilFunc) := ⟨by kernel_rfl⟩
instance : BytesIs Try.prog 88 1 8 := ⟨Try.t88, _, by kernel_rfl, rfl, rfl, rfl, rfl, by decide, by decide⟩
instance : SizeIs Try.prog 89 1 := ⟨by kernel_rfl⟩
instance : AggIs Try.prog 89 false := ⟨by kernel_rfl⟩
instance : ZeroIs Try.prog 89 (Value.nilFunc) := ⟨by kernel_rfl⟩
instance : BytesIs Try.prog 89 1 8 := ⟨Try.t89, _, by kernel_rfl, rfl, rfl, rfl, rfl, by decide, by decide⟩
instance : SizeIs Try.prog 91 1 := ⟨by kernel_rfl⟩
instance : AggIs Try.prog 91 false := ⟨by kernel_rfl⟩
instance : ZeroIs Try.prog 91 (Value.nilFunc) := ⟨by kernel_rfl⟩
instance : BytesIs Try.prog 91 1 8 := ⟨Try.t91, _, by kernel_rfl, rfl, rfl, rfl, rfl, by decide, by decide⟩
instance : SizeIs Try.prog 92 1 := ⟨by kernel_rfl⟩
instance : AggIs Try.prog 92 false := ⟨by kernel_rfl⟩
instance : ZeroIs Try.prog 92 (Value.nilFunc) := ⟨by kernel_rfl⟩
instance : BytesIs Try.prog 92 1 8 := ⟨Try.t92, _, by kernel_rfl, rfl, rfl, rfl, rfl, by decide, by decide⟩
instance : SizeIs Try.prog 93 1 := ⟨by kernel_rfl⟩
instance : AggIs Try.prog 93 false := ⟨by kernel_rfl⟩
instance : ZeroIs Try.prog 93 (Value.nilFunc) := ⟨by kernel_rfl⟩
instance : BytesIs Try.prog 93 1 8 := ⟨Try.t93, _, by kernel_rfl, rfl, rfl, rfl, rfl, by decide, by decide⟩
instance : SizeIs Try.prog 94 1 := ⟨by kernel_rfl⟩
instance : AggIs Try.prog 94 false := ⟨by kernel_rfl⟩
instance : ZeroIs Try.prog 94 (Value.nilFunc) := ⟨by kernel_rfl⟩
instance : BytesIs Try.prog 94 1 8 := ⟨Try.t94, _, by kernel_rfl, rfl, rfl, rfl, rfl, by decide, by decide⟩
instance : SizeIs Try.prog 95 1 := ⟨by kernel_rfl⟩
instance : AggIs Try.prog 95 false := ⟨by kernel_rfl⟩
instance : ZeroIs Try.prog 95 (Value.nilFunc) := ⟨by kernel_rfl⟩
instance : BytesIs Try.prog 95 1 8 := ⟨Try.t95, _, by kernel_rfl, rfl, rfl, rfl, rfl, by decide, by decide⟩
instance : SizeIs Try.prog 96 1 := ⟨by kernel_rfl⟩
instance : AggIs Try.prog 96 false := ⟨by kernel_rfl⟩
instance : ZeroIs Try.prog 96 (Value.nilFunc) := ⟨by kernel_rfl⟩
instance : BytesIs Try.prog 96 1 8 := ⟨Try.t96, _, by kernel_rfl, rfl, rfl, rfl, rfl, by decide, by decide⟩
instance : UnderIs Try.prog 97 (.slice 101) := ⟨Try.underlying97⟩
instance : SizeIs Try.prog 97 1 := ⟨by kernel_rfl⟩
instance : AggIs Try.prog 97 false := ⟨by kernel_rfl⟩
instance : ZeroIs Try.prog 97 ((Value.slice none 0 0)) := ⟨by kernel_rfl⟩
instance : BytesIs Try.prog 97 1 24 := ⟨Try.t97, _, by kernel_rfl, rfl, rfl, rfl, rfl, by decide, by decide⟩
instance : SizeIs Try.prog 99 1 := ⟨by kernel_rfl⟩
instance : AggIs Try.prog 99 false := ⟨by kernel_rfl⟩
instance : ZeroIs Try.prog 99 (Value.nilFunc) := ⟨by kernel_rfl⟩
instance : BytesIs Try.prog 99 1 8 := ⟨Try.t99, _, by kernel_rfl, rfl, rfl, rfl, rfl, by decide, by decide⟩
instance : FieldIs Try.prog 100 0 0 3 1 := ⟨_, _, Try.underlying100, rfl, rfl, rfl, by kernel_rfl, by decide⟩
instance : FieldIs Try.prog 100 1 1 3 1 := ⟨_, _, Try.underlying100, rfl, rfl, rfl, by kernel_rfl, by decide⟩
instance : StructOk Try.prog 100 := ⟨_, Try.underlying100, by kernel_rfl⟩
instance : SizeIs Try.prog 100 2 := ⟨by kernel_rfl⟩
instance : AggIs Try.prog 100 true := ⟨by kernel_rfl⟩
instance : ZeroIs Try.prog 100 ((Value.agg #[Value.int IntKind.i64 0, Value.int IntKind.i64 0])) := ⟨by kernel_rfl⟩
instance : BytesIs Try.prog 100 2 16 := ⟨Try.t100, _, by kernel_rfl, rfl, rfl, rfl, rfl, by decide, by decide⟩
instance : FieldIs Try.prog 101 0 0 3 1 := ⟨_, _, Try.underlying101, rfl, rfl, rfl, by kernel_rfl, by decide⟩
instance : FieldIs Try.prog 101 1 1 3 1 := ⟨_, _, Try.underlying101, rfl, rfl, rfl, by kernel_rfl, by decide⟩
instance : StructOk Try.prog 101 := ⟨_, Try.underlying101, by kernel_rfl⟩
instance : SizeIs Try.prog 101 2 := ⟨by kernel_rfl⟩
instance : AggIs Try.prog 101 true := ⟨by kernel_rfl⟩
instance : ZeroIs Try.prog 101 ((Value.agg #[Value.int IntKind.i64 0, Value.int IntKind.i64 0])) := ⟨by kernel_rfl⟩
instance : BytesIs Try.prog 101 2 16 := ⟨Try.t101, _, by kernel_rfl, rfl, rfl, rfl, rfl, by decide, by decide⟩
instance : SizeIs Try.prog 102 1 := ⟨by kernel_rfl⟩
instance : AggIs Try.prog 102 false := ⟨by kernel_rfl⟩
instance : ZeroIs Try.prog 102 (Value.nilFunc) := ⟨by kernel_rfl⟩
instance : BytesIs Try.prog 102 1 8 := ⟨Try.t102, _, by kernel_rfl, rfl, rfl, rfl, rfl, by decide, by decide⟩
instance : FieldIs Try.prog 103 0 0 3 1 := ⟨_, _, Try.underlying103, rfl, rfl, rfl, by kernel_rfl, by decide⟩
instance : FieldIs Try.prog 103 1 1 3 1 := ⟨_, _, Try.underlying103, rfl, rfl, rfl, by kernel_rfl, by decide⟩
instance : FieldIs Try.prog 103 2 2 4 1 := ⟨_, _, Try.underlying103, rfl, rfl, rfl, by kernel_rfl, by decide⟩
instance : FieldIs Try.prog 103 3 3 4 1 := ⟨_, _, Try.underlying103, rfl, rfl, rfl, by kernel_rfl, by decide⟩
instance : FieldIs Try.prog 103 4 4 9 1 := ⟨_, _, Try.underlying103, rfl, rfl, rfl, by kernel_rfl, by decide⟩
instance : FieldIs Try.prog 103 5 5 102 1 := ⟨_, _, Try.underlying103, rfl, rfl, rfl, by kernel_rfl, by decide⟩
instance : StructOk Try.prog 103 := ⟨_, Try.underlying103, by kernel_rfl⟩
instance : SizeIs Try.prog 103 6 := ⟨by kernel_rfl⟩
instance : AggIs Try.prog 103 true := ⟨by kernel_rfl⟩
instance : ZeroIs Try.prog 103 ((Value.agg #[Value.int IntKind.i64 0, Value.int IntKind.i64 0, Value.bool false, Value.bool false, Value.string ByteArray.empty, Value.nilFunc])) := ⟨by kernel_rfl⟩
instance : BytesIs Try.prog 103 6 48 := ⟨Try.t103, _, by kernel_rfl, rfl, rfl, rfl, rfl, by decide, by decide⟩
instance : FieldIs Try.prog 104 0 0 3 1 := ⟨_, _, Try.underlying104, rfl, rfl, rfl, by kernel_rfl, by decide⟩
instance : FieldIs Try.prog 104 1 1 3 1 := ⟨_, _, Try.underlying104, rfl, rfl, rfl, by kernel_rfl, by decide⟩
instance : FieldIs Try.prog 104 2 2 4 1 := ⟨_, _, Try.underlying104, rfl, rfl, rfl, by kernel_rfl, by decide⟩
instance : FieldIs Try.prog 104 3 3 4 1 := ⟨_, _, Try.underlying104, rfl, rfl, rfl, by kernel_rfl, by decide⟩
instance : FieldIs Try.prog 104 4 4 9 1 := ⟨_, _, Try.underlying104, rfl, rfl, rfl, by kernel_rfl, by decide⟩
instance : FieldIs Try.prog 104 5 5 102 1 := ⟨_, _, Try.underlying104, rfl, rfl, rfl, by kernel_rfl, by decide⟩
instance : StructOk Try.prog 104 := ⟨_, Try.underlying104, by kernel_rfl⟩
instance : SizeIs Try.prog 104 6 := ⟨by kernel_rfl⟩
instance : AggIs Try.prog 104 true := ⟨by kernel_rfl⟩
instance : ZeroIs Try.prog 104 ((Value.agg #[Value.int IntKind.i64 0, Value.int IntKind.i64 0, Value.bool false, Value.bool false, Value.string ByteArray.empty, Value.nilFunc])) := ⟨by kernel_rfl⟩
instance : BytesIs Try.prog 104 6 48 := ⟨Try.t104, _, by kernel_rfl, rfl, rfl, rfl, rfl, by decide, by decide⟩
instance : UnderIs Try.prog 105 (.map 9 104) := ⟨Try.underlying105⟩
instance : SizeIs Try.prog 105 1 := ⟨by kernel_rfl⟩
instance : AggIs Try.prog 105 false := ⟨by kernel_rfl⟩
instance : ZeroIs Try.prog 105 ((Value.map none)) := ⟨by kernel_rfl⟩
instance : BytesIs Try.prog 105 1 8 := ⟨Try.t105, _, by kernel_rfl, rfl, rfl, rfl, rfl, by decide, by decide⟩
instance : SizeIs Try.prog 106 1 := ⟨by kernel_rfl⟩
instance : AggIs Try.prog 106 false := ⟨by kernel_rfl⟩
instance : ZeroIs Try.prog 106 (Value.nilFunc) := ⟨by kernel_rfl⟩
instance : BytesIs Try.prog 106 1 8 := ⟨Try.t106, _, by kernel_rfl, rfl, rfl, rfl, rfl, by decide, by decide⟩
instance : UnderIs Try.prog 108 (.slice 110) := ⟨Try.underlying108⟩
instance : SizeIs Try.prog 108 1 := ⟨by kernel_rfl⟩
instance : AggIs Try.prog 108 false := ⟨by kernel_rfl⟩
instance : ZeroIs Try.prog 108 ((Value.slice none 0 0)) := ⟨by kernel_rfl⟩
instance : BytesIs Try.prog 108 1 24 := ⟨Try.t108, _, by kernel_rfl, rfl, rfl, rfl, rfl, by decide, by decide⟩
instance : FieldIs Try.prog 109 0 0 3 1 := ⟨_, _, Try.underlying109, rfl, rfl, rfl, by kernel_rfl, by decide⟩
instance : FieldIs Try.prog 109 1 1 3 1 := ⟨_, _, Try.underlying109, rfl, rfl, rfl, by kernel_rfl, by decide⟩
instance : FieldIs Try.prog 109 2 2 3 1 := ⟨_, _, Try.underlying109, rfl, rfl, rfl, by kernel_rfl, by decide⟩
instance : StructOk Try.prog 109 := ⟨_, Try.underlying109, by kernel_rfl⟩
instance : SizeIs Try.prog 109 3 := ⟨by kernel_rfl⟩
instance : AggIs Try.prog 109 true := ⟨by kernel_rfl⟩
instance : ZeroIs Try.prog 109 ((Value.agg #[Value.int IntKind.i64 0, Value.int IntKind.i64 0, Value.int IntKind.i64 0])) := ⟨by kernel_rfl⟩
instance : BytesIs Try.prog 109 3 24 := ⟨Try.t109, _, by kernel_rfl, rfl, rfl, rfl, rfl, by decide, by decide⟩
instance : FieldIs Try.prog 110 0 0 3 1 := ⟨_, _, Try.underlying110, rfl, rfl, rfl, by kernel_rfl, by decide⟩
instance : FieldIs Try.prog 110 1 1 3 1 := ⟨_, _, Try.underlying110, rfl, rfl, rfl, by kernel_rfl, by decide⟩
instance : FieldIs Try.prog 110 2 2 3 1 := ⟨_, _, Try.underlying110, rfl, rfl, rfl, by kernel_rfl, by decide⟩
instance : StructOk Try.prog 110 := ⟨_, Try.underlying110, by kernel_rfl⟩
instance : SizeIs Try.prog 110 3 := ⟨by kernel_rfl⟩
instance : AggIs Try.prog 110 true := ⟨by kernel_rfl⟩
instance : ZeroIs Try.prog 110 ((Value.agg #[Value.int IntKind.i64 0, Value.int IntKind.i64 0, Value.int IntKind.i64 0])) := ⟨by kernel_rfl⟩
instance : BytesIs Try.prog 110 3 24 := ⟨Try.t110, _, by kernel_rfl, rfl, rfl, rfl, rfl, by decide, by decide⟩
instance : SizeIs Try.prog 111 1 := ⟨by kernel_rfl⟩
instance : AggIs Try.prog 111 false := ⟨by kernel_rfl⟩
instance : ZeroIs Try.prog 111 (Value.nilFunc) := ⟨by kernel_rfl⟩
instance : BytesIs Try.prog 111 1 8 := ⟨Try.t111, _, by kernel_rfl, rfl, rfl, rfl, rfl, by decide, by decide⟩
instance : SizeIs Try.prog 112 1 := ⟨by kernel_rfl⟩
instance : AggIs Try.prog 112 false := ⟨by kernel_rfl⟩
instance : ZeroIs Try.prog 112 (Value.nilFunc) := ⟨by kernel_rfl⟩
instance : BytesIs Try.prog 112 1 8 := ⟨Try.t112, _, by kernel_rfl, rfl, rfl, rfl, rfl, by decide, by decide⟩
instance : SizeIs Try.prog 113 1 := ⟨by kernel_rfl⟩
instance : AggIs Try.prog 113 false := ⟨by kernel_rfl⟩
instance : ZeroIs Try.prog 113 (Value.nilFunc) := ⟨by kernel_rfl⟩
instance : BytesIs Try.prog 113 1 8 := ⟨Try.t113, _, by kernel_rfl, rfl, rfl, rfl, rfl, by decide, by decide⟩
instance : SizeIs Try.prog 115 1 := ⟨by kernel_rfl⟩
instance : AggIs Try.prog 115 false := ⟨by kernel_rfl⟩
instance : ZeroIs Try.prog 115 (Value.nilFunc) := ⟨by kernel_rfl⟩
instance : BytesIs Try.prog 115 1 8 := ⟨Try.t115, _, by kernel_rfl, rfl, rfl, rfl, rfl, by decide, by decide⟩
instance : SizeIs Try.prog 116 1 := ⟨by kernel_rfl⟩
instance : AggIs Try.prog 116 false := ⟨by kernel_rfl⟩
instance : ZeroIs Try.prog 116 (Value.nilFunc) := ⟨by kernel_rfl⟩
instance : BytesIs Try.prog 116 1 8 := ⟨Try.t116, _, by kernel_rfl, rfl, rfl, rfl, rfl, by decide, by decide⟩
instance : UnderIs Try.prog 117 (.slice 66) := ⟨Try.underlying117⟩
instance : SizeIs Try.prog 117 1 := ⟨by kernel_rfl⟩
instance : AggIs Try.prog 117 false := ⟨by kernel_rfl⟩
instance : ZeroIs Try.prog 117 ((Value.slice none 0 0)) := ⟨by kernel_rfl⟩
instance : BytesIs Try.prog 117 1 24 := ⟨Try.t117, _, by kernel_rfl, rfl, rfl, rfl, rfl, by decide, by decide⟩
instance : SizeIs Try.prog 119 1 := ⟨by kernel_rfl⟩
instance : AggIs Try.prog 119 false := ⟨by kernel_rfl⟩
instance : ZeroIs Try.prog 119 (Value.nilFunc) := ⟨by kernel_rfl⟩
instance : BytesIs Try.prog 119 1 8 := ⟨Try.t119, _, by kernel_rfl, rfl, rfl, rfl, rfl, by decide, by decide⟩
instance : SizeIs Try.prog 120 1 := ⟨by kernel_rfl⟩
instance : AggIs Try.prog 120 false := ⟨by kernel_rfl⟩
instance : ZeroIs Try.prog 120 (Value.nilFunc) := ⟨by kernel_rfl⟩
instance : BytesIs Try.prog 120 1 8 := ⟨Try.t120, _, by kernel_rfl, rfl, rfl, rfl, rfl, by decide, by decide⟩
instance : FieldIs Try.prog 121 0 0 3 1 := ⟨_, _, Try.underlying121, rfl, rfl, rfl, by kernel_rfl, by decide⟩
instance : FieldIs Try.prog 121 1 1 9 1 := ⟨_, _, Try.underlying121, rfl, rfl, rfl, by kernel_rfl, by decide⟩
instance : FieldIs Try.prog 121 2 2 66 1 := ⟨_, _, Try.underlying121, rfl, rfl, rfl, by kernel_rfl, by decide⟩
instance : FieldIs Try.prog 121 3 3 3 1 := ⟨_, _, Try.underlying121, rfl, rfl, rfl, by kernel_rfl, by decide⟩
instance : FieldIs Try.prog 121 4 4 4 1 := ⟨_, _, Try.underlying121, rfl, rfl, rfl, by kernel_rfl, by decide⟩
instance : FieldIs Try.prog 121 5 5 25 1 := ⟨_, _, Try.underlying121, rfl, rfl, rfl, by kernel_rfl, by decide⟩
instance : FieldIs Try.prog 121 6 6 25 1 := ⟨_, _, Try.underlying121, rfl, rfl, rfl, by kernel_rfl, by decide⟩
instance : StructOk Try.prog 121 := ⟨_, Try.underlying121, by kernel_rfl⟩
instance : SizeIs Try.prog 121 7 := ⟨by kernel_rfl⟩
instance : AggIs Try.prog 121 true := ⟨by kernel_rfl⟩
instance : ZeroIs Try.prog 121 ((Value.agg #[Value.int IntKind.i64 0, Value.string ByteArray.empty, Value.slice none 0 0, Value.int IntKind.i64 0, Value.bool false, Value.int IntKind.u64 0, Value.int IntKind.u64 0])) := ⟨by kernel_rfl⟩
instance : BytesIs Try.prog 121 7 80 := ⟨Try.t121, _, by kernel_rfl, rfl, rfl, rfl, rfl, by decide, by decide⟩
instance : FieldIs Try.prog 122 0 0 3 1 := ⟨_, _, Try.underlying122, rfl, rfl, rfl, by kernel_rfl, by decide⟩
instance : FieldIs Try.prog 122 1 1 9 1 := ⟨_, _, Try.underlying122, rfl, rfl, rfl, by kernel_rfl, by decide⟩
instance : FieldIs Try.prog 122 2 2 66 1 := ⟨_, _, Try.underlying122, rfl, rfl, rfl, by kernel_rfl, by decide⟩
instance : FieldIs Try.prog 122 3 3 3 1 := ⟨_, _, Try.underlying122, rfl, rfl, rfl, by kernel_rfl, by decide⟩
instance : FieldIs Try.prog 122 4 4 4 1 := ⟨_, _, Try.underlying122, rfl, rfl, rfl, by kernel_rfl, by decide⟩
instance : FieldIs Try.prog 122 5 5 25 1 := ⟨_, _, Try.underlying122, rfl, rfl, rfl, by kernel_rfl, by decide⟩
instance : FieldIs Try.prog 122 6 6 25 1 := ⟨_, _, Try.underlying122, rfl, rfl, rfl, by kernel_rfl, by decide⟩
instance : StructOk Try.prog 122 := ⟨_, Try.underlying122, by kernel_rfl⟩
instance : SizeIs Try.prog 122 7 := ⟨by kernel_rfl⟩
instance : AggIs Try.prog 122 true := ⟨by kernel_rfl⟩
instance : ZeroIs Try.prog 122 ((Value.agg #[Value.int IntKind.i64 0, Value.string ByteArray.empty, Value.slice none 0 0, Value.int IntKind.i64 0, Value.bool false, Value.int IntKind.u64 0, Value.int IntKind.u64 0])) := ⟨by kernel_rfl⟩
instance : BytesIs Try.prog 122 7 80 := ⟨Try.t122, _, by kernel_rfl, rfl, rfl, rfl, rfl, by decide, by decide⟩
instance : SizeIs Try.prog 123 1 := ⟨by kernel_rfl⟩
instance : AggIs Try.prog 123 false := ⟨by kernel_rfl⟩
instance : ZeroIs Try.prog 123 (Value.nilFunc) := ⟨by kernel_rfl⟩
instance : BytesIs Try.prog 123 1 8 := ⟨Try.t123, _, by kernel_rfl, rfl, rfl, rfl, rfl, by decide, by decide⟩
instance : SizeIs Try.prog 124 1 := ⟨by kernel_rfl⟩
instance : AggIs Try.prog 124 false := ⟨by kernel_rfl⟩
instance : ZeroIs Try.prog 124 (Value.nilFunc) := ⟨by kernel_rfl⟩
instance : BytesIs Try.prog 124 1 8 := ⟨Try.t124, _, by kernel_rfl, rfl, rfl, rfl, rfl, by decide, by decide⟩
instance : SizeIs Try.prog 125 1 := ⟨by kernel_rfl⟩
instance : AggIs Try.prog 125 false := ⟨by kernel_rfl⟩
instance : ZeroIs Try.prog 125 (Value.nilFunc) := ⟨by kernel_rfl⟩
instance : BytesIs Try.prog 125 1 8 := ⟨Try.t125, _, by kernel_rfl, rfl, rfl, rfl, rfl, by decide, by decide⟩
instance : SizeIs Try.prog 126 1 := ⟨by kernel_rfl⟩
instance : AggIs Try.prog 126 false := ⟨by kernel_rfl⟩
instance : ZeroIs Try.prog 126 (Value.nilFunc) := ⟨by kernel_rfl⟩
instance : BytesIs Try.prog 126 1 8 := ⟨Try.t126, _, by kernel_rfl, rfl, rfl, rfl, rfl, by decide, by decide⟩
instance : SizeIs Try.prog 127 1 := ⟨by kernel_rfl⟩
instance : AggIs Try.prog 127 false := ⟨by kernel_rfl⟩
instance : ZeroIs Try.prog 127 (Value.nilFunc) := ⟨by kernel_rfl⟩
instance : BytesIs Try.prog 127 1 8 := ⟨Try.t127, _, by kernel_rfl, rfl, rfl, rfl, rfl, by decide, by decide⟩
instance : SizeIs Try.prog 128 1 := ⟨by kernel_rfl⟩
instance : AggIs Try.prog 128 false := ⟨by kernel_rfl⟩
instance : ZeroIs Try.prog 128 (Value.nilFunc) := ⟨by kernel_rfl⟩
instance : BytesIs Try.prog 128 1 8 := ⟨Try.t128, _, by kernel_rfl, rfl, rfl, rfl, rfl, by decide, by decide⟩
instance : SizeIs Try.prog 129 1 := ⟨by kernel_rfl⟩
instance : AggIs Try.prog 129 false := ⟨by kernel_rfl⟩
instance : ZeroIs Try.prog 129 (Value.nilFunc) := ⟨by kernel_rfl⟩
instance : BytesIs Try.prog 129 1 8 := ⟨Try.t129, _, by kernel_rfl, rfl, rfl, rfl, rfl, by decide, by decide⟩
instance : SizeIs Try.prog 130 1 := ⟨by kernel_rfl⟩
instance : AggIs Try.prog 130 false := ⟨by kernel_rfl⟩
instance : ZeroIs Try.prog 130 (Value.nilFunc) := ⟨by kernel_rfl⟩
instance : BytesIs Try.prog 130 1 8 := ⟨Try.t130, _, by kernel_rfl, rfl, rfl, rfl, rfl, by decide, by decide⟩
instance : SizeIs Try.prog 131 1 := ⟨by kernel_rfl⟩
instance : AggIs Try.prog 131 false := ⟨by kernel_rfl⟩
instance : ZeroIs Try.prog 131 (Value.nilFunc) := ⟨by kernel_rfl⟩
instance : BytesIs Try.prog 131 1 8 := ⟨Try.t131, _, by kernel_rfl, rfl, rfl, rfl, rfl, by decide, by decide⟩
instance : UnderIs Try.prog 132 (.int IntKind.u64) := ⟨Try.underlying132⟩
instance : SizeIs Try.prog 132 1 := ⟨by kernel_rfl⟩
instance : AggIs Try.prog 132 false := ⟨by kernel_rfl⟩
instance : ZeroIs Try.prog 132 ((Value.int IntKind.u64 0)) := ⟨by kernel_rfl⟩
instance : BytesIs Try.prog 132 1 8 := ⟨Try.t132, _, by kernel_rfl, rfl, rfl, rfl, rfl, by decide, by decide⟩
instance : SizeIs Try.prog 133 1 := ⟨by kernel_rfl⟩
instance : AggIs Try.prog 133 false := ⟨by kernel_rfl⟩
instance : ZeroIs Try.prog 133 (Value.nilFunc) := ⟨by kernel_rfl⟩
instance : BytesIs Try.prog 133 1 8 := ⟨Try.t133, _, by kernel_rfl, rfl, rfl, rfl, rfl, by decide, by decide⟩
instance : SizeIs Try.prog 134 1 := ⟨by kernel_rfl⟩
instance : AggIs Try.prog 134 false := ⟨by kernel_rfl⟩
instance : ZeroIs Try.prog 134 (Value.nilFunc) := ⟨by kernel_rfl⟩
instance : BytesIs Try.prog 134 1 8 := ⟨Try.t134, _, by kernel_rfl, rfl, rfl, rfl, rfl, by decide, by decide⟩
instance : SizeIs Try.prog 135 1 := ⟨by kernel_rfl⟩
instance : AggIs Try.prog 135 false := ⟨by kernel_rfl⟩
instance : ZeroIs Try.prog 135 (Value.nilFunc) := ⟨by kernel_rfl⟩
instance : BytesIs Try.prog 135 1 8 := ⟨Try.t135, _, by kernel_rfl, rfl, rfl, rfl, rfl, by decide, by decide⟩
instance : SizeIs Try.prog 136 1 := ⟨by kernel_rfl⟩
instance : AggIs Try.prog 136 false := ⟨by kernel_rfl⟩
instance : ZeroIs Try.prog 136 (Value.nilFunc) := ⟨by kernel_rfl⟩
instance : BytesIs Try.prog 136 1 8 := ⟨Try.t136, _, by kernel_rfl, rfl, rfl, rfl, rfl, by decide, by decide⟩
instance : SizeIs Try.prog 138 1 := ⟨by kernel_rfl⟩
instance : AggIs Try.prog 138 false := ⟨by kernel_rfl⟩
instance : ZeroIs Try.prog 138 (Value.nilFunc) := ⟨by kernel_rfl⟩
instance : BytesIs Try.prog 138 1 8 := ⟨Try.t138, _, by kernel_rfl, rfl, rfl, rfl, rfl, by decide, by decide⟩
instance : SizeIs Try.prog 139 1 := ⟨by kernel_rfl⟩
instance : AggIs Try.prog 139 false := ⟨by kernel_rfl⟩
instance : ZeroIs Try.prog 139 (Value.nilFunc) := ⟨by kernel_rfl⟩
instance : BytesIs Try.prog 139 1 8 := ⟨Try.t139, _, by kernel_rfl, rfl, rfl, rfl, rfl, by decide, by decide⟩
instance : SizeIs Try.prog 141 1 := ⟨by kernel_rfl⟩
instance : AggIs Try.prog 141 false := ⟨by kernel_rfl⟩
instance : ZeroIs Try.prog 141 (Value.nilFunc) := ⟨by kernel_rfl⟩
instance : BytesIs Try.prog 141 1 8 := ⟨Try.t141, _, by kernel_rfl, rfl, rfl, rfl, rfl, by decide, by decide⟩
instance : SizeIs Try.prog 142 1 := ⟨by kernel_rfl⟩
instance : AggIs Try.prog 142 false := ⟨by kernel_rfl⟩
instance : ZeroIs Try.prog 142 (Value.nilFunc) := ⟨by kernel_rfl⟩
instance : BytesIs Try.prog 142 1 8 := ⟨Try.t142, _, by kernel_rfl, rfl, rfl, rfl, rfl, by decide, by decide⟩
instance : SizeIs Try.prog 143 1 := ⟨by kernel_rfl⟩
instance : AggIs Try.prog 143 false := ⟨by kernel_rfl⟩
instance : ZeroIs Try.prog 143 (Value.nilFunc) := ⟨by kernel_rfl⟩
instance : BytesIs Try.prog 143 1 8 := ⟨Try.t143, _, by kernel_rfl, rfl, rfl, rfl, rfl, by decide, by decide⟩
instance : SizeIs Try.prog 144 1 := ⟨by kernel_rfl⟩
instance : AggIs Try.prog 144 false := ⟨by kernel_rfl⟩
instance : ZeroIs Try.prog 144 (Value.nilFunc) := ⟨by kernel_rfl⟩
instance : BytesIs Try.prog 144 1 8 := ⟨Try.t144, _, by kernel_rfl, rfl, rfl, rfl, rfl, by decide, by decide⟩
instance : SizeIs Try.prog 145 1 := ⟨by kernel_rfl⟩
instance : AggIs Try.prog 145 false := ⟨by kernel_rfl⟩
instance : ZeroIs Try.prog 145 (Value.nilFunc) := ⟨by kernel_rfl⟩
instance : BytesIs Try.prog 145 1 8 := ⟨Try.t145, _, by kernel_rfl, rfl, rfl, rfl, rfl, by decide, by decide⟩
instance : SizeIs Try.prog 146 1 := ⟨by kernel_rfl⟩
instance : AggIs Try.prog 146 false := ⟨by kernel_rfl⟩
instance : ZeroIs Try.prog 146 (Value.nilFunc) := ⟨by kernel_rfl⟩
instance : BytesIs Try.prog 146 1 8 := ⟨Try.t146, _, by kernel_rfl, rfl, rfl, rfl, rfl, by decide, by decide⟩
instance : SizeIs Try.prog 147 1 := ⟨by kernel_rfl⟩
instance : AggIs Try.prog 147 false := ⟨by kernel_rfl⟩
instance : ZeroIs Try.prog 147 (Value.nilFunc) := ⟨by kernel_rfl⟩
instance : BytesIs Try.prog 147 1 8 := ⟨Try.t147, _, by kernel_rfl, rfl, rfl, rfl, rfl, by decide, by decide⟩
instance : SizeIs Try.prog 148 1 := ⟨by kernel_rfl⟩
instance : AggIs Try.prog 148 false := ⟨by kernel_rfl⟩
instance : ZeroIs Try.prog 148 (Value.nilFunc) := ⟨by kernel_rfl⟩
instance : BytesIs Try.prog 148 1 8 := ⟨Try.t148, _, by kernel_rfl, rfl, rfl, rfl, rfl, by decide, by decide⟩
instance : SizeIs Try.prog 149 1 := ⟨by kernel_rfl⟩
instance : AggIs Try.prog 149 false := ⟨by kernel_rfl⟩
instance : ZeroIs Try.prog 149 (Value.nilFunc) := ⟨by kernel_rfl⟩
instance : BytesIs Try.prog 149 1 8 := ⟨Try.t149, _, by kernel_rfl, rfl, rfl, rfl, rfl, by decide, by decide⟩
instance : SizeIs Try.prog 150 1 := ⟨by kernel_rfl⟩
instance : AggIs Try.prog 150 false := ⟨by kernel_rfl⟩
instance : ZeroIs Try.prog 150 (Value.nilFunc) := ⟨by kernel_rfl⟩
instance : BytesIs Try.prog 150 1 8 := ⟨Try.t150, _, by kernel_rfl, rfl, rfl, rfl, rfl, by decide, by decide⟩
instance : SizeIs Try.prog 151 1 := ⟨by kernel_rfl⟩
instance : AggIs Try.prog 151 false := ⟨by kernel_rfl⟩
instance : ZeroIs Try.prog 151 (Value.nilFunc) := ⟨by kernel_rfl⟩
instance : BytesIs Try.prog 151 1 8 := ⟨Try.t151, _, by kernel_rfl, rfl, rfl, rfl, rfl, by decide, by decide⟩
instance : SizeIs Try.prog 152 1 := ⟨by kernel_rfl⟩
instance : AggIs Try.prog 152 false := ⟨by kernel_rfl⟩
instance : ZeroIs Try.prog 152 (Value.nilFunc) := ⟨by kernel_rfl⟩
instance : BytesIs Try.prog 152 1 8 := ⟨Try.t152, _, by kernel_rfl, rfl, rfl, rfl, rfl, by decide, by decide⟩
instance : SizeIs Try.prog 154 1 := ⟨by kernel_rfl⟩
instance : AggIs Try.prog 154 false := ⟨by kernel_rfl⟩
instance : ZeroIs Try.prog 154 (Value.nilFunc) := ⟨by kernel_rfl⟩
instance : BytesIs Try.prog 154 1 8 := ⟨Try.t154, _, by kernel_rfl, rfl, rfl, rfl, rfl, by decide, by decide⟩
instance : SizeIs Try.prog 155 1 := ⟨by kernel_rfl⟩
instance : AggIs Try.prog 155 false := ⟨by kernel_rfl⟩
instance : ZeroIs Try.prog 155 (Value.nilFunc) := ⟨by kernel_rfl⟩
instance : BytesIs Try.prog 155 1 8 := ⟨Try.t155, _, by kernel_rfl, rfl, rfl, rfl, rfl, by decide, by decide⟩
instance : SizeIs Try.prog 156 1 := ⟨by kernel_rfl⟩
instance : AggIs Try.prog 156 false := ⟨by kernel_rfl⟩
instance : ZeroIs Try.prog 156 (Value.nilFunc) := ⟨by kernel_rfl⟩
instance : BytesIs Try.prog 156 1 8 := ⟨Try.t156, _, by kernel_rfl, rfl, rfl, rfl, rfl, by decide, by decide⟩
instance : SizeIs Try.prog 158 1 := ⟨by kernel_rfl⟩
instance : AggIs Try.prog 158 false := ⟨by kernel_rfl⟩
instance : ZeroIs Try.prog 158 (Value.nilFunc) := ⟨by kernel_rfl⟩
instance : BytesIs Try.prog 158 1 8 := ⟨Try.t158, _, by kernel_rfl, rfl, rfl, rfl, rfl, by decide, by decide⟩
instance : SizeIs Try.prog 159 1 := ⟨by kernel_rfl⟩
instance : AggIs Try.prog 159 false := ⟨by kernel_rfl⟩
instance : ZeroIs Try.prog 159 (Value.nilFunc) := ⟨by kernel_rfl⟩
instance : BytesIs Try.prog 159 1 8 := ⟨Try.t159, _, by kernel_rfl, rfl, rfl, rfl, rfl, by decide, by decide⟩
instance : SizeIs Try.prog 161 1 := ⟨by kernel_rfl⟩
instance : AggIs Try.prog 161 false := ⟨by kernel_rfl⟩
instance : ZeroIs Try.prog 161 (Value.nilFunc) := ⟨by kernel_rfl⟩
instance : BytesIs Try.prog 161 1 8 := ⟨Try.t161, _, by kernel_rfl, rfl, rfl, rfl, rfl, by decide, by decide⟩
instance : SizeIs Try.prog 162 1 := ⟨by kernel_rfl⟩
instance : AggIs Try.prog 162 false := ⟨by kernel_rfl⟩
instance : ZeroIs Try.prog 162 (Value.nilFunc) := ⟨by kernel_rfl⟩
instance : BytesIs Try.prog 162 1 8 := ⟨Try.t162, _, by kernel_rfl, rfl, rfl, rfl, rfl, by decide, by decide⟩
instance : SizeIs Try.prog 163 1 := ⟨by kernel_rfl⟩
instance : AggIs Try.prog 163 false := ⟨by kernel_rfl⟩
instance : ZeroIs Try.prog 163 (Value.nilFunc) := ⟨by kernel_rfl⟩
instance : BytesIs Try.prog 163 1 8 := ⟨Try.t163, _, by kernel_rfl, rfl, rfl, rfl, rfl, by decide, by decide⟩
instance : SizeIs Try.prog 164 1 := ⟨by kernel_rfl⟩
instance : AggIs Try.prog 164 false := ⟨by kernel_rfl⟩
instance : ZeroIs Try.prog 164 (Value.nilFunc) := ⟨by kernel_rfl⟩
instance : BytesIs Try.prog 164 1 8 := ⟨Try.t164, _, by kernel_rfl, rfl, rfl, rfl, rfl, by decide, by decide⟩
instance : SizeIs Try.prog 165 1 := ⟨by kernel_rfl⟩
instance : AggIs Try.prog 165 false := ⟨by kernel_rfl⟩
instance : ZeroIs Try.prog 165 (Value.nilFunc) := ⟨by kernel_rfl⟩
instance : BytesIs Try.prog 165 1 8 := ⟨Try.t165, _, by kernel_rfl, rfl, rfl, rfl, rfl, by decide, by decide⟩
instance : SizeIs Try.prog 166 1 := ⟨by kernel_rfl⟩
instance : AggIs Try.prog 166 false := ⟨by kernel_rfl⟩
instance : ZeroIs Try.prog 166 (Value.nilFunc) := ⟨by kernel_rfl⟩
instance : BytesIs Try.prog 166 1 8 := ⟨Try.t166, _, by kernel_rfl, rfl, rfl, rfl, rfl, by decide, by decide⟩
instance : SizeIs Try.prog 168 1 := ⟨by kernel_rfl⟩
instance : AggIs Try.prog 168 false := ⟨by kernel_rfl⟩
instance : ZeroIs Try.prog 168 (Value.nilFunc) := ⟨by kernel_rfl⟩
instance : BytesIs Try.prog 168 1 8 := ⟨Try.t168, _, by kernel_rfl, rfl, rfl, rfl, rfl, by decide, by decide⟩
instance : SizeIs Try.prog 169 1 := ⟨by kernel_rfl⟩
instance : AggIs Try.prog 169 false := ⟨by kernel_rfl⟩
instance : ZeroIs Try.prog 169 (Value.nilFunc) := ⟨by kernel_rfl⟩
instance : BytesIs Try.prog 169 1 8 := ⟨Try.t169, _, by kernel_rfl, rfl, rfl, rfl, rfl, by decide, by decide⟩
instance : SizeIs Try.prog 171 1 := ⟨by kernel_rfl⟩
instance : AggIs Try.prog 171 false := ⟨by kernel_rfl⟩
instance : ZeroIs Try.prog 171 (Value.nilFunc) := ⟨by kernel_rfl⟩
instance : BytesIs Try.prog 171 1 8 := ⟨Try.t171, _, by kernel_rfl, rfl, rfl, rfl, rfl, by decide, by decide⟩
instance : SizeIs Try.prog 173 1 := ⟨by kernel_rfl⟩
instance : AggIs Try.prog 173 false := ⟨by kernel_rfl⟩
instance : ZeroIs Try.prog 173 (Value.nilFunc) := ⟨by kernel_rfl⟩
instance : BytesIs Try.prog 173 1 8 := ⟨Try.t173, _, by kernel_rfl, rfl, rfl, rfl, rfl, by decide, by decide⟩
instance : SizeIs Try.prog 175 1 := ⟨by kernel_rfl⟩
instance : AggIs Try.prog 175 false := ⟨by kernel_rfl⟩
instance : ZeroIs Try.prog 175 (Value.nilFunc) := ⟨by kernel_rfl⟩
instance : BytesIs Try.prog 175 1 8 := ⟨Try.t175, _, by kernel_rfl, rfl, rfl, rfl, rfl, by decide, by decide⟩
instance : SizeIs Try.prog 176 1 := ⟨by kernel_rfl⟩
instance : AggIs Try.prog 176 false := ⟨by kernel_rfl⟩
instance : ZeroIs Try.prog 176 (Value.nilFunc) := ⟨by kernel_rfl⟩
instance : BytesIs Try.prog 176 1 8 := ⟨Try.t176, _, by kernel_rfl, rfl, rfl, rfl, rfl, by decide, by decide⟩
instance : SizeIs Try.prog 177 1 := ⟨by kernel_rfl⟩
instance : AggIs Try.prog 177 false := ⟨by kernel_rfl⟩
instance : ZeroIs Try.prog 177 (Value.nilFunc) := ⟨by kernel_rfl⟩
instance : BytesIs Try.prog 177 1 8 := ⟨Try.t177, _, by kernel_rfl, rfl, rfl, rfl, rfl, by decide, by decide⟩
instance : SizeIs Try.prog 178 1 := ⟨by kernel_rfl⟩
instance : AggIs Try.prog 178 false := ⟨by kernel_rfl⟩
instance : ZeroIs Try.prog 178 (Value.nilFunc) := ⟨by kernel_rfl⟩
instance : BytesIs Try.prog 178 1 8 := ⟨Try.t178, _, by kernel_rfl, rfl, rfl, rfl, rfl, by decide, by decide⟩
instance : SizeIs Try.prog 179 1 := ⟨by kernel_rfl⟩
instance : AggIs Try.prog 179 false := ⟨by kernel_rfl⟩
instance : ZeroIs Try.prog 179 (Value.nilFunc) := ⟨by kernel_rfl⟩
instance : BytesIs Try.prog 179 1 8 := ⟨Try.t179, _, by kernel_rfl, rfl, rfl, rfl, rfl, by decide, by decide⟩
instance : SizeIs Try.prog 180 1 := ⟨by kernel_rfl⟩
instance : AggIs Try.prog 180 false := ⟨by kernel_rfl⟩
instance : ZeroIs Try.prog 180 (Value.nilFunc) := ⟨by kernel_rfl⟩
instance : BytesIs Try.prog 180 1 8 := ⟨Try.t180, _, by kernel_rfl, rfl, rfl, rfl, rfl, by decide, by decide⟩
instance : SizeIs Try.prog 181 1 := ⟨by kernel_rfl⟩
instance : AggIs Try.prog 181 false := ⟨by kernel_rfl⟩
instance : ZeroIs Try.prog 181 (Value.nilFunc) := ⟨by kernel_rfl⟩
instance : BytesIs Try.prog 181 1 8 := ⟨Try.t181, _, by kernel_rfl, rfl, rfl, rfl, rfl, by decide, by decide⟩
instance : SizeIs Try.prog 182 1 := ⟨by kernel_rfl⟩
instance : AggIs Try.prog 182 false := ⟨by kernel_rfl⟩
instance : ZeroIs Try.prog 182 (Value.nilFunc) := ⟨by kernel_rfl⟩
instance : BytesIs Try.prog 182 1 8 := ⟨Try.t182, _, by kernel_rfl, rfl, rfl, rfl, rfl, by decide, by decide⟩
instance : SizeIs Try.prog 183 1 := ⟨by kernel_rfl⟩
instance : AggIs Try.prog 183 false := ⟨by kernel_rfl⟩
instance : ZeroIs Try.prog 183 (Value.nilFunc) := ⟨by kernel_rfl⟩
instance : BytesIs Try.prog 183 1 8 := ⟨Try.t183, _, by kernel_rfl, rfl, rfl, rfl, rfl, by decide, by decide⟩
instance : SizeIs Try.prog 184 1 := ⟨by kernel_rfl⟩
instance : AggIs Try.prog 184 false := ⟨by kernel_rfl⟩
instance : ZeroIs Try.prog 184 (Value.nilFunc) := ⟨by kernel_rfl⟩
instance : BytesIs Try.prog 184 1 8 := ⟨Try.t184, _, by kernel_rfl, rfl, rfl, rfl, rfl, by decide, by decide⟩
instance : FieldIs Try.prog 185 0 0 17 1 := ⟨_, _, Try.underlying185, rfl, rfl, rfl, by kernel_rfl, by decide⟩
instance : FieldIs Try.prog 185 1 1 17 1 := ⟨_, _, Try.underlying185, rfl, rfl, rfl, by kernel_rfl, by decide⟩
instance : FieldIs Try.prog 185 2 2 17 1 := ⟨_, _, Try.underlying185, rfl, rfl, rfl, by kernel_rfl, by decide⟩
instance : FieldIs Try.prog 185 3 3 9 1 := ⟨_, _, Try.underlying185, rfl, rfl, rfl, by kernel_rfl, by decide⟩
instance : StructOk Try.prog 185 := ⟨_, Try.underlying185, by kernel_rfl⟩
instance : SizeIs Try.prog 185 4 := ⟨by kernel_rfl⟩
instance : AggIs Try.prog 185 true := ⟨by kernel_rfl⟩
instance : ZeroIs Try.prog 185 ((Value.agg #[Value.pointer none, Value.pointer none, Value.pointer none, Value.string ByteArray.empty])) := ⟨by kernel_rfl⟩
instance : BytesIs Try.prog 185 4 40 := ⟨Try.t185, _, by kernel_rfl, rfl, rfl, rfl, rfl, by decide, by decide⟩
instance : FieldIs Try.prog 186 0 0 17 1 := ⟨_, _, Try.underlying186, rfl, rfl, rfl, by kernel_rfl, by decide⟩
instance : FieldIs Try.prog 186 1 1 17 1 := ⟨_, _, Try.underlying186, rfl, rfl, rfl, by kernel_rfl, by decide⟩
instance : FieldIs Try.prog 186 2 2 17 1 := ⟨_, _, Try.underlying186, rfl, rfl, rfl, by kernel_rfl, by decide⟩
instance : FieldIs Try.prog 186 3 3 9 1 := ⟨_, _, Try.underlying186, rfl, rfl, rfl, by kernel_rfl, by decide⟩
instance : StructOk Try.prog 186 := ⟨_, Try.underlying186, by kernel_rfl⟩
instance : SizeIs Try.prog 186 4 := ⟨by kernel_rfl⟩
instance : AggIs Try.prog 186 true := ⟨by kernel_rfl⟩
instance : ZeroIs Try.prog 186 ((Value.agg #[Value.pointer none, Value.pointer none, Value.pointer none, Value.string ByteArray.empty])) := ⟨by kernel_rfl⟩
instance : BytesIs Try.prog 186 4 40 := ⟨Try.t186, _, by kernel_rfl, rfl, rfl, rfl, rfl, by decide, by decide⟩
instance : UnderIs Try.prog 187 (.array 0 16) := ⟨Try.underlying187⟩
instance : SizeIs Try.prog 187 0 := ⟨by kernel_rfl⟩
instance : AggIs Try.prog 187 true := ⟨by kernel_rfl⟩
instance : StructOk Try.prog 188 := ⟨_, Try.underlying188, by kernel_rfl⟩
instance : SizeIs Try.prog 188 0 := ⟨by kernel_rfl⟩
instance : AggIs Try.prog 188 true := ⟨by kernel_rfl⟩
instance : StructOk Try.prog 189 := ⟨_, Try.underlying189, by kernel_rfl⟩
instance : SizeIs Try.prog 189 0 := ⟨by kernel_rfl⟩
instance : AggIs Try.prog 189 true := ⟨by kernel_rfl⟩
instance : SizeIs Try.prog 190 1 := ⟨by kernel_rfl⟩
instance : AggIs Try.prog 190 false := ⟨by kernel_rfl⟩
instance : ZeroIs Try.prog 190 (Value.nilFunc) := ⟨by kernel_rfl⟩
instance : BytesIs Try.prog 190 1 8 := ⟨Try.t190, _, by kernel_rfl, rfl, rfl, rfl, rfl, by decide, by decide⟩
instance : UnderIs Try.prog 191 (.int IntKind.u32) := ⟨Try.underlying191⟩
instance : SizeIs Try.prog 191 1 := ⟨by kernel_rfl⟩
instance : AggIs Try.prog 191 false := ⟨by kernel_rfl⟩
instance : ZeroIs Try.prog 191 ((Value.int IntKind.u32 0)) := ⟨by kernel_rfl⟩
instance : BytesIs Try.prog 191 1 4 := ⟨Try.t191, _, by kernel_rfl, rfl, rfl, rfl, rfl, by decide, by decide⟩
instance : UnderIs Try.prog 192 (.int IntKind.u8) := ⟨Try.underlying192⟩
instance : SizeIs Try.prog 192 1 := ⟨by kernel_rfl⟩
instance : AggIs Try.prog 192 false := ⟨by kernel_rfl⟩
instance : ZeroIs Try.prog 192 ((Value.int IntKind.u8 0)) := ⟨by kernel_rfl⟩
instance : BytesIs Try.prog 192 1 1 := ⟨Try.t192, _, by kernel_rfl, rfl, rfl, rfl, rfl, by decide, by decide⟩
instance : UnderIs Try.prog 193 (.int IntKind.u8) := ⟨Try.underlying193⟩
instance : SizeIs Try.prog 193 1 := ⟨by kernel_rfl⟩
instance : AggIs Try.prog 193 false := ⟨by kernel_rfl⟩
instance : ZeroIs Try.prog 193 ((Value.int IntKind.u8 0)) := ⟨by kernel_rfl⟩
instance : BytesIs Try.prog 193 1 1 := ⟨Try.t193, _, by kernel_rfl, rfl, rfl, rfl, rfl, by decide, by decide⟩
instance : SizeIs Try.prog 194 1 := ⟨by kernel_rfl⟩
instance : AggIs Try.prog 194 false := ⟨by kernel_rfl⟩
instance : ZeroIs Try.prog 194 (Value.nilFunc) := ⟨by kernel_rfl⟩
instance : BytesIs Try.prog 194 1 8 := ⟨Try.t194, _, by kernel_rfl, rfl, rfl, rfl, rfl, by decide, by decide⟩
instance : UnderIs Try.prog 195 (.pointer 5) := ⟨Try.underlying195⟩
instance : SizeIs Try.prog 195 1 := ⟨by kernel_rfl⟩
instance : AggIs Try.prog 195 false := ⟨by kernel_rfl⟩
instance : ZeroIs Try.prog 195 ((Value.pointer none)) := ⟨by kernel_rfl⟩
instance : BytesIs Try.prog 195 1 8 := ⟨Try.t195, _, by kernel_rfl, rfl, rfl, rfl, rfl, by decide, by decide⟩
instance : UnderIs Try.prog 196 (.int IntKind.i32) := ⟨Try.underlying196⟩
instance : SizeIs Try.prog 196 1 := ⟨by kernel_rfl⟩
instance : AggIs Try.prog 196 false := ⟨by kernel_rfl⟩
instance : ZeroIs Try.prog 196 ((Value.int IntKind.i32 0)) := ⟨by kernel_rfl⟩
instance : BytesIs Try.prog 196 1 4 := ⟨Try.t196, _, by kernel_rfl, rfl, rfl, rfl, rfl, by decide, by decide⟩
instance : UnderIs Try.prog 197 (.int IntKind.i32) := ⟨Try.underlying197⟩
instance : SizeIs Try.prog 197 1 := ⟨by kernel_rfl⟩
instance : AggIs Try.prog 197 false := ⟨by kernel_rfl⟩
instance : ZeroIs Try.prog 197 ((Value.int IntKind.i32 0)) := ⟨by kernel_rfl⟩
instance : BytesIs Try.prog 197 1 4 := ⟨Try.t197, _, by kernel_rfl, rfl, rfl, rfl, rfl, by decide, by decide⟩
instance : FieldIs Try.prog 198 0 0 12 1 := ⟨_, _, Try.underlying198, rfl, rfl, rfl, by kernel_rfl, by decide⟩
instance : FieldIs Try.prog 198 1 1 12 1 := ⟨_, _, Try.underlying198, rfl, rfl, rfl, by kernel_rfl, by decide⟩
instance : FieldIs Try.prog 198 2 2 191 1 := ⟨_, _, Try.underlying198, rfl, rfl, rfl, by kernel_rfl, by decide⟩
instance : FieldIs Try.prog 198 3 3 192 1 := ⟨_, _, Try.underlying198, rfl, rfl, rfl, by kernel_rfl, by decide⟩
instance : FieldIs Try.prog 198 4 4 5 1 := ⟨_, _, Try.underlying198, rfl, rfl, rfl, by kernel_rfl, by decide⟩
instance : FieldIs Try.prog 198 5 5 5 1 := ⟨_, _, Try.underlying198, rfl, rfl, rfl, by kernel_rfl, by decide⟩
instance : FieldIs Try.prog 198 6 6 193 1 := ⟨_, _, Try.underlying198, rfl, rfl, rfl, by kernel_rfl, by decide⟩
instance : FieldIs Try.prog 198 7 7 194 1 := ⟨_, _, Try.underlying198, rfl, rfl, rfl, by kernel_rfl, by decide⟩
instance : FieldIs Try.prog 198 8 8 195 1 := ⟨_, _, Try.underlying198, rfl, rfl, rfl, by kernel_rfl, by decide⟩
instance : FieldIs Try.prog 198 9 9 196 1 := ⟨_, _, Try.underlying198, rfl, rfl, rfl, by kernel_rfl, by decide⟩
instance : FieldIs Try.prog 198 10 10 197 1 := ⟨_, _, Try.underlying198, rfl, rfl, rfl, by kernel_rfl, by decide⟩
instance : StructOk Try.prog 198 := ⟨_, Try.underlying198, by kernel_rfl⟩
instance : SizeIs Try.prog 198 11 := ⟨by kernel_rfl⟩
instance : AggIs Try.prog 198 true := ⟨by kernel_rfl⟩
instance : ZeroIs Try.prog 198 ((Value.agg #[Value.int IntKind.u64 0, Value.int IntKind.u64 0, Value.int IntKind.u32 0, Value.int IntKind.u8 0, Value.int IntKind.u8 0, Value.int IntKind.u8 0, Value.int IntKind.u8 0, Value.nilFunc, Value.pointer none, Value.int IntKind.i32 0, Value.int IntKind.i32 0])) := ⟨by kernel_rfl⟩
instance : BytesIs Try.prog 198 11 48 := ⟨Try.t198, _, by kernel_rfl, rfl, rfl, rfl, rfl, by decide, by decide⟩
instance : FieldIs Try.prog 199 0 0 12 1 := ⟨_, _, Try.underlying199, rfl, rfl, rfl, by kernel_rfl, by decide⟩
instance : FieldIs Try.prog 199 1 1 12 1 := ⟨_, _, Try.underlying199, rfl, rfl, rfl, by kernel_rfl, by decide⟩
instance : FieldIs Try.prog 199 2 2 191 1 := ⟨_, _, Try.underlying199, rfl, rfl, rfl, by kernel_rfl, by decide⟩
instance : FieldIs Try.prog 199 3 3 192 1 := ⟨_, _, Try.underlying199, rfl, rfl, rfl, by kernel_rfl, by decide⟩
instance : FieldIs Try.prog 199 4 4 5 1 := ⟨_, _, Try.underlying199, rfl, rfl, rfl, by kernel_rfl, by decide⟩
instance : FieldIs Try.prog 199 5 5 5 1 := ⟨_, _, Try.underlying199, rfl, rfl, rfl, by kernel_rfl, by decide⟩
instance : FieldIs Try.prog 199 6 6 193 1 := ⟨_, _, Try.underlying199, rfl, rfl, rfl, by kernel_rfl, by decide⟩
instance : FieldIs Try.prog 199 7 7 194 1 := ⟨_, _, Try.underlying199, rfl, rfl, rfl, by kernel_rfl, by decide⟩
instance : FieldIs Try.prog 199 8 8 195 1 := ⟨_, _, Try.underlying199, rfl, rfl, rfl, by kernel_rfl, by decide⟩
instance : FieldIs Try.prog 199 9 9 196 1 := ⟨_, _, Try.underlying199, rfl, rfl, rfl, by kernel_rfl, by decide⟩
instance : FieldIs Try.prog 199 10 10 197 1 := ⟨_, _, Try.underlying199, rfl, rfl, rfl, by kernel_rfl, by decide⟩
instance : StructOk Try.prog 199 := ⟨_, Try.underlying199, by kernel_rfl⟩
instance : SizeIs Try.prog 199 11 := ⟨by kernel_rfl⟩
instance : AggIs Try.prog 199 true := ⟨by kernel_rfl⟩
instance : ZeroIs Try.prog 199 ((Value.agg #[Value.int IntKind.u64 0, Value.int IntKind.u64 0, Value.int IntKind.u32 0, Value.int IntKind.u8 0, Value.int IntKind.u8 0, Value.int IntKind.u8 0, Value.int IntKind.u8 0, Value.nilFunc, Value.pointer none, Value.int IntKind.i32 0, Value.int IntKind.i32 0])) := ⟨by kernel_rfl⟩
instance : BytesIs Try.prog 199 11 48 := ⟨Try.t199, _, by kernel_rfl, rfl, rfl, rfl, rfl, by decide, by decide⟩
end Go.Ideal

-- La
set_option linter.unusedSimpArgs false
set_option linter.unusedVariables false
namespace Go.Ideal
open Go Go.Proofs
/-! ### Words of 64 bits -/
theorem wrap_u64_id {z : Int} (h0 : 0 ≤ z) (h : z < 2 ^ 64) : IntKind.u64.wrap z = z := by
  simp only [IntKind.wrap, IntKind.bits, IntKind.signed]; simp; omega
theorem shr_u64 {a : Nat} {n : Int} (h0 : 0 ≤ n) (ha : a < 2 ^ 64) : ((a : Int)).fdiv (2 ^ min n.toNat IntKind.u64.bits) = (a >>> n.toNat : Nat) := by
  have hb : IntKind.u64.bits = 64 := rfl
  rw [hb, Nat.shiftRight_eq_div_pow]
  have h2 : (2 : Int) ^ min n.toNat 64 = ((2 ^ min n.toNat 64 : Nat) : Int) := by simp
  rw [h2, Int.fdiv_eq_ediv_of_nonneg _ (Int.natCast_nonneg _), ← Int.natCast_ediv]
  congr 1
  by_cases hn : n.toNat ≤ 64
  · rw [Nat.min_eq_left hn]
  · rw [Nat.min_eq_right (by omega), Nat.div_eq_of_lt ha, Nat.div_eq_of_lt]
    exact Nat.lt_of_lt_of_le ha (Nat.pow_le_pow_right (by decide) (by omega))
instance : CallIs Try.prog 54 := .of Try.func54 rfl rfl
instance : CallIs Try.prog 53 := .of Try.func53 rfl rfl
instance : CallIs Try.prog 10 := .of Try.func10 rfl rfl
theorem shl_one {i : Int} (h0 : 0 ≤ i) (h1 : i < 64) : IntKind.u64.wrap (1 * 2 ^ min i.toNat IntKind.u64.bits) = (2 ^ i.toNat : Nat) := by
  have h2 : min i.toNat IntKind.u64.bits = i.toNat := by simp only [IntKind.bits]; omega
  have h3 : (2 : Int) ^ i.toNat < 2 ^ 64 := Int.pow_lt_pow_of_lt (by decide) (by omega)
  have h4 : (0 : Int) ≤ 2 ^ i.toNat := Int.pow_nonneg (by decide)
  rw [h2, Int.one_mul, wrap_u64_id h4 h3]
  simp
instance : CallIs Try.prog 12 := .of Try.func12 rfl rfl
end Go.Ideal
