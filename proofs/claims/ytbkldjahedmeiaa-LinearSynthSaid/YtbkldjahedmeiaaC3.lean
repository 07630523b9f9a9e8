/- Part 3 of what the proof stands on: an interpreter over an ideal memory that is proved sound, steps over it, and contracts of the functions that are called. No condition: no law is claimed here. -/
import Derived.Test.YtbkldjahedmeiaaC2
import Derived.Laws.Strings
import Derived.ChangeArms
import Derived.ChangeShapes
import Derived.WideShapes
import Derived.KernelRfl
import Derived.Test.YtbkldjahedmeiaaProg
-- IdealZ
set_option linter.unusedSimpArgs false
set_option linter.unusedVariables false
namespace Go.Ideal
open Go Go.RowKit
variable {P : Program} {E : Env} {s : Nat → Value} {h : IHp} {ops : Array Oper} {K : SK} {l : List Oper} {d : Option Tmp} {ty : TypeId} {pos : String} {af : Array Edge}
/-- a slice that grows, n elements of m cells: nothing yet, or a block of its own (not below lo) that is full -/
def LstM (m lo : Nat) (h : IHp) (v : Value) (n : Nat) (vs : List Value) (t : TypeId) : Prop :=
  (v = .slice none 0 0 ∧ n = 0 ∧ vs = []) ∨ ∃ b, lo ≤ b ∧ v = .slice (some (ad b 0)) n n ∧ ObjIs h b vs t false ∧ n ≠ 0 ∧ vs.length = n * m
theorem LstM.block {m lo : Nat} {h : IHp} {v : Value} {n : Nat} {vs : List Value} {t : TypeId} (x : LstM m lo h v n vs t) {b : Nat} (hb : blockOf v = some b) : lo ≤ b ∧ b < h.fresh := by
  rcases x with ⟨rfl, rfl, rfl⟩ | ⟨c, h1, rfl, h2, h3⟩
  · simp [blockOf] at hb
  · simp only [blockOf, Option.some.injEq] at hb; subst hb; exact ⟨h1, h2.lt⟩
theorem LstM.isSlice {m lo : Nat} {h : IHp} {v : Value} {n : Nat} {vs : List Value} {t : TypeId} (x : LstM m lo h v n vs t) : ∃ a, v = .slice a n n := by
  rcases x with ⟨rfl, rfl, rfl⟩ | ⟨c, h1, rfl, h2, h3⟩
  · exact ⟨_, rfl⟩
  · exact ⟨_, rfl⟩
theorem LstM.ext {m lo : Nat} {h h' : IHp} (e : Ext h h') {v : Value} {n : Nat} {vs : List Value} {t : TypeId} (x : LstM m lo h v n vs t) : LstM m lo h' v n vs t := by
  rcases x with ⟨h1, h2, h3⟩ | ⟨b, h1, h2, h3, h4⟩
  · exact .inl ⟨h1, h2, h3⟩
  · exact .inr ⟨b, h1, h2, ⟨h3.even, e.new _ _ h3.eq⟩, h4⟩
theorem LstM.put {m lo : Nat} {h : IHp} {v : Value} {n : Nat} {vs : List Value} {t : TypeId} (x : LstM m lo h v n vs t) {b : Nat} {o : IObj} (hb : blockOf v ≠ some b) (he : b % 2 = 0) : LstM m lo (h.putObj b o) v n vs t := by
  rcases x with ⟨h1, h2, h3⟩ | ⟨c, h1, rfl, h2, h3⟩
  · exact .inl ⟨h1, h2, h3⟩
  · refine .inr ⟨c, h1, rfl, ?_, h3⟩
    have : NeB c b := .of h2.even he (fun hc => hb (by simp [blockOf, hc]))
    infer_instance
theorem LstM.lower {m lo lo' : Nat} {h : IHp} {v : Value} {n : Nat} {vs : List Value} {t : TypeId} (x : LstM m lo h v n vs t) (hl : lo' ≤ lo) : LstM m lo' h v n vs t := by
  rcases x with h1 | ⟨b, h1, h2⟩
  · exact .inl h1
  · exact .inr ⟨b, by omega, h2⟩
theorem Mod.extM {h0 h h' : IHp} {v : Value} {m n : Nat} {vs : List Value} {t : TypeId} (md : Mod v h h') (e : Ext h0 h) (x : LstM m h0.fresh h v n vs t) : Ext h0 h' :=
  ⟨md.old.trans e.old, fun i o hi => md.new i o (e.new i o hi) (fun hb => by
    have h1 := (x.block hb).1
    have := (List.getElem?_eq_some_iff.1 hi).1
    unfold IHp.fresh at h1; omega)⟩
theorem append_lstM {m lo : Nat} {v : Value} {n : Nat} {vs ws : List Value} {e t by_ bx : Nat} [u : UnderIs P t (.slice e)] [bi : BytesIs P e m by_] (c : h.row bx 0 m = some ws) (x : LstM m lo h v n vs e) (hlo : lo ≤ h.fresh) (hr : (n + 1) * by_ ≤ 2 ^ 40) :
    ∃ v' h', iappend P h #[t, t] #[v, .slice (some (ad bx 0)) 1 1] = some (v', h') ∧ LstM m lo h' v' (n + 1) (vs ++ ws) e ∧ Mod v h h' ∧ blockOf v' = some h.fresh := by
  obtain ⟨ei, z, h1, h2, h3, h4, h5, h6, h7⟩ := bi.eq
  have rlen : ∀ (k off : Nat) (l : List Value), h.row bx off k = some l → l.length = k := by
    intro k
    induction k with
    | zero => intro off l hl; simp [IHp.row] at hl; subst hl; rfl
    | succ k ih =>
      intro off l hl
      simp only [IHp.row, Option.bind_eq_some_iff] at hl
      obtain ⟨w, _, l', h2, h3⟩ := hl
      obtain rfl := Option.some.inj h3
      simp [ih _ _ h2]
  have hwl := rlen _ _ _ c
  have hrow : h.rowAt (some (ad bx 0)) 1 m = some ws := by simp [IHp.rowAt, c]
  have hroom : roomOk ((n + 1) * by_) = true := by simp [roomOk]; omega
  rcases x with ⟨rfl, rfl, rfl⟩ | ⟨b, hb, rfl, ho, hne, hvl⟩
  · refine ⟨_, h.push (.cells ws e false), ?_, .inr ⟨h.fresh, hlo, rfl, by rw [List.nil_append]; infer_instance, by simp, by simp [hwl]⟩, ⟨rfl, fun i o hi _ => (Ext.push h _).new i o hi, by simp [IHp.push]⟩, rfl⟩
    simp only [Nat.zero_add, Nat.one_mul] at hroom
    simp [iappend, u.eq, h1, h2, h3, h4, h5, hrow, h6, h7, hroom, spotted]
  · have hl := ho.lt
    have he := ho.even
    refine ⟨_, ⟨h.old, (h.new.set (b / 2) .dead) ++ [IObj.cells (vs ++ ws) e false]⟩, ?_, .inr ⟨h.fresh, hlo, rfl, ⟨by unfold IHp.fresh; omega, ?_⟩, by simp, by simp [hwl, hvl, Nat.add_mul]⟩, ⟨rfl, fun i o hi hn => ?_, by simp⟩, rfl⟩
    · have hrow2 : h.rowAt (some (ad b 0)) n m = some vs := by
        have := row_obj (n := n * m) ho 0 (by omega)
        simp only [IHp.rowAt, this]
        rw [← hvl]; simp
      have hex : iexact h b = false := by unfold iexact; rw [if_neg (by omega), ho.eq]
      simp only [iappend, List.getElem?_toArray, List.getElem?_cons_zero, List.getElem?_cons_succ, u.eq, h1, h2, h3, h4, h5, h6, h7, hrow, hrow2, hex, ho.eq, hroom, Option.bind_some]
      simp [spotted, hroom, h6, hvl]
    · have : (IHp.fresh h) / 2 = h.new.length := by unfold IHp.fresh; omega
      rw [this]; simp
    · have : b / 2 ≠ i := by
        intro hbi; apply hn; simp only [blockOf]; congr 1; omega
      have hi2 := (List.getElem?_eq_some_iff.1 hi).1
      simp only
      rw [List.getElem?_append_left (by simpa using hi2), List.getElem?_set_ne this]; exact hi
theorem WS_appendM {m lo : Nat} {x y : Operand} {v : Value} {n : Nat} {vs ws : List Value} {e t by_ bx : Nat} [e1 : EvalIs s x v] [e2 : EvalIs s y (.slice (some (ad bx 0)) 1 1)] [u : UnderIs P t (.slice e)] [bi : BytesIs P e m by_] [c : RowIs h bx 0 m ws] (hx : LstM m lo h v n vs e) (hlo : lo ≤ h.fresh) (hr : (n + 1) * by_ ≤ 2 ^ 40)
    (k : ∀ v' h', LstM m lo h' v' (n + 1) (vs ++ ws) e → Mod v h h' → blockOf v' = some h.fresh → WS P E ops K l (putS s d v') h') : WS P E ops K (⟨d, .call ⟨.builtin .append, #[x, y], #[t, t]⟩, ty, pos, af, none⟩ :: l) s h := by
  obtain ⟨v', h', h1, h2, h3, h4⟩ := append_lstM (P := P) (t := t) (bx := bx) (ws := ws) c.eq hx hlo hr
  refine WS_heap rfl ?_ (k v' h' h2 h3 h4)
  have e1' := ev_eq (E := E) (h := h) (x := x) (s := s)
  have e2' := ev_eq (E := E) (h := h) (x := y) (s := s)
  show (if (#[x, y].size = 2) then iappend P h #[t, t] (#[x, y].map (E.st s h).eval) else none) = _
  rw [if_pos (show #[x, y].size = 2 from rfl)]
  simp only [List.map_toArray, List.map_cons, List.map_nil, e1', e2']
  exact h1
/-- closures -/
theorem WS_makeFunc {f : FuncId} {ac bs : List Operand} {va vb : List Value} [e1 : EvalsIs s ac va] [e2 : EvalsIs s bs vb] (k : WS P E ops K l (putS s d (.func (.func f) va.toArray vb.toArray)) h) : WS P E ops K (⟨d, .makeFunc (.func f) ac.toArray bs.toArray, ty, pos, af, none⟩ :: l) s h := by
  refine WS_pure rfl rfl ?_ k
  have h1 : ac.map (E.st s h).eval = va := e1.eq h E.nt E.marks E.rd
  have h2 : bs.map (E.st s h).eval = vb := e2.eq h E.nt E.marks E.rd
  simp only [ipure, List.map_toArray, h1, h2]
end Go.Ideal

-- IdealZa
set_option linter.unusedSimpArgs false
set_option linter.unusedVariables false
namespace Go.Ideal
open Go Go.RowKit
variable {P : Program} {E : Env} {s : Nat → Value} {h : IHp} {ops : Array Oper} {K : SK} {l : List Oper} {d : Option Tmp} {ty : TypeId} {pos : String} {af : Array Edge}
/-! ### Aggregates that are loaded first in a region that draws its order -/
class CellsL (i b off : Nat) (vs : List Value) (held : Held) (r : outParam Held) : Prop where eq : cellsOf i b off vs ++ held = r
instance CellsL.nil {i b off : Nat} {held : Held} : CellsL i b off [] held held := ⟨rfl⟩
instance CellsL.cons {i b off : Nat} {v : Value} {vs : List Value} {held r : Held} [c : CellsL i b (off + 1) vs held r] : CellsL i b off (v :: vs) held ((i, b, off, v) :: r) := ⟨by simp only [cellsOf, List.cons_append, c.eq]⟩
/-- an alloc ahead of its time -/
theorem WD_virt {i : Nat} {plan : List PStep} {held r : Held} {snaps : List IHp} {t : TypeId} {z : Value} {ws : List Value} (ho : ops[i]? = some ⟨d, .alloc t, ty, pos, af, none⟩) [zi : ZeroIs P t z] [cs : CellsOf z ws] (hpos : ws.isEmpty = false)
    [l1 : CellsL i h.fresh 0 ws held r] [hh : HeldIs (h.push (.cells ws t true)) r]
    (k : WD P E ops K plan r (h.push (.cells ws t true) :: snaps) (putS s d (.pointer (some (ad h.fresh 0)))) (h.push (.cells ws t true))) : WD P E ops K (.virt i :: plan) held snaps s h := by
  unfold WD at k ⊢
  obtain ⟨n, st', h5, h6⟩ := k
  refine ⟨n, st', ?_, h6⟩
  have h4 : z.cells.toList = ws := by rw [cs.eq]
  have hsz : decide (0 < z.cells.size) = true := by
    rw [cs.eq]; cases ws with
    | nil => cases hpos
    | cons a l => simp
  have hck := hh.eq
  simp only [iplan, ho, Option.bind_some, zi.eq, isRowV, h4, cs.ok, hsz, Bool.true_and, Env.st, l1.eq, hck, if_true]
  exact h5
theorem WD_load_agg {i : Nat} {plan : List PStep} {held r0 r : Held} {snaps : List IHp} {x : Operand} {t : TypeId} {b off n : Nat} {vs : List Value} (ho : ops[i]? = some ⟨d, .load t x, ty, pos, af, none⟩) [e : EvalIs s x (.pointer (some (ad b off)))] [u : AggIs P t true] [z : SizeIs P t n] [c : RowIs h b off n vs] [l0 : CellsL i b off vs [] r0] [l1 : CellsL i b off vs held r] [sn : SnapsIs snaps r0]
    (k : WD P E ops K plan r snaps (putS s d (.agg vs.toArray)) h) : WD P E ops K (.take i :: plan) held snaps s h := by
  unfold WD at k ⊢
  obtain ⟨n, st', h5, h6⟩ := k
  refine ⟨n, st', ?_, h6⟩
  have he := ev_eq (E := E) (h := h) (x := x) (s := s)
  have h0 := l0.eq
  rw [List.append_nil] at h0
  simp only [iplan, ho, Option.bind_some]
  rw [if_pos (by simp [iwanted, Region.wanted])]
  simp only [Env.st] at he h5 ⊢
  simp only [heldOf, he, u.eq, z.eq, Option.bind_some, c.eq, Option.map_some, h0, sn.eq, if_true, iheap, iload]
  rw [← h0, l1.eq]
  exact h5
theorem WD_load_agg_on {i j : Nat} {plan : List PStep} {held r0 r : Held} {snaps : List IHp} {x : Operand} {t : TypeId} {b off n : Nat} {vs : List Value} {u tt : Bool} {y : Tmp} (ho : ops[i]? = some ⟨d, .load t x, ty, pos, af, some (j, u)⟩) (hd : (ops[j]?).bind (·.dst) = some y) [g : Get s y (.bool tt)] (ht : tt = u) [e : EvalIs s x (.pointer (some (ad b off)))] [ua : AggIs P t true] [z : SizeIs P t n] [c : RowIs h b off n vs] [l0 : CellsL i b off vs [] r0] [l1 : CellsL i b off vs held r] [sn : SnapsIs snaps r0]
    (k : WD P E ops K plan r snaps (putS s d (.agg vs.toArray)) h) : WD P E ops K (.take i :: plan) held snaps s h := by
  unfold WD at k ⊢
  obtain ⟨n, st', h5, h6⟩ := k
  refine ⟨n, st', ?_, h6⟩
  have he := ev_eq (E := E) (h := h) (x := x) (s := s)
  have h0 := l0.eq
  rw [List.append_nil] at h0
  simp only [iplan, ho, Option.bind_some]
  rw [if_pos (by simp [iwanted, Region.wanted, iyielded, hd, Env.st, g.eq, ht])]
  simp only [Env.st] at he h5 ⊢
  simp only [heldOf, he, ua.eq, z.eq, Option.bind_some, c.eq, Option.map_some, h0, sn.eq, if_true, iheap, iload]
  rw [← h0, l1.eq]
  exact h5
/-- the guard of an operation that is taken first -/
theorem WD_guard {i j : Nat} {plan : List PStep} {held : Held} {snaps : List IHp} {op : Op} {u t : Bool} {x : Tmp} (ho : ops[i]? = some ⟨d, op, ty, pos, af, some (j, u)⟩) (hd : (ops[j]?).bind (·.dst) = some x) [g : Get s x (.bool t)] (k1 : t = u → WD P E ops K (.take i :: plan) held snaps s h) (k2 : t = !u → WD P E ops K (.take i :: plan) held snaps s h) : WD P E ops K (.take i :: plan) held snaps s h := by
  by_cases ht : t = u
  · exact k1 ht
  · exact k2 (by cases t <;> cases u <;> simp_all)
end Go.Ideal

-- IdealZb
set_option linter.unusedSimpArgs false
set_option linter.unusedVariables false
namespace Go.Ideal
open Go Go.RowKit
variable {P : Program} {E : Env} {s : Nat → Value} {h : IHp} {ops : Array Oper} {K : SK} {l : List Oper} {d : Option Tmp} {ty : TypeId} {pos : String} {af : Array Edge}
/-! ### The same number twice; contracts that say less; closed calls -/
theorem WS_neq_same {t yt : TypeId} {x y : Operand} {k : IntKind} {a : Int} [e1 : EvalIs s x (.int k a)] [e2 : EvalIs s y (.int k a)] (kk : WS P E ops K l (putS s d (.bool false)) h) :
    WS P E ops K (⟨d, .binOp .neq t x y yt, ty, pos, af, none⟩ :: l) s h := WS_cmp (r := false) (by simp [icmp]) kk
theorem WS_eql_same {t yt : TypeId} {x y : Operand} {k : IntKind} {a : Int} [e1 : EvalIs s x (.int k a)] [e2 : EvalIs s y (.int k a)] (kk : WS P E ops K l (putS s d (.bool true)) h) :
    WS P E ops K (⟨d, .binOp .eql t x y yt, ty, pos, af, none⟩ :: l) s h := WS_cmp (r := true) (by simp [icmp]) kk
theorem EvX.mono {f : FuncId} {args : Array Value} {Φ Ψ : Value → IHp → Prop} (e : EvX P f args h Φ) (k : ∀ v h', Φ v h' → Ψ v h') : EvX P f args h Ψ := by
  unfold EvX at *
  obtain ⟨v, h', h1, h2⟩ := e
  exact ⟨v, h', h1, k v h' h2⟩
theorem ext_of_take {h h' : IHp} (ho : h'.old = h.old) (ht : h'.new.take h.new.length = h.new) : Ext h h' := ⟨ho, fun i o hi => by
  have h1 : i < h.new.length := (List.getElem?_eq_some_iff.1 hi).1
  rw [← ht, List.getElem?_take] at hi
  rw [if_pos h1] at hi
  exact hi⟩
/-- a closed call, evaluated by the kernel -/
theorem EvX_ran {n f : Nat} {args : Array Value} {v : Value} (hr : (icall P n (.fn f) args h).map (fun r => (veq r.1 v, r.2.old, r.2.new.take h.new.length)) = some (true, h.old, h.new)) : EvX P f args h (fun w h' => w = v ∧ Ext h h') := by
  unfold EvX
  obtain ⟨⟨w, h'⟩, h1, h2⟩ := Option.map_eq_some_iff.1 hr
  simp only [Prod.mk.injEq] at h2
  obtain ⟨h3, h4, h5⟩ := h2
  exact ⟨w, h', ⟨n, h1⟩, veq_eq h3, ext_of_take h4 h5⟩
/-- the heap gets a name -/
theorem WS_gen (k : ∀ H, H = h → WS P E ops K l s H) : WS P E ops K l s h := k h rfl
theorem V_gen {c : Code} {Q : IExit → SK} (k : ∀ H, H = h → V P E c Q s H) : V P E c Q s h := k h rfl
/-! ### The slots that are still needed -/
theorem WS_live1 (i1 : Nat) {v1 : Value} [g1 : Get s i1 v1] (k : ∀ s', Get s' i1 v1 → WS P E ops K l s' h) : WS P E ops K l s h := k s g1
theorem WS_live2 (i1 i2 : Nat) {v1 v2 : Value} [g1 : Get s i1 v1] [g2 : Get s i2 v2] (k : ∀ s', Get s' i1 v1 → Get s' i2 v2 → WS P E ops K l s' h) : WS P E ops K l s h := k s g1 g2
theorem WS_live3 (i1 i2 i3 : Nat) {v1 v2 v3 : Value} [g1 : Get s i1 v1] [g2 : Get s i2 v2] [g3 : Get s i3 v3] (k : ∀ s', Get s' i1 v1 → Get s' i2 v2 → Get s' i3 v3 → WS P E ops K l s' h) : WS P E ops K l s h := k s g1 g2 g3
theorem WS_live4 (i1 i2 i3 i4 : Nat) {v1 v2 v3 v4 : Value} [g1 : Get s i1 v1] [g2 : Get s i2 v2] [g3 : Get s i3 v3] [g4 : Get s i4 v4] (k : ∀ s', Get s' i1 v1 → Get s' i2 v2 → Get s' i3 v3 → Get s' i4 v4 → WS P E ops K l s' h) : WS P E ops K l s h := k s g1 g2 g3 g4
end Go.Ideal

-- IdealZc
set_option linter.unusedSimpArgs false
set_option linter.unusedVariables false
namespace Go.Ideal
open Go Go.RowKit
variable {P : Program} {E : Env} {s : Nat → Value} {h : IHp} {ops : Array Oper} {K : SK} {l : List Oper} {d : Option Tmp} {ty : TypeId} {pos : String} {af : Array Edge}
/-! ### Strings and bools, compared -/
def beqS (a b : ByteArray) : Bool := a.data.toList == b.data.toList
theorem beqS_iff {a b : ByteArray} : beqS a b = true ↔ a = b := by
  unfold beqS
  constructor
  · intro h; cases a; cases b; simp_all
  · rintro rfl; simp
theorem WS_streq {t yt : TypeId} {x y : Operand} {a b : ByteArray} [e1 : EvalIs s x (.string a)] [e2 : EvalIs s y (.string b)] (kk : WS P E ops K l (putS s d (.bool (beqS a b))) h) :
    WS P E ops K (⟨d, .binOp .eql t x y yt, ty, pos, af, none⟩ :: l) s h := by
  have hn : isNilConst y = false := by
    cases y with
    | const c => have h2 := e2.eq h 0 [] false; simp only [St.eval] at h2; subst h2; rfl
    | _ => rfl
  refine WS_pure rfl rfl (ipure_bin (ev_eq (E := E) (h := h) (x := x)) (ev_eq (E := E) (h := h) (x := y)) rfl rfl hn h ?_ rfl) kk
  simp [eqGuard, binOp, Op.stringOp, beqS, ByteArray.toList_eq]; rfl
theorem WS_strne {t yt : TypeId} {x y : Operand} {a b : ByteArray} [e1 : EvalIs s x (.string a)] [e2 : EvalIs s y (.string b)] (kk : WS P E ops K l (putS s d (.bool (!beqS a b))) h) :
    WS P E ops K (⟨d, .binOp .neq t x y yt, ty, pos, af, none⟩ :: l) s h := by
  have hn : isNilConst y = false := by
    cases y with
    | const c => have h2 := e2.eq h 0 [] false; simp only [St.eval] at h2; subst h2; rfl
    | _ => rfl
  refine WS_pure rfl rfl (ipure_bin (ev_eq (E := E) (h := h) (x := x)) (ev_eq (E := E) (h := h) (x := y)) rfl rfl hn h ?_ rfl) kk
  simp [eqGuard, binOp, Op.stringOp, beqS, ByteArray.toList_eq]; rfl
theorem equal_bool {t : TypeId} (u : P.underlying t = some .bool) (a b : Bool) : pureOf P (Op.equal t (.bool a) (.bool b)) = some (a == b) := by
  rw [equal_succ]
  generalize 9999 = d
  simp only [Op.equalIn, underlying, program]
  show pureOf P (Sem.bind _ _) = _
  simp [pureOf, bind, pure, Sem.bind, u]
theorem WS_booleq {t yt : TypeId} {x y : Operand} {a b : Bool} [u : UnderIs P t .bool] [e1 : EvalIs s x (.bool a)] [e2 : EvalIs s y (.bool b)] (kk : WS P E ops K l (putS s d (.bool (a == b))) h) :
    WS P E ops K (⟨d, .binOp .eql t x y yt, ty, pos, af, none⟩ :: l) s h := by
  have hn : isNilConst y = false := by
    cases y with
    | const c => have h2 := e2.eq h 0 [] false; simp only [St.eval] at h2; subst h2; rfl
    | _ => rfl
  refine WS_pure rfl rfl (ipure_bin (ev_eq (E := E) (h := h) (x := x)) (ev_eq (E := E) (h := h) (x := y)) rfl rfl hn h ?_ rfl) kk
  have h1 := pureOf_map (P := P) (fun b => Value.bool b) (equal_bool u.eq a b)
  simpa [eqGuard, binOp] using h1
theorem WS_boolne {t yt : TypeId} {x y : Operand} {a b : Bool} [u : UnderIs P t .bool] [e1 : EvalIs s x (.bool a)] [e2 : EvalIs s y (.bool b)] (kk : WS P E ops K l (putS s d (.bool (!(a == b)))) h) :
    WS P E ops K (⟨d, .binOp .neq t x y yt, ty, pos, af, none⟩ :: l) s h := by
  have hn : isNilConst y = false := by
    cases y with
    | const c => have h2 := e2.eq h 0 [] false; simp only [St.eval] at h2; subst h2; rfl
    | _ => rfl
  refine WS_pure rfl rfl (ipure_bin (ev_eq (E := E) (h := h) (x := x)) (ev_eq (E := E) (h := h) (x := y)) rfl rfl hn h ?_ rfl) kk
  have h1 := pureOf_map (P := P) (fun b => Value.bool (!b)) (equal_bool u.eq a b)
  simpa [eqGuard, binOp] using h1

/-! ### Maps from strings -/
def ents : List (ByteArray × Value) → Nat → List MapEntry
  | [], _ => []
  | (b, v) :: l, i => { key := .string b, val := v, born := i } :: ents l (i + 1)
def lookB (b : ByteArray) : List (ByteArray × Value) → Option Value
  | [] => none
  | (k, v) :: l => if beqS b k then some v else lookB b l
theorem ents_append : ∀ (l r : List (ByteArray × Value)) (i : Nat), ents (l ++ r) i = ents l i ++ ents r (i + l.length) := by
  intro l
  induction l with
  | nil => intro r i; simp [ents]
  | cons p l ih => intro r i; obtain ⟨b, v⟩ := p; simp only [List.cons_append, ents, ih, List.length_cons]; rw [show i + 1 + l.length = i + (l.length + 1) by omega]
theorem find_ents (b : ByteArray) : ∀ (ks : List (ByteArray × Value)) (i j : Nat), Instr.findNow .string (.string b) (ents ks i) j = match lookB b ks with | none => some none | some v => some (some ((Instr.findNow .string (.string b) (ents ks i) j).bind id |>.map (·.1) |>.getD 0, v)) := by
  intro ks
  induction ks with
  | nil => intro i j; rfl
  | cons p ks ih =>
    intro i j
    obtain ⟨k, v⟩ := p
    have hb : (b == k) = beqS b k := by
      have h0 : (b == k) = (b.data == k.data) := rfl
      rw [h0, beqS]
      cases h1 : (b.data.toList == k.data.toList) with
      | true => have h2 := eq_of_beq h1; simp [Array.ext' h2]
      | false => rw [beq_eq_false_iff_ne] at h1 ⊢; exact fun h3 => h1 (by rw [h3])
    cases h1 : beqS b k with
    | true => simp only [ents, Instr.findNow, Instr.sameNow, lookB, hb, h1, if_true]; rfl
    | false =>
      have h2 := ih (i + 1) (j + 1)
      simp only [ents, Instr.findNow, Instr.sameNow, lookB, hb, h1, Bool.false_eq_true, if_false]
      exact h2
class MapIs (h : IHp) (m : Nat) (ks : outParam (List (ByteArray × Value))) : Prop where
  even : m % 2 = 0
  eq : h.new[m / 2]? = some (.map (ents ks 0) ks.length)
theorem MapIs.ext {h h' : IHp} (e : Ext h h') {m : Nat} {ks : List (ByteArray × Value)} (i : MapIs h m ks) : MapIs h' m ks := ⟨i.even, e.new _ _ i.eq⟩
instance (priority := 500) MapIs.extI {h h' : IHp} [e : Ext h h'] {m : Nat} {ks : List (ByteArray × Value)} [i : MapIs h m ks] : MapIs h' m ks := i.ext e
theorem WS_makeMap {t : TypeId} (k : WS P E ops K l (putS s d (.map (some h.fresh))) (h.push (.map [] 0))) : WS P E ops K (⟨d, .makeMap t none, ty, pos, af, none⟩ :: l) s h :=
  WS_heap rfl rfl k
theorem WS_insert {t kt et : TypeId} {m x y : Operand} {r : Nat} {b : ByteArray} {v : Value} {ks : List (ByteArray × Value)} [em : EvalIs s m (.map (some r))] [ex : EvalIs s x (.string b)] [ey : EvalIs s y v] [u : UnderIs P t (.map kt et)] [uk : UnderIs P kt .string] [mi : MapIs h r ks] (hb : lookB b ks = none)
    (k : WS P E ops K l (putS s d undef) (h.putObj r (.map (ents (ks ++ [(b, v)]) 0) (ks ++ [(b, v)]).length))) : WS P E ops K (⟨d, .insert t m x y, ty, pos, af, none⟩ :: l) s h := by
  refine WS_heap rfl ?_ k
  have h1 := ev_eq (E := E) (h := h) (x := m) (s := s)
  have h2 := ev_eq (E := E) (h := h) (x := x) (s := s)
  have h3 := ev_eq (E := E) (h := h) (x := y) (s := s)
  have hf := find_ents b ks 0 0
  rw [hb] at hf
  have he := mi.even
  simp only [iheap, iinsert, h1, h2, h3, u.eq, uk.eq, mi.eq, plainKey, flat, flatN, Bool.and_self, if_true, hf]
  rw [if_neg (by omega)]
  simp [ents_append, ents, IHp.putObj]
theorem WS_lookup {t kt et : TypeId} {m x : Operand} {r : Nat} {b : ByteArray} {z : Value} {ks : List (ByteArray × Value)} [em : EvalIs s m (.map (some r))] [ex : EvalIs s x (.string b)] [u : UnderIs P t (.map kt et)] [uk : UnderIs P kt .string] [mi : MapIs h r ks] [zi : ZeroIs P et z]
    (k : WS P E ops K l (putS s d ((lookB b ks).getD z)) h) : WS P E ops K (⟨d, .lookup t m x false, ty, pos, af, none⟩ :: l) s h := by
  refine WS_heap rfl ?_ k
  have h1 := ev_eq (E := E) (h := h) (x := m) (s := s)
  have h2 := ev_eq (E := E) (h := h) (x := x) (s := s)
  have hf := find_ents b ks 0 0
  have he := mi.even
  simp only [iheap, ilookup, h1, h2, u.eq, uk.eq, mi.eq, plainKey, flat, flatN, Bool.and_self, if_true]
  rw [if_neg (by omega)]
  cases hl : lookB b ks with
  | none => rw [hl] at hf; simp only at hf; rw [hf]; simp [zi.eq]
  | some v => rw [hl] at hf; simp only at hf; rw [hf]; simp
/-! ### A place where ways meet -/
theorem WS_mono {K' : SK} (hk : ∀ s h, K s h → K' s h) : ∀ {l : List Oper} {s : Nat → Value} {h : IHp}, WS P E ops K l s h → WS P E ops K' l s h := by
  intro l
  induction l with
  | nil => intro s h hw; rw [WS_nil_eq] at *; exact hk _ _ hw
  | cons o l ih =>
    intro s h hw
    rw [WS_cons_eq] at *
    split
    · rename_i hwn
      rw [if_pos hwn] at hw
      unfold WO at *
      split
      · rename_i c args hc
        rw [hc] at hw
        obtain ⟨n, v, h', h1, s2, h2, h3, h4⟩ := hw
        exact ⟨n, v, h', h1, s2, h2, h3, ih h4⟩
      · rename_i hc
        rw [hc] at hw
        obtain ⟨r, h1, s2, h2, h3, h4⟩ := hw
        exact ⟨r, h1, s2, h2, h3, ih h4⟩
    · rename_i hwn
      rw [if_neg hwn] at hw
      exact ih hw
/-- ways meet behind the region at hand -/
theorem WS_cut {b : Code} {Q : IExit → SK} (I : SK) (k1 : WS P E ops I l s h) (k2 : ∀ s' h', I s' h' → V P E b Q s' h') : WS P E ops (VseqK P E b Q .normal) l s h :=
  WS_mono (fun s' h' hi => by unfold VseqK; exact k2 s' h' hi) k1
theorem V_mono {c : Code} {Q Q' : IExit → SK} (hq : ∀ e s' h', Q e s' h' → Q' e s' h') (k : V P E c Q s h) : V P E c Q' s h := by
  unfold V at *
  refine W_mono ?_ k
  rintro e st ⟨s', h', rfl, h1⟩
  exact ⟨s', h', rfl, hq _ _ _ h1⟩
@[irreducible] def cutK (I : SK) (K : IExit → SK) : IExit → SK
  | .normal, s, h => I s h
  | e, s, h => K e s h
theorem C_normal {I : SK} {K : IExit → SK} (k : I s h) : cutK I K .normal s h := by unfold cutK; exact k
theorem C_exit {I : SK} {K : IExit → SK} {j : Nat} (k : K (.exit j) s h) : cutK I K (.exit j) s h := by unfold cutK; exact k
theorem C_ret {I : SK} {K : IExit → SK} (k : K .ret s h) : cutK I K .ret s h := by unfold cutK; exact k
/-- ways meet behind the code at hand -/
theorem V_cut {a b : Code} {Q : IExit → SK} (I : SK) (k1 : V P E a (cutK I (VseqK P E b Q)) s h) (k2 : ∀ s' h', I s' h' → V P E b Q s' h') : V P E a (VseqK P E b Q) s h :=
  V_mono (fun e s' h' hi => by
    unfold cutK at hi
    cases e with
    | normal => unfold VseqK; exact k2 s' h' hi
    | exit j => exact hi
    | ret => exact hi) k1
theorem V_cond_t {c : Operand} {a b : Code} {Q : IExit → SK} {t : Bool} [ev : EvalIs s c (.bool t)] (ht : t = true) (k : V P E a Q s h) : V P E (.cond c a b) Q s h := V_cond (fun _ => k) (fun h2 => by rw [ht] at h2; cases h2)
theorem V_cond_f {c : Operand} {a b : Code} {Q : IExit → SK} {t : Bool} [ev : EvalIs s c (.bool t)] (ht : t = false) (k : V P E b Q s h) : V P E (.cond c a b) Q s h := V_cond (fun h2 => by rw [ht] at h2; cases h2) (fun _ => k)
theorem get_as {s : Nat → Value} {i : Nat} {v w : Value} [g : Get s i v] (h : v = w) : Get s i w := ⟨g.eq.trans h⟩
/-- the guard's operation was passed over itself -/
theorem WS_off_undef {op : Op} {j : Nat} {u : Bool} {x : Tmp} (hd : (ops[j]?).bind (·.dst) = some x) [g : Get s x undef] (k : WS P E ops K l (putS s d undef) h) : WS P E ops K (⟨d, op, ty, pos, af, some (j, u)⟩ :: l) s h := by
  rw [WS_cons_eq, if_neg]
  · exact k
  · simp [iwanted, Region.wanted, iyielded, hd, g.eq, undef]
theorem WD_off_undef {i j : Nat} {plan : List PStep} {held : Held} {snaps : List IHp} {op : Op} {u : Bool} {x : Tmp} (ho : ops[i]? = some ⟨d, op, ty, pos, af, some (j, u)⟩) (hd : (ops[j]?).bind (·.dst) = some x) [g : Get s x undef]
    (k : WD P E ops K plan held snaps (putS s d undef) h) : WD P E ops K (.take i :: plan) held snaps s h := by
  unfold WD at k ⊢
  obtain ⟨n, st', h5, h6⟩ := k
  refine ⟨n, st', ?_, h6⟩
  simp only [iplan, ho, Option.bind_some]
  rw [if_neg]
  · exact h5
  · simp [iwanted, Region.wanted, iyielded, hd, Env.st, g.eq, undef]
/-- the first part of a slice -/
theorem WS_slice_hi {x y : Operand} {t e : TypeId} {a : Addr} {len cap m : Nat} {k : IntKind} {i : Int} [e1 : EvalIs s x (.slice (some a) len cap)] [e2 : EvalIs s y (.int k i)] [u : UnderIs P t (.slice e)] [z : SizeIs P e m] (hs : a.spot = none) (hi : 0 ≤ i ∧ i ≤ cap)
    (kk : WS P E ops K l (putS s d (.slice (some (ad a.block a.off)) i.toNat cap)) h) : WS P E ops K (⟨d, .slice t x none (some y) none, ty, pos, af, none⟩ :: l) s h := by
  refine WS_pure rfl rfl ?_ kk
  have h1 := ev_eq (E := E) (h := h) (x := x) (s := s)
  have h2 := ev_eq (E := E) (h := h) (x := y) (s := s)
  have h3 : ibounds len cap none (some (.int k i)) = some (0, i.toNat, cap) := by
    simp only [ibounds, ibound, if_pos hi, Option.bind_some]
    rw [if_pos (by omega)]
  simp only [ipure, islice, h1, h2, u.eq, Option.map_none, Option.map_some]
  rw [if_neg (by simp [spotted, hs])]
  simp only [h3, Option.bind_some, z.eq]
  rw [if_neg (by rintro ⟨_, h⟩; exact h rfl)]
  simp
theorem row_take {h : IHp} {b : Nat} : ∀ {n off : Nat} {vs : List Value}, h.row b off n = some vs → ∀ {k : Nat}, k ≤ n → h.row b off k = some (vs.take k) := by
  intro n
  induction n with
  | zero =>
    intro off vs hr k hk
    cases k with
    | zero => simp [IHp.row]
    | succ k => omega
  | succ n ih =>
    intro off vs hr k hk
    simp only [IHp.row, Option.bind_eq_some_iff] at hr
    obtain ⟨v, hv, vs', hvs, h3⟩ := hr
    obtain rfl := Option.some.inj h3
    cases k with
    | zero => simp [IHp.row]
    | succ k => simp only [IHp.row, hv, Option.bind_some, ih hvs (show k ≤ n by omega), List.take_succ_cons]
/-- what was held and is waited for is held no more -/
def keptL (ops : Array Oper) (i : Nat) (e : Nat × Nat × Nat × Value) : Bool := quietAt ops i || !waitsL ops i e.1
@[irreducible] def Filt (ops : Array Oper) (i : Nat) (l : Held) (C : Held → Prop) : Prop := C (l.filter (keptL ops i))
theorem Filt_nil {i : Nat} {C : Held → Prop} (k : C []) : Filt ops i [] C := by unfold Filt; exact k
theorem Filt_drop {i j b off : Nat} {v : Value} {l : Held} {C : Held → Prop} (hk : keptL ops i (j, b, off, v) = false) (k : Filt ops i l C) : Filt ops i ((j, b, off, v) :: l) C := by
  unfold Filt at *; rw [List.filter_cons, if_neg (by rw [hk]; decide)]; exact k
theorem Filt_keep {i j b off : Nat} {v : Value} {l : Held} {C : Held → Prop} (hk : keptL ops i (j, b, off, v) = true) (k : Filt ops i l (fun r => C ((j, b, off, v) :: r))) : Filt ops i ((j, b, off, v) :: l) C := by
  unfold Filt at *; rw [List.filter_cons, if_pos hk]; exact k
theorem WD_filt {i : Nat} {plan : List PStep} {held : Held} {snaps : List IHp} {o : Oper} (ho : ops[i]? = some o) (k : Filt ops i held (fun r => WS P E ops (WDK P E ops K plan r snaps) [o] s h)) : WD P E ops K (.one i :: plan) held snaps s h :=
  WD_one_of (held' := held.filter (keptL ops i)) ho (fun e he => by
    unfold heldBut at he
    rw [List.mem_filter]
    unfold keptL
    split at he
    · rename_i hq; exact ⟨he, by rw [hq]; rfl⟩
    · have h1 := List.mem_filter.1 he
      refine ⟨h1.1, ?_⟩
      have h2 := h1.2
      rw [← waitsL_eq] at h2
      rw [h2]; simp) (by unfold Filt at k; exact k)
end Go.Ideal

-- IdealZd
set_option linter.unusedSimpArgs false
set_option linter.unusedVariables false
namespace Go.Ideal
open Go Go.RowKit
variable {P : Program} {E : Env} {s : Nat → Value} {h : IHp} {ops : Array Oper} {K : SK} {l : List Oper} {d : Option Tmp} {ty : TypeId} {pos : String} {af : Array Edge}

/-! ### Loops over functions -/
/-- what lies at a block, whatever it is -/
class AtIs (h : IHp) (b : Nat) (o : outParam IObj) : Prop where
  even : b % 2 = 0
  eq : h.new[b / 2]? = some o
theorem AtIs.lt {b : Nat} {o : IObj} (a : AtIs h b o) : b < h.fresh := by
  have := (List.getElem?_eq_some_iff.1 a.eq).1
  have := a.even
  unfold IHp.fresh; omega
instance (priority := 1000) AtIs.pushed {o : IObj} : AtIs (h.push o) h.fresh o := ⟨by unfold IHp.fresh; omega, obj_push h _⟩
instance (priority := 900) AtIs.push {o o' : IObj} {b : Nat} [i : AtIs h b o] : AtIs (h.push o') b o := ⟨i.even, (Ext.push h o').new _ _ i.eq⟩
instance (priority := 500) AtIs.ext {h' : IHp} {b : Nat} {o : IObj} [e : Ext h h'] [i : AtIs h b o] : AtIs h' b o := ⟨i.even, e.new _ _ i.eq⟩
theorem AtIs.put {b : Nat} {o o' : IObj} (i : AtIs h b o') : AtIs (h.putObj b o) b o := ⟨i.even, by
  have := (List.getElem?_eq_some_iff.1 i.eq).1
  simp [IHp.putObj, this]⟩
instance (priority := 1000) AtIs.putI {b : Nat} {o o' : IObj} [i : AtIs h b o'] : AtIs (h.putObj b o) b o := i.put
instance (priority := 800) AtIs.put_ne {b b' : Nat} {o o' : IObj} [n : NeB b' b] [i : AtIs h b' o'] : AtIs (h.putObj b o) b' o' := ⟨i.even, by
  have h1 := i.eq
  have h3 := n.eq
  simp only [IHp.putObj]
  rw [List.getElem?_set_ne (fun h => h3 h.symm)]; exact h1⟩
/-- a block of cells and one that is none are two -/
theorem AtIs.ne {b b' : Nat} {o : IObj} {c : List Value} {t : TypeId} {x : Bool} (i : AtIs h b o) (j : ObjIs h b' c t x) (hn : ∀ c e x, o ≠ .cells c e x) : NeB b' b := ⟨fun he => by
  have h1 := i.eq
  have h2 := j.eq
  rw [he, h1] at h2
  exact hn _ _ _ (Option.some.inj h2)⟩

/-- the round of a loop over a function -/
def EvY (P : Program) (b : Nat) (args : Array Value) (h : IHp) (Φ : Value → IHp → Prop) : Prop := ∃ n v h', icall P n (.yld b) args h = some (v, h') ∧ Φ v h'
theorem EvY.mono {b : Nat} {args : Array Value} {Φ Ψ : Value → IHp → Prop} (hy : EvY P b args h Φ) (hi : ∀ v h', Φ v h' → Ψ v h') : EvY P b args h Ψ :=
  let ⟨n, v, h', h1, h2⟩ := hy; ⟨n, v, h', h1, hi _ _ h2⟩
theorem WS_yield {fv : Operand} {b : Nat} {ps : List Operand} {vs : List Value} {at_ : Array TypeId} {Φ : Value → IHp → Prop} [ef : EvalIs s fv (.func (.yield b) #[] #[])] [e : EvalsIs s ps vs] (hc : EvY P b vs.toArray h Φ) (k : ∀ v h', Φ v h' → WS P E ops K l (putS s d v) h') :
    WS P E ops K (⟨d, .call ⟨.value fv, ps.toArray, at_⟩, ty, pos, af, none⟩ :: l) s h := by
  obtain ⟨n, v, h', hn, hp⟩ := hc
  rw [WS_cons_eq]
  rw [if_pos (by simp [iwanted, Region.wanted])]
  unfold WO
  have h1 : icallee P (E.st s h).eval ⟨d, .call ⟨.value fv, ps.toArray, at_⟩, ty, pos, af, none⟩ = some (.yld b, vs.toArray) := by
    simp only [icallee, List.map_toArray]
    have h2 : ps.map (E.st s h).eval = vs := e.eq h E.nt E.marks E.rd
    rw [h2, ev_eq (E := E) (h := h) (x := fv)]
    simp [icalleeV]
  rw [h1]
  exact ⟨n, v, h', hn, _, _, rfl, k v h' hp⟩

@[irreducible] def roundK2 (P : Program) (b : Nat) (Φ : Value → IHp → Prop) : IExit → SK := fun e s h =>
  e = .normal ∧ ∃ nt T ps ac bd st p, AtIs h b (.loop nt T ps ac bd st p) ∧ Φ (.bool true) (h.putObj b (.loop nt T ps ac bd .ready none))
@[irreducible] def roundK (P : Program) (nt b : Nat) (body : Code) (Φ : Value → IHp → Prop) : IExit → SK := fun e s h =>
  e = .normal ∧ ∃ nt1 T ps ac bd p, AtIs h b (.loop nt1 T ps ac bd .ready p) ∧ V P ⟨nt, [], true⟩ body (roundK2 P b Φ) s (h.putObj b (.loop nt1 T ps ac bd .busy p))
theorem roundK2_go {b nt : Nat} {T : Nat → Value} {ps : Array Tmp} {ac bd : Code} {st : LoopState} {p : Option Code} {Φ : Value → IHp → Prop} [i : AtIs h b (.loop nt T ps ac bd st p)] (k : Φ (.bool true) (h.putObj b (.loop nt T ps ac bd .ready none))) : roundK2 P b Φ .normal s h := by
  unfold roundK2; exact ⟨rfl, nt, T, ps, ac, bd, st, p, i, k⟩
theorem roundK_go {b nt nt1 : Nat} {body : Code} {T : Nat → Value} {ps : Array Tmp} {ac bd : Code} {p : Option Code} {Φ : Value → IHp → Prop} [i : AtIs h b (.loop nt1 T ps ac bd .ready p)] (k : V P ⟨nt, [], true⟩ body (roundK2 P b Φ) s (h.putObj b (.loop nt1 T ps ac bd .busy p))) : roundK P nt b body Φ .normal s h := by
  unfold roundK; exact ⟨rfl, nt1, T, ps, ac, bd, p, i, k⟩
theorem EvY_of {b nt : Nat} {T : Nat → Value} {ps : Array Tmp} {ac body : Code} {p : Option Code} {args : List Value} {Φ : Value → IHp → Prop} (i : AtIs h b (.loop nt T ps ac body .ready p)) (hsz : args.length = ps.size)
    (k : V P ⟨nt, [], true⟩ ac (roundK P nt b body Φ) (putAll T (ps.toList.zip args)) h) : EvY P b args.toArray h Φ := by
  unfold V at k
  obtain ⟨n1, e1, st1, hi1, s1, h1, rfl, k⟩ := k
  unfold roundK at k
  obtain ⟨rfl, nt1, T1, ps1, as1, bd1, p1, i1, k⟩ := k
  unfold V at k
  obtain ⟨n2, e2, st2, hi2, s2, h2, rfl, k⟩ := k
  unfold roundK2 at k
  obtain ⟨rfl, nt2, T2, ps2, as2, bd2, st2, p2, i2, k⟩ := k
  refine ⟨max n1 n2, .bool true, _, ?_, k⟩
  have hi1' := icode_mono (Nat.le_max_left n1 n2) _ _ _ hi1
  have hi2' := icode_mono (Nat.le_max_right n1 n2) _ _ _ hi2
  simp only [icall, icallBy, iround]
  rw [if_neg (by have := i.even; omega)]
  simp only [i.eq]
  rw [if_pos (by simpa using hsz)]
  have e0 : icode P (max n1 n2) ac { s := putAll T (ps.toList.zip args.toArray.toList), h, nt, rd := true } = some (.normal, (⟨nt, [], true⟩ : Env).st s1 h1) := hi1'
  simp only [e0, Env.st, i1.eq]
  have e3 : icode P (max n1 n2) body ⟨s1, { h1 with new := h1.new.set (b / 2) (.loop nt1 T1 ps1 as1 bd1 .busy p1) }, nt, [], true⟩ = some (.normal, (⟨nt, [], true⟩ : Env).st s2 h2) := hi2'
  simp only [e3, Env.st, i2.eq]
  rfl

/-- a statement that ends with a loop over a function -/
def splitL : Code → Option (Code × Nat × Operand × Array Tmp × Code × Code)
  | .block id (.rangeFunc f ps ac bd) => some (.skip, id, f, ps, ac, bd)
  | .seq a b => (splitL b).map fun r => (.seq a r.1, r.2)
  | _ => none
/-- the code up to a loop over a function, that loop, and what comes behind it -/
def splitR : Code → Option (Code × Nat × Operand × Array Tmp × Code × Code × Code)
  | .seq a b =>
    match splitL a with
    | some r => some (r.1, r.2.1, r.2.2.1, r.2.2.2.1, r.2.2.2.2.1, r.2.2.2.2.2, b)
    | none => (splitR b).map fun r => (.seq a r.1, r.2)
  | _ => none
def splitK (P : Program) (c : Code) (Q : IExit → St → Prop) : IExit → St → Prop
  | .normal, st => W P c Q st
  | e, st => Q e st
theorem W_splitL {t : Code} {Q : IExit → St → Prop} (a : Code) : ∀ {r : Code × Nat × Operand × Array Tmp × Code × Code} {st : St}, splitL a = some r → W P r.1 (splitK P (.seq (.block r.2.1 (.rangeFunc r.2.2.1 r.2.2.2.1 r.2.2.2.2.1 r.2.2.2.2.2)) t) Q) st → W P (.seq a t) Q st := by
  induction a with
  | block id b _ =>
    intro r st hs hw
    cases b <;> simp only [splitL] at hs <;> try (cases hs; done)
    cases hs
    rw [W_skip] at hw
    exact hw
  | seq x y _ ih =>
    intro r st hs hw
    simp only [splitL, Option.map_eq_some_iff] at hs
    obtain ⟨r', h1, rfl⟩ := hs
    rw [W_seq] at hw
    rw [W_seq, W_seq]
    refine W_mono (fun e st hq => ?_) hw
    cases e with
    | normal =>
      have := ih h1 hq
      rw [W_seq] at this
      exact this
    | exit j => exact hq
    | ret => exact hq
  | _ => intro r st hs; simp [splitL] at hs
theorem W_split {Q : IExit → St → Prop} (c : Code) : ∀ {r : Code × Nat × Operand × Array Tmp × Code × Code × Code} {st : St}, splitR c = some r → W P r.1 (splitK P (.seq (.block r.2.1 (.rangeFunc r.2.2.1 r.2.2.2.1 r.2.2.2.2.1 r.2.2.2.2.2.1)) r.2.2.2.2.2.2) Q) st → W P c Q st := by
  induction c with
  | seq x y _ ih =>
    intro r st hs hw
    simp only [splitR] at hs
    split at hs
    · rename_i r' hl
      cases hs
      exact W_splitL x hl hw
    · simp only [Option.map_eq_some_iff] at hs
      obtain ⟨r', h1, rfl⟩ := hs
      rw [W_seq] at hw ⊢
      refine W_mono (fun e st hq => ?_) hw
      cases e with
      | normal => exact ih h1 hq
      | exit j => exact hq
      | ret => exact hq
  | _ => intro r st hs; simp [splitR] at hs

/-- the loop's own block is given up where the function ends -/
@[irreducible] def tailK (P : Program) (E : Env) (b : Nat) (rs : List ResultVar) (Φ : Value → IHp → Prop) : IExit → SK := fun e s h => AtIs h b .defr ∧ retK P E rs Φ e s (h.putObj b .dead)
theorem tailK_go {b : Nat} {rs : List ResultVar} {Φ : Value → IHp → Prop} {e : IExit} [i : AtIs h b .defr] (k : retK P E rs Φ e s (h.putObj b .dead)) : tailK P E b rs Φ e s h := by unfold tailK; exact ⟨i, k⟩
@[irreducible] def rangeK (P : Program) (nt : Nat) (rs : List ResultVar) (f : Operand) (ps : Array Tmp) (ac bd t : Code) (Φ : Value → IHp → Prop) : IExit → SK
  | .normal, s, h => ∃ g a c, EvalIs s f (.func (.func g) a c) ∧ CallIs P g ∧ EvX P g ((a ++ #[.func (.yield (h.fresh + 2)) #[] #[]]) ++ c) ((h.push .defr).push (.loop nt s ps ac bd .ready none))
      (fun _ h3 => ∃ T3 ps3 as3 bd3 st3, AtIs h3 (h.fresh + 2) (.loop nt T3 ps3 as3 bd3 st3 none) ∧ notBusy st3 = true ∧ V P ⟨nt, [h.fresh / 2], false⟩ t (tailK P ⟨nt, [h.fresh / 2], false⟩ h.fresh rs Φ) s (h3.putObj (h.fresh + 2) (.loop nt T3 ps3 as3 bd3 .exhausted none)))
  | e, s, h => retK P ⟨nt, [], false⟩ rs Φ e s h
theorem rangeK_go {nt g : Nat} {rs : List ResultVar} {f : Operand} {ps : Array Tmp} {ac bd t : Code} {a c : Array Value} {Φ Ψ : Value → IHp → Prop} [ef : EvalIs s f (.func (.func g) a c)] [cg : CallIs P g]
    (hc : EvX P g ((a ++ #[.func (.yield (h.fresh + 2)) #[] #[]]) ++ c) ((h.push .defr).push (.loop nt s ps ac bd .ready none)) Ψ)
    (k : ∀ v h3, Ψ v h3 → ∃ T3 ps3 as3 bd3 st3, AtIs h3 (h.fresh + 2) (.loop nt T3 ps3 as3 bd3 st3 none) ∧ notBusy st3 = true ∧ V P ⟨nt, [h.fresh / 2], false⟩ t (tailK P ⟨nt, [h.fresh / 2], false⟩ h.fresh rs Φ) s (h3.putObj (h.fresh + 2) (.loop nt T3 ps3 as3 bd3 .exhausted none))) :
    rangeK P nt rs f ps ac bd t Φ .normal s h := by
  unfold rangeK
  refine ⟨g, a, c, ef, cg, ?_⟩
  unfold EvX at hc ⊢
  obtain ⟨v, h', h1, h2⟩ := hc
  exact ⟨v, h', h1, k _ _ h2⟩
theorem rangeK_ret {nt : Nat} {rs : List ResultVar} {f : Operand} {ps : Array Tmp} {ac bd t : Code} {Φ : Value → IHp → Prop} (k : retK P ⟨nt, [], false⟩ rs Φ .ret s h) : rangeK P nt rs f ps ac bd t Φ .ret s h := by unfold rangeK; exact k
theorem EvX_of_range {fid : FuncId} {fn : Func} {c a : Code} {id : Nat} {f : Operand} {ps : Array Tmp} {ac bd t : Code} {args : List Value} {Φ : Value → IHp → Prop} (hf : P.funcs[fid]? = some fn) (hb : fn.body = some c)
    (hs : splitR c = some (a, id, f, ps, ac, bd, t)) (hsz : args.length ≤ fn.ntmps)
    (hw : V P ⟨fn.ntmps, [], false⟩ a (rangeK P fn.ntmps fn.results.toList f ps ac bd t Φ) (argS args) h) : EvX P fid args.toArray h Φ := by
  unfold V at hw
  have hw2 : W P c (fun e st => (e = .normal ∨ e = .ret) ∧ ∃ h1 vs, ishut st.h st.marks = some h1 ∧ iresults P { st with h := h1 } fn.results.toList = some vs ∧ Φ (iret vs) h1) { s := fun i => args.toArray.getD i undef, h, nt := fn.ntmps } := by
    refine W_split c hs (W_mono ?_ hw)
    rintro e st ⟨s, h, rfl, hk⟩
    unfold rangeK at hk
    cases e with
    | exit j => unfold retK at hk; obtain ⟨he, _⟩ := hk; rcases he with he | he <;> cases he
    | ret =>
      unfold retK at hk
      obtain ⟨he, vs, h1, h2⟩ := hk
      exact ⟨he, h, vs, rfl, h1, h2⟩
    | normal =>
      obtain ⟨g, x, y, ef, cg, hx⟩ := hk
      unfold EvX at hx
      obtain ⟨v, h3, ⟨n, hn⟩, T3, ps3, as3, bd3, st3, i3, hnb, hv⟩ := hx
      simp only [splitK]
      rw [W_seq, W_block]
      have hd2 : 2 * (h.new.length + 1) = h.fresh + 2 := by unfold IHp.fresh; omega
      have hd3 : (h.fresh + 2) / 2 = h.new.length + 1 := by unfold IHp.fresh; omega
      have hd4 : h.fresh / 2 = h.new.length := by unfold IHp.fresh; omega
      refine ⟨n + 1, .normal, ⟨s, { h3 with new := h3.new.set (h.new.length + 1) (.loop fn.ntmps T3 ps3 as3 bd3 .exhausted none) }, fn.ntmps, [h.new.length], false⟩, ?_, ?_⟩
      · have hcal : icalleeV P (St.eval ⟨s, h, fn.ntmps, [], false⟩ f) #[.func (.yield (2 * (h.new.length + 1))) #[] #[]] = some (.fn g, (x ++ #[.func (.yield (h.fresh + 2)) #[] #[]]) ++ y) := by
          rw [ef.eq, cg.eq, hd2]
        have h3e := i3.eq
        rw [hd3] at h3e
        rw [icode]
        simp only [irange, Env.st, Bool.false_eq_true, if_false, hcal]
        have hn' : icallBy P (icode P n) (.fn g) ((x ++ #[.func (.yield (h.fresh + 2)) #[] #[]]) ++ y) ((h.push .defr).push (.loop fn.ntmps s ps ac bd .ready none)) = some (v, h3) := hn
        simp only [hn', Option.bind_some, h3e, hnb, if_true]
      · simp only [blockK, seqK]
        have hst : (⟨s, { h3 with new := h3.new.set (h.new.length + 1) (.loop fn.ntmps T3 ps3 as3 bd3 .exhausted none) }, fn.ntmps, [h.new.length], false⟩ : St) = (⟨fn.ntmps, [h.fresh / 2], false⟩ : Env).st s (h3.putObj (h.fresh + 2) (.loop fn.ntmps T3 ps3 as3 bd3 .exhausted none)) := by
          simp only [Env.st, IHp.putObj, hd3, hd4]
        rw [hst]
        unfold V at hv
        refine W_mono ?_ hv
        rintro e st ⟨s2, h2, rfl, hk⟩
        unfold tailK retK at hk
        obtain ⟨hdf, he, vs, h4, h5⟩ := hk
        refine ⟨he, h2.putObj h.fresh .dead, vs, ?_, h4, h5⟩
        have h6 := hdf.eq
        simp only [Env.st, ishut, h6, IHp.putObj]
  obtain ⟨n, e, st, hi, he, h1, vs, h2, h3, h4⟩ := hw2
  unfold EvX
  exact ⟨iret vs, h1, Ev_of hf hb (by simpa using hsz) ⟨n, e, st, hi, he, h1, vs, h2, h3, rfl, rfl⟩, h4⟩
end Go.Ideal

-- IdealBr
set_option linter.unusedSimpArgs false
set_option linter.unusedVariables false
namespace Go.Ideal
open Go Go.RowKit

/-! ### What a reading of the arguments says of the ideal heap -/
def up (v : Value) : Value := (upv v).getD undef
def IRd (P : Program) (h : IHp) : Nat → TypeId → List Value → Prop
  | 0, _, _ => False
  | n + 1, t, cs =>
    match P.underlying t with
    | some .bool => ∃ b, cs = [.bool b]
    | some (.int k) => ∃ i, cs = [.int k i] ∧ (Lit.int k i).wf = true
    | some .string => ∃ s, cs = [.string s] ∧ s.size ≤ maxLen
    | some (.slice e) => cs = [.slice none 0 0] ∨ ∃ a l c, cs = [.slice (some a) l c] ∧ l ≤ c ∧ c ≤ maxLen ∧ (a.spot = none ∨ c = 0) ∧ ∀ i, i < c → ∃ row, h.row a.block (a.off + i * P.cellsOf e) (P.cellsOf e) = some row ∧ IRd P h n e row
    | some (.struct fs) => cs.length = P.cellsOf t ∧ ∀ (i : Nat) (f : Field), fs[i]? = some f → IRd P h n f.type ((cs.drop f.offset).take (P.cellsOf f.type))
    | _ => False
/-- the fields lie one behind the other -/
def tiles (P : Program) : List Field → Nat → Nat → Bool
  | [], at_, all => at_ == all
  | f :: fs, at_, all => f.offset == at_ && tiles P fs (at_ + P.cellsOf f.type) all
/-- plain data -/
def plainT (P : Program) : Nat → TypeId → Bool
  | 0, _ => false
  | n + 1, t =>
    match P.underlying t with
    | some .bool | some (.int _) | some .string => true
    | some (.slice e) => P.cellsOf e != 0 && plainT P n e
    | some (.struct fs) => tiles P fs.toList 0 (P.cellsOf t) && fs.toList.all fun f => plainT P n f.type
    | _ => false
theorem tiles_mem {P : Program} {cs : List Value} : ∀ (fs : List Field) (at_ : Nat), tiles P fs at_ cs.length = true → ∀ v ∈ cs.drop at_, ∃ f ∈ fs, v ∈ (cs.drop f.offset).take (P.cellsOf f.type) := by
  intro fs
  induction fs with
  | nil =>
    intro at_ h v hv
    simp only [tiles, beq_iff_eq] at h
    rw [List.drop_of_length_le (by omega)] at hv
    cases hv
  | cons f fs ih =>
    intro at_ h v hv
    simp only [tiles, Bool.and_eq_true, beq_iff_eq] at h
    obtain ⟨h1, h2⟩ := h
    rw [← List.take_append_drop (P.cellsOf f.type) (cs.drop at_)] at hv
    rcases List.mem_append.1 hv with h3 | h3
    · exact ⟨f, List.mem_cons_self, by rw [h1]; exact h3⟩
    · rw [List.drop_drop] at h3
      obtain ⟨g, h4, h5⟩ := ih _ h2 v h3
      exact ⟨g, List.mem_cons_of_mem _ h4, h5⟩
theorem up_of {v u : Value} (h : upv v = some u) : up v = u := by simp [up, h]
theorem mapM_cells {w : World} {a : Addr} (hs : a.spot = none) : ∀ (n k : Nat) (row : List Value), ((List.range' k n).mapM fun i => w.cell? (a.add i)) = some row → (∀ v ∈ row, (upv v).isSome = true) → (heapOf w).row (2 * a.block + 1) (a.off + k) n = some (row.map up) := by
  intro n
  induction n with
  | zero => intro k row h _; simp at h; subst h; rfl
  | succ n ih =>
    intro k row h hup
    rw [List.range'_succ, List.mapM_cons] at h
    cases h1 : w.cell? (a.add k) with
    | none => simp [h1] at h
    | some v =>
      cases h2 : (List.range' (k + 1) n).mapM fun i => w.cell? (a.add i) with
      | none => simp [h1, h2] at h
      | some vs =>
        simp [h1, h2] at h
        subst h
        have h3 := ih (k + 1) vs h2 (fun v hv => hup v (List.mem_cons_of_mem _ hv))
        obtain ⟨u, hu⟩ := Option.isSome_iff_exists.1 (hup v List.mem_cons_self)
        have hadd : a.add k = ⟨a.block, a.off + k, none⟩ := by
          unfold Addr.add
          split
          · rename_i h0; subst h0; cases a; simp at hs; subst hs; rfl
          · rfl
        rw [hadd] at h1
        have hb : a.block < w.heap.size := by
          simp only [World.cell?] at h1
          split at h1
          · rename_i hx; exact (Array.getElem?_eq_some_iff.1 hx).1
          · cases h1
        have h4 : (heapOf w).cell? (2 * a.block + 1) (a.off + k) = some u := by
          simp only [IHp.cell?, heapOf]
          rw [if_pos (by omega), show (2 * a.block + 1) / 2 = a.block by omega, if_pos hb, h1]
          exact hu
        simp only [IHp.row, h4, Option.bind_some, show a.off + k + 1 = a.off + (k + 1) by omega, h3, List.map_cons, up_of hu]
theorem irow {w : World} {a : Addr} {n : Nat} {row : List Value} (hs : a.spot = none) (h : w.cells? 0 a n = some row) (hup : ∀ v ∈ row, (upv v).isSome = true) : (heapOf w).row (2 * a.block + 1) a.off n = some (row.map up) := by
  simp only [World.cells?, Nat.zero_le, if_true] at h
  rw [List.range_eq_range'] at h
  simpa using mapM_cells hs n 0 row h hup
section
variable {H : Type} {enc : TypeId × Value → H} {P : Program} {w : World} {held : Bool}
theorem bridge : ∀ (N : Nat) (t : TypeId) (fuel : Nat) (cs : List Value) (x : DataW H × List MemPlace), plainT P N t = true → DataW.trod enc P w 0 (fun _ => true) held fuel t cs = some x → (∀ v ∈ cs, (upv v).isSome = true) ∧ IRd P (heapOf w) N t (cs.map up) := by
  intro N
  induction N with
  | zero => intro t fuel cs x h; simp [plainT] at h
  | succ N ih =>
    intro t fuel cs x hp h
    rw [plainT] at hp
    rw [IRd]
    split at hp
    · rename_i hu
      obtain ⟨b, rfl, _⟩ := DataW.trod_bool hu h
      exact ⟨by simp [upv], b, by simp [up, upv]⟩
    · rename_i k hu
      obtain ⟨i, rfl, _, hw⟩ := DataW.trod_int hu h
      exact ⟨by simp [upv], i, by simp [up, upv], hw⟩
    · rename_i hu
      obtain ⟨s, rfl, _, hw⟩ := DataW.trod_string hu h
      exact ⟨by simp [upv], s, by simp [up, upv], hw⟩
    · rename_i e hu
      simp only [Bool.and_eq_true, bne_iff_ne, ne_eq] at hp
      obtain ⟨hn, hpe⟩ := hp
      rcases DataW.trod_slice hu h with ⟨rfl, _⟩ | ⟨a, l, c, elems, rest, m, rfl, rfl, _, _, hlc, hcm, hel, he, hr, _⟩
      · exact ⟨by simp [upv], .inl (by simp [up, upv])⟩
      · obtain ⟨hrl, hr⟩ := hr rfl
        have hat : ∀ i, i < c → ∃ row y, w.cells? 0 (a.add (i * P.cellsOf e)) (P.cellsOf e) = some row ∧ DataW.trod enc P w 0 (fun _ => true) held m e row = some y := by
          intro i hi
          by_cases hil : i < l
          · have h1 := he i hil
            rw [List.getElem?_eq_getElem (by omega)] at h1
            simp only [Option.bind_eq_some_iff] at h1
            obtain ⟨row, h2, h3⟩ := h1
            exact ⟨row, _, h2, h3⟩
          · have h1 := hr (i - l) (by omega)
            rw [List.getElem?_eq_getElem (by omega), show l + (i - l) = i by omega] at h1
            simp only [Option.bind_eq_some_iff] at h1
            obtain ⟨row, h2, h3⟩ := h1
            exact ⟨row, _, h2, h3⟩
        by_cases hs : a.spot = none
        · have hup : upv (.slice (some a) l c) = some (.slice (some { block := 2 * a.block + 1, off := a.off }) l c) := by simp [upv, hs]
          refine ⟨by simp [hup], .inr ⟨{ block := 2 * a.block + 1, off := a.off }, l, c, by simp [up_of hup], hlc, hcm, .inl rfl, fun i hi => ?_⟩⟩
          obtain ⟨row, y, h1, h2⟩ := hat i hi
          obtain ⟨h3, h4⟩ := ih e m row y hpe h2
          refine ⟨row.map up, ?_, h4⟩
          have hsp : (a.add (i * P.cellsOf e)).spot = none := by unfold Addr.add; split <;> simp [hs]
          have h5 := irow hsp h1 h3
          have hblk : (a.add (i * P.cellsOf e)).block = a.block := by unfold Addr.add; split <;> rfl
          have hoff : (a.add (i * P.cellsOf e)).off = a.off + i * P.cellsOf e := by unfold Addr.add; split <;> simp_all
          rw [hblk, hoff] at h5
          exact h5
        · have hc0 : c = 0 := by
            apply Decidable.byContradiction
            intro hc
            obtain ⟨row, y, h1, _⟩ := hat 0 (by omega)
            have ha0 : a.add (0 * P.cellsOf e) = a := by simp [Addr.add]
            rw [ha0] at h1
            simp only [World.cells?, Nat.zero_le, if_true] at h1
            obtain ⟨m', hm'⟩ : ∃ m', P.cellsOf e = m' + 1 := ⟨P.cellsOf e - 1, by omega⟩
            rw [hm', List.range_succ_eq_map, List.mapM_cons] at h1
            have : w.cell? (a.add 0) = none := by
              simp only [World.cell?, Addr.add, if_true]
              split
              · rw [if_pos]; cases hsp : a.spot with
                | none => exact absurd hsp hs
                | some _ => rfl
              · rfl
            rw [this] at h1
            simp at h1
          have hl0 : l = 0 := by omega
          subst hc0; subst hl0
          have hup : upv (.slice (some a) 0 0) = some (.slice (some a) 0 0) := by simp [upv, hs]
          exact ⟨by simp [hup], .inr ⟨a, 0, 0, by simp [up_of hup], Nat.le_refl _, Nat.zero_le _, .inr rfl, fun i hi => absurd hi (Nat.not_lt_zero i)⟩⟩
    · rename_i fs hu
      simp only [Bool.and_eq_true, List.all_eq_true] at hp
      obtain ⟨htile, hall⟩ := hp
      obtain ⟨xs, m, rfl, _, hlen, hxl, hf⟩ := DataW.trod_struct hu h
      have hfield : ∀ (i : Nat) (f : Field), fs[i]? = some f → (∀ v ∈ (cs.drop f.offset).take (P.cellsOf f.type), (upv v).isSome = true) ∧ IRd P (heapOf w) N f.type (((cs.drop f.offset).take (P.cellsOf f.type)).map up) := by
        intro i f hfi
        have h1 := hf i f hfi
        have hi : i < xs.length := by rw [hxl]; exact (Array.getElem?_eq_some_iff.1 hfi).1
        rw [List.getElem?_eq_getElem hi] at h1
        exact ih _ _ _ _ (hall f (by rw [Array.mem_toList_iff]; exact Array.mem_of_getElem? hfi)) h1
      refine ⟨fun v hv => ?_, by simpa using hlen, fun i f hfi => ?_⟩
      · rw [← hlen] at htile
        obtain ⟨f, h1, h2⟩ := tiles_mem fs.toList 0 htile v (by simpa using hv)
        obtain ⟨i, hi⟩ := Array.mem_iff_getElem?.1 (Array.mem_toList_iff.1 h1)
        exact (hfield i f hi).1 v h2
      · have := (hfield i f hfi).2
        simpa [List.map_take, List.map_drop] using this
    · cases hp
/-- an argument -/
def upA : Value → Value
  | .agg cs => .agg (cs.toList.map up).toArray
  | v => up v
theorem RA_up {ρ : RM} {cs : Array Value} (h : ∀ v ∈ cs.toList, (upv v).isSome = true) : RA ρ (cs.toList.map up).toArray cs := by
  refine ⟨by simp, fun i hi => ?_⟩
  have hi' : i < cs.size := by simpa using hi
  obtain ⟨u, hu⟩ := Option.isSome_iff_exists.1 (h cs[i] (by simp))
  have h1 : (cs.toList.map up).toArray[i] = u := by simp [up_of hu]
  rw [h1]
  have h2 : cs.getD i undef = cs[i] := by simp [Array.getD, hi']
  rw [h2]
  exact upv_R hu
theorem bridge_struct {N base : Nat} {t : TypeId} {fs : Array Field} {v : Value} {d : DataW H} {p : List MemPlace} (hu : P.underlying t = some (.struct fs)) (hp : plainT P N t = true) (hv : Value.okWide P w .any base t v) (h : DataW.Trod enc P w 0 (fun _ => true) held t v d p) :
    R RM0 (upA v) v ∧ ∃ cs : List Value, upA v = .agg cs.toArray ∧ IRd P (heapOf w) N t cs := by
  simp only [Value.okWide, hu] at hv
  obtain ⟨cs, rfl, _, _⟩ := hv
  obtain ⟨fuel, h⟩ := h
  obtain ⟨h1, h2⟩ := bridge N t fuel _ _ hp h
  exact ⟨by rw [upA, R_agg]; exact ⟨cs, rfl, RA_up h1⟩, _, rfl, h2⟩
end
end Go.Ideal

-- R2Ty
set_option linter.unusedSimpArgs false
set_option linter.unusedVariables false
namespace Go.Ideal
open Go Go.Proofs
instance : SizeIs Try.prog 1 1 := ⟨by kernel_rfl⟩
instance : AggIs Try.prog 1 false := ⟨by kernel_rfl⟩
instance : ZeroIs Try.prog 1 (Value.nilFunc) := ⟨by kernel_rfl⟩
instance : BytesIs Try.prog 1 1 8 := ⟨Try.t1, _, by kernel_rfl, rfl, rfl, rfl, rfl, by decide, by decide⟩
instance : UnderIs Try.prog 2 (.int IntKind.i64) := ⟨Try.underlying2⟩
instance : SizeIs Try.prog 2 1 := ⟨by kernel_rfl⟩
instance : AggIs Try.prog 2 false := ⟨by kernel_rfl⟩
instance : ZeroIs Try.prog 2 ((Value.int IntKind.i64 0)) := ⟨by kernel_rfl⟩
instance : BytesIs Try.prog 2 1 8 := ⟨Try.t2, _, by kernel_rfl, rfl, rfl, rfl, rfl, by decide, by decide⟩
instance : UnderIs Try.prog 3 (.int IntKind.i64) := ⟨Try.underlying3⟩
instance : SizeIs Try.prog 3 1 := ⟨by kernel_rfl⟩
instance : AggIs Try.prog 3 false := ⟨by kernel_rfl⟩
instance : ZeroIs Try.prog 3 ((Value.int IntKind.i64 0)) := ⟨by kernel_rfl⟩
instance : BytesIs Try.prog 3 1 8 := ⟨Try.t3, _, by kernel_rfl, rfl, rfl, rfl, rfl, by decide, by decide⟩
instance : UnderIs Try.prog 4 (.bool) := ⟨Try.underlying4⟩
instance : SizeIs Try.prog 4 1 := ⟨by kernel_rfl⟩
instance : AggIs Try.prog 4 false := ⟨by kernel_rfl⟩
instance : ZeroIs Try.prog 4 ((Value.bool false)) := ⟨by kernel_rfl⟩
instance : BytesIs Try.prog 4 1 1 := ⟨Try.t4, _, by kernel_rfl, rfl, rfl, rfl, rfl, by decide, by decide⟩
instance : UnderIs Try.prog 5 (.int IntKind.u8) := ⟨Try.underlying5⟩
instance : SizeIs Try.prog 5 1 := ⟨by kernel_rfl⟩
instance : AggIs Try.prog 5 false := ⟨by kernel_rfl⟩
instance : ZeroIs Try.prog 5 ((Value.int IntKind.u8 0)) := ⟨by kernel_rfl⟩
instance : BytesIs Try.prog 5 1 1 := ⟨Try.t5, _, by kernel_rfl, rfl, rfl, rfl, rfl, by decide, by decide⟩
instance : UnderIs Try.prog 6 (.int IntKind.u8) := ⟨Try.underlying6⟩
instance : SizeIs Try.prog 6 1 := ⟨by kernel_rfl⟩
instance : AggIs Try.prog 6 false := ⟨by kernel_rfl⟩
instance : ZeroIs Try.prog 6 ((Value.int IntKind.u8 0)) := ⟨by kernel_rfl⟩
instance : BytesIs Try.prog 6 1 1 := ⟨Try.t6, _, by kernel_rfl, rfl, rfl, rfl, rfl, by decide, by decide⟩
instance : FieldIs Try.prog 7 0 0 2 1 := ⟨_, _, Try.underlying7, rfl, rfl, rfl, by kernel_rfl, by decide⟩
instance : FieldIs Try.prog 7 1 1 3 1 := ⟨_, _, Try.underlying7, rfl, rfl, rfl, by kernel_rfl, by decide⟩
instance : FieldIs Try.prog 7 2 2 4 1 := ⟨_, _, Try.underlying7, rfl, rfl, rfl, by kernel_rfl, by decide⟩
instance : FieldIs Try.prog 7 3 3 6 1 := ⟨_, _, Try.underlying7, rfl, rfl, rfl, by kernel_rfl, by decide⟩
instance : StructOk Try.prog 7 := ⟨_, Try.underlying7, by kernel_rfl⟩
instance : SizeIs Try.prog 7 4 := ⟨by kernel_rfl⟩
instance : AggIs Try.prog 7 true := ⟨by kernel_rfl⟩
instance : ZeroIs Try.prog 7 ((Value.agg #[Value.int IntKind.i64 0, Value.int IntKind.i64 0, Value.bool false, Value.int IntKind.u8 0])) := ⟨by kernel_rfl⟩
instance : BytesIs Try.prog 7 4 24 := ⟨Try.t7, _, by kernel_rfl, rfl, rfl, rfl, rfl, by decide, by decide⟩
instance : FieldIs Try.prog 8 0 0 2 1 := ⟨_, _, Try.underlying8, rfl, rfl, rfl, by kernel_rfl, by decide⟩
instance : FieldIs Try.prog 8 1 1 3 1 := ⟨_, _, Try.underlying8, rfl, rfl, rfl, by kernel_rfl, by decide⟩
instance : FieldIs Try.prog 8 2 2 4 1 := ⟨_, _, Try.underlying8, rfl, rfl, rfl, by kernel_rfl, by decide⟩
instance : FieldIs Try.prog 8 3 3 6 1 := ⟨_, _, Try.underlying8, rfl, rfl, rfl, by kernel_rfl, by decide⟩
instance : StructOk Try.prog 8 := ⟨_, Try.underlying8, by kernel_rfl⟩
instance : SizeIs Try.prog 8 4 := ⟨by kernel_rfl⟩
instance : AggIs Try.prog 8 true := ⟨by kernel_rfl⟩
instance : ZeroIs Try.prog 8 ((Value.agg #[Value.int IntKind.i64 0, Value.int IntKind.i64 0, Value.bool false, Value.int IntKind.u8 0])) := ⟨by kernel_rfl⟩
instance : BytesIs Try.prog 8 4 24 := ⟨Try.t8, _, by kernel_rfl, rfl, rfl, rfl, rfl, by decide, by decide⟩
instance : UnderIs Try.prog 9 (.string) := ⟨Try.underlying9⟩
instance : SizeIs Try.prog 9 1 := ⟨by kernel_rfl⟩
instance : AggIs Try.prog 9 false := ⟨by kernel_rfl⟩
instance : ZeroIs Try.prog 9 ((Value.string ByteArray.empty)) := ⟨by kernel_rfl⟩
instance : BytesIs Try.prog 9 1 16 := ⟨Try.t9, _, by kernel_rfl, rfl, rfl, rfl, rfl, by decide, by decide⟩
instance : UnderIs Try.prog 10 (.string) := ⟨Try.underlying10⟩
instance : SizeIs Try.prog 10 1 := ⟨by kernel_rfl⟩
instance : AggIs Try.prog 10 false := ⟨by kernel_rfl⟩
instance : ZeroIs Try.prog 10 ((Value.string ByteArray.empty)) := ⟨by kernel_rfl⟩
instance : BytesIs Try.prog 10 1 16 := ⟨Try.t10, _, by kernel_rfl, rfl, rfl, rfl, rfl, by decide, by decide⟩
instance : UnderIs Try.prog 11 (.string) := ⟨Try.underlying11⟩
instance : SizeIs Try.prog 11 1 := ⟨by kernel_rfl⟩
instance : AggIs Try.prog 11 false := ⟨by kernel_rfl⟩
instance : ZeroIs Try.prog 11 ((Value.string ByteArray.empty)) := ⟨by kernel_rfl⟩
instance : BytesIs Try.prog 11 1 16 := ⟨Try.t11, _, by kernel_rfl, rfl, rfl, rfl, rfl, by decide, by decide⟩
instance : UnderIs Try.prog 12 (.int IntKind.u64) := ⟨Try.underlying12⟩
instance : SizeIs Try.prog 12 1 := ⟨by kernel_rfl⟩
instance : AggIs Try.prog 12 false := ⟨by kernel_rfl⟩
instance : ZeroIs Try.prog 12 ((Value.int IntKind.u64 0)) := ⟨by kernel_rfl⟩
instance : BytesIs Try.prog 12 1 8 := ⟨Try.t12, _, by kernel_rfl, rfl, rfl, rfl, rfl, by decide, by decide⟩
instance : FieldIs Try.prog 13 0 0 9 1 := ⟨_, _, Try.underlying13, rfl, rfl, rfl, by kernel_rfl, by decide⟩
instance : FieldIs Try.prog 13 1 1 12 1 := ⟨_, _, Try.underlying13, rfl, rfl, rfl, by kernel_rfl, by decide⟩
instance : StructOk Try.prog 13 := ⟨_, Try.underlying13, by kernel_rfl⟩
instance : SizeIs Try.prog 13 2 := ⟨by kernel_rfl⟩
instance : AggIs Try.prog 13 true := ⟨by kernel_rfl⟩
instance : ZeroIs Try.prog 13 ((Value.agg #[Value.string ByteArray.empty, Value.int IntKind.u64 0])) := ⟨by kernel_rfl⟩
instance : BytesIs Try.prog 13 2 24 := ⟨Try.t13, _, by kernel_rfl, rfl, rfl, rfl, rfl, by decide, by decide⟩
instance : FieldIs Try.prog 14 0 0 9 1 := ⟨_, _, Try.underlying14, rfl, rfl, rfl, by kernel_rfl, by decide⟩
instance : FieldIs Try.prog 14 1 1 12 1 := ⟨_, _, Try.underlying14, rfl, rfl, rfl, by kernel_rfl, by decide⟩
instance : StructOk Try.prog 14 := ⟨_, Try.underlying14, by kernel_rfl⟩
instance : SizeIs Try.prog 14 2 := ⟨by kernel_rfl⟩
instance : AggIs Try.prog 14 true := ⟨by kernel_rfl⟩
instance : ZeroIs Try.prog 14 ((Value.agg #[Value.string ByteArray.empty, Value.int IntKind.u64 0])) := ⟨by kernel_rfl⟩
instance : BytesIs Try.prog 14 2 24 := ⟨Try.t14, _, by kernel_rfl, rfl, rfl, rfl, rfl, by decide, by decide⟩
instance : UnderIs Try.prog 15 (.pointer 220) := ⟨Try.underlying15⟩
instance : SizeIs Try.prog 15 1 := ⟨by kernel_rfl⟩
instance : AggIs Try.prog 15 false := ⟨by kernel_rfl⟩
instance : ZeroIs Try.prog 15 ((Value.pointer none)) := ⟨by kernel_rfl⟩
instance : BytesIs Try.prog 15 1 8 := ⟨Try.t15, _, by kernel_rfl, rfl, rfl, rfl, rfl, by decide, by decide⟩
instance : UnderIs Try.prog 16 (.pointer 223) := ⟨Try.underlying16⟩
instance : SizeIs Try.prog 16 1 := ⟨by kernel_rfl⟩
instance : AggIs Try.prog 16 false := ⟨by kernel_rfl⟩
instance : ZeroIs Try.prog 16 ((Value.pointer none)) := ⟨by kernel_rfl⟩
instance : BytesIs Try.prog 16 1 8 := ⟨Try.t16, _, by kernel_rfl, rfl, rfl, rfl, rfl, by decide, by decide⟩
instance : UnderIs Try.prog 17 (.pointer 233) := ⟨Try.underlying17⟩
instance : SizeIs Try.prog 17 1 := ⟨by kernel_rfl⟩
instance : AggIs Try.prog 17 false := ⟨by kernel_rfl⟩
instance : ZeroIs Try.prog 17 ((Value.pointer none)) := ⟨by kernel_rfl⟩
instance : BytesIs Try.prog 17 1 8 := ⟨Try.t17, _, by kernel_rfl, rfl, rfl, rfl, rfl, by decide, by decide⟩
instance : FieldIs Try.prog 18 0 0 17 1 := ⟨_, _, Try.underlying18, rfl, rfl, rfl, by kernel_rfl, by decide⟩
instance : StructOk Try.prog 18 := ⟨_, Try.underlying18, by kernel_rfl⟩
instance : SizeIs Try.prog 18 1 := ⟨by kernel_rfl⟩
instance : AggIs Try.prog 18 true := ⟨by kernel_rfl⟩
instance : ZeroIs Try.prog 18 ((Value.agg #[Value.pointer none])) := ⟨by kernel_rfl⟩
instance : BytesIs Try.prog 18 1 8 := ⟨Try.t18, _, by kernel_rfl, rfl, rfl, rfl, rfl, by decide, by decide⟩
instance : FieldIs Try.prog 19 0 0 17 1 := ⟨_, _, Try.underlying19, rfl, rfl, rfl, by kernel_rfl, by decide⟩
instance : StructOk Try.prog 19 := ⟨_, Try.underlying19, by kernel_rfl⟩
instance : SizeIs Try.prog 19 1 := ⟨by kernel_rfl⟩
instance : AggIs Try.prog 19 true := ⟨by kernel_rfl⟩
instance : ZeroIs Try.prog 19 ((Value.agg #[Value.pointer none])) := ⟨by kernel_rfl⟩
instance : BytesIs Try.prog 19 1 8 := ⟨Try.t19, _, by kernel_rfl, rfl, rfl, rfl, rfl, by decide, by decide⟩
instance : UnderIs Try.prog 21 (.int IntKind.i32) := ⟨Try.underlying21⟩
instance : SizeIs Try.prog 21 1 := ⟨by kernel_rfl⟩
instance : AggIs Try.prog 21 false := ⟨by kernel_rfl⟩
instance : ZeroIs Try.prog 21 ((Value.int IntKind.i32 0)) := ⟨by kernel_rfl⟩
instance : BytesIs Try.prog 21 1 4 := ⟨Try.t21, _, by kernel_rfl, rfl, rfl, rfl, rfl, by decide, by decide⟩
instance : UnderIs Try.prog 22 (.slice 44) := ⟨Try.underlying22⟩
instance : SizeIs Try.prog 22 1 := ⟨by kernel_rfl⟩
instance : AggIs Try.prog 22 false := ⟨by kernel_rfl⟩
instance : ZeroIs Try.prog 22 ((Value.slice none 0 0)) := ⟨by kernel_rfl⟩
instance : BytesIs Try.prog 22 1 24 := ⟨Try.t22, _, by kernel_rfl, rfl, rfl, rfl, rfl, by decide, by decide⟩
instance : FieldIs Try.prog 23 0 0 3 1 := ⟨_, _, Try.underlying23, rfl, rfl, rfl, by kernel_rfl, by decide⟩
instance : FieldIs Try.prog 23 1 1 3 1 := ⟨_, _, Try.underlying23, rfl, rfl, rfl, by kernel_rfl, by decide⟩
instance : FieldIs Try.prog 23 2 2 22 1 := ⟨_, _, Try.underlying23, rfl, rfl, rfl, by kernel_rfl, by decide⟩
instance : StructOk Try.prog 23 := ⟨_, Try.underlying23, by kernel_rfl⟩
instance : SizeIs Try.prog 23 3 := ⟨by kernel_rfl⟩
instance : AggIs Try.prog 23 true := ⟨by kernel_rfl⟩
instance : ZeroIs Try.prog 23 ((Value.agg #[Value.int IntKind.i64 0, Value.int IntKind.i64 0, Value.slice none 0 0])) := ⟨by kernel_rfl⟩
instance : BytesIs Try.prog 23 3 40 := ⟨Try.t23, _, by kernel_rfl, rfl, rfl, rfl, rfl, by decide, by decide⟩
instance : FieldIs Try.prog 24 0 0 3 1 := ⟨_, _, Try.underlying24, rfl, rfl, rfl, by kernel_rfl, by decide⟩
instance : FieldIs Try.prog 24 1 1 3 1 := ⟨_, _, Try.underlying24, rfl, rfl, rfl, by kernel_rfl, by decide⟩
instance : FieldIs Try.prog 24 2 2 22 1 := ⟨_, _, Try.underlying24, rfl, rfl, rfl, by kernel_rfl, by decide⟩
instance : StructOk Try.prog 24 := ⟨_, Try.underlying24, by kernel_rfl⟩
instance : SizeIs Try.prog 24 3 := ⟨by kernel_rfl⟩
instance : AggIs Try.prog 24 true := ⟨by kernel_rfl⟩
instance : ZeroIs Try.prog 24 ((Value.agg #[Value.int IntKind.i64 0, Value.int IntKind.i64 0, Value.slice none 0 0])) := ⟨by kernel_rfl⟩
instance : BytesIs Try.prog 24 3 40 := ⟨Try.t24, _, by kernel_rfl, rfl, rfl, rfl, rfl, by decide, by decide⟩
instance : UnderIs Try.prog 25 (.slice 3) := ⟨Try.underlying25⟩
instance : SizeIs Try.prog 25 1 := ⟨by kernel_rfl⟩
instance : AggIs Try.prog 25 false := ⟨by kernel_rfl⟩
instance : ZeroIs Try.prog 25 ((Value.slice none 0 0)) := ⟨by kernel_rfl⟩
instance : BytesIs Try.prog 25 1 24 := ⟨Try.t25, _, by kernel_rfl, rfl, rfl, rfl, rfl, by decide, by decide⟩
instance : SizeIs Try.prog 26 1 := ⟨by kernel_rfl⟩
instance : AggIs Try.prog 26 false := ⟨by kernel_rfl⟩
instance : ZeroIs Try.prog 26 (Value.nilFunc) := ⟨by kernel_rfl⟩
instance : BytesIs Try.prog 26 1 8 := ⟨Try.t26, _, by kernel_rfl, rfl, rfl, rfl, rfl, by decide, by decide⟩
instance : UnderIs Try.prog 27 (.slice 25) := ⟨Try.underlying27⟩
instance : SizeIs Try.prog 27 1 := ⟨by kernel_rfl⟩
instance : AggIs Try.prog 27 false := ⟨by kernel_rfl⟩
instance : ZeroIs Try.prog 27 ((Value.slice none 0 0)) := ⟨by kernel_rfl⟩
instance : BytesIs Try.prog 27 1 24 := ⟨Try.t27, _, by kernel_rfl, rfl, rfl, rfl, rfl, by decide, by decide⟩
instance : SizeIs Try.prog 29 1 := ⟨by kernel_rfl⟩
instance : AggIs Try.prog 29 false := ⟨by kernel_rfl⟩
instance : ZeroIs Try.prog 29 (Value.nilFunc) := ⟨by kernel_rfl⟩
instance : BytesIs Try.prog 29 1 8 := ⟨Try.t29, _, by kernel_rfl, rfl, rfl, rfl, rfl, by decide, by decide⟩
instance : SizeIs Try.prog 31 1 := ⟨by kernel_rfl⟩
instance : AggIs Try.prog 31 false := ⟨by kernel_rfl⟩
instance : ZeroIs Try.prog 31 (Value.nilFunc) := ⟨by kernel_rfl⟩
instance : BytesIs Try.prog 31 1 8 := ⟨Try.t31, _, by kernel_rfl, rfl, rfl, rfl, rfl, by decide, by decide⟩
instance : UnderIs Try.prog 32 (.int IntKind.i64) := ⟨Try.underlying32⟩
instance : SizeIs Try.prog 32 1 := ⟨by kernel_rfl⟩
instance : AggIs Try.prog 32 false := ⟨by kernel_rfl⟩
instance : ZeroIs Try.prog 32 ((Value.int IntKind.i64 0)) := ⟨by kernel_rfl⟩
instance : BytesIs Try.prog 32 1 8 := ⟨Try.t32, _, by kernel_rfl, rfl, rfl, rfl, rfl, by decide, by decide⟩
instance : SizeIs Try.prog 34 1 := ⟨by kernel_rfl⟩
instance : AggIs Try.prog 34 false := ⟨by kernel_rfl⟩
instance : ZeroIs Try.prog 34 (Value.nilFunc) := ⟨by kernel_rfl⟩
instance : BytesIs Try.prog 34 1 8 := ⟨Try.t34, _, by kernel_rfl, rfl, rfl, rfl, rfl, by decide, by decide⟩
instance : SizeIs Try.prog 36 1 := ⟨by kernel_rfl⟩
instance : AggIs Try.prog 36 false := ⟨by kernel_rfl⟩
instance : ZeroIs Try.prog 36 (Value.nilFunc) := ⟨by kernel_rfl⟩
instance : BytesIs Try.prog 36 1 8 := ⟨Try.t36, _, by kernel_rfl, rfl, rfl, rfl, rfl, by decide, by decide⟩
instance : SizeIs Try.prog 37 1 := ⟨by kernel_rfl⟩
instance : AggIs Try.prog 37 false := ⟨by kernel_rfl⟩
instance : ZeroIs Try.prog 37 (Value.nilFunc) := ⟨by kernel_rfl⟩
instance : BytesIs Try.prog 37 1 8 := ⟨Try.t37, _, by kernel_rfl, rfl, rfl, rfl, rfl, by decide, by decide⟩
instance : SizeIs Try.prog 38 1 := ⟨by kernel_rfl⟩
instance : AggIs Try.prog 38 false := ⟨by kernel_rfl⟩
instance : ZeroIs Try.prog 38 (Value.nilFunc) := ⟨by kernel_rfl⟩
instance : BytesIs Try.prog 38 1 8 := ⟨Try.t38, _, by kernel_rfl, rfl, rfl, rfl, rfl, by decide, by decide⟩
instance : SizeIs Try.prog 39 1 := ⟨by kernel_rfl⟩
instance : AggIs Try.prog 39 false := ⟨by kernel_rfl⟩
instance : ZeroIs Try.prog 39 (Value.nilFunc) := ⟨by kernel_rfl⟩
instance : BytesIs Try.prog 39 1 8 := ⟨Try.t39, _, by kernel_rfl, rfl, rfl, rfl, rfl, by decide, by decide⟩
instance : UnderIs Try.prog 40 (.slice 4) := ⟨Try.underlying40⟩
instance : SizeIs Try.prog 40 1 := ⟨by kernel_rfl⟩
instance : AggIs Try.prog 40 false := ⟨by kernel_rfl⟩
instance : ZeroIs Try.prog 40 ((Value.slice none 0 0)) := ⟨by kernel_rfl⟩
instance : BytesIs Try.prog 40 1 24 := ⟨Try.t40, _, by kernel_rfl, rfl, rfl, rfl, rfl, by decide, by decide⟩
instance : SizeIs Try.prog 41 1 := ⟨by kernel_rfl⟩
instance : AggIs Try.prog 41 false := ⟨by kernel_rfl⟩
instance : ZeroIs Try.prog 41 (Value.nilFunc) := ⟨by kernel_rfl⟩
instance : BytesIs Try.prog 41 1 8 := ⟨Try.t41, _, by kernel_rfl, rfl, rfl, rfl, rfl, by decide, by decide⟩
instance : UnderIs Try.prog 42 (.int IntKind.u64) := ⟨Try.underlying42⟩
instance : SizeIs Try.prog 42 1 := ⟨by kernel_rfl⟩
instance : AggIs Try.prog 42 false := ⟨by kernel_rfl⟩
instance : ZeroIs Try.prog 42 ((Value.int IntKind.u64 0)) := ⟨by kernel_rfl⟩
instance : BytesIs Try.prog 42 1 8 := ⟨Try.t42, _, by kernel_rfl, rfl, rfl, rfl, rfl, by decide, by decide⟩
instance : FieldIs Try.prog 43 0 0 3 1 := ⟨_, _, Try.underlying43, rfl, rfl, rfl, by kernel_rfl, by decide⟩
instance : FieldIs Try.prog 43 1 1 9 1 := ⟨_, _, Try.underlying43, rfl, rfl, rfl, by kernel_rfl, by decide⟩
instance : FieldIs Try.prog 43 2 2 25 1 := ⟨_, _, Try.underlying43, rfl, rfl, rfl, by kernel_rfl, by decide⟩
instance : FieldIs Try.prog 43 3 3 3 1 := ⟨_, _, Try.underlying43, rfl, rfl, rfl, by kernel_rfl, by decide⟩
instance : FieldIs Try.prog 43 4 4 4 1 := ⟨_, _, Try.underlying43, rfl, rfl, rfl, by kernel_rfl, by decide⟩
instance : FieldIs Try.prog 43 5 5 42 1 := ⟨_, _, Try.underlying43, rfl, rfl, rfl, by kernel_rfl, by decide⟩
instance : FieldIs Try.prog 43 6 6 42 1 := ⟨_, _, Try.underlying43, rfl, rfl, rfl, by kernel_rfl, by decide⟩
instance : StructOk Try.prog 43 := ⟨_, Try.underlying43, by kernel_rfl⟩
instance : SizeIs Try.prog 43 7 := ⟨by kernel_rfl⟩
instance : AggIs Try.prog 43 true := ⟨by kernel_rfl⟩
instance : ZeroIs Try.prog 43 ((Value.agg #[Value.int IntKind.i64 0, Value.string ByteArray.empty, Value.slice none 0 0, Value.int IntKind.i64 0, Value.bool false, Value.int IntKind.u64 0, Value.int IntKind.u64 0])) := ⟨by kernel_rfl⟩
instance : BytesIs Try.prog 43 7 80 := ⟨Try.t43, _, by kernel_rfl, rfl, rfl, rfl, rfl, by decide, by decide⟩
instance : FieldIs Try.prog 44 0 0 3 1 := ⟨_, _, Try.underlying44, rfl, rfl, rfl, by kernel_rfl, by decide⟩
instance : FieldIs Try.prog 44 1 1 9 1 := ⟨_, _, Try.underlying44, rfl, rfl, rfl, by kernel_rfl, by decide⟩
instance : FieldIs Try.prog 44 2 2 25 1 := ⟨_, _, Try.underlying44, rfl, rfl, rfl, by kernel_rfl, by decide⟩
instance : FieldIs Try.prog 44 3 3 3 1 := ⟨_, _, Try.underlying44, rfl, rfl, rfl, by kernel_rfl, by decide⟩
instance : FieldIs Try.prog 44 4 4 4 1 := ⟨_, _, Try.underlying44, rfl, rfl, rfl, by kernel_rfl, by decide⟩
instance : FieldIs Try.prog 44 5 5 42 1 := ⟨_, _, Try.underlying44, rfl, rfl, rfl, by kernel_rfl, by decide⟩
instance : FieldIs Try.prog 44 6 6 42 1 := ⟨_, _, Try.underlying44, rfl, rfl, rfl, by kernel_rfl, by decide⟩
instance : StructOk Try.prog 44 := ⟨_, Try.underlying44, by kernel_rfl⟩
instance : SizeIs Try.prog 44 7 := ⟨by kernel_rfl⟩
instance : AggIs Try.prog 44 true := ⟨by kernel_rfl⟩
instance : ZeroIs Try.prog 44 ((Value.agg #[Value.int IntKind.i64 0, Value.string ByteArray.empty, Value.slice none 0 0, Value.int IntKind.i64 0, Value.bool false, Value.int IntKind.u64 0, Value.int IntKind.u64 0])) := ⟨by kernel_rfl⟩
instance : BytesIs Try.prog 44 7 80 := ⟨Try.t44, _, by kernel_rfl, rfl, rfl, rfl, rfl, by decide, by decide⟩
instance : SizeIs Try.prog 45 1 := ⟨by kernel_rfl⟩
instance : AggIs Try.prog 45 false := ⟨by kernel_rfl⟩
instance : ZeroIs Try.prog 45 (Value.nilFunc) := ⟨by kernel_rfl⟩
instance : BytesIs Try.prog 45 1 8 := ⟨Try.t45, _, by kernel_rfl, rfl, rfl, rfl, rfl, by decide, by decide⟩
instance : SizeIs Try.prog 46 1 := ⟨by kernel_rfl⟩
instance : AggIs Try.prog 46 false := ⟨by kernel_rfl⟩
instance : ZeroIs Try.prog 46 (Value.nilFunc) := ⟨by kernel_rfl⟩
instance : BytesIs Try.prog 46 1 8 := ⟨Try.t46, _, by kernel_rfl, rfl, rfl, rfl, rfl, by decide, by decide⟩
instance : SizeIs Try.prog 47 1 := ⟨by kernel_rfl⟩
instance : AggIs Try.prog 47 false := ⟨by kernel_rfl⟩
instance : ZeroIs Try.prog 47 (Value.nilFunc) := ⟨by kernel_rfl⟩
instance : BytesIs Try.prog 47 1 8 := ⟨Try.t47, _, by kernel_rfl, rfl, rfl, rfl, rfl, by decide, by decide⟩
instance : SizeIs Try.prog 48 1 := ⟨by kernel_rfl⟩
instance : AggIs Try.prog 48 false := ⟨by kernel_rfl⟩
instance : ZeroIs Try.prog 48 (Value.nilFunc) := ⟨by kernel_rfl⟩
instance : BytesIs Try.prog 48 1 8 := ⟨Try.t48, _, by kernel_rfl, rfl, rfl, rfl, rfl, by decide, by decide⟩
instance : SizeIs Try.prog 50 1 := ⟨by kernel_rfl⟩
instance : AggIs Try.prog 50 false := ⟨by kernel_rfl⟩
instance : ZeroIs Try.prog 50 (Value.nilFunc) := ⟨by kernel_rfl⟩
instance : BytesIs Try.prog 50 1 8 := ⟨Try.t50, _, by kernel_rfl, rfl, rfl, rfl, rfl, by decide, by decide⟩
instance : UnderIs Try.prog 51 (.slice 42) := ⟨Try.underlying51⟩
instance : SizeIs Try.prog 51 1 := ⟨by kernel_rfl⟩
instance : AggIs Try.prog 51 false := ⟨by kernel_rfl⟩
instance : ZeroIs Try.prog 51 ((Value.slice none 0 0)) := ⟨by kernel_rfl⟩
instance : BytesIs Try.prog 51 1 24 := ⟨Try.t51, _, by kernel_rfl, rfl, rfl, rfl, rfl, by decide, by decide⟩
instance : FieldIs Try.prog 52 0 0 3 1 := ⟨_, _, Try.underlying52, rfl, rfl, rfl, by kernel_rfl, by decide⟩
instance : FieldIs Try.prog 52 1 1 51 1 := ⟨_, _, Try.underlying52, rfl, rfl, rfl, by kernel_rfl, by decide⟩
instance : StructOk Try.prog 52 := ⟨_, Try.underlying52, by kernel_rfl⟩
instance : SizeIs Try.prog 52 2 := ⟨by kernel_rfl⟩
instance : AggIs Try.prog 52 true := ⟨by kernel_rfl⟩
instance : ZeroIs Try.prog 52 ((Value.agg #[Value.int IntKind.i64 0, Value.slice none 0 0])) := ⟨by kernel_rfl⟩
instance : BytesIs Try.prog 52 2 32 := ⟨Try.t52, _, by kernel_rfl, rfl, rfl, rfl, rfl, by decide, by decide⟩
instance : FieldIs Try.prog 53 0 0 3 1 := ⟨_, _, Try.underlying53, rfl, rfl, rfl, by kernel_rfl, by decide⟩
instance : FieldIs Try.prog 53 1 1 51 1 := ⟨_, _, Try.underlying53, rfl, rfl, rfl, by kernel_rfl, by decide⟩
instance : StructOk Try.prog 53 := ⟨_, Try.underlying53, by kernel_rfl⟩
instance : SizeIs Try.prog 53 2 := ⟨by kernel_rfl⟩
instance : AggIs Try.prog 53 true := ⟨by kernel_rfl⟩
instance : ZeroIs Try.prog 53 ((Value.agg #[Value.int IntKind.i64 0, Value.slice none 0 0])) := ⟨by kernel_rfl⟩
instance : BytesIs Try.prog 53 2 32 := ⟨Try.t53, _, by kernel_rfl, rfl, rfl, rfl, rfl, by decide, by decide⟩
instance : SizeIs Try.prog 55 1 := ⟨by kernel_rfl⟩
instance : AggIs Try.prog 55 false := ⟨by kernel_rfl⟩
instance : ZeroIs Try.prog 55 (Value.nilFunc) := ⟨by kernel_rfl⟩
instance : BytesIs Try.prog 55 1 8 := ⟨Try.t55, _, by kernel_rfl, rfl, rfl, rfl, rfl, by decide, by decide⟩
instance : SizeIs Try.prog 57 1 := ⟨by kernel_rfl⟩
instance : AggIs Try.prog 57 false := ⟨by kernel_rfl⟩
instance : ZeroIs Try.prog 57 (Value.nilFunc) := ⟨by kernel_rfl⟩
instance : BytesIs Try.prog 57 1 8 := ⟨Try.t57, _, by kernel_rfl, rfl, rfl, rfl, rfl, by decide, by decide⟩
instance : SizeIs Try.prog 58 1 := ⟨by kernel_rfl⟩
instance : AggIs Try.prog 58 false := ⟨by kernel_rfl⟩
instance : ZeroIs Try.prog 58 (Value.nilFunc) := ⟨by kernel_rfl⟩
instance : BytesIs Try.prog 58 1 8 := ⟨Try.t58, _, by kernel_rfl, rfl, rfl, rfl, rfl, by decide, by decide⟩
instance : SizeIs Try.prog 59 1 := ⟨by kernel_rfl⟩
instance : AggIs Try.prog 59 false := ⟨by kernel_rfl⟩
instance : ZeroIs Try.prog 59 (Value.nilFunc) := ⟨by kernel_rfl⟩
instance : BytesIs Try.prog 59 1 8 := ⟨Try.t59, _, by kernel_rfl, rfl, rfl, rfl, rfl, by decide, by decide⟩
instance : SizeIs Try.prog 60 1 := ⟨by kernel_rfl⟩
instance : AggIs Try.prog 60 false := ⟨by kernel_rfl⟩
instance : ZeroIs Try.prog 60 (Value.nilFunc) := ⟨by kernel_rfl⟩
instance : BytesIs Try.prog 60 1 8 := ⟨Try.t60, _, by kernel_rfl, rfl, rfl, rfl, rfl, by decide, by decide⟩
instance : SizeIs Try.prog 61 1 := ⟨by kernel_rfl⟩
instance : AggIs Try.prog 61 false := ⟨by kernel_rfl⟩
instance : ZeroIs Try.prog 61 (Value.nilFunc) := ⟨by kernel_rfl⟩
instance : BytesIs Try.prog 61 1 8 := ⟨Try.t61, _, by kernel_rfl, rfl, rfl, rfl, rfl, by decide, by decide⟩
instance : SizeIs Try.prog 62 1 := ⟨by kernel_rfl⟩
instance : AggIs Try.prog 62 false := ⟨by kernel_rfl⟩
instance : ZeroIs Try.prog 62 (Value.nilFunc) := ⟨by kernel_rfl⟩
instance : BytesIs Try.prog 62 1 8 := ⟨Try.t62, _, by kernel_rfl, rfl, rfl, rfl, rfl, by decide, by decide⟩
instance : SizeIs Try.prog 63 1 := ⟨by kernel_rfl⟩
instance : AggIs Try.prog 63 false := ⟨by kernel_rfl⟩
instance : ZeroIs Try.prog 63 (Value.nilFunc) := ⟨by kernel_rfl⟩
instance : BytesIs Try.prog 63 1 8 := ⟨Try.t63, _, by kernel_rfl, rfl, rfl, rfl, rfl, by decide, by decide⟩
instance : SizeIs Try.prog 64 1 := ⟨by kernel_rfl⟩
instance : AggIs Try.prog 64 false := ⟨by kernel_rfl⟩
instance : ZeroIs Try.prog 64 (Value.nilFunc) := ⟨by kernel_rfl⟩
instance : BytesIs Try.prog 64 1 8 := ⟨Try.t64, _, by kernel_rfl, rfl, rfl, rfl, rfl, by decide, by decide⟩
instance : SizeIs Try.prog 65 1 := ⟨by kernel_rfl⟩
instance : AggIs Try.prog 65 false := ⟨by kernel_rfl⟩
instance : ZeroIs Try.prog 65 (Value.nilFunc) := ⟨by kernel_rfl⟩
instance : BytesIs Try.prog 65 1 8 := ⟨Try.t65, _, by kernel_rfl, rfl, rfl, rfl, rfl, by decide, by decide⟩
instance : SizeIs Try.prog 66 1 := ⟨by kernel_rfl⟩
instance : AggIs Try.prog 66 false := ⟨by kernel_rfl⟩
instance : ZeroIs Try.prog 66 (Value.nilFunc) := ⟨by kernel_rfl⟩
instance : BytesIs Try.prog 66 1 8 := ⟨Try.t66, _, by kernel_rfl, rfl, rfl, rfl, rfl, by decide, by decide⟩
instance : SizeIs Try.prog 67 1 := ⟨by kernel_rfl⟩
instance : AggIs Try.prog 67 false := ⟨by kernel_rfl⟩
instance : ZeroIs Try.prog 67 (Value.nilFunc) := ⟨by kernel_rfl⟩
instance : BytesIs Try.prog 67 1 8 := ⟨Try.t67, _, by kernel_rfl, rfl, rfl, rfl, rfl, by decide, by decide⟩
instance : SizeIs Try.prog 68 1 := ⟨by kernel_rfl⟩
instance : AggIs Try.prog 68 false := ⟨by kernel_rfl⟩
instance : ZeroIs Try.prog 68 (Value.nilFunc) := ⟨by kernel_rfl⟩
instance : BytesIs Try.prog 68 1 8 := ⟨Try.t68, _, by kernel_rfl, rfl, rfl, rfl, rfl, by decide, by decide⟩
instance : SizeIs Try.prog 70 1 := ⟨by kernel_rfl⟩
instance : AggIs Try.prog 70 false := ⟨by kernel_rfl⟩
instance : ZeroIs Try.prog 70 (Value.nilFunc) := ⟨by kernel_rfl⟩
instance : BytesIs Try.prog 70 1 8 := ⟨Try.t70, _, by kernel_rfl, rfl, rfl, rfl, rfl, by decide, by decide⟩
instance : UnderIs Try.prog 71 (.slice 82) := ⟨Try.underlying71⟩
instance : SizeIs Try.prog 71 1 := ⟨by kernel_rfl⟩
instance : AggIs Try.prog 71 false := ⟨by kernel_rfl⟩
instance : ZeroIs Try.prog 71 ((Value.slice none 0 0)) := ⟨by kernel_rfl⟩
instance : BytesIs Try.prog 71 1 24 := ⟨Try.t71, _, by kernel_rfl, rfl, rfl, rfl, rfl, by decide, by decide⟩
instance : FieldIs Try.prog 72 0 0 3 1 := ⟨_, _, Try.underlying72, rfl, rfl, rfl, by kernel_rfl, by decide⟩
instance : FieldIs Try.prog 72 1 1 71 1 := ⟨_, _, Try.underlying72, rfl, rfl, rfl, by kernel_rfl, by decide⟩
instance : StructOk Try.prog 72 := ⟨_, Try.underlying72, by kernel_rfl⟩
instance : SizeIs Try.prog 72 2 := ⟨by kernel_rfl⟩
instance : AggIs Try.prog 72 true := ⟨by kernel_rfl⟩
instance : ZeroIs Try.prog 72 ((Value.agg #[Value.int IntKind.i64 0, Value.slice none 0 0])) := ⟨by kernel_rfl⟩
instance : BytesIs Try.prog 72 2 32 := ⟨Try.t72, _, by kernel_rfl, rfl, rfl, rfl, rfl, by decide, by decide⟩
instance : FieldIs Try.prog 73 0 0 3 1 := ⟨_, _, Try.underlying73, rfl, rfl, rfl, by kernel_rfl, by decide⟩
instance : FieldIs Try.prog 73 1 1 71 1 := ⟨_, _, Try.underlying73, rfl, rfl, rfl, by kernel_rfl, by decide⟩
instance : StructOk Try.prog 73 := ⟨_, Try.underlying73, by kernel_rfl⟩
instance : SizeIs Try.prog 73 2 := ⟨by kernel_rfl⟩
instance : AggIs Try.prog 73 true := ⟨by kernel_rfl⟩
instance : ZeroIs Try.prog 73 ((Value.agg #[Value.int IntKind.i64 0, Value.slice none 0 0])) := ⟨by kernel_rfl⟩
instance : BytesIs Try.prog 73 2 32 := ⟨Try.t73, _, by kernel_rfl, rfl, rfl, rfl, rfl, by decide, by decide⟩
instance : SizeIs Try.prog 75 1 := ⟨by kernel_rfl⟩
instance : AggIs Try.prog 75 false := ⟨by kernel_rfl⟩
instance : ZeroIs Try.prog 75 (Value.nilFunc) := ⟨by kernel_rfl⟩
instance : BytesIs Try.prog 75 1 8 := ⟨Try.t75, _, by kernel_rfl, rfl, rfl, rfl, rfl, by decide, by decide⟩
instance : SizeIs Try.prog 77 1 := ⟨by kernel_rfl⟩
instance : AggIs Try.prog 77 false := ⟨by kernel_rfl⟩
instance : ZeroIs Try.prog 77 (Value.nilFunc) := ⟨by kernel_rfl⟩
instance : BytesIs Try.prog 77 1 8 := ⟨Try.t77, _, by kernel_rfl, rfl, rfl, rfl, rfl, by decide, by decide⟩
instance : SizeIs Try.prog 78 1 := ⟨by kernel_rfl⟩
instance : AggIs Try.prog 78 false := ⟨by kernel_rfl⟩
instance : ZeroIs Try.prog 78 (Value.nilFunc) := ⟨by kernel_rfl⟩
instance : BytesIs Try.prog 78 1 8 := ⟨Try.t78, _, by kernel_rfl, rfl, rfl, rfl, rfl, by decide, by decide⟩
instance : SizeIs Try.prog 79 1 := ⟨by kernel_rfl⟩
instance : AggIs Try.prog 79 false := ⟨by kernel_rfl⟩
instance : ZeroIs Try.prog 79 (Value.nilFunc) := ⟨by kernel_rfl⟩
instance : BytesIs Try.prog 79 1 8 := ⟨Try.t79, _, by kernel_rfl, rfl, rfl, rfl, rfl, by decide, by decide⟩
instance : UnderIs Try.prog 80 (.slice 93) := ⟨Try.underlying80⟩
instance : SizeIs Try.prog 80 1 := ⟨by kernel_rfl⟩
instance : AggIs Try.prog 80 false := ⟨by kernel_rfl⟩
instance : ZeroIs Try.prog 80 ((Value.slice none 0 0)) := ⟨by kernel_rfl⟩
instance : BytesIs Try.prog 80 1 24 := ⟨Try.t80, _, by kernel_rfl, rfl, rfl, rfl, rfl, by decide, by decide⟩
instance : FieldIs Try.prog 81 0 0 3 1 := ⟨_, _, Try.underlying81, rfl, rfl, rfl, by kernel_rfl, by decide⟩
instance : FieldIs Try.prog 81 1 1 42 1 := ⟨_, _, Try.underlying81, rfl, rfl, rfl, by kernel_rfl, by decide⟩
instance : FieldIs Try.prog 81 2 2 42 1 := ⟨_, _, Try.underlying81, rfl, rfl, rfl, by kernel_rfl, by decide⟩
instance : FieldIs Try.prog 81 3 3 3 1 := ⟨_, _, Try.underlying81, rfl, rfl, rfl, by kernel_rfl, by decide⟩
instance : StructOk Try.prog 81 := ⟨_, Try.underlying81, by kernel_rfl⟩
instance : SizeIs Try.prog 81 4 := ⟨by kernel_rfl⟩
instance : AggIs Try.prog 81 true := ⟨by kernel_rfl⟩
instance : ZeroIs Try.prog 81 ((Value.agg #[Value.int IntKind.i64 0, Value.int IntKind.u64 0, Value.int IntKind.u64 0, Value.int IntKind.i64 0])) := ⟨by kernel_rfl⟩
instance : BytesIs Try.prog 81 4 32 := ⟨Try.t81, _, by kernel_rfl, rfl, rfl, rfl, rfl, by decide, by decide⟩
instance : FieldIs Try.prog 82 0 0 3 1 := ⟨_, _, Try.underlying82, rfl, rfl, rfl, by kernel_rfl, by decide⟩
instance : FieldIs Try.prog 82 1 1 42 1 := ⟨_, _, Try.underlying82, rfl, rfl, rfl, by kernel_rfl, by decide⟩
instance : FieldIs Try.prog 82 2 2 42 1 := ⟨_, _, Try.underlying82, rfl, rfl, rfl, by kernel_rfl, by decide⟩
instance : FieldIs Try.prog 82 3 3 3 1 := ⟨_, _, Try.underlying82, rfl, rfl, rfl, by kernel_rfl, by decide⟩
instance : StructOk Try.prog 82 := ⟨_, Try.underlying82, by kernel_rfl⟩
instance : SizeIs Try.prog 82 4 := ⟨by kernel_rfl⟩
instance : AggIs Try.prog 82 true := ⟨by kernel_rfl⟩
instance : ZeroIs Try.prog 82 ((Value.agg #[Value.int IntKind.i64 0, Value.int IntKind.u64 0, Value.int IntKind.u64 0, Value.int IntKind.i64 0])) := ⟨by kernel_rfl⟩
instance : BytesIs Try.prog 82 4 32 := ⟨Try.t82, _, by kernel_rfl, rfl, rfl, rfl, rfl, by decide, by decide⟩
instance : SizeIs Try.prog 84 1 := ⟨by kernel_rfl⟩
instance : AggIs Try.prog 84 false := ⟨by kernel_rfl⟩
instance : ZeroIs Try.prog 84 (Value.nilFunc) := ⟨by kernel_rfl⟩
instance : BytesIs Try.prog 84 1 8 := ⟨Try.t84, _, by kernel_rfl, rfl, rfl, rfl, rfl, by decide, by decide⟩
instance : SizeIs Try.prog 86 1 := ⟨by kernel_rfl⟩
instance : AggIs Try.prog 86 false := ⟨by kernel_rfl⟩
instance : ZeroIs Try.prog 86 (Value.nilFunc) := ⟨by kernel_rfl⟩
instance : BytesIs Try.prog 86 1 8 := ⟨Try.t86, _, by kernel_rfl, rfl, rfl, rfl, rfl, by decide, by decide⟩
instance : SizeIs Try.prog 87 1 := ⟨by kernel_rfl⟩
instance : AggIs Try.prog 87 false := ⟨by kernel_rfl⟩
instance : ZeroIs Try.prog 87 (Value.nilFunc) := ⟨by kernel_rfl⟩
instance : BytesIs Try.prog 87 1 8 := ⟨Try.t87, _, by kernel_rfl, rfl, rfl, rfl, rfl, by decide, by decide⟩
instance : SizeIs Try.prog 89 1 := ⟨by kernel_rfl⟩
instance : AggIs Try.prog 89 false := ⟨by kernel_rfl⟩
instance : ZeroIs Try.prog 89 (Value.nilFunc) := ⟨by kernel_rfl⟩
instance : BytesIs Try.prog 89 1 8 := ⟨Try.t89, _, by kernel_rfl, rfl, rfl, rfl, rfl, by decide, by decide⟩
instance : SizeIs Try.prog 91 1 := ⟨by kernel_rfl⟩
instance : AggIs Try.prog 91 false := ⟨by kernel_rfl⟩
instance : ZeroIs Try.prog 91 (Value.nilFunc) := ⟨by kernel_rfl⟩
instance : BytesIs Try.prog 91 1 8 := ⟨Try.t91, _, by kernel_rfl, rfl, rfl, rfl, rfl, by decide, by decide⟩
instance : FieldIs Try.prog 92 0 0 3 1 := ⟨_, _, Try.underlying92, rfl, rfl, rfl, by kernel_rfl, by decide⟩
instance : FieldIs Try.prog 92 1 1 3 1 := ⟨_, _, Try.underlying92, rfl, rfl, rfl, by kernel_rfl, by decide⟩
instance : FieldIs Try.prog 92 2 2 5 1 := ⟨_, _, Try.underlying92, rfl, rfl, rfl, by kernel_rfl, by decide⟩
instance : StructOk Try.prog 92 := ⟨_, Try.underlying92, by kernel_rfl⟩
instance : SizeIs Try.prog 92 3 := ⟨by kernel_rfl⟩
instance : AggIs Try.prog 92 true := ⟨by kernel_rfl⟩
instance : ZeroIs Try.prog 92 ((Value.agg #[Value.int IntKind.i64 0, Value.int IntKind.i64 0, Value.int IntKind.u8 0])) := ⟨by kernel_rfl⟩
instance : BytesIs Try.prog 92 3 24 := ⟨Try.t92, _, by kernel_rfl, rfl, rfl, rfl, rfl, by decide, by decide⟩
instance : FieldIs Try.prog 93 0 0 3 1 := ⟨_, _, Try.underlying93, rfl, rfl, rfl, by kernel_rfl, by decide⟩
instance : FieldIs Try.prog 93 1 1 3 1 := ⟨_, _, Try.underlying93, rfl, rfl, rfl, by kernel_rfl, by decide⟩
instance : FieldIs Try.prog 93 2 2 5 1 := ⟨_, _, Try.underlying93, rfl, rfl, rfl, by kernel_rfl, by decide⟩
instance : StructOk Try.prog 93 := ⟨_, Try.underlying93, by kernel_rfl⟩
instance : SizeIs Try.prog 93 3 := ⟨by kernel_rfl⟩
instance : AggIs Try.prog 93 true := ⟨by kernel_rfl⟩
instance : ZeroIs Try.prog 93 ((Value.agg #[Value.int IntKind.i64 0, Value.int IntKind.i64 0, Value.int IntKind.u8 0])) := ⟨by kernel_rfl⟩
instance : BytesIs Try.prog 93 3 24 := ⟨Try.t93, _, by kernel_rfl, rfl, rfl, rfl, rfl, by decide, by decide⟩
instance : SizeIs Try.prog 94 1 := ⟨by kernel_rfl⟩
instance : AggIs Try.prog 94 false := ⟨by kernel_rfl⟩
instance : ZeroIs Try.prog 94 (Value.nilFunc) := ⟨by kernel_rfl⟩
instance : BytesIs Try.prog 94 1 8 := ⟨Try.t94, _, by kernel_rfl, rfl, rfl, rfl, rfl, by decide, by decide⟩
instance : SizeIs Try.prog 95 1 := ⟨by kernel_rfl⟩
instance : AggIs Try.prog 95 false := ⟨by kernel_rfl⟩
instance : ZeroIs Try.prog 95 (Value.nilFunc) := ⟨by kernel_rfl⟩
instance : BytesIs Try.prog 95 1 8 := ⟨Try.t95, _, by kernel_rfl, rfl, rfl, rfl, rfl, by decide, by decide⟩
instance : SizeIs Try.prog 96 1 := ⟨by kernel_rfl⟩
instance : AggIs Try.prog 96 false := ⟨by kernel_rfl⟩
instance : ZeroIs Try.prog 96 (Value.nilFunc) := ⟨by kernel_rfl⟩
instance : BytesIs Try.prog 96 1 8 := ⟨Try.t96, _, by kernel_rfl, rfl, rfl, rfl, rfl, by decide, by decide⟩
instance : SizeIs Try.prog 97 1 := ⟨by kernel_rfl⟩
instance : AggIs Try.prog 97 false := ⟨by kernel_rfl⟩
instance : ZeroIs Try.prog 97 (Value.nilFunc) := ⟨by kernel_rfl⟩
instance : BytesIs Try.prog 97 1 8 := ⟨Try.t97, _, by kernel_rfl, rfl, rfl, rfl, rfl, by decide, by decide⟩
instance : SizeIs Try.prog 98 1 := ⟨by kernel_rfl⟩
instance : AggIs Try.prog 98 false := ⟨by kernel_rfl⟩
instance : ZeroIs Try.prog 98 (Value.nilFunc) := ⟨by kernel_rfl⟩
instance : BytesIs Try.prog 98 1 8 := ⟨Try.t98, _, by kernel_rfl, rfl, rfl, rfl, rfl, by decide, by decide⟩
instance : SizeIs Try.prog 99 1 := ⟨by kernel_rfl⟩
instance : AggIs Try.prog 99 false := ⟨by kernel_rfl⟩
instance : ZeroIs Try.prog 99 (Value.nilFunc) := ⟨by kernel_rfl⟩
instance : BytesIs Try.prog 99 1 8 := ⟨Try.t99, _, by kernel_rfl, rfl, rfl, rfl, rfl, by decide, by decide⟩
instance : SizeIs Try.prog 100 1 := ⟨by kernel_rfl⟩
instance : AggIs Try.prog 100 false := ⟨by kernel_rfl⟩
instance : ZeroIs Try.prog 100 (Value.nilFunc) := ⟨by kernel_rfl⟩
instance : BytesIs Try.prog 100 1 8 := ⟨Try.t100, _, by kernel_rfl, rfl, rfl, rfl, rfl, by decide, by decide⟩
instance : SizeIs Try.prog 101 1 := ⟨by kernel_rfl⟩
instance : AggIs Try.prog 101 false := ⟨by kernel_rfl⟩
instance : ZeroIs Try.prog 101 (Value.nilFunc) := ⟨by kernel_rfl⟩
instance : BytesIs Try.prog 101 1 8 := ⟨Try.t101, _, by kernel_rfl, rfl, rfl, rfl, rfl, by decide, by decide⟩
instance : SizeIs Try.prog 102 1 := ⟨by kernel_rfl⟩
instance : AggIs Try.prog 102 false := ⟨by kernel_rfl⟩
instance : ZeroIs Try.prog 102 (Value.nilFunc) := ⟨by kernel_rfl⟩
instance : BytesIs Try.prog 102 1 8 := ⟨Try.t102, _, by kernel_rfl, rfl, rfl, rfl, rfl, by decide, by decide⟩
instance : SizeIs Try.prog 104 1 := ⟨by kernel_rfl⟩
instance : AggIs Try.prog 104 false := ⟨by kernel_rfl⟩
instance : ZeroIs Try.prog 104 (Value.nilFunc) := ⟨by kernel_rfl⟩
instance : BytesIs Try.prog 104 1 8 := ⟨Try.t104, _, by kernel_rfl, rfl, rfl, rfl, rfl, by decide, by decide⟩
instance : SizeIs Try.prog 106 1 := ⟨by kernel_rfl⟩
instance : AggIs Try.prog 106 false := ⟨by kernel_rfl⟩
instance : ZeroIs Try.prog 106 (Value.nilFunc) := ⟨by kernel_rfl⟩
instance : BytesIs Try.prog 106 1 8 := ⟨Try.t106, _, by kernel_rfl, rfl, rfl, rfl, rfl, by decide, by decide⟩
instance : SizeIs Try.prog 107 1 := ⟨by kernel_rfl⟩
instance : AggIs Try.prog 107 false := ⟨by kernel_rfl⟩
instance : ZeroIs Try.prog 107 (Value.nilFunc) := ⟨by kernel_rfl⟩
instance : BytesIs Try.prog 107 1 8 := ⟨Try.t107, _, by kernel_rfl, rfl, rfl, rfl, rfl, by decide, by decide⟩
instance : SizeIs Try.prog 108 1 := ⟨by kernel_rfl⟩
instance : AggIs Try.prog 108 false := ⟨by kernel_rfl⟩
instance : ZeroIs Try.prog 108 (Value.nilFunc) := ⟨by kernel_rfl⟩
instance : BytesIs Try.prog 108 1 8 := ⟨Try.t108, _, by kernel_rfl, rfl, rfl, rfl, rfl, by decide, by decide⟩
instance : SizeIs Try.prog 109 1 := ⟨by kernel_rfl⟩
instance : AggIs Try.prog 109 false := ⟨by kernel_rfl⟩
instance : ZeroIs Try.prog 109 (Value.nilFunc) := ⟨by kernel_rfl⟩
instance : BytesIs Try.prog 109 1 8 := ⟨Try.t109, _, by kernel_rfl, rfl, rfl, rfl, rfl, by decide, by decide⟩
instance : SizeIs Try.prog 110 1 := ⟨by kernel_rfl⟩
instance : AggIs Try.prog 110 false := ⟨by kernel_rfl⟩
instance : ZeroIs Try.prog 110 (Value.nilFunc) := ⟨by kernel_rfl⟩
instance : BytesIs Try.prog 110 1 8 := ⟨Try.t110, _, by kernel_rfl, rfl, rfl, rfl, rfl, by decide, by decide⟩
instance : SizeIs Try.prog 112 1 := ⟨by kernel_rfl⟩
instance : AggIs Try.prog 112 false := ⟨by kernel_rfl⟩
instance : ZeroIs Try.prog 112 (Value.nilFunc) := ⟨by kernel_rfl⟩
instance : BytesIs Try.prog 112 1 8 := ⟨Try.t112, _, by kernel_rfl, rfl, rfl, rfl, rfl, by decide, by decide⟩
instance : UnderIs Try.prog 113 (.slice 24) := ⟨Try.underlying113⟩
instance : SizeIs Try.prog 113 1 := ⟨by kernel_rfl⟩
instance : AggIs Try.prog 113 false := ⟨by kernel_rfl⟩
instance : ZeroIs Try.prog 113 ((Value.slice none 0 0)) := ⟨by kernel_rfl⟩
instance : BytesIs Try.prog 113 1 24 := ⟨Try.t113, _, by kernel_rfl, rfl, rfl, rfl, rfl, by decide, by decide⟩
instance : SizeIs Try.prog 114 1 := ⟨by kernel_rfl⟩
instance : AggIs Try.prog 114 false := ⟨by kernel_rfl⟩
instance : ZeroIs Try.prog 114 (Value.nilFunc) := ⟨by kernel_rfl⟩
instance : BytesIs Try.prog 114 1 8 := ⟨Try.t114, _, by kernel_rfl, rfl, rfl, rfl, rfl, by decide, by decide⟩
instance : SizeIs Try.prog 115 1 := ⟨by kernel_rfl⟩
instance : AggIs Try.prog 115 false := ⟨by kernel_rfl⟩
instance : ZeroIs Try.prog 115 (Value.nilFunc) := ⟨by kernel_rfl⟩
instance : BytesIs Try.prog 115 1 8 := ⟨Try.t115, _, by kernel_rfl, rfl, rfl, rfl, rfl, by decide, by decide⟩
instance : SizeIs Try.prog 117 1 := ⟨by kernel_rfl⟩
instance : AggIs Try.prog 117 false := ⟨by kernel_rfl⟩
instance : ZeroIs Try.prog 117 (Value.nilFunc) := ⟨by kernel_rfl⟩
instance : BytesIs Try.prog 117 1 8 := ⟨Try.t117, _, by kernel_rfl, rfl, rfl, rfl, rfl, by decide, by decide⟩
instance : SizeIs Try.prog 118 1 := ⟨by kernel_rfl⟩
instance : AggIs Try.prog 118 false := ⟨by kernel_rfl⟩
instance : ZeroIs Try.prog 118 (Value.nilFunc) := ⟨by kernel_rfl⟩
instance : BytesIs Try.prog 118 1 8 := ⟨Try.t118, _, by kernel_rfl, rfl, rfl, rfl, rfl, by decide, by decide⟩
instance : SizeIs Try.prog 119 1 := ⟨by kernel_rfl⟩
instance : AggIs Try.prog 119 false := ⟨by kernel_rfl⟩
instance : ZeroIs Try.prog 119 (Value.nilFunc) := ⟨by kernel_rfl⟩
instance : BytesIs Try.prog 119 1 8 := ⟨Try.t119, _, by kernel_rfl, rfl, rfl, rfl, rfl, by decide, by decide⟩
instance : UnderIs Try.prog 120 (.slice 127) := ⟨Try.underlying120⟩
instance : SizeIs Try.prog 120 1 := ⟨by kernel_rfl⟩
instance : AggIs Try.prog 120 false := ⟨by kernel_rfl⟩
instance : ZeroIs Try.prog 120 ((Value.slice none 0 0)) := ⟨by kernel_rfl⟩
instance : BytesIs Try.prog 120 1 24 := ⟨Try.t120, _, by kernel_rfl, rfl, rfl, rfl, rfl, by decide, by decide⟩
instance : SizeIs Try.prog 122 1 := ⟨by kernel_rfl⟩
instance : AggIs Try.prog 122 false := ⟨by kernel_rfl⟩
instance : ZeroIs Try.prog 122 (Value.nilFunc) := ⟨by kernel_rfl⟩
instance : BytesIs Try.prog 122 1 8 := ⟨Try.t122, _, by kernel_rfl, rfl, rfl, rfl, rfl, by decide, by decide⟩
instance : SizeIs Try.prog 123 1 := ⟨by kernel_rfl⟩
instance : AggIs Try.prog 123 false := ⟨by kernel_rfl⟩
instance : ZeroIs Try.prog 123 (Value.nilFunc) := ⟨by kernel_rfl⟩
instance : BytesIs Try.prog 123 1 8 := ⟨Try.t123, _, by kernel_rfl, rfl, rfl, rfl, rfl, by decide, by decide⟩
instance : SizeIs Try.prog 124 1 := ⟨by kernel_rfl⟩
instance : AggIs Try.prog 124 false := ⟨by kernel_rfl⟩
instance : ZeroIs Try.prog 124 (Value.nilFunc) := ⟨by kernel_rfl⟩
instance : BytesIs Try.prog 124 1 8 := ⟨Try.t124, _, by kernel_rfl, rfl, rfl, rfl, rfl, by decide, by decide⟩
instance : SizeIs Try.prog 125 1 := ⟨by kernel_rfl⟩
instance : AggIs Try.prog 125 false := ⟨by kernel_rfl⟩
instance : ZeroIs Try.prog 125 (Value.nilFunc) := ⟨by kernel_rfl⟩
instance : BytesIs Try.prog 125 1 8 := ⟨Try.t125, _, by kernel_rfl, rfl, rfl, rfl, rfl, by decide, by decide⟩
instance : FieldIs Try.prog 126 0 0 3 1 := ⟨_, _, Try.underlying126, rfl, rfl, rfl, by kernel_rfl, by decide⟩
instance : FieldIs Try.prog 126 1 1 3 1 := ⟨_, _, Try.underlying126, rfl, rfl, rfl, by kernel_rfl, by decide⟩
instance : StructOk Try.prog 126 := ⟨_, Try.underlying126, by kernel_rfl⟩
instance : SizeIs Try.prog 126 2 := ⟨by kernel_rfl⟩
instance : AggIs Try.prog 126 true := ⟨by kernel_rfl⟩
instance : ZeroIs Try.prog 126 ((Value.agg #[Value.int IntKind.i64 0, Value.int IntKind.i64 0])) := ⟨by kernel_rfl⟩
instance : BytesIs Try.prog 126 2 16 := ⟨Try.t126, _, by kernel_rfl, rfl, rfl, rfl, rfl, by decide, by decide⟩
instance : FieldIs Try.prog 127 0 0 3 1 := ⟨_, _, Try.underlying127, rfl, rfl, rfl, by kernel_rfl, by decide⟩
instance : FieldIs Try.prog 127 1 1 3 1 := ⟨_, _, Try.underlying127, rfl, rfl, rfl, by kernel_rfl, by decide⟩
instance : StructOk Try.prog 127 := ⟨_, Try.underlying127, by kernel_rfl⟩
instance : SizeIs Try.prog 127 2 := ⟨by kernel_rfl⟩
instance : AggIs Try.prog 127 true := ⟨by kernel_rfl⟩
instance : ZeroIs Try.prog 127 ((Value.agg #[Value.int IntKind.i64 0, Value.int IntKind.i64 0])) := ⟨by kernel_rfl⟩
instance : BytesIs Try.prog 127 2 16 := ⟨Try.t127, _, by kernel_rfl, rfl, rfl, rfl, rfl, by decide, by decide⟩
instance : SizeIs Try.prog 128 1 := ⟨by kernel_rfl⟩
instance : AggIs Try.prog 128 false := ⟨by kernel_rfl⟩
instance : ZeroIs Try.prog 128 (Value.nilFunc) := ⟨by kernel_rfl⟩
instance : BytesIs Try.prog 128 1 8 := ⟨Try.t128, _, by kernel_rfl, rfl, rfl, rfl, rfl, by decide, by decide⟩
instance : SizeIs Try.prog 129 1 := ⟨by kernel_rfl⟩
instance : AggIs Try.prog 129 false := ⟨by kernel_rfl⟩
instance : ZeroIs Try.prog 129 (Value.nilFunc) := ⟨by kernel_rfl⟩
instance : BytesIs Try.prog 129 1 8 := ⟨Try.t129, _, by kernel_rfl, rfl, rfl, rfl, rfl, by decide, by decide⟩
instance : SizeIs Try.prog 130 1 := ⟨by kernel_rfl⟩
instance : AggIs Try.prog 130 false := ⟨by kernel_rfl⟩
instance : ZeroIs Try.prog 130 (Value.nilFunc) := ⟨by kernel_rfl⟩
instance : BytesIs Try.prog 130 1 8 := ⟨Try.t130, _, by kernel_rfl, rfl, rfl, rfl, rfl, by decide, by decide⟩
instance : SizeIs Try.prog 131 1 := ⟨by kernel_rfl⟩
instance : AggIs Try.prog 131 false := ⟨by kernel_rfl⟩
instance : ZeroIs Try.prog 131 (Value.nilFunc) := ⟨by kernel_rfl⟩
instance : BytesIs Try.prog 131 1 8 := ⟨Try.t131, _, by kernel_rfl, rfl, rfl, rfl, rfl, by decide, by decide⟩
instance : SizeIs Try.prog 132 1 := ⟨by kernel_rfl⟩
instance : AggIs Try.prog 132 false := ⟨by kernel_rfl⟩
instance : ZeroIs Try.prog 132 (Value.nilFunc) := ⟨by kernel_rfl⟩
instance : BytesIs Try.prog 132 1 8 := ⟨Try.t132, _, by kernel_rfl, rfl, rfl, rfl, rfl, by decide, by decide⟩
instance : SizeIs Try.prog 133 1 := ⟨by kernel_rfl⟩
instance : AggIs Try.prog 133 false := ⟨by kernel_rfl⟩
instance : ZeroIs Try.prog 133 (Value.nilFunc) := ⟨by kernel_rfl⟩
instance : BytesIs Try.prog 133 1 8 := ⟨Try.t133, _, by kernel_rfl, rfl, rfl, rfl, rfl, by decide, by decide⟩
instance : SizeIs Try.prog 134 1 := ⟨by kernel_rfl⟩
instance : AggIs Try.prog 134 false := ⟨by kernel_rfl⟩
instance : ZeroIs Try.prog 134 (Value.nilFunc) := ⟨by kernel_rfl⟩
instance : BytesIs Try.prog 134 1 8 := ⟨Try.t134, _, by kernel_rfl, rfl, rfl, rfl, rfl, by decide, by decide⟩
instance : SizeIs Try.prog 135 1 := ⟨by kernel_rfl⟩
instance : AggIs Try.prog 135 false := ⟨by kernel_rfl⟩
instance : ZeroIs Try.prog 135 (Value.nilFunc) := ⟨by kernel_rfl⟩
instance : BytesIs Try.prog 135 1 8 := ⟨Try.t135, _, by kernel_rfl, rfl, rfl, rfl, rfl, by decide, by decide⟩
instance : SizeIs Try.prog 137 1 := ⟨by kernel_rfl⟩
instance : AggIs Try.prog 137 false := ⟨by kernel_rfl⟩
instance : ZeroIs Try.prog 137 (Value.nilFunc) := ⟨by kernel_rfl⟩
instance : BytesIs Try.prog 137 1 8 := ⟨Try.t137, _, by kernel_rfl, rfl, rfl, rfl, rfl, by decide, by decide⟩
instance : SizeIs Try.prog 138 1 := ⟨by kernel_rfl⟩
instance : AggIs Try.prog 138 false := ⟨by kernel_rfl⟩
instance : ZeroIs Try.prog 138 (Value.nilFunc) := ⟨by kernel_rfl⟩
instance : BytesIs Try.prog 138 1 8 := ⟨Try.t138, _, by kernel_rfl, rfl, rfl, rfl, rfl, by decide, by decide⟩
instance : SizeIs Try.prog 139 1 := ⟨by kernel_rfl⟩
instance : AggIs Try.prog 139 false := ⟨by kernel_rfl⟩
instance : ZeroIs Try.prog 139 (Value.nilFunc) := ⟨by kernel_rfl⟩
instance : BytesIs Try.prog 139 1 8 := ⟨Try.t139, _, by kernel_rfl, rfl, rfl, rfl, rfl, by decide, by decide⟩
instance : SizeIs Try.prog 140 1 := ⟨by kernel_rfl⟩
instance : AggIs Try.prog 140 false := ⟨by kernel_rfl⟩
instance : ZeroIs Try.prog 140 (Value.nilFunc) := ⟨by kernel_rfl⟩
instance : BytesIs Try.prog 140 1 8 := ⟨Try.t140, _, by kernel_rfl, rfl, rfl, rfl, rfl, by decide, by decide⟩
instance : SizeIs Try.prog 141 1 := ⟨by kernel_rfl⟩
instance : AggIs Try.prog 141 false := ⟨by kernel_rfl⟩
instance : ZeroIs Try.prog 141 (Value.nilFunc) := ⟨by kernel_rfl⟩
instance : BytesIs Try.prog 141 1 8 := ⟨Try.t141, _, by kernel_rfl, rfl, rfl, rfl, rfl, by decide, by decide⟩
instance : SizeIs Try.prog 142 1 := ⟨by kernel_rfl⟩
instance : AggIs Try.prog 142 false := ⟨by kernel_rfl⟩
instance : ZeroIs Try.prog 142 (Value.nilFunc) := ⟨by kernel_rfl⟩
instance : BytesIs Try.prog 142 1 8 := ⟨Try.t142, _, by kernel_rfl, rfl, rfl, rfl, rfl, by decide, by decide⟩
instance : SizeIs Try.prog 143 1 := ⟨by kernel_rfl⟩
instance : AggIs Try.prog 143 false := ⟨by kernel_rfl⟩
instance : ZeroIs Try.prog 143 (Value.nilFunc) := ⟨by kernel_rfl⟩
instance : BytesIs Try.prog 143 1 8 := ⟨Try.t143, _, by kernel_rfl, rfl, rfl, rfl, rfl, by decide, by decide⟩
instance : SizeIs Try.prog 144 1 := ⟨by kernel_rfl⟩
instance : AggIs Try.prog 144 false := ⟨by kernel_rfl⟩
instance : ZeroIs Try.prog 144 (Value.nilFunc) := ⟨by kernel_rfl⟩
instance : BytesIs Try.prog 144 1 8 := ⟨Try.t144, _, by kernel_rfl, rfl, rfl, rfl, rfl, by decide, by decide⟩
instance : SizeIs Try.prog 145 1 := ⟨by kernel_rfl⟩
instance : AggIs Try.prog 145 false := ⟨by kernel_rfl⟩
instance : ZeroIs Try.prog 145 (Value.nilFunc) := ⟨by kernel_rfl⟩
instance : BytesIs Try.prog 145 1 8 := ⟨Try.t145, _, by kernel_rfl, rfl, rfl, rfl, rfl, by decide, by decide⟩
instance : SizeIs Try.prog 146 1 := ⟨by kernel_rfl⟩
instance : AggIs Try.prog 146 false := ⟨by kernel_rfl⟩
instance : ZeroIs Try.prog 146 (Value.nilFunc) := ⟨by kernel_rfl⟩
instance : BytesIs Try.prog 146 1 8 := ⟨Try.t146, _, by kernel_rfl, rfl, rfl, rfl, rfl, by decide, by decide⟩
instance : SizeIs Try.prog 147 1 := ⟨by kernel_rfl⟩
instance : AggIs Try.prog 147 false := ⟨by kernel_rfl⟩
instance : ZeroIs Try.prog 147 (Value.nilFunc) := ⟨by kernel_rfl⟩
instance : BytesIs Try.prog 147 1 8 := ⟨Try.t147, _, by kernel_rfl, rfl, rfl, rfl, rfl, by decide, by decide⟩
instance : UnderIs Try.prog 148 (.slice 80) := ⟨Try.underlying148⟩
instance : SizeIs Try.prog 148 1 := ⟨by kernel_rfl⟩
instance : AggIs Try.prog 148 false := ⟨by kernel_rfl⟩
instance : ZeroIs Try.prog 148 ((Value.slice none 0 0)) := ⟨by kernel_rfl⟩
instance : BytesIs Try.prog 148 1 24 := ⟨Try.t148, _, by kernel_rfl, rfl, rfl, rfl, rfl, by decide, by decide⟩
instance : SizeIs Try.prog 149 1 := ⟨by kernel_rfl⟩
instance : AggIs Try.prog 149 false := ⟨by kernel_rfl⟩
instance : ZeroIs Try.prog 149 (Value.nilFunc) := ⟨by kernel_rfl⟩
instance : BytesIs Try.prog 149 1 8 := ⟨Try.t149, _, by kernel_rfl, rfl, rfl, rfl, rfl, by decide, by decide⟩
instance : SizeIs Try.prog 150 1 := ⟨by kernel_rfl⟩
instance : AggIs Try.prog 150 false := ⟨by kernel_rfl⟩
instance : ZeroIs Try.prog 150 (Value.nilFunc) := ⟨by kernel_rfl⟩
instance : BytesIs Try.prog 150 1 8 := ⟨Try.t150, _, by kernel_rfl, rfl, rfl, rfl, rfl, by decide, by decide⟩
instance : UnderIs Try.prog 151 (.slice 5) := ⟨Try.underlying151⟩
instance : SizeIs Try.prog 151 1 := ⟨by kernel_rfl⟩
instance : AggIs Try.prog 151 false := ⟨by kernel_rfl⟩
instance : ZeroIs Try.prog 151 ((Value.slice none 0 0)) := ⟨by kernel_rfl⟩
instance : BytesIs Try.prog 151 1 24 := ⟨Try.t151, _, by kernel_rfl, rfl, rfl, rfl, rfl, by decide, by decide⟩
instance : SizeIs Try.prog 152 1 := ⟨by kernel_rfl⟩
instance : AggIs Try.prog 152 false := ⟨by kernel_rfl⟩
instance : ZeroIs Try.prog 152 (Value.nilFunc) := ⟨by kernel_rfl⟩
instance : BytesIs Try.prog 152 1 8 := ⟨Try.t152, _, by kernel_rfl, rfl, rfl, rfl, rfl, by decide, by decide⟩
instance : SizeIs Try.prog 153 1 := ⟨by kernel_rfl⟩
instance : AggIs Try.prog 153 false := ⟨by kernel_rfl⟩
instance : ZeroIs Try.prog 153 (Value.nilFunc) := ⟨by kernel_rfl⟩
instance : BytesIs Try.prog 153 1 8 := ⟨Try.t153, _, by kernel_rfl, rfl, rfl, rfl, rfl, by decide, by decide⟩
instance : SizeIs Try.prog 154 1 := ⟨by kernel_rfl⟩
instance : AggIs Try.prog 154 false := ⟨by kernel_rfl⟩
instance : ZeroIs Try.prog 154 (Value.nilFunc) := ⟨by kernel_rfl⟩
instance : BytesIs Try.prog 154 1 8 := ⟨Try.t154, _, by kernel_rfl, rfl, rfl, rfl, rfl, by decide, by decide⟩
instance : SizeIs Try.prog 155 1 := ⟨by kernel_rfl⟩
instance : AggIs Try.prog 155 false := ⟨by kernel_rfl⟩
instance : ZeroIs Try.prog 155 (Value.nilFunc) := ⟨by kernel_rfl⟩
instance : BytesIs Try.prog 155 1 8 := ⟨Try.t155, _, by kernel_rfl, rfl, rfl, rfl, rfl, by decide, by decide⟩
instance : SizeIs Try.prog 157 1 := ⟨by kernel_rfl⟩
instance : AggIs Try.prog 157 false := ⟨by kernel_rfl⟩
instance : ZeroIs Try.prog 157 (Value.nilFunc) := ⟨by kernel_rfl⟩
instance : BytesIs Try.prog 157 1 8 := ⟨Try.t157, _, by kernel_rfl, rfl, rfl, rfl, rfl, by decide, by decide⟩
instance : SizeIs Try.prog 158 1 := ⟨by kernel_rfl⟩
instance : AggIs Try.prog 158 false := ⟨by kernel_rfl⟩
instance : ZeroIs Try.prog 158 (Value.nilFunc) := ⟨by kernel_rfl⟩
instance : BytesIs Try.prog 158 1 8 := ⟨Try.t158, _, by kernel_rfl, rfl, rfl, rfl, rfl, by decide, by decide⟩
instance : UnderIs Try.prog 159 (.int IntKind.u64) := ⟨Try.underlying159⟩
instance : SizeIs Try.prog 159 1 := ⟨by kernel_rfl⟩
instance : AggIs Try.prog 159 false := ⟨by kernel_rfl⟩
instance : ZeroIs Try.prog 159 ((Value.int IntKind.u64 0)) := ⟨by kernel_rfl⟩
instance : BytesIs Try.prog 159 1 8 := ⟨Try.t159, _, by kernel_rfl, rfl, rfl, rfl, rfl, by decide, by decide⟩
instance : SizeIs Try.prog 160 1 := ⟨by kernel_rfl⟩
instance : AggIs Try.prog 160 false := ⟨by kernel_rfl⟩
instance : ZeroIs Try.prog 160 (Value.nilFunc) := ⟨by kernel_rfl⟩
instance : BytesIs Try.prog 160 1 8 := ⟨Try.t160, _, by kernel_rfl, rfl, rfl, rfl, rfl, by decide, by decide⟩
instance : SizeIs Try.prog 161 1 := ⟨by kernel_rfl⟩
instance : AggIs Try.prog 161 false := ⟨by kernel_rfl⟩
instance : ZeroIs Try.prog 161 (Value.nilFunc) := ⟨by kernel_rfl⟩
instance : BytesIs Try.prog 161 1 8 := ⟨Try.t161, _, by kernel_rfl, rfl, rfl, rfl, rfl, by decide, by decide⟩
instance : SizeIs Try.prog 162 1 := ⟨by kernel_rfl⟩
instance : AggIs Try.prog 162 false := ⟨by kernel_rfl⟩
instance : ZeroIs Try.prog 162 (Value.nilFunc) := ⟨by kernel_rfl⟩
instance : BytesIs Try.prog 162 1 8 := ⟨Try.t162, _, by kernel_rfl, rfl, rfl, rfl, rfl, by decide, by decide⟩
instance : SizeIs Try.prog 163 1 := ⟨by kernel_rfl⟩
instance : AggIs Try.prog 163 false := ⟨by kernel_rfl⟩
instance : ZeroIs Try.prog 163 (Value.nilFunc) := ⟨by kernel_rfl⟩
instance : BytesIs Try.prog 163 1 8 := ⟨Try.t163, _, by kernel_rfl, rfl, rfl, rfl, rfl, by decide, by decide⟩
instance : FieldIs Try.prog 164 0 0 3 1 := ⟨_, _, Try.underlying164, rfl, rfl, rfl, by kernel_rfl, by decide⟩
instance : FieldIs Try.prog 164 1 1 3 1 := ⟨_, _, Try.underlying164, rfl, rfl, rfl, by kernel_rfl, by decide⟩
instance : FieldIs Try.prog 164 2 2 4 1 := ⟨_, _, Try.underlying164, rfl, rfl, rfl, by kernel_rfl, by decide⟩
instance : FieldIs Try.prog 164 3 3 4 1 := ⟨_, _, Try.underlying164, rfl, rfl, rfl, by kernel_rfl, by decide⟩
instance : FieldIs Try.prog 164 4 4 9 1 := ⟨_, _, Try.underlying164, rfl, rfl, rfl, by kernel_rfl, by decide⟩
instance : FieldIs Try.prog 164 5 5 163 1 := ⟨_, _, Try.underlying164, rfl, rfl, rfl, by kernel_rfl, by decide⟩
instance : StructOk Try.prog 164 := ⟨_, Try.underlying164, by kernel_rfl⟩
instance : SizeIs Try.prog 164 6 := ⟨by kernel_rfl⟩
instance : AggIs Try.prog 164 true := ⟨by kernel_rfl⟩
instance : ZeroIs Try.prog 164 ((Value.agg #[Value.int IntKind.i64 0, Value.int IntKind.i64 0, Value.bool false, Value.bool false, Value.string ByteArray.empty, Value.nilFunc])) := ⟨by kernel_rfl⟩
instance : BytesIs Try.prog 164 6 48 := ⟨Try.t164, _, by kernel_rfl, rfl, rfl, rfl, rfl, by decide, by decide⟩
instance : FieldIs Try.prog 165 0 0 3 1 := ⟨_, _, Try.underlying165, rfl, rfl, rfl, by kernel_rfl, by decide⟩
instance : FieldIs Try.prog 165 1 1 3 1 := ⟨_, _, Try.underlying165, rfl, rfl, rfl, by kernel_rfl, by decide⟩
instance : FieldIs Try.prog 165 2 2 4 1 := ⟨_, _, Try.underlying165, rfl, rfl, rfl, by kernel_rfl, by decide⟩
instance : FieldIs Try.prog 165 3 3 4 1 := ⟨_, _, Try.underlying165, rfl, rfl, rfl, by kernel_rfl, by decide⟩
instance : FieldIs Try.prog 165 4 4 9 1 := ⟨_, _, Try.underlying165, rfl, rfl, rfl, by kernel_rfl, by decide⟩
instance : FieldIs Try.prog 165 5 5 163 1 := ⟨_, _, Try.underlying165, rfl, rfl, rfl, by kernel_rfl, by decide⟩
instance : StructOk Try.prog 165 := ⟨_, Try.underlying165, by kernel_rfl⟩
instance : SizeIs Try.prog 165 6 := ⟨by kernel_rfl⟩
instance : AggIs Try.prog 165 true := ⟨by kernel_rfl⟩
instance : ZeroIs Try.prog 165 ((Value.agg #[Value.int IntKind.i64 0, Value.int IntKind.i64 0, Value.bool false, Value.bool false, Value.string ByteArray.empty, Value.nilFunc])) := ⟨by kernel_rfl⟩
instance : BytesIs Try.prog 165 6 48 := ⟨Try.t165, _, by kernel_rfl, rfl, rfl, rfl, rfl, by decide, by decide⟩
instance : UnderIs Try.prog 167 (.map 9 165) := ⟨Try.underlying167⟩
instance : SizeIs Try.prog 167 1 := ⟨by kernel_rfl⟩
instance : AggIs Try.prog 167 false := ⟨by kernel_rfl⟩
instance : ZeroIs Try.prog 167 ((Value.map none)) := ⟨by kernel_rfl⟩
instance : BytesIs Try.prog 167 1 8 := ⟨Try.t167, _, by kernel_rfl, rfl, rfl, rfl, rfl, by decide, by decide⟩
instance : SizeIs Try.prog 168 1 := ⟨by kernel_rfl⟩
instance : AggIs Try.prog 168 false := ⟨by kernel_rfl⟩
instance : ZeroIs Try.prog 168 (Value.nilFunc) := ⟨by kernel_rfl⟩
instance : BytesIs Try.prog 168 1 8 := ⟨Try.t168, _, by kernel_rfl, rfl, rfl, rfl, rfl, by decide, by decide⟩
instance : UnderIs Try.prog 169 (.slice 22) := ⟨Try.underlying169⟩
instance : SizeIs Try.prog 169 1 := ⟨by kernel_rfl⟩
instance : AggIs Try.prog 169 false := ⟨by kernel_rfl⟩
instance : ZeroIs Try.prog 169 ((Value.slice none 0 0)) := ⟨by kernel_rfl⟩
instance : BytesIs Try.prog 169 1 24 := ⟨Try.t169, _, by kernel_rfl, rfl, rfl, rfl, rfl, by decide, by decide⟩
instance : SizeIs Try.prog 170 1 := ⟨by kernel_rfl⟩
instance : AggIs Try.prog 170 false := ⟨by kernel_rfl⟩
instance : ZeroIs Try.prog 170 (Value.nilFunc) := ⟨by kernel_rfl⟩
instance : BytesIs Try.prog 170 1 8 := ⟨Try.t170, _, by kernel_rfl, rfl, rfl, rfl, rfl, by decide, by decide⟩
instance : SizeIs Try.prog 171 1 := ⟨by kernel_rfl⟩
instance : AggIs Try.prog 171 false := ⟨by kernel_rfl⟩
instance : ZeroIs Try.prog 171 (Value.nilFunc) := ⟨by kernel_rfl⟩
instance : BytesIs Try.prog 171 1 8 := ⟨Try.t171, _, by kernel_rfl, rfl, rfl, rfl, rfl, by decide, by decide⟩
instance : SizeIs Try.prog 172 1 := ⟨by kernel_rfl⟩
instance : AggIs Try.prog 172 false := ⟨by kernel_rfl⟩
instance : ZeroIs Try.prog 172 (Value.nilFunc) := ⟨by kernel_rfl⟩
instance : BytesIs Try.prog 172 1 8 := ⟨Try.t172, _, by kernel_rfl, rfl, rfl, rfl, rfl, by decide, by decide⟩
instance : SizeIs Try.prog 173 1 := ⟨by kernel_rfl⟩
instance : AggIs Try.prog 173 false := ⟨by kernel_rfl⟩
instance : ZeroIs Try.prog 173 (Value.nilFunc) := ⟨by kernel_rfl⟩
instance : BytesIs Try.prog 173 1 8 := ⟨Try.t173, _, by kernel_rfl, rfl, rfl, rfl, rfl, by decide, by decide⟩
instance : SizeIs Try.prog 174 1 := ⟨by kernel_rfl⟩
instance : AggIs Try.prog 174 false := ⟨by kernel_rfl⟩
instance : ZeroIs Try.prog 174 (Value.nilFunc) := ⟨by kernel_rfl⟩
instance : BytesIs Try.prog 174 1 8 := ⟨Try.t174, _, by kernel_rfl, rfl, rfl, rfl, rfl, by decide, by decide⟩
instance : SizeIs Try.prog 176 1 := ⟨by kernel_rfl⟩
instance : AggIs Try.prog 176 false := ⟨by kernel_rfl⟩
instance : ZeroIs Try.prog 176 (Value.nilFunc) := ⟨by kernel_rfl⟩
instance : BytesIs Try.prog 176 1 8 := ⟨Try.t176, _, by kernel_rfl, rfl, rfl, rfl, rfl, by decide, by decide⟩
instance : SizeIs Try.prog 177 1 := ⟨by kernel_rfl⟩
instance : AggIs Try.prog 177 false := ⟨by kernel_rfl⟩
instance : ZeroIs Try.prog 177 (Value.nilFunc) := ⟨by kernel_rfl⟩
instance : BytesIs Try.prog 177 1 8 := ⟨Try.t177, _, by kernel_rfl, rfl, rfl, rfl, rfl, by decide, by decide⟩
instance : SizeIs Try.prog 178 1 := ⟨by kernel_rfl⟩
instance : AggIs Try.prog 178 false := ⟨by kernel_rfl⟩
instance : ZeroIs Try.prog 178 (Value.nilFunc) := ⟨by kernel_rfl⟩
instance : BytesIs Try.prog 178 1 8 := ⟨Try.t178, _, by kernel_rfl, rfl, rfl, rfl, rfl, by decide, by decide⟩
instance : UnderIs Try.prog 179 (.slice 9) := ⟨Try.underlying179⟩
instance : SizeIs Try.prog 179 1 := ⟨by kernel_rfl⟩
instance : AggIs Try.prog 179 false := ⟨by kernel_rfl⟩
instance : ZeroIs Try.prog 179 ((Value.slice none 0 0)) := ⟨by kernel_rfl⟩
instance : BytesIs Try.prog 179 1 24 := ⟨Try.t179, _, by kernel_rfl, rfl, rfl, rfl, rfl, by decide, by decide⟩
instance : SizeIs Try.prog 181 1 := ⟨by kernel_rfl⟩
instance : AggIs Try.prog 181 false := ⟨by kernel_rfl⟩
instance : ZeroIs Try.prog 181 (Value.nilFunc) := ⟨by kernel_rfl⟩
instance : BytesIs Try.prog 181 1 8 := ⟨Try.t181, _, by kernel_rfl, rfl, rfl, rfl, rfl, by decide, by decide⟩
instance : SizeIs Try.prog 182 1 := ⟨by kernel_rfl⟩
instance : AggIs Try.prog 182 false := ⟨by kernel_rfl⟩
instance : ZeroIs Try.prog 182 (Value.nilFunc) := ⟨by kernel_rfl⟩
instance : BytesIs Try.prog 182 1 8 := ⟨Try.t182, _, by kernel_rfl, rfl, rfl, rfl, rfl, by decide, by decide⟩
instance : SizeIs Try.prog 183 1 := ⟨by kernel_rfl⟩
instance : AggIs Try.prog 183 false := ⟨by kernel_rfl⟩
instance : ZeroIs Try.prog 183 (Value.nilFunc) := ⟨by kernel_rfl⟩
instance : BytesIs Try.prog 183 1 8 := ⟨Try.t183, _, by kernel_rfl, rfl, rfl, rfl, rfl, by decide, by decide⟩
instance : SizeIs Try.prog 184 1 := ⟨by kernel_rfl⟩
instance : AggIs Try.prog 184 false := ⟨by kernel_rfl⟩
instance : ZeroIs Try.prog 184 (Value.nilFunc) := ⟨by kernel_rfl⟩
instance : BytesIs Try.prog 184 1 8 := ⟨Try.t184, _, by kernel_rfl, rfl, rfl, rfl, rfl, by decide, by decide⟩
instance : SizeIs Try.prog 185 1 := ⟨by kernel_rfl⟩
instance : AggIs Try.prog 185 false := ⟨by kernel_rfl⟩
instance : ZeroIs Try.prog 185 (Value.nilFunc) := ⟨by kernel_rfl⟩
instance : BytesIs Try.prog 185 1 8 := ⟨Try.t185, _, by kernel_rfl, rfl, rfl, rfl, rfl, by decide, by decide⟩
instance : SizeIs Try.prog 186 1 := ⟨by kernel_rfl⟩
instance : AggIs Try.prog 186 false := ⟨by kernel_rfl⟩
instance : ZeroIs Try.prog 186 (Value.nilFunc) := ⟨by kernel_rfl⟩
instance : BytesIs Try.prog 186 1 8 := ⟨Try.t186, _, by kernel_rfl, rfl, rfl, rfl, rfl, by decide, by decide⟩
instance : UnderIs Try.prog 187 (.pointer 189) := ⟨Try.underlying187⟩
instance : SizeIs Try.prog 187 1 := ⟨by kernel_rfl⟩
instance : AggIs Try.prog 187 false := ⟨by kernel_rfl⟩
instance : ZeroIs Try.prog 187 ((Value.pointer none)) := ⟨by kernel_rfl⟩
instance : BytesIs Try.prog 187 1 8 := ⟨Try.t187, _, by kernel_rfl, rfl, rfl, rfl, rfl, by decide, by decide⟩
instance : FieldIs Try.prog 188 0 0 82 4 := ⟨_, _, Try.underlying188, rfl, rfl, rfl, by kernel_rfl, by decide⟩
instance : StructOk Try.prog 188 := ⟨_, Try.underlying188, by kernel_rfl⟩
instance : SizeIs Try.prog 188 4 := ⟨by kernel_rfl⟩
instance : AggIs Try.prog 188 true := ⟨by kernel_rfl⟩
instance : ZeroIs Try.prog 188 ((Value.agg #[Value.int IntKind.i64 0, Value.int IntKind.u64 0, Value.int IntKind.u64 0, Value.int IntKind.i64 0])) := ⟨by kernel_rfl⟩
instance : BytesIs Try.prog 188 4 32 := ⟨Try.t188, _, by kernel_rfl, rfl, rfl, rfl, rfl, by decide, by decide⟩
instance : FieldIs Try.prog 189 0 0 82 4 := ⟨_, _, Try.underlying189, rfl, rfl, rfl, by kernel_rfl, by decide⟩
instance : StructOk Try.prog 189 := ⟨_, Try.underlying189, by kernel_rfl⟩
instance : SizeIs Try.prog 189 4 := ⟨by kernel_rfl⟩
instance : AggIs Try.prog 189 true := ⟨by kernel_rfl⟩
instance : ZeroIs Try.prog 189 ((Value.agg #[Value.int IntKind.i64 0, Value.int IntKind.u64 0, Value.int IntKind.u64 0, Value.int IntKind.i64 0])) := ⟨by kernel_rfl⟩
instance : BytesIs Try.prog 189 4 32 := ⟨Try.t189, _, by kernel_rfl, rfl, rfl, rfl, rfl, by decide, by decide⟩
instance : SizeIs Try.prog 190 1 := ⟨by kernel_rfl⟩
instance : AggIs Try.prog 190 false := ⟨by kernel_rfl⟩
instance : ZeroIs Try.prog 190 (Value.nilFunc) := ⟨by kernel_rfl⟩
instance : BytesIs Try.prog 190 1 8 := ⟨Try.t190, _, by kernel_rfl, rfl, rfl, rfl, rfl, by decide, by decide⟩
instance : SizeIs Try.prog 191 1 := ⟨by kernel_rfl⟩
instance : AggIs Try.prog 191 false := ⟨by kernel_rfl⟩
instance : ZeroIs Try.prog 191 (Value.nilFunc) := ⟨by kernel_rfl⟩
instance : BytesIs Try.prog 191 1 8 := ⟨Try.t191, _, by kernel_rfl, rfl, rfl, rfl, rfl, by decide, by decide⟩
instance : SizeIs Try.prog 192 1 := ⟨by kernel_rfl⟩
instance : AggIs Try.prog 192 false := ⟨by kernel_rfl⟩
instance : ZeroIs Try.prog 192 (Value.nilFunc) := ⟨by kernel_rfl⟩
instance : BytesIs Try.prog 192 1 8 := ⟨Try.t192, _, by kernel_rfl, rfl, rfl, rfl, rfl, by decide, by decide⟩
instance : SizeIs Try.prog 193 1 := ⟨by kernel_rfl⟩
instance : AggIs Try.prog 193 false := ⟨by kernel_rfl⟩
instance : ZeroIs Try.prog 193 (Value.nilFunc) := ⟨by kernel_rfl⟩
instance : BytesIs Try.prog 193 1 8 := ⟨Try.t193, _, by kernel_rfl, rfl, rfl, rfl, rfl, by decide, by decide⟩
instance : SizeIs Try.prog 194 1 := ⟨by kernel_rfl⟩
instance : AggIs Try.prog 194 false := ⟨by kernel_rfl⟩
instance : ZeroIs Try.prog 194 (Value.nilFunc) := ⟨by kernel_rfl⟩
instance : BytesIs Try.prog 194 1 8 := ⟨Try.t194, _, by kernel_rfl, rfl, rfl, rfl, rfl, by decide, by decide⟩
instance : SizeIs Try.prog 195 1 := ⟨by kernel_rfl⟩
instance : AggIs Try.prog 195 false := ⟨by kernel_rfl⟩
instance : ZeroIs Try.prog 195 (Value.nilFunc) := ⟨by kernel_rfl⟩
instance : BytesIs Try.prog 195 1 8 := ⟨Try.t195, _, by kernel_rfl, rfl, rfl, rfl, rfl, by decide, by decide⟩
instance : SizeIs Try.prog 196 1 := ⟨by kernel_rfl⟩
instance : AggIs Try.prog 196 false := ⟨by kernel_rfl⟩
instance : ZeroIs Try.prog 196 (Value.nilFunc) := ⟨by kernel_rfl⟩
instance : BytesIs Try.prog 196 1 8 := ⟨Try.t196, _, by kernel_rfl, rfl, rfl, rfl, rfl, by decide, by decide⟩
instance : SizeIs Try.prog 197 1 := ⟨by kernel_rfl⟩
instance : AggIs Try.prog 197 false := ⟨by kernel_rfl⟩
instance : ZeroIs Try.prog 197 (Value.nilFunc) := ⟨by kernel_rfl⟩
instance : BytesIs Try.prog 197 1 8 := ⟨Try.t197, _, by kernel_rfl, rfl, rfl, rfl, rfl, by decide, by decide⟩
instance : SizeIs Try.prog 198 1 := ⟨by kernel_rfl⟩
instance : AggIs Try.prog 198 false := ⟨by kernel_rfl⟩
instance : ZeroIs Try.prog 198 (Value.nilFunc) := ⟨by kernel_rfl⟩
instance : BytesIs Try.prog 198 1 8 := ⟨Try.t198, _, by kernel_rfl, rfl, rfl, rfl, rfl, by decide, by decide⟩
instance : SizeIs Try.prog 199 1 := ⟨by kernel_rfl⟩
instance : AggIs Try.prog 199 false := ⟨by kernel_rfl⟩
instance : ZeroIs Try.prog 199 (Value.nilFunc) := ⟨by kernel_rfl⟩
instance : BytesIs Try.prog 199 1 8 := ⟨Try.t199, _, by kernel_rfl, rfl, rfl, rfl, rfl, by decide, by decide⟩
instance : SizeIs Try.prog 200 1 := ⟨by kernel_rfl⟩
instance : AggIs Try.prog 200 false := ⟨by kernel_rfl⟩
instance : ZeroIs Try.prog 200 (Value.nilFunc) := ⟨by kernel_rfl⟩
instance : BytesIs Try.prog 200 1 8 := ⟨Try.t200, _, by kernel_rfl, rfl, rfl, rfl, rfl, by decide, by decide⟩
instance : SizeIs Try.prog 201 1 := ⟨by kernel_rfl⟩
instance : AggIs Try.prog 201 false := ⟨by kernel_rfl⟩
instance : ZeroIs Try.prog 201 (Value.nilFunc) := ⟨by kernel_rfl⟩
instance : BytesIs Try.prog 201 1 8 := ⟨Try.t201, _, by kernel_rfl, rfl, rfl, rfl, rfl, by decide, by decide⟩
instance : SizeIs Try.prog 202 1 := ⟨by kernel_rfl⟩
instance : AggIs Try.prog 202 false := ⟨by kernel_rfl⟩
instance : ZeroIs Try.prog 202 (Value.nilFunc) := ⟨by kernel_rfl⟩
instance : BytesIs Try.prog 202 1 8 := ⟨Try.t202, _, by kernel_rfl, rfl, rfl, rfl, rfl, by decide, by decide⟩
instance : SizeIs Try.prog 203 1 := ⟨by kernel_rfl⟩
instance : AggIs Try.prog 203 false := ⟨by kernel_rfl⟩
instance : ZeroIs Try.prog 203 (Value.nilFunc) := ⟨by kernel_rfl⟩
instance : BytesIs Try.prog 203 1 8 := ⟨Try.t203, _, by kernel_rfl, rfl, rfl, rfl, rfl, by decide, by decide⟩
instance : SizeIs Try.prog 204 1 := ⟨by kernel_rfl⟩
instance : AggIs Try.prog 204 false := ⟨by kernel_rfl⟩
instance : ZeroIs Try.prog 204 (Value.nilFunc) := ⟨by kernel_rfl⟩
instance : BytesIs Try.prog 204 1 8 := ⟨Try.t204, _, by kernel_rfl, rfl, rfl, rfl, rfl, by decide, by decide⟩
instance : SizeIs Try.prog 205 1 := ⟨by kernel_rfl⟩
instance : AggIs Try.prog 205 false := ⟨by kernel_rfl⟩
instance : ZeroIs Try.prog 205 (Value.nilFunc) := ⟨by kernel_rfl⟩
instance : BytesIs Try.prog 205 1 8 := ⟨Try.t205, _, by kernel_rfl, rfl, rfl, rfl, rfl, by decide, by decide⟩
instance : SizeIs Try.prog 207 1 := ⟨by kernel_rfl⟩
instance : AggIs Try.prog 207 false := ⟨by kernel_rfl⟩
instance : ZeroIs Try.prog 207 (Value.nilFunc) := ⟨by kernel_rfl⟩
instance : BytesIs Try.prog 207 1 8 := ⟨Try.t207, _, by kernel_rfl, rfl, rfl, rfl, rfl, by decide, by decide⟩
instance : SizeIs Try.prog 208 1 := ⟨by kernel_rfl⟩
instance : AggIs Try.prog 208 false := ⟨by kernel_rfl⟩
instance : ZeroIs Try.prog 208 (Value.nilFunc) := ⟨by kernel_rfl⟩
instance : BytesIs Try.prog 208 1 8 := ⟨Try.t208, _, by kernel_rfl, rfl, rfl, rfl, rfl, by decide, by decide⟩
instance : SizeIs Try.prog 210 1 := ⟨by kernel_rfl⟩
instance : AggIs Try.prog 210 false := ⟨by kernel_rfl⟩
instance : ZeroIs Try.prog 210 (Value.nilFunc) := ⟨by kernel_rfl⟩
instance : BytesIs Try.prog 210 1 8 := ⟨Try.t210, _, by kernel_rfl, rfl, rfl, rfl, rfl, by decide, by decide⟩
instance : SizeIs Try.prog 211 1 := ⟨by kernel_rfl⟩
instance : AggIs Try.prog 211 false := ⟨by kernel_rfl⟩
instance : ZeroIs Try.prog 211 (Value.nilFunc) := ⟨by kernel_rfl⟩
instance : BytesIs Try.prog 211 1 8 := ⟨Try.t211, _, by kernel_rfl, rfl, rfl, rfl, rfl, by decide, by decide⟩
instance : SizeIs Try.prog 212 1 := ⟨by kernel_rfl⟩
instance : AggIs Try.prog 212 false := ⟨by kernel_rfl⟩
instance : ZeroIs Try.prog 212 (Value.nilFunc) := ⟨by kernel_rfl⟩
instance : BytesIs Try.prog 212 1 8 := ⟨Try.t212, _, by kernel_rfl, rfl, rfl, rfl, rfl, by decide, by decide⟩
instance : UnderIs Try.prog 213 (.slice 215) := ⟨Try.underlying213⟩
instance : SizeIs Try.prog 213 1 := ⟨by kernel_rfl⟩
instance : AggIs Try.prog 213 false := ⟨by kernel_rfl⟩
instance : ZeroIs Try.prog 213 ((Value.slice none 0 0)) := ⟨by kernel_rfl⟩
instance : BytesIs Try.prog 213 1 24 := ⟨Try.t213, _, by kernel_rfl, rfl, rfl, rfl, rfl, by decide, by decide⟩
instance : FieldIs Try.prog 214 0 0 3 1 := ⟨_, _, Try.underlying214, rfl, rfl, rfl, by kernel_rfl, by decide⟩
instance : FieldIs Try.prog 214 1 1 3 1 := ⟨_, _, Try.underlying214, rfl, rfl, rfl, by kernel_rfl, by decide⟩
instance : FieldIs Try.prog 214 2 2 3 1 := ⟨_, _, Try.underlying214, rfl, rfl, rfl, by kernel_rfl, by decide⟩
instance : StructOk Try.prog 214 := ⟨_, Try.underlying214, by kernel_rfl⟩
instance : SizeIs Try.prog 214 3 := ⟨by kernel_rfl⟩
instance : AggIs Try.prog 214 true := ⟨by kernel_rfl⟩
instance : ZeroIs Try.prog 214 ((Value.agg #[Value.int IntKind.i64 0, Value.int IntKind.i64 0, Value.int IntKind.i64 0])) := ⟨by kernel_rfl⟩
instance : BytesIs Try.prog 214 3 24 := ⟨Try.t214, _, by kernel_rfl, rfl, rfl, rfl, rfl, by decide, by decide⟩
instance : FieldIs Try.prog 215 0 0 3 1 := ⟨_, _, Try.underlying215, rfl, rfl, rfl, by kernel_rfl, by decide⟩
instance : FieldIs Try.prog 215 1 1 3 1 := ⟨_, _, Try.underlying215, rfl, rfl, rfl, by kernel_rfl, by decide⟩
instance : FieldIs Try.prog 215 2 2 3 1 := ⟨_, _, Try.underlying215, rfl, rfl, rfl, by kernel_rfl, by decide⟩
instance : StructOk Try.prog 215 := ⟨_, Try.underlying215, by kernel_rfl⟩
instance : SizeIs Try.prog 215 3 := ⟨by kernel_rfl⟩
instance : AggIs Try.prog 215 true := ⟨by kernel_rfl⟩
instance : ZeroIs Try.prog 215 ((Value.agg #[Value.int IntKind.i64 0, Value.int IntKind.i64 0, Value.int IntKind.i64 0])) := ⟨by kernel_rfl⟩
instance : BytesIs Try.prog 215 3 24 := ⟨Try.t215, _, by kernel_rfl, rfl, rfl, rfl, rfl, by decide, by decide⟩
instance : SizeIs Try.prog 216 1 := ⟨by kernel_rfl⟩
instance : AggIs Try.prog 216 false := ⟨by kernel_rfl⟩
instance : ZeroIs Try.prog 216 (Value.nilFunc) := ⟨by kernel_rfl⟩
instance : BytesIs Try.prog 216 1 8 := ⟨Try.t216, _, by kernel_rfl, rfl, rfl, rfl, rfl, by decide, by decide⟩
instance : SizeIs Try.prog 217 1 := ⟨by kernel_rfl⟩
instance : AggIs Try.prog 217 false := ⟨by kernel_rfl⟩
instance : ZeroIs Try.prog 217 (Value.nilFunc) := ⟨by kernel_rfl⟩
instance : BytesIs Try.prog 217 1 8 := ⟨Try.t217, _, by kernel_rfl, rfl, rfl, rfl, rfl, by decide, by decide⟩
instance : SizeIs Try.prog 218 1 := ⟨by kernel_rfl⟩
instance : AggIs Try.prog 218 false := ⟨by kernel_rfl⟩
instance : ZeroIs Try.prog 218 (Value.nilFunc) := ⟨by kernel_rfl⟩
instance : BytesIs Try.prog 218 1 8 := ⟨Try.t218, _, by kernel_rfl, rfl, rfl, rfl, rfl, by decide, by decide⟩
instance : FieldIs Try.prog 219 0 0 17 1 := ⟨_, _, Try.underlying219, rfl, rfl, rfl, by kernel_rfl, by decide⟩
instance : FieldIs Try.prog 219 1 1 17 1 := ⟨_, _, Try.underlying219, rfl, rfl, rfl, by kernel_rfl, by decide⟩
instance : FieldIs Try.prog 219 2 2 17 1 := ⟨_, _, Try.underlying219, rfl, rfl, rfl, by kernel_rfl, by decide⟩
instance : FieldIs Try.prog 219 3 3 9 1 := ⟨_, _, Try.underlying219, rfl, rfl, rfl, by kernel_rfl, by decide⟩
instance : StructOk Try.prog 219 := ⟨_, Try.underlying219, by kernel_rfl⟩
instance : SizeIs Try.prog 219 4 := ⟨by kernel_rfl⟩
instance : AggIs Try.prog 219 true := ⟨by kernel_rfl⟩
instance : ZeroIs Try.prog 219 ((Value.agg #[Value.pointer none, Value.pointer none, Value.pointer none, Value.string ByteArray.empty])) := ⟨by kernel_rfl⟩
instance : BytesIs Try.prog 219 4 40 := ⟨Try.t219, _, by kernel_rfl, rfl, rfl, rfl, rfl, by decide, by decide⟩
instance : FieldIs Try.prog 220 0 0 17 1 := ⟨_, _, Try.underlying220, rfl, rfl, rfl, by kernel_rfl, by decide⟩
instance : FieldIs Try.prog 220 1 1 17 1 := ⟨_, _, Try.underlying220, rfl, rfl, rfl, by kernel_rfl, by decide⟩
instance : FieldIs Try.prog 220 2 2 17 1 := ⟨_, _, Try.underlying220, rfl, rfl, rfl, by kernel_rfl, by decide⟩
instance : FieldIs Try.prog 220 3 3 9 1 := ⟨_, _, Try.underlying220, rfl, rfl, rfl, by kernel_rfl, by decide⟩
instance : StructOk Try.prog 220 := ⟨_, Try.underlying220, by kernel_rfl⟩
instance : SizeIs Try.prog 220 4 := ⟨by kernel_rfl⟩
instance : AggIs Try.prog 220 true := ⟨by kernel_rfl⟩
instance : ZeroIs Try.prog 220 ((Value.agg #[Value.pointer none, Value.pointer none, Value.pointer none, Value.string ByteArray.empty])) := ⟨by kernel_rfl⟩
instance : BytesIs Try.prog 220 4 40 := ⟨Try.t220, _, by kernel_rfl, rfl, rfl, rfl, rfl, by decide, by decide⟩
instance : UnderIs Try.prog 221 (.array 0 16) := ⟨Try.underlying221⟩
instance : SizeIs Try.prog 221 0 := ⟨by kernel_rfl⟩
instance : AggIs Try.prog 221 true := ⟨by kernel_rfl⟩
instance : StructOk Try.prog 222 := ⟨_, Try.underlying222, by kernel_rfl⟩
instance : SizeIs Try.prog 222 0 := ⟨by kernel_rfl⟩
instance : AggIs Try.prog 222 true := ⟨by kernel_rfl⟩
instance : StructOk Try.prog 223 := ⟨_, Try.underlying223, by kernel_rfl⟩
instance : SizeIs Try.prog 223 0 := ⟨by kernel_rfl⟩
instance : AggIs Try.prog 223 true := ⟨by kernel_rfl⟩
instance : SizeIs Try.prog 224 1 := ⟨by kernel_rfl⟩
instance : AggIs Try.prog 224 false := ⟨by kernel_rfl⟩
instance : ZeroIs Try.prog 224 (Value.nilFunc) := ⟨by kernel_rfl⟩
instance : BytesIs Try.prog 224 1 8 := ⟨Try.t224, _, by kernel_rfl, rfl, rfl, rfl, rfl, by decide, by decide⟩
instance : UnderIs Try.prog 225 (.int IntKind.u32) := ⟨Try.underlying225⟩
instance : SizeIs Try.prog 225 1 := ⟨by kernel_rfl⟩
instance : AggIs Try.prog 225 false := ⟨by kernel_rfl⟩
instance : ZeroIs Try.prog 225 ((Value.int IntKind.u32 0)) := ⟨by kernel_rfl⟩
instance : BytesIs Try.prog 225 1 4 := ⟨Try.t225, _, by kernel_rfl, rfl, rfl, rfl, rfl, by decide, by decide⟩
instance : UnderIs Try.prog 226 (.int IntKind.u8) := ⟨Try.underlying226⟩
instance : SizeIs Try.prog 226 1 := ⟨by kernel_rfl⟩
instance : AggIs Try.prog 226 false := ⟨by kernel_rfl⟩
instance : ZeroIs Try.prog 226 ((Value.int IntKind.u8 0)) := ⟨by kernel_rfl⟩
instance : BytesIs Try.prog 226 1 1 := ⟨Try.t226, _, by kernel_rfl, rfl, rfl, rfl, rfl, by decide, by decide⟩
instance : UnderIs Try.prog 227 (.int IntKind.u8) := ⟨Try.underlying227⟩
instance : SizeIs Try.prog 227 1 := ⟨by kernel_rfl⟩
instance : AggIs Try.prog 227 false := ⟨by kernel_rfl⟩
instance : ZeroIs Try.prog 227 ((Value.int IntKind.u8 0)) := ⟨by kernel_rfl⟩
instance : BytesIs Try.prog 227 1 1 := ⟨Try.t227, _, by kernel_rfl, rfl, rfl, rfl, rfl, by decide, by decide⟩
instance : SizeIs Try.prog 228 1 := ⟨by kernel_rfl⟩
instance : AggIs Try.prog 228 false := ⟨by kernel_rfl⟩
instance : ZeroIs Try.prog 228 (Value.nilFunc) := ⟨by kernel_rfl⟩
instance : BytesIs Try.prog 228 1 8 := ⟨Try.t228, _, by kernel_rfl, rfl, rfl, rfl, rfl, by decide, by decide⟩
instance : UnderIs Try.prog 229 (.pointer 5) := ⟨Try.underlying229⟩
instance : SizeIs Try.prog 229 1 := ⟨by kernel_rfl⟩
instance : AggIs Try.prog 229 false := ⟨by kernel_rfl⟩
instance : ZeroIs Try.prog 229 ((Value.pointer none)) := ⟨by kernel_rfl⟩
instance : BytesIs Try.prog 229 1 8 := ⟨Try.t229, _, by kernel_rfl, rfl, rfl, rfl, rfl, by decide, by decide⟩
instance : UnderIs Try.prog 230 (.int IntKind.i32) := ⟨Try.underlying230⟩
instance : SizeIs Try.prog 230 1 := ⟨by kernel_rfl⟩
instance : AggIs Try.prog 230 false := ⟨by kernel_rfl⟩
instance : ZeroIs Try.prog 230 ((Value.int IntKind.i32 0)) := ⟨by kernel_rfl⟩
instance : BytesIs Try.prog 230 1 4 := ⟨Try.t230, _, by kernel_rfl, rfl, rfl, rfl, rfl, by decide, by decide⟩
instance : UnderIs Try.prog 231 (.int IntKind.i32) := ⟨Try.underlying231⟩
instance : SizeIs Try.prog 231 1 := ⟨by kernel_rfl⟩
instance : AggIs Try.prog 231 false := ⟨by kernel_rfl⟩
instance : ZeroIs Try.prog 231 ((Value.int IntKind.i32 0)) := ⟨by kernel_rfl⟩
instance : BytesIs Try.prog 231 1 4 := ⟨Try.t231, _, by kernel_rfl, rfl, rfl, rfl, rfl, by decide, by decide⟩
instance : FieldIs Try.prog 232 0 0 12 1 := ⟨_, _, Try.underlying232, rfl, rfl, rfl, by kernel_rfl, by decide⟩
instance : FieldIs Try.prog 232 1 1 12 1 := ⟨_, _, Try.underlying232, rfl, rfl, rfl, by kernel_rfl, by decide⟩
instance : FieldIs Try.prog 232 2 2 225 1 := ⟨_, _, Try.underlying232, rfl, rfl, rfl, by kernel_rfl, by decide⟩
instance : FieldIs Try.prog 232 3 3 226 1 := ⟨_, _, Try.underlying232, rfl, rfl, rfl, by kernel_rfl, by decide⟩
instance : FieldIs Try.prog 232 4 4 5 1 := ⟨_, _, Try.underlying232, rfl, rfl, rfl, by kernel_rfl, by decide⟩
instance : FieldIs Try.prog 232 5 5 5 1 := ⟨_, _, Try.underlying232, rfl, rfl, rfl, by kernel_rfl, by decide⟩
instance : FieldIs Try.prog 232 6 6 227 1 := ⟨_, _, Try.underlying232, rfl, rfl, rfl, by kernel_rfl, by decide⟩
instance : FieldIs Try.prog 232 7 7 228 1 := ⟨_, _, Try.underlying232, rfl, rfl, rfl, by kernel_rfl, by decide⟩
instance : FieldIs Try.prog 232 8 8 229 1 := ⟨_, _, Try.underlying232, rfl, rfl, rfl, by kernel_rfl, by decide⟩
instance : FieldIs Try.prog 232 9 9 230 1 := ⟨_, _, Try.underlying232, rfl, rfl, rfl, by kernel_rfl, by decide⟩
instance : FieldIs Try.prog 232 10 10 231 1 := ⟨_, _, Try.underlying232, rfl, rfl, rfl, by kernel_rfl, by decide⟩
instance : StructOk Try.prog 232 := ⟨_, Try.underlying232, by kernel_rfl⟩
instance : SizeIs Try.prog 232 11 := ⟨by kernel_rfl⟩
instance : AggIs Try.prog 232 true := ⟨by kernel_rfl⟩
instance : ZeroIs Try.prog 232 ((Value.agg #[Value.int IntKind.u64 0, Value.int IntKind.u64 0, Value.int IntKind.u32 0, Value.int IntKind.u8 0, Value.int IntKind.u8 0, Value.int IntKind.u8 0, Value.int IntKind.u8 0, Value.nilFunc, Value.pointer none, Value.int IntKind.i32 0, Value.int IntKind.i32 0])) := ⟨by kernel_rfl⟩
instance : BytesIs Try.prog 232 11 48 := ⟨Try.t232, _, by kernel_rfl, rfl, rfl, rfl, rfl, by decide, by decide⟩
instance : FieldIs Try.prog 233 0 0 12 1 := ⟨_, _, Try.underlying233, rfl, rfl, rfl, by kernel_rfl, by decide⟩
instance : FieldIs Try.prog 233 1 1 12 1 := ⟨_, _, Try.underlying233, rfl, rfl, rfl, by kernel_rfl, by decide⟩
instance : FieldIs Try.prog 233 2 2 225 1 := ⟨_, _, Try.underlying233, rfl, rfl, rfl, by kernel_rfl, by decide⟩
instance : FieldIs Try.prog 233 3 3 226 1 := ⟨_, _, Try.underlying233, rfl, rfl, rfl, by kernel_rfl, by decide⟩
instance : FieldIs Try.prog 233 4 4 5 1 := ⟨_, _, Try.underlying233, rfl, rfl, rfl, by kernel_rfl, by decide⟩
instance : FieldIs Try.prog 233 5 5 5 1 := ⟨_, _, Try.underlying233, rfl, rfl, rfl, by kernel_rfl, by decide⟩
instance : FieldIs Try.prog 233 6 6 227 1 := ⟨_, _, Try.underlying233, rfl, rfl, rfl, by kernel_rfl, by decide⟩
instance : FieldIs Try.prog 233 7 7 228 1 := ⟨_, _, Try.underlying233, rfl, rfl, rfl, by kernel_rfl, by decide⟩
instance : FieldIs Try.prog 233 8 8 229 1 := ⟨_, _, Try.underlying233, rfl, rfl, rfl, by kernel_rfl, by decide⟩
instance : FieldIs Try.prog 233 9 9 230 1 := ⟨_, _, Try.underlying233, rfl, rfl, rfl, by kernel_rfl, by decide⟩
instance : FieldIs Try.prog 233 10 10 231 1 := ⟨_, _, Try.underlying233, rfl, rfl, rfl, by kernel_rfl, by decide⟩
instance : StructOk Try.prog 233 := ⟨_, Try.underlying233, by kernel_rfl⟩
instance : SizeIs Try.prog 233 11 := ⟨by kernel_rfl⟩
instance : AggIs Try.prog 233 true := ⟨by kernel_rfl⟩
instance : ZeroIs Try.prog 233 ((Value.agg #[Value.int IntKind.u64 0, Value.int IntKind.u64 0, Value.int IntKind.u32 0, Value.int IntKind.u8 0, Value.int IntKind.u8 0, Value.int IntKind.u8 0, Value.int IntKind.u8 0, Value.nilFunc, Value.pointer none, Value.int IntKind.i32 0, Value.int IntKind.i32 0])) := ⟨by kernel_rfl⟩
instance : BytesIs Try.prog 233 11 48 := ⟨Try.t233, _, by kernel_rfl, rfl, rfl, rfl, rfl, by decide, by decide⟩
instance : SizeIs Try.prog 234 1 := ⟨by kernel_rfl⟩
instance : AggIs Try.prog 234 false := ⟨by kernel_rfl⟩
instance : ZeroIs Try.prog 234 (Value.nilFunc) := ⟨by kernel_rfl⟩
instance : BytesIs Try.prog 234 1 8 := ⟨Try.t234, _, by kernel_rfl, rfl, rfl, rfl, rfl, by decide, by decide⟩
instance : FieldIs Try.prog 237 0 0 236 1 := ⟨_, _, Try.underlying237, rfl, rfl, rfl, by kernel_rfl, by decide⟩
instance : FieldIs Try.prog 237 1 1 236 1 := ⟨_, _, Try.underlying237, rfl, rfl, rfl, by kernel_rfl, by decide⟩
instance : StructOk Try.prog 237 := ⟨_, Try.underlying237, by kernel_rfl⟩
instance : SizeIs Try.prog 237 2 := ⟨by kernel_rfl⟩
instance : AggIs Try.prog 237 true := ⟨by kernel_rfl⟩
instance : FieldIs Try.prog 238 0 0 236 1 := ⟨_, _, Try.underlying238, rfl, rfl, rfl, by kernel_rfl, by decide⟩
instance : FieldIs Try.prog 238 1 1 236 1 := ⟨_, _, Try.underlying238, rfl, rfl, rfl, by kernel_rfl, by decide⟩
instance : StructOk Try.prog 238 := ⟨_, Try.underlying238, by kernel_rfl⟩
instance : SizeIs Try.prog 238 2 := ⟨by kernel_rfl⟩
instance : AggIs Try.prog 238 true := ⟨by kernel_rfl⟩
instance : FieldIs Try.prog 239 0 0 238 2 := ⟨_, _, Try.underlying239, rfl, rfl, rfl, by kernel_rfl, by decide⟩
instance : FieldIs Try.prog 239 1 2 3 1 := ⟨_, _, Try.underlying239, rfl, rfl, rfl, by kernel_rfl, by decide⟩
instance : StructOk Try.prog 239 := ⟨_, Try.underlying239, by kernel_rfl⟩
instance : SizeIs Try.prog 239 3 := ⟨by kernel_rfl⟩
instance : AggIs Try.prog 239 true := ⟨by kernel_rfl⟩
instance : FieldIs Try.prog 240 0 0 238 2 := ⟨_, _, Try.underlying240, rfl, rfl, rfl, by kernel_rfl, by decide⟩
instance : FieldIs Try.prog 240 1 2 3 1 := ⟨_, _, Try.underlying240, rfl, rfl, rfl, by kernel_rfl, by decide⟩
instance : StructOk Try.prog 240 := ⟨_, Try.underlying240, by kernel_rfl⟩
instance : SizeIs Try.prog 240 3 := ⟨by kernel_rfl⟩
instance : AggIs Try.prog 240 true := ⟨by kernel_rfl⟩
end Go.Ideal

-- La
set_option linter.unusedSimpArgs false
set_option linter.unusedVariables false
namespace Go.Ideal
open Go Go.Proofs
/-! ### Words of 64 bits -/
def u64s (xs : List Nat) : List Value := xs.map fun (x : Nat) => Value.int .u64 (x : Int)
theorem u64s_len (xs : List Nat) : (u64s xs).length = xs.length := by simp [u64s]
theorem u64s_at {xs : List Nat} {i : Nat} {v : Value} (h : (u64s xs)[i]? = some v) : ∃ x : Nat, v = .int .u64 x ∧ xs[i]? = some x := by
  simp only [u64s, List.getElem?_map, Option.map_eq_some_iff] at h
  obtain ⟨x, h1, rfl⟩ := h
  exact ⟨x, rfl, h1⟩
theorem wrap_u64_id {z : Int} (h0 : 0 ≤ z) (h : z < 2 ^ 64) : IntKind.u64.wrap z = z := by
  simp only [IntKind.wrap, IntKind.bits, IntKind.signed]; simp; omega
theorem bvNat {x : Nat} (h : x < 2 ^ 64) : (BitVec.ofInt IntKind.u64.bits (x : Int)).toNat = x := by
  have hb : IntKind.u64.bits = 64 := rfl
  simp only [BitVec.toNat_ofInt, hb]
  omega
theorem and_u64 {a b : Nat} (ha : a < 2 ^ 64) (hb : b < 2 ^ 64) : ibits .and .u64 a b = (a &&& b : Nat) := by
  show IntKind.u64.wrap (((BitVec.ofInt IntKind.u64.bits a) &&& (BitVec.ofInt IntKind.u64.bits b)).toNat : Int) = _
  rw [BitVec.toNat_and, bvNat ha, bvNat hb]
  have := Nat.and_lt_two_pow a hb
  exact wrap_u64_id (by omega) (by omega)
theorem xor_u64 {a b : Nat} (ha : a < 2 ^ 64) (hb : b < 2 ^ 64) : ibits .xor .u64 a b = (a ^^^ b : Nat) := by
  show IntKind.u64.wrap (((BitVec.ofInt IntKind.u64.bits a) ^^^ (BitVec.ofInt IntKind.u64.bits b)).toNat : Int) = _
  rw [BitVec.toNat_xor, bvNat ha, bvNat hb]
  have := Nat.xor_lt_two_pow ha hb
  exact wrap_u64_id (by omega) (by omega)
theorem shr_u64 {a : Nat} {n : Int} (h0 : 0 ≤ n) (ha : a < 2 ^ 64) : ((a : Int)).fdiv (2 ^ min n.toNat IntKind.u64.bits) = (a >>> n.toNat : Nat) := by
  have hb : IntKind.u64.bits = 64 := rfl
  rw [hb, Nat.shiftRight_eq_div_pow]
  have h2 : (2 : Int) ^ min n.toNat 64 = ((2 ^ min n.toNat 64 : Nat) : Int) := by simp
  rw [h2, Int.fdiv_eq_ediv_of_nonneg _ (Int.natCast_nonneg _), ← Int.natCast_ediv]
  congr 1
  by_cases hn : n.toNat ≤ 64
  · rw [Nat.min_eq_left hn]
  · rw [Nat.min_eq_right (by omega), Nat.div_eq_of_lt ha, Nat.div_eq_of_lt]
    exact Nat.lt_of_lt_of_le ha (Nat.pow_le_pow_right (by decide) (by omega))
def belowS (n : Int) (x : Nat) : Bool := decide (64 ≤ n) || decide (x >>> n.toNat = 0)
theorem below_spec (x : Nat) (hx : x < 2 ^ 64) (n : Int) (hn : 0 ≤ n) (h : IHp) : EvX Try.prog 73 [.int .u64 x, .int .i64 n].toArray h (fun v h' => v = .bool (belowS n x) ∧ h' = h) := by
  refine EvX_of Try.func73 rfl (by show 2 ≤ 13; decide) ?_
  repeat' (first | (first | refine V_seq ?_ | refine V_region ?_ | refine WS_nil ?_ | refine S_normal ?_ | refine V_block ?_ | refine B_normal ?_ | refine V_skip ?_ | refine V_exit ?_ | refine V_ret ?_ | refine S_exit ?_ | refine S_ret ?_ | refine B_exit ?_ | refine B_ret ?_ | refine B_pass rfl ?_ | refine C_normal ?_ | refine C_exit ?_ | refine C_ret ?_ | refine WS_off rfl (by first | rfl | assumption) ?_ | refine WS_on rfl (by first | rfl | assumption) ?_ | refine WS_move ?_ | refine WS_assign ?_ | refine WS_pick_t (by first | rfl | assumption) ?_ | refine WS_pick_f (by first | rfl | assumption) ?_ | refine WS_isnil ?_ | refine WS_notnil ?_ | refine WS_cmp rfl ?_ | refine WS_addi (by omega) ?_ | refine WS_subi (by omega) ?_ | refine WS_arith rfl ?_ | refine WS_not ?_ | refine WS_neg ?_ | refine WS_convert ?_ | refine WS_len_slice ?_ | refine WS_len_string ?_ | refine WS_fieldAddr ?_ | refine WS_load ?_ | refine WS_load_agg ?_ | refine WS_box_agg rfl ?_ | refine WS_box rfl ?_ | refine WS_makeFunc ?_ | refine WS_extract ?_ | refine WS_field ?_ | refine WS_build ?_ | refine WS_zero ?_ | refine WS_shift (by first | decide | omega) rfl ?_ | refine WS_strcmp rfl ?_ | refine WS_indexAddr (by first | decide | omega) ?_ | refine WS_alloc ?_ | refine WS_store rfl ?_ | refine WS_buildSlice (by decide) rfl rfl (by simp [Value.cells]) ?_ | refine WDK_go ?_ | refine WDT_go ?_ | refine WD_nil ?_ | refine WD_take_off rfl rfl (by first | rfl | assumption) ?_ | refine WD_load rfl ?_ | refine WD_load_on rfl rfl (by first | rfl | assumption) ?_ | refine WD_load_agg rfl ?_ | refine WD_load_agg_on rfl rfl (by first | rfl | assumption) ?_ | refine WD_take rfl rfl ?_ | refine WD_take_on rfl rfl (by first | rfl | assumption) rfl ?_ | refine WD_drop rfl rfl ?_ | refine WD_one rfl ?_ | refine WD_virt rfl rfl ?_) | (refine WS_guard rfl ?_ ?_ <;> intro hg) | (refine V_cond ?_ ?_ <;> intro hc <;> try (cases hc; done)))
  · refine retK_1 ⟨?_, rfl⟩ (.inr rfl)
    rw [shr_u64 hn hx]
    simp only [belowS, hg, Bool.false_or]
    exact congrArg Value.bool (decide_eq_decide.2 Int.natCast_eq_zero)
  · refine retK_1 ⟨?_, rfl⟩ (.inr rfl)
    simp at hg
    simp [hg, belowS]
instance : CallIs Try.prog 114 := .of Try.func114 rfl rfl
instance : CallIs Try.prog 73 := .of Try.func73 rfl rfl
def checkS (N : Int) (xs : List Nat) : Int := if N < 0 ∨ 64 < N ∨ (xs.length : Int) ≠ N then 2 else if xs.all (belowS N) then 0 else 2
theorem Check_spec (N : Int) (a : Option Addr) (len cap : Nat) (xs : List Nat) (h : IHp) (hx : SlIs h a len cap (u64s xs)) (h64 : ∀ x ∈ xs, x < 2 ^ 64) :
    EvX Try.prog 33 [.agg [.int .i64 N, .slice a len cap].toArray].toArray h (fun v h' => v = .int .i64 (checkS N xs) ∧ Ext h h') := by
  have hlen : xs.length = len := by have := hx.1; simpa [u64s] using this
  refine EvX_of Try.func33 rfl (by show 1 ≤ 34; decide) ?_
  repeat' (first | (first | refine V_seq ?_ | refine V_region ?_ | refine WS_nil ?_ | refine S_normal ?_ | refine V_block ?_ | refine B_normal ?_ | refine V_skip ?_ | refine V_exit ?_ | refine V_ret ?_ | refine S_exit ?_ | refine S_ret ?_ | refine B_exit ?_ | refine B_ret ?_ | refine B_pass rfl ?_ | refine C_normal ?_ | refine C_exit ?_ | refine C_ret ?_ | refine WS_off rfl (by first | rfl | assumption) ?_ | refine WS_on rfl (by first | rfl | assumption) ?_ | refine WS_move ?_ | refine WS_assign ?_ | refine WS_pick_t (by first | rfl | assumption) ?_ | refine WS_pick_f (by first | rfl | assumption) ?_ | refine WS_isnil ?_ | refine WS_notnil ?_ | refine WS_cmp rfl ?_ | refine WS_addi (by omega) ?_ | refine WS_subi (by omega) ?_ | refine WS_arith rfl ?_ | refine WS_not ?_ | refine WS_neg ?_ | refine WS_convert ?_ | refine WS_len_slice ?_ | refine WS_len_string ?_ | refine WS_fieldAddr ?_ | refine WS_load ?_ | refine WS_load_agg ?_ | refine WS_box_agg rfl ?_ | refine WS_box rfl ?_ | refine WS_makeFunc ?_ | refine WS_extract ?_ | refine WS_field ?_ | refine WS_build ?_ | refine WS_zero ?_ | refine WS_shift (by first | decide | omega) rfl ?_ | refine WS_strcmp rfl ?_ | refine WS_indexAddr (by first | decide | omega) ?_ | refine WS_alloc ?_ | refine WS_store rfl ?_ | refine WS_buildSlice (by decide) rfl rfl (by simp [Value.cells]) ?_ | refine WDK_go ?_ | refine WDT_go ?_ | refine WD_nil ?_ | refine WD_take_off rfl rfl (by first | rfl | assumption) ?_ | refine WD_load rfl ?_ | refine WD_load_on rfl rfl (by first | rfl | assumption) ?_ | refine WD_load_agg rfl ?_ | refine WD_load_agg_on rfl rfl (by first | rfl | assumption) ?_ | refine WD_take rfl rfl ?_ | refine WD_take_on rfl rfl (by first | rfl | assumption) rfl ?_ | refine WD_drop rfl rfl ?_ | refine WD_one rfl ?_ | refine WD_virt rfl rfl ?_) | (refine WS_guard rfl ?_ ?_ <;> intro hg) | (refine V_cond ?_ ?_ <;> intro hc <;> try (cases hc; done)))
  · refine retK_1 ⟨?_, Ext.push _ _⟩ (.inr rfl)
    simp only [checkS]; rw [if_pos]; simp at hc; omega
  · have hN : ¬ N < 0 ∧ ¬ 64 < N ∧ (len : Int) = N := by simp_all
    obtain ⟨H, hH⟩ : ∃ H, H = h.push (IObj.cells [Value.int IntKind.i64 N, Value.slice a len cap] 53 true) := ⟨_, rfl⟩
    have eH : Ext h H := hH ▸ Ext.push _ _
    have c0 : CellIs H h.fresh (0 + 0) (.int .i64 N) := hH ▸ inferInstance
    rw [← hH]
    refine V_loop (fun d s h' => ∃ i : Int, d = (len - i).toNat ∧ 0 ≤ i ∧ i ≤ len ∧ Get s 24 (.int .i64 i) ∧ Get s 23 (.int .i64 len) ∧ Get s 22 (.slice a len cap) ∧ Get s 1 (.pointer (some (ad h.fresh 0))) ∧ h' = H ∧ (xs.take i.toNat).all (belowS N) = true) len ⟨0, by omega, by omega, by omega, inferInstance, inferInstance, inferInstance, inferInstance, rfl, by simp⟩ ?_
    rintro d s h' ⟨i, rfl, hi0, hi1, g24, g23, g22, g1, rfl, hP⟩
    repeat' (first | (first | refine V_seq ?_ | refine V_region ?_ | refine WS_nil ?_ | refine S_normal ?_ | refine V_block ?_ | refine B_normal ?_ | refine V_skip ?_ | refine V_exit ?_ | refine V_ret ?_ | refine S_exit ?_ | refine S_ret ?_ | refine B_exit ?_ | refine B_ret ?_ | refine B_pass rfl ?_ | refine C_normal ?_ | refine C_exit ?_ | refine C_ret ?_ | refine WS_off rfl (by first | rfl | assumption) ?_ | refine WS_on rfl (by first | rfl | assumption) ?_ | refine WS_move ?_ | refine WS_assign ?_ | refine WS_pick_t (by first | rfl | assumption) ?_ | refine WS_pick_f (by first | rfl | assumption) ?_ | refine WS_isnil ?_ | refine WS_notnil ?_ | refine WS_cmp rfl ?_ | refine WS_addi (by omega) ?_ | refine WS_subi (by omega) ?_ | refine WS_arith rfl ?_ | refine WS_not ?_ | refine WS_neg ?_ | refine WS_convert ?_ | refine WS_len_slice ?_ | refine WS_len_string ?_ | refine WS_fieldAddr ?_ | refine WS_load ?_ | refine WS_load_agg ?_ | refine WS_box_agg rfl ?_ | refine WS_box rfl ?_ | refine WS_makeFunc ?_ | refine WS_extract ?_ | refine WS_field ?_ | refine WS_build ?_ | refine WS_zero ?_ | refine WS_shift (by first | decide | omega) rfl ?_ | refine WS_strcmp rfl ?_ | refine WS_indexAddr (by first | decide | omega) ?_ | refine WS_alloc ?_ | refine WS_store rfl ?_ | refine WS_buildSlice (by decide) rfl rfl (by simp [Value.cells]) ?_ | refine WDK_go ?_ | refine WDT_go ?_ | refine WD_nil ?_ | refine WD_take_off rfl rfl (by first | rfl | assumption) ?_ | refine WD_load rfl ?_ | refine WD_load_on rfl rfl (by first | rfl | assumption) ?_ | refine WD_load_agg rfl ?_ | refine WD_load_agg_on rfl rfl (by first | rfl | assumption) ?_ | refine WD_take rfl rfl ?_ | refine WD_take_on rfl rfl (by first | rfl | assumption) rfl ?_ | refine WD_drop rfl rfl ?_ | refine WD_one rfl ?_ | refine WD_virt rfl rfl ?_) | (refine WS_guard rfl ?_ ?_ <;> intro hg) | (refine V_cond ?_ ?_ <;> intro hc <;> try (cases hc; done)))
    · have hi : i < len := by simpa using hc
      obtain ⟨b, v, rfl, hv, c1⟩ := (hx.ext eH).at hi0 hi
      obtain ⟨x, rfl, hx1⟩ := u64s_at hv
      repeat' (first | (first | refine V_seq ?_ | refine V_region ?_ | refine WS_nil ?_ | refine S_normal ?_ | refine V_block ?_ | refine B_normal ?_ | refine V_skip ?_ | refine V_exit ?_ | refine V_ret ?_ | refine S_exit ?_ | refine S_ret ?_ | refine B_exit ?_ | refine B_ret ?_ | refine B_pass rfl ?_ | refine C_normal ?_ | refine C_exit ?_ | refine C_ret ?_ | refine WS_off rfl (by first | rfl | assumption) ?_ | refine WS_on rfl (by first | rfl | assumption) ?_ | refine WS_move ?_ | refine WS_assign ?_ | refine WS_pick_t (by first | rfl | assumption) ?_ | refine WS_pick_f (by first | rfl | assumption) ?_ | refine WS_isnil ?_ | refine WS_notnil ?_ | refine WS_cmp rfl ?_ | refine WS_addi (by omega) ?_ | refine WS_subi (by omega) ?_ | refine WS_arith rfl ?_ | refine WS_not ?_ | refine WS_neg ?_ | refine WS_convert ?_ | refine WS_len_slice ?_ | refine WS_len_string ?_ | refine WS_fieldAddr ?_ | refine WS_load ?_ | refine WS_load_agg ?_ | refine WS_box_agg rfl ?_ | refine WS_box rfl ?_ | refine WS_makeFunc ?_ | refine WS_extract ?_ | refine WS_field ?_ | refine WS_build ?_ | refine WS_zero ?_ | refine WS_shift (by first | decide | omega) rfl ?_ | refine WS_strcmp rfl ?_ | refine WS_indexAddr (by first | decide | omega) ?_ | refine WS_alloc ?_ | refine WS_store rfl ?_ | refine WS_buildSlice (by decide) rfl rfl (by simp [Value.cells]) ?_ | refine WDK_go ?_ | refine WDT_go ?_ | refine WD_nil ?_ | refine WD_take_off rfl rfl (by first | rfl | assumption) ?_ | refine WD_load rfl ?_ | refine WD_load_on rfl rfl (by first | rfl | assumption) ?_ | refine WD_load_agg rfl ?_ | refine WD_load_agg_on rfl rfl (by first | rfl | assumption) ?_ | refine WD_take rfl rfl ?_ | refine WD_take_on rfl rfl (by first | rfl | assumption) rfl ?_ | refine WD_drop rfl rfl ?_ | refine WD_one rfl ?_ | refine WD_virt rfl rfl ?_) | (refine WS_guard rfl ?_ ?_ <;> intro hg) | (refine V_cond ?_ ?_ <;> intro hc <;> try (cases hc; done)))
      refine WS_call (below_spec x (h64 x (List.mem_of_getElem? hx1)) N (by omega) _) ?_
      rintro _ _ ⟨rfl, rfl⟩
      repeat' (first | (first | refine V_seq ?_ | refine V_region ?_ | refine WS_nil ?_ | refine S_normal ?_ | refine V_block ?_ | refine B_normal ?_ | refine V_skip ?_ | refine V_exit ?_ | refine V_ret ?_ | refine S_exit ?_ | refine S_ret ?_ | refine B_exit ?_ | refine B_ret ?_ | refine B_pass rfl ?_ | refine C_normal ?_ | refine C_exit ?_ | refine C_ret ?_ | refine WS_off rfl (by first | rfl | assumption) ?_ | refine WS_on rfl (by first | rfl | assumption) ?_ | refine WS_move ?_ | refine WS_assign ?_ | refine WS_pick_t (by first | rfl | assumption) ?_ | refine WS_pick_f (by first | rfl | assumption) ?_ | refine WS_isnil ?_ | refine WS_notnil ?_ | refine WS_cmp rfl ?_ | refine WS_addi (by omega) ?_ | refine WS_subi (by omega) ?_ | refine WS_arith rfl ?_ | refine WS_not ?_ | refine WS_neg ?_ | refine WS_convert ?_ | refine WS_len_slice ?_ | refine WS_len_string ?_ | refine WS_fieldAddr ?_ | refine WS_load ?_ | refine WS_load_agg ?_ | refine WS_box_agg rfl ?_ | refine WS_box rfl ?_ | refine WS_makeFunc ?_ | refine WS_extract ?_ | refine WS_field ?_ | refine WS_build ?_ | refine WS_zero ?_ | refine WS_shift (by first | decide | omega) rfl ?_ | refine WS_strcmp rfl ?_ | refine WS_indexAddr (by first | decide | omega) ?_ | refine WS_alloc ?_ | refine WS_store rfl ?_ | refine WS_buildSlice (by decide) rfl rfl (by simp [Value.cells]) ?_ | refine WDK_go ?_ | refine WDT_go ?_ | refine WD_nil ?_ | refine WD_take_off rfl rfl (by first | rfl | assumption) ?_ | refine WD_load rfl ?_ | refine WD_load_on rfl rfl (by first | rfl | assumption) ?_ | refine WD_load_agg rfl ?_ | refine WD_load_agg_on rfl rfl (by first | rfl | assumption) ?_ | refine WD_take rfl rfl ?_ | refine WD_take_on rfl rfl (by first | rfl | assumption) rfl ?_ | refine WD_drop rfl rfl ?_ | refine WD_one rfl ?_ | refine WD_virt rfl rfl ?_) | (refine WS_guard rfl ?_ ?_ <;> intro hg) | (refine V_cond ?_ ?_ <;> intro hc <;> try (cases hc; done)))
      · refine retK_1 ⟨?_, eH⟩ (.inr rfl)
        simp only [checkS]; rw [if_neg (by omega), if_neg]
        intro hall
        rw [List.all_eq_true] at hall
        have := hall x (List.mem_of_getElem? hx1)
        simp_all
      · refine ⟨_, ?_, i + 1, rfl, by omega, by omega, inferInstance, inferInstance, inferInstance, inferInstance, rfl, ?_⟩
        · omega
        · have : (i + 1).toNat = i.toNat + 1 := by omega
          rw [this, List.take_add_one, hx1]
          simp_all
    · have hi : i = len := by simp at hc; omega
      refine retK_1 ⟨?_, eH⟩ (.inr rfl)
      simp only [checkS]; rw [if_neg (by omega), if_pos]
      rw [hi, Int.toNat_natCast, List.take_of_length_le (by omega)] at hP
      exact hP
  · refine retK_1 ⟨?_, Ext.push _ _⟩ (.inr rfl)
    simp only [checkS]; rw [if_pos]; simp at hg; omega
  · refine retK_1 ⟨?_, Ext.push _ _⟩ (.inr rfl)
    simp only [checkS]; rw [if_pos]; simp at hg; omega
instance : CallIs Try.prog 33 := .of Try.func33 rfl rfl
def eyeS (n : Int) : List Nat := (List.range n.toNat).map fun i => 2 ^ i
theorem eyeS_succ {i : Int} (h : 0 ≤ i) : u64s (eyeS (i + 1)) = u64s (eyeS i) ++ [.int .u64 (2 ^ i.toNat : Nat)] := by
  have : (i + 1).toNat = i.toNat + 1 := by omega
  simp [u64s, eyeS, this, List.range_succ]
theorem eyeS_len {i : Int} : (u64s (eyeS i)).length = i.toNat := by simp [u64s, eyeS]
theorem shl_one {i : Int} (h0 : 0 ≤ i) (h1 : i < 64) : IntKind.u64.wrap (1 * 2 ^ min i.toNat IntKind.u64.bits) = (2 ^ i.toNat : Nat) := by
  have h2 : min i.toNat IntKind.u64.bits = i.toNat := by simp only [IntKind.bits]; omega
  have h3 : (2 : Int) ^ i.toNat < 2 ^ 64 := Int.pow_lt_pow_of_lt (by decide) (by omega)
  have h4 : (0 : Int) ≤ 2 ^ i.toNat := Int.pow_nonneg (by decide)
  rw [h2, Int.one_mul, wrap_u64_id h4 h3]
  simp
theorem Eye_spec (n : Int) (h : IHp) : EvX Try.prog 69 [.int .i64 n].toArray h (fun v h' => Ext h h' ∧ if 0 ≤ n ∧ n ≤ 64 then ∃ sl, v = .tuple [.agg [.int .i64 n, sl].toArray, .int .i64 0].toArray ∧ Lst h.fresh h' sl (u64s (eyeS n)) 42 else v = .tuple [.agg [.int .i64 0, .slice none 0 0].toArray, .int .i64 2].toArray) := by
  refine EvX_of Try.func69 rfl (by show 1 ≤ 28; decide) ?_
  repeat' (first | (first | refine V_seq ?_ | refine V_region ?_ | refine WS_nil ?_ | refine S_normal ?_ | refine V_block ?_ | refine B_normal ?_ | refine V_skip ?_ | refine V_exit ?_ | refine V_ret ?_ | refine S_exit ?_ | refine S_ret ?_ | refine B_exit ?_ | refine B_ret ?_ | refine B_pass rfl ?_ | refine C_normal ?_ | refine C_exit ?_ | refine C_ret ?_ | refine WS_off rfl (by first | rfl | assumption) ?_ | refine WS_on rfl (by first | rfl | assumption) ?_ | refine WS_move ?_ | refine WS_assign ?_ | refine WS_pick_t (by first | rfl | assumption) ?_ | refine WS_pick_f (by first | rfl | assumption) ?_ | refine WS_isnil ?_ | refine WS_notnil ?_ | refine WS_cmp rfl ?_ | refine WS_addi (by omega) ?_ | refine WS_subi (by omega) ?_ | refine WS_arith rfl ?_ | refine WS_not ?_ | refine WS_neg ?_ | refine WS_convert ?_ | refine WS_len_slice ?_ | refine WS_len_string ?_ | refine WS_fieldAddr ?_ | refine WS_load ?_ | refine WS_load_agg ?_ | refine WS_box_agg rfl ?_ | refine WS_box rfl ?_ | refine WS_makeFunc ?_ | refine WS_extract ?_ | refine WS_field ?_ | refine WS_build ?_ | refine WS_zero ?_ | refine WS_shift (by first | decide | omega) rfl ?_ | refine WS_strcmp rfl ?_ | refine WS_indexAddr (by first | decide | omega) ?_ | refine WS_alloc ?_ | refine WS_store rfl ?_ | refine WS_buildSlice (by decide) rfl rfl (by simp [Value.cells]) ?_ | refine WDK_go ?_ | refine WDT_go ?_ | refine WD_nil ?_ | refine WD_take_off rfl rfl (by first | rfl | assumption) ?_ | refine WD_load rfl ?_ | refine WD_load_on rfl rfl (by first | rfl | assumption) ?_ | refine WD_load_agg rfl ?_ | refine WD_load_agg_on rfl rfl (by first | rfl | assumption) ?_ | refine WD_take rfl rfl ?_ | refine WD_take_on rfl rfl (by first | rfl | assumption) rfl ?_ | refine WD_drop rfl rfl ?_ | refine WD_one rfl ?_ | refine WD_virt rfl rfl ?_) | (refine WS_guard rfl ?_ ?_ <;> intro hg) | (refine V_cond ?_ ?_ <;> intro hc <;> try (cases hc; done)))
  · refine retK_ct ⟨(Ext.push h _).putObj (Nat.le_refl _), ?_⟩ (.inr rfl)
    rw [if_neg (by simp at hc; omega)]
  · have hn : 0 ≤ n ∧ n ≤ 64 := by simp at hc hg; omega
    refine V_loop (fun d s h' => ∃ (i : Int) (sl : Value), d = (n - i).toNat ∧ 0 ≤ i ∧ i ≤ n ∧ Get s 16 (.int .i64 i) ∧ Get s 15 (.int .i64 n) ∧ Get s 4 (.pointer (some (ad (h.fresh + 2) 0))) ∧ Get s 2 (.pointer (some (ad h.fresh 0))) ∧ Ext h h' ∧ ObjIs h' h.fresh [.int .i64 0, .slice none 0 0] 53 true ∧ ObjIs h' (h.fresh + 2) [.int .i64 n, sl] 53 true ∧ Lst h.fresh h' sl (u64s (eyeS i)) 42 ∧ blockOf sl ≠ some h.fresh ∧ blockOf sl ≠ some (h.fresh + 2)) n.toNat ?_ ?_
    · rw [push_fresh]
      have nb : NeB h.fresh (h.fresh + 2) := ⟨by unfold IHp.fresh; omega⟩
      have ob : ObjIs ((h.push (IObj.cells [Value.int IntKind.i64 0, Value.slice none 0 0] 53 true)).push (IObj.cells [Value.int IntKind.i64 0, Value.slice none 0 0] 53 true)) (h.fresh + 2) [Value.int IntKind.i64 0, Value.slice none 0 0] 53 true := by
        rw [← push_fresh h (IObj.cells [Value.int IntKind.i64 0, Value.slice none 0 0] 53 true)]; infer_instance
      exact ⟨0, .slice none 0 0, by omega, by omega, by omega, inferInstance, inferInstance, inferInstance, inferInstance, (((Ext.push h _).push' _).putObj (by omega)), inferInstance, inferInstance, .inl ⟨rfl, rfl⟩, by simp [blockOf], by simp [blockOf]⟩
    rintro d s h' ⟨i, sl, rfl, hi0, hi1, g16, g15, g4, g2, eX, o2, o4, hL, hb2, hb4⟩
    repeat' (first | (first | refine V_seq ?_ | refine V_region ?_ | refine WS_nil ?_ | refine S_normal ?_ | refine V_block ?_ | refine B_normal ?_ | refine V_skip ?_ | refine V_exit ?_ | refine V_ret ?_ | refine S_exit ?_ | refine S_ret ?_ | refine B_exit ?_ | refine B_ret ?_ | refine B_pass rfl ?_ | refine C_normal ?_ | refine C_exit ?_ | refine C_ret ?_ | refine WS_off rfl (by first | rfl | assumption) ?_ | refine WS_on rfl (by first | rfl | assumption) ?_ | refine WS_move ?_ | refine WS_assign ?_ | refine WS_pick_t (by first | rfl | assumption) ?_ | refine WS_pick_f (by first | rfl | assumption) ?_ | refine WS_isnil ?_ | refine WS_notnil ?_ | refine WS_cmp rfl ?_ | refine WS_addi (by omega) ?_ | refine WS_subi (by omega) ?_ | refine WS_arith rfl ?_ | refine WS_not ?_ | refine WS_neg ?_ | refine WS_convert ?_ | refine WS_len_slice ?_ | refine WS_len_string ?_ | refine WS_fieldAddr ?_ | refine WS_load ?_ | refine WS_load_agg ?_ | refine WS_box_agg rfl ?_ | refine WS_box rfl ?_ | refine WS_makeFunc ?_ | refine WS_extract ?_ | refine WS_field ?_ | refine WS_build ?_ | refine WS_zero ?_ | refine WS_shift (by first | decide | omega) rfl ?_ | refine WS_strcmp rfl ?_ | refine WS_indexAddr (by first | decide | omega) ?_ | refine WS_alloc ?_ | refine WS_store rfl ?_ | refine WS_buildSlice (by decide) rfl rfl (by simp [Value.cells]) ?_ | refine WDK_go ?_ | refine WDT_go ?_ | refine WD_nil ?_ | refine WD_take_off rfl rfl (by first | rfl | assumption) ?_ | refine WD_load rfl ?_ | refine WD_load_on rfl rfl (by first | rfl | assumption) ?_ | refine WD_load_agg rfl ?_ | refine WD_load_agg_on rfl rfl (by first | rfl | assumption) ?_ | refine WD_take rfl rfl ?_ | refine WD_take_on rfl rfl (by first | rfl | assumption) rfl ?_ | refine WD_drop rfl rfl ?_ | refine WD_one rfl ?_ | refine WD_virt rfl rfl ?_) | (refine WS_guard rfl ?_ ?_ <;> intro hg) | (refine V_cond ?_ ?_ <;> intro hc <;> try (cases hc; done)))
    · have hi : i < n := by simpa using hc
      obtain ⟨a, rfl⟩ := hL.isSlice
      refine V_draw (plan := [.take 0, .take 1, .take 2, .take 3, .one 4, .one 5, .take 6, .one 7]) (by kernel_rfl) ?_
      repeat' (first | (first | refine V_seq ?_ | refine V_region ?_ | refine WS_nil ?_ | refine S_normal ?_ | refine V_block ?_ | refine B_normal ?_ | refine V_skip ?_ | refine V_exit ?_ | refine V_ret ?_ | refine S_exit ?_ | refine S_ret ?_ | refine B_exit ?_ | refine B_ret ?_ | refine B_pass rfl ?_ | refine C_normal ?_ | refine C_exit ?_ | refine C_ret ?_ | refine WS_off rfl (by first | rfl | assumption) ?_ | refine WS_on rfl (by first | rfl | assumption) ?_ | refine WS_move ?_ | refine WS_assign ?_ | refine WS_pick_t (by first | rfl | assumption) ?_ | refine WS_pick_f (by first | rfl | assumption) ?_ | refine WS_isnil ?_ | refine WS_notnil ?_ | refine WS_cmp rfl ?_ | refine WS_addi (by omega) ?_ | refine WS_subi (by omega) ?_ | refine WS_arith rfl ?_ | refine WS_not ?_ | refine WS_neg ?_ | refine WS_convert ?_ | refine WS_len_slice ?_ | refine WS_len_string ?_ | refine WS_fieldAddr ?_ | refine WS_load ?_ | refine WS_load_agg ?_ | refine WS_box_agg rfl ?_ | refine WS_box rfl ?_ | refine WS_makeFunc ?_ | refine WS_extract ?_ | refine WS_field ?_ | refine WS_build ?_ | refine WS_zero ?_ | refine WS_shift (by first | decide | omega) rfl ?_ | refine WS_strcmp rfl ?_ | refine WS_indexAddr (by first | decide | omega) ?_ | refine WS_alloc ?_ | refine WS_store rfl ?_ | refine WS_buildSlice (by decide) rfl rfl (by simp [Value.cells]) ?_ | refine WDK_go ?_ | refine WDT_go ?_ | refine WD_nil ?_ | refine WD_take_off rfl rfl (by first | rfl | assumption) ?_ | refine WD_load rfl ?_ | refine WD_load_on rfl rfl (by first | rfl | assumption) ?_ | refine WD_load_agg rfl ?_ | refine WD_load_agg_on rfl rfl (by first | rfl | assumption) ?_ | refine WD_take rfl rfl ?_ | refine WD_take_on rfl rfl (by first | rfl | assumption) rfl ?_ | refine WD_drop rfl rfl ?_ | refine WD_one rfl ?_ | refine WD_virt rfl rfl ?_) | (refine WS_guard rfl ?_ ?_ <;> intro hg) | (refine V_cond ?_ ?_ <;> intro hc <;> try (cases hc; done)))
      have h64 : i < 64 := by omega
      rw [shl_one hi0 h64]
      refine WS_append1 (lo := h.fresh) (hL.ext (Ext.push _ _)) (by rw [push_fresh]; have := eX.fresh; omega) (by rw [eyeS_len]; omega) ?_
      intro v' h2 hL2 m2 hb
      have p2 : ObjIs h2 h.fresh [.int .i64 0, .slice none 0 0] 53 true := m2.obj inferInstance hb2
      have p4 : ObjIs h2 (h.fresh + 2) _ 53 true := m2.obj inferInstance hb4
      have e2 : Ext h h2 := m2.ext (eX.push' _) (hL.ext (Ext.push _ _))
      have hn4 : h.fresh + 2 < (h'.push (IObj.cells [Value.int IntKind.u64 (2 ^ i.toNat : Nat)] 42 true)).fresh := by have := o4.lt; rw [push_fresh]; omega
      obtain ⟨a', rfl⟩ := hL2.isSlice
      have nb : NeB h.fresh (h.fresh + 2) := ⟨by unfold IHp.fresh; omega⟩
      repeat' (first | (first | refine V_seq ?_ | refine V_region ?_ | refine WS_nil ?_ | refine S_normal ?_ | refine V_block ?_ | refine B_normal ?_ | refine V_skip ?_ | refine V_exit ?_ | refine V_ret ?_ | refine S_exit ?_ | refine S_ret ?_ | refine B_exit ?_ | refine B_ret ?_ | refine B_pass rfl ?_ | refine C_normal ?_ | refine C_exit ?_ | refine C_ret ?_ | refine WS_off rfl (by first | rfl | assumption) ?_ | refine WS_on rfl (by first | rfl | assumption) ?_ | refine WS_move ?_ | refine WS_assign ?_ | refine WS_pick_t (by first | rfl | assumption) ?_ | refine WS_pick_f (by first | rfl | assumption) ?_ | refine WS_isnil ?_ | refine WS_notnil ?_ | refine WS_cmp rfl ?_ | refine WS_addi (by omega) ?_ | refine WS_subi (by omega) ?_ | refine WS_arith rfl ?_ | refine WS_not ?_ | refine WS_neg ?_ | refine WS_convert ?_ | refine WS_len_slice ?_ | refine WS_len_string ?_ | refine WS_fieldAddr ?_ | refine WS_load ?_ | refine WS_load_agg ?_ | refine WS_box_agg rfl ?_ | refine WS_box rfl ?_ | refine WS_makeFunc ?_ | refine WS_extract ?_ | refine WS_field ?_ | refine WS_build ?_ | refine WS_zero ?_ | refine WS_shift (by first | decide | omega) rfl ?_ | refine WS_strcmp rfl ?_ | refine WS_indexAddr (by first | decide | omega) ?_ | refine WS_alloc ?_ | refine WS_store rfl ?_ | refine WS_buildSlice (by decide) rfl rfl (by simp [Value.cells]) ?_ | refine WDK_go ?_ | refine WDT_go ?_ | refine WD_nil ?_ | refine WD_take_off rfl rfl (by first | rfl | assumption) ?_ | refine WD_load rfl ?_ | refine WD_load_on rfl rfl (by first | rfl | assumption) ?_ | refine WD_load_agg rfl ?_ | refine WD_load_agg_on rfl rfl (by first | rfl | assumption) ?_ | refine WD_take rfl rfl ?_ | refine WD_take_on rfl rfl (by first | rfl | assumption) rfl ?_ | refine WD_drop rfl rfl ?_ | refine WD_one rfl ?_ | refine WD_virt rfl rfl ?_) | (refine WS_guard rfl ?_ ?_ <;> intro hg) | (refine V_cond ?_ ?_ <;> intro hc <;> try (cases hc; done)))
      refine ⟨_, ?_, i + 1, _, rfl, by omega, by omega, inferInstance, inferInstance, inferInstance, inferInstance, e2.putObj (by omega), inferInstance, inferInstance, ?_, ?_, ?_⟩
      · omega
      · rw [eyeS_succ hi0]; exact hL2.put (by rw [hb]; intro hh; have := Option.some.inj hh; omega) o4.even
      · rw [hb]; intro hh; have := Option.some.inj hh; omega
      · rw [hb]; intro hh; have := Option.some.inj hh; omega
    · have hi : i = n := by simp at hc; omega
      subst hi
      obtain ⟨a, rfl⟩ := hL.isSlice
      repeat' (first | (first | refine V_seq ?_ | refine V_region ?_ | refine WS_nil ?_ | refine S_normal ?_ | refine V_block ?_ | refine B_normal ?_ | refine V_skip ?_ | refine V_exit ?_ | refine V_ret ?_ | refine S_exit ?_ | refine S_ret ?_ | refine B_exit ?_ | refine B_ret ?_ | refine B_pass rfl ?_ | refine C_normal ?_ | refine C_exit ?_ | refine C_ret ?_ | refine WS_off rfl (by first | rfl | assumption) ?_ | refine WS_on rfl (by first | rfl | assumption) ?_ | refine WS_move ?_ | refine WS_assign ?_ | refine WS_pick_t (by first | rfl | assumption) ?_ | refine WS_pick_f (by first | rfl | assumption) ?_ | refine WS_isnil ?_ | refine WS_notnil ?_ | refine WS_cmp rfl ?_ | refine WS_addi (by omega) ?_ | refine WS_subi (by omega) ?_ | refine WS_arith rfl ?_ | refine WS_not ?_ | refine WS_neg ?_ | refine WS_convert ?_ | refine WS_len_slice ?_ | refine WS_len_string ?_ | refine WS_fieldAddr ?_ | refine WS_load ?_ | refine WS_load_agg ?_ | refine WS_box_agg rfl ?_ | refine WS_box rfl ?_ | refine WS_makeFunc ?_ | refine WS_extract ?_ | refine WS_field ?_ | refine WS_build ?_ | refine WS_zero ?_ | refine WS_shift (by first | decide | omega) rfl ?_ | refine WS_strcmp rfl ?_ | refine WS_indexAddr (by first | decide | omega) ?_ | refine WS_alloc ?_ | refine WS_store rfl ?_ | refine WS_buildSlice (by decide) rfl rfl (by simp [Value.cells]) ?_ | refine WDK_go ?_ | refine WDT_go ?_ | refine WD_nil ?_ | refine WD_take_off rfl rfl (by first | rfl | assumption) ?_ | refine WD_load rfl ?_ | refine WD_load_on rfl rfl (by first | rfl | assumption) ?_ | refine WD_load_agg rfl ?_ | refine WD_load_agg_on rfl rfl (by first | rfl | assumption) ?_ | refine WD_take rfl rfl ?_ | refine WD_take_on rfl rfl (by first | rfl | assumption) rfl ?_ | refine WD_drop rfl rfl ?_ | refine WD_one rfl ?_ | refine WD_virt rfl rfl ?_) | (refine WS_guard rfl ?_ ?_ <;> intro hg) | (refine V_cond ?_ ?_ <;> intro hc <;> try (cases hc; done)))
      have nb : NeB (h.fresh + 2) h.fresh := ⟨by unfold IHp.fresh; omega⟩
      refine retK_ct ⟨eX.putObj (Nat.le_refl _), ?_⟩ (.inr rfl)
      rw [if_pos hn]
      exact ⟨_, rfl, hL.put hb2 o2.even⟩
  · refine retK_ct ⟨(Ext.push h _).putObj (Nat.le_refl _), ?_⟩ (.inr rfl)
    rw [if_neg (by simp at hg; omega)]
instance : CallIs Try.prog 69 := .of Try.func69 rfl rfl
end Go.Ideal

-- Lb
set_option linter.unusedSimpArgs false
set_option linter.unusedVariables false
namespace Go.Ideal
open Go Go.Proofs
instance : CallIs Try.prog 75 := .of Try.func75 rfl rfl

instance : CallIs Try.prog 70 := .of Try.func70 rfl rfl

theorem Same_spec (M N : Int) (a b : Option Addr) (la ca lb cb : Nat) (xs ys : List Nat) (h : IHp) (hx : SlIs h a la ca (u64s xs)) (hy : SlIs h b lb cb (u64s ys)) (hla : la < 2 ^ 62) :
    EvX Try.prog 31 [.agg [.int .i64 M, .slice a la ca].toArray, .agg [.int .i64 N, .slice b lb cb].toArray].toArray h (fun v h' => v = .bool (decide (M = N ∧ xs = ys)) ∧ Ext h h') := by
  have hlx : xs.length = la := by have := hx.1; simpa [u64s] using this
  have hly : ys.length = lb := by have := hy.1; simpa [u64s] using this
  refine EvX_of Try.func31 rfl (by show 2 ≤ 38; decide) ?_
  repeat' (first | (first | refine V_seq ?_ | refine V_region ?_ | refine WS_nil ?_ | refine S_normal ?_ | refine V_block ?_ | refine B_normal ?_ | refine V_skip ?_ | refine V_exit ?_ | refine V_ret ?_ | refine S_exit ?_ | refine S_ret ?_ | refine B_exit ?_ | refine B_ret ?_ | refine B_pass rfl ?_ | refine C_normal ?_ | refine C_exit ?_ | refine C_ret ?_ | refine WS_off rfl (by first | rfl | assumption) ?_ | refine WS_on rfl (by first | rfl | assumption) ?_ | refine WS_move ?_ | refine WS_assign ?_ | refine WS_pick_t (by first | rfl | assumption) ?_ | refine WS_pick_f (by first | rfl | assumption) ?_ | refine WS_isnil ?_ | refine WS_notnil ?_ | refine WS_cmp rfl ?_ | refine WS_addi (by omega) ?_ | refine WS_subi (by omega) ?_ | refine WS_arith rfl ?_ | refine WS_not ?_ | refine WS_neg ?_ | refine WS_convert ?_ | refine WS_len_slice ?_ | refine WS_len_string ?_ | refine WS_fieldAddr ?_ | refine WS_load ?_ | refine WS_load_agg ?_ | refine WS_box_agg rfl ?_ | refine WS_box rfl ?_ | refine WS_makeFunc ?_ | refine WS_extract ?_ | refine WS_field ?_ | refine WS_build ?_ | refine WS_zero ?_ | refine WS_shift (by first | decide | omega) rfl ?_ | refine WS_strcmp rfl ?_ | refine WS_indexAddr (by first | decide | omega) ?_ | refine WS_alloc ?_ | refine WS_store rfl ?_ | refine WS_buildSlice (by decide) rfl rfl (by simp [Value.cells]) ?_ | refine WDK_go ?_ | refine WDT_go ?_ | refine WD_nil ?_ | refine WD_take_off rfl rfl (by first | rfl | assumption) ?_ | refine WD_load rfl ?_ | refine WD_load_on rfl rfl (by first | rfl | assumption) ?_ | refine WD_load_agg rfl ?_ | refine WD_load_agg_on rfl rfl (by first | rfl | assumption) ?_ | refine WD_take rfl rfl ?_ | refine WD_take_on rfl rfl (by first | rfl | assumption) rfl ?_ | refine WD_drop rfl rfl ?_ | refine WD_one rfl ?_ | refine WD_virt rfl rfl ?_) | (refine WS_guard rfl ?_ ?_ <;> intro hg) | (refine V_cond ?_ ?_ <;> intro hc <;> try (cases hc; done)))
  · refine retK_1 ⟨?_, (Ext.push _ _).push' _⟩ (.inr rfl)
    congr 1
    symm; rw [decide_eq_false_iff_not]
    rintro ⟨rfl, rfl⟩
    simp at hc; omega
  · have hN : M = N ∧ la = lb := by simp at hc hg; omega
    obtain ⟨rfl, rfl⟩ := hN
    obtain ⟨H1, hH1⟩ : ∃ H, H = h.push (IObj.cells [Value.int IntKind.i64 M, Value.slice a la ca] 53 true) := ⟨_, rfl⟩
    rw [← hH1]
    have d0 : CellIs H1 h.fresh (0 + 1) (.slice a la ca) := hH1 ▸ inferInstance
    obtain ⟨H, hH⟩ : ∃ H, H = H1.push (IObj.cells [Value.int IntKind.i64 M, Value.slice b la cb] 53 true) := ⟨_, rfl⟩
    rw [← hH]
    have eH : Ext h H := by rw [hH, hH1]; exact (Ext.push _ _).push' _
    have c0 : CellIs H h.fresh (0 + 1) (.slice a la ca) := hH ▸ inferInstance
    have c1 : CellIs H H1.fresh (0 + 1) (.slice b la cb) := hH ▸ inferInstance
    refine V_loop (fun d s h' => ∃ i : Int, d = (la - i).toNat ∧ 0 ≤ i ∧ i ≤ la ∧ Get s 5 (.int .i64 i) ∧ Get s 2 (.pointer (some (ad h.fresh 0))) ∧ Get s 3 (.pointer (some (ad H1.fresh 0))) ∧ h' = H ∧ xs.take i.toNat = ys.take i.toNat) la ⟨0, by omega, by omega, by omega, inferInstance, inferInstance, inferInstance, rfl, by simp⟩ ?_
    rintro d s h' ⟨i, rfl, hi0, hi1, g5, g2, g3, rfl, hP⟩
    repeat' (first | (first | refine V_seq ?_ | refine V_region ?_ | refine WS_nil ?_ | refine S_normal ?_ | refine V_block ?_ | refine B_normal ?_ | refine V_skip ?_ | refine V_exit ?_ | refine V_ret ?_ | refine S_exit ?_ | refine S_ret ?_ | refine B_exit ?_ | refine B_ret ?_ | refine B_pass rfl ?_ | refine C_normal ?_ | refine C_exit ?_ | refine C_ret ?_ | refine WS_off rfl (by first | rfl | assumption) ?_ | refine WS_on rfl (by first | rfl | assumption) ?_ | refine WS_move ?_ | refine WS_assign ?_ | refine WS_pick_t (by first | rfl | assumption) ?_ | refine WS_pick_f (by first | rfl | assumption) ?_ | refine WS_isnil ?_ | refine WS_notnil ?_ | refine WS_cmp rfl ?_ | refine WS_addi (by omega) ?_ | refine WS_subi (by omega) ?_ | refine WS_arith rfl ?_ | refine WS_not ?_ | refine WS_neg ?_ | refine WS_convert ?_ | refine WS_len_slice ?_ | refine WS_len_string ?_ | refine WS_fieldAddr ?_ | refine WS_load ?_ | refine WS_load_agg ?_ | refine WS_box_agg rfl ?_ | refine WS_box rfl ?_ | refine WS_makeFunc ?_ | refine WS_extract ?_ | refine WS_field ?_ | refine WS_build ?_ | refine WS_zero ?_ | refine WS_shift (by first | decide | omega) rfl ?_ | refine WS_strcmp rfl ?_ | refine WS_indexAddr (by first | decide | omega) ?_ | refine WS_alloc ?_ | refine WS_store rfl ?_ | refine WS_buildSlice (by decide) rfl rfl (by simp [Value.cells]) ?_ | refine WDK_go ?_ | refine WDT_go ?_ | refine WD_nil ?_ | refine WD_take_off rfl rfl (by first | rfl | assumption) ?_ | refine WD_load rfl ?_ | refine WD_load_on rfl rfl (by first | rfl | assumption) ?_ | refine WD_load_agg rfl ?_ | refine WD_load_agg_on rfl rfl (by first | rfl | assumption) ?_ | refine WD_take rfl rfl ?_ | refine WD_take_on rfl rfl (by first | rfl | assumption) rfl ?_ | refine WD_drop rfl rfl ?_ | refine WD_one rfl ?_ | refine WD_virt rfl rfl ?_) | (refine WS_guard rfl ?_ ?_ <;> intro hg) | (refine V_cond ?_ ?_ <;> intro hc <;> try (cases hc; done)))
    · have hi : i < la := by simp at hc; omega
      obtain ⟨b1, v, rfl, hv, c2⟩ := (hx.ext eH).at hi0 hi
      obtain ⟨x, rfl, hx1⟩ := u64s_at hv
      obtain ⟨b2, w, rfl, hw, c3⟩ := (hy.ext eH).at hi0 hi
      obtain ⟨y, rfl, hy1⟩ := u64s_at hw
      refine V_draw (plan := [.take 0, .take 1, .take 2, .take 3, .take 4, .take 5, .take 6, .take 7, .take 8, .take 9, .take 10]) (by kernel_rfl) ?_
      repeat' (first | (first | refine V_seq ?_ | refine V_region ?_ | refine WS_nil ?_ | refine S_normal ?_ | refine V_block ?_ | refine B_normal ?_ | refine V_skip ?_ | refine V_exit ?_ | refine V_ret ?_ | refine S_exit ?_ | refine S_ret ?_ | refine B_exit ?_ | refine B_ret ?_ | refine B_pass rfl ?_ | refine C_normal ?_ | refine C_exit ?_ | refine C_ret ?_ | refine WS_off rfl (by first | rfl | assumption) ?_ | refine WS_on rfl (by first | rfl | assumption) ?_ | refine WS_move ?_ | refine WS_assign ?_ | refine WS_pick_t (by first | rfl | assumption) ?_ | refine WS_pick_f (by first | rfl | assumption) ?_ | refine WS_isnil ?_ | refine WS_notnil ?_ | refine WS_cmp rfl ?_ | refine WS_addi (by omega) ?_ | refine WS_subi (by omega) ?_ | refine WS_arith rfl ?_ | refine WS_not ?_ | refine WS_neg ?_ | refine WS_convert ?_ | refine WS_len_slice ?_ | refine WS_len_string ?_ | refine WS_fieldAddr ?_ | refine WS_load ?_ | refine WS_load_agg ?_ | refine WS_box_agg rfl ?_ | refine WS_box rfl ?_ | refine WS_makeFunc ?_ | refine WS_extract ?_ | refine WS_field ?_ | refine WS_build ?_ | refine WS_zero ?_ | refine WS_shift (by first | decide | omega) rfl ?_ | refine WS_strcmp rfl ?_ | refine WS_indexAddr (by first | decide | omega) ?_ | refine WS_alloc ?_ | refine WS_store rfl ?_ | refine WS_buildSlice (by decide) rfl rfl (by simp [Value.cells]) ?_ | refine WDK_go ?_ | refine WDT_go ?_ | refine WD_nil ?_ | refine WD_take_off rfl rfl (by first | rfl | assumption) ?_ | refine WD_load rfl ?_ | refine WD_load_on rfl rfl (by first | rfl | assumption) ?_ | refine WD_load_agg rfl ?_ | refine WD_load_agg_on rfl rfl (by first | rfl | assumption) ?_ | refine WD_take rfl rfl ?_ | refine WD_take_on rfl rfl (by first | rfl | assumption) rfl ?_ | refine WD_drop rfl rfl ?_ | refine WD_one rfl ?_ | refine WD_virt rfl rfl ?_) | (refine WS_guard rfl ?_ ?_ <;> intro hg) | (refine V_cond ?_ ?_ <;> intro hc <;> try (cases hc; done)))
      · refine retK_1 ⟨?_, eH⟩ (.inr rfl)
        congr 1
        symm; rw [decide_eq_false_iff_not]
        rintro ⟨_, rfl⟩
        rw [hx1] at hy1
        simp at hy1; subst hy1
        simp at hc
      · refine ⟨_, ?_, i + 1, rfl, by omega, by omega, inferInstance, inferInstance, inferInstance, rfl, ?_⟩
        · omega
        · have : (i + 1).toNat = i.toNat + 1 := by omega
          have hxy : x = y := by simp at hc; omega
          rw [this, List.take_add_one, List.take_add_one, hx1, hy1, hP, hxy]
    · have hi : i = la := by simp at hc; omega
      refine retK_1 ⟨?_, eH⟩ (.inr rfl)
      congr 1
      symm; rw [decide_eq_true_iff]
      rw [hi, Int.toNat_natCast, List.take_of_length_le (by omega), List.take_of_length_le (by omega)] at hP
      exact ⟨rfl, hP⟩
  · refine retK_1 ⟨?_, (Ext.push _ _).push' _⟩ (.inr rfl)
    congr 1
    symm; rw [decide_eq_false_iff_not]
    rintro ⟨rfl, rfl⟩
    simp at hg
instance : CallIs Try.prog 31 := .of Try.func31 rfl rfl
end Go.Ideal

-- Lc
set_option linter.unusedSimpArgs false
set_option linter.unusedVariables false
namespace Go.Ideal
open Go Go.Proofs
/-! ### Parity; bits put side by side -/
theorem bit_le (x : Nat) : x &&& 1 ≤ 1 := Nat.and_le_right
theorem and1_u64 {a : Nat} (ha : a < 2 ^ 64) : ibits .and .u64 a 1 = (a &&& 1 : Nat) := and_u64 (b := 1) ha (by decide)
theorem shr_lt {a : Nat} (n : Nat) (ha : a < 2 ^ 64) : a >>> n < 2 ^ 64 := Nat.lt_of_le_of_lt (Nat.shiftRight_le _ _) ha
theorem toNat_succ {i : Int} (h : 0 ≤ i) : (i + 1).toNat = i.toNat + 1 := by omega

instance : CallIs Try.prog 77 := .of Try.func77 rfl rfl
end Go.Ideal

-- Ld
set_option linter.unusedSimpArgs false
set_option linter.unusedVariables false
namespace Go.Ideal
open Go Go.Proofs
theorem NeB.fresh {h h' : IHp} (hlt : h.fresh < h'.fresh) : NeB h.fresh h'.fresh := ⟨by unfold IHp.fresh at *; omega⟩
theorem NeB.fresh' {h h' : IHp} (hlt : h.fresh < h'.fresh) : NeB h'.fresh h.fresh := (NeB.fresh hlt).symm
theorem checkS_zero {N : Int} {xs : List Nat} (h : checkS N xs = 0) : 0 ≤ N ∧ N ≤ 64 ∧ (xs.length : Int) = N ∧ ∀ x ∈ xs, belowS N x = true := by
  unfold checkS at h
  split at h
  · simp at h
  · rename_i hn
    split at h
    · rename_i ha; exact ⟨by omega, by omega, by omega, List.all_eq_true.1 ha⟩
    · simp at h
/-- a slice of one's own is a slice -/
theorem Lst.getSl {lo : Nat} {h : IHp} {a : Option Addr} {n m : Nat} {vs : List Value} {t : TypeId} (x : Lst lo h (.slice a n m) vs t) : SlIs h a n m vs := by
  obtain ⟨a', h1, h2⟩ := x.sl
  simp only [Value.slice.injEq] at h1
  obtain ⟨rfl, rfl, rfl⟩ := h1
  exact h2

instance : CallIs Try.prog 76 := .of Try.func76 rfl rfl
end Go.Ideal

-- Le
set_option linter.unusedSimpArgs false
set_option linter.unusedVariables false
namespace Go.Ideal
open Go Go.Proofs
theorem Lst.lower {lo lo' : Nat} {h : IHp} {v : Value} {vs : List Value} {t : TypeId} (x : Lst lo h v vs t) (hl : lo' ≤ lo) : Lst lo' h v vs t := by
  rcases x with ⟨h1, h2⟩ | ⟨b, h1, h2⟩
  · exact .inl ⟨h1, h2⟩
  · exact .inr ⟨b, by omega, h2⟩
theorem Lst.ltFresh {lo : Nat} {h : IHp} {v : Value} {vs : List Value} {t : TypeId} (x : Lst lo h v vs t) {b : Nat} (hb : blockOf v = some b) : b < h.fresh := by
  rcases x with ⟨rfl, rfl⟩ | ⟨c, h1, rfl, h2, h3⟩
  · simp [blockOf] at hb
  · simp only [blockOf, Option.some.injEq] at hb; subst hb; exact h2.lt
instance : CallIs Try.prog 38 := .of Try.func38 rfl rfl
end Go.Ideal

-- Lf
set_option linter.unusedSimpArgs false
set_option linter.unusedVariables false
namespace Go.Ideal
open Go Go.Proofs
def xorK (f : Nat → Nat) : Nat → Nat
  | 0 => 0
  | k + 1 => xorK f k ^^^ f k
def mulRow (r : Nat) (ys : List Nat) (k : Nat) : Nat := xorK (fun j => if (r >>> j) &&& 1 = 1 then ys.getD j 0 else 0) k
theorem getD_lt {ys : List Nat} (h : ∀ x ∈ ys, x < 2 ^ 64) (j : Nat) : ys.getD j 0 < 2 ^ 64 := by
  rw [List.getD_eq_getElem?_getD]
  cases hj : ys[j]? with
  | none => decide
  | some x => exact h x (List.mem_of_getElem? hj)
instance : CallIs Try.prog 37 := .of Try.func37 rfl rfl
end Go.Ideal

-- Lg
set_option linter.unusedSimpArgs false
set_option linter.unusedVariables false
namespace Go.Ideal
open Go Go.Proofs
/-! ### OnesCount64, as it reckons -/
instance : CallIs Try.prog 111 := .of Try.func111 rfl rfl

instance : CallIs Try.prog 68 := .of Try.func68 rfl rfl
end Go.Ideal

-- Lh
set_option linter.unusedSimpArgs false
set_option linter.unusedVariables false
namespace Go.Ideal
open Go Go.Proofs
theorem Clone_spec (a : Option Addr) (len cap : Nat) (vs : List Value) (h : IHp) (hx : SlIs h a len cap vs) (hl : len ≤ 2 ^ 30) :
    EvX Try.prog 74 [.slice a len cap].toArray h (fun v h' => Ext h h' ∧ Own h.fresh h' v vs 42) := by
  refine EvX_of Try.func74 rfl (by show 1 ≤ 8; decide) ?_
  repeat' (first | (first | refine V_seq ?_ | refine V_region ?_ | refine WS_nil ?_ | refine S_normal ?_ | refine V_block ?_ | refine B_normal ?_ | refine V_skip ?_ | refine V_exit ?_ | refine V_ret ?_ | refine S_exit ?_ | refine S_ret ?_ | refine B_exit ?_ | refine B_ret ?_ | refine B_pass rfl ?_ | refine C_normal ?_ | refine C_exit ?_ | refine C_ret ?_ | refine WS_off rfl (by first | rfl | assumption) ?_ | refine WS_on rfl (by first | rfl | assumption) ?_ | refine WS_move ?_ | refine WS_assign ?_ | refine WS_pick_t (by first | rfl | assumption) ?_ | refine WS_pick_f (by first | rfl | assumption) ?_ | refine WS_isnil ?_ | refine WS_notnil ?_ | refine WS_cmp rfl ?_ | refine WS_addi (by omega) ?_ | refine WS_subi (by omega) ?_ | refine WS_arith rfl ?_ | refine WS_not ?_ | refine WS_neg ?_ | refine WS_convert ?_ | refine WS_len_slice ?_ | refine WS_len_string ?_ | refine WS_fieldAddr ?_ | refine WS_load ?_ | refine WS_load_agg ?_ | refine WS_box_agg rfl ?_ | refine WS_box rfl ?_ | refine WS_makeFunc ?_ | refine WS_extract ?_ | refine WS_field ?_ | refine WS_build ?_ | refine WS_zero ?_ | refine WS_shift (by first | decide | omega) rfl ?_ | refine WS_strcmp rfl ?_ | refine WS_indexAddr (by first | decide | omega) ?_ | refine WS_alloc ?_ | refine WS_store rfl ?_ | refine WS_buildSlice (by decide) rfl rfl (by simp [Value.cells]) ?_ | refine WDK_go ?_ | refine WDT_go ?_ | refine WD_nil ?_ | refine WD_take_off rfl rfl (by first | rfl | assumption) ?_ | refine WD_load rfl ?_ | refine WD_load_on rfl rfl (by first | rfl | assumption) ?_ | refine WD_load_agg rfl ?_ | refine WD_load_agg_on rfl rfl (by first | rfl | assumption) ?_ | refine WD_take rfl rfl ?_ | refine WD_take_on rfl rfl (by first | rfl | assumption) rfl ?_ | refine WD_drop rfl rfl ?_ | refine WD_one rfl ?_ | refine WD_virt rfl rfl ?_) | (refine WS_guard rfl ?_ ?_ <;> intro hg) | (refine V_cond ?_ ?_ <;> intro hc <;> try (cases hc; done)))
  · refine retK_1 ⟨Ext.refl h, ?_⟩ (.inr rfl)
    cases a with
    | none =>
      obtain ⟨h1, h2, h3⟩ := hx
      simp only at h3
      exact .inl ⟨rfl, List.eq_nil_of_length_eq_zero (by omega)⟩
    | some a => simp at hc
  · have e0 : Ext h (h.push (IObj.cells [] 42 true)) := Ext.push _ _
    refine WS_append_copy (lo := h.fresh) (hx.ext e0) (Nat.le_refl _) (by omega) ?_
    intro v' h' ho he
    repeat' (first | (first | refine V_seq ?_ | refine V_region ?_ | refine WS_nil ?_ | refine S_normal ?_ | refine V_block ?_ | refine B_normal ?_ | refine V_skip ?_ | refine V_exit ?_ | refine V_ret ?_ | refine S_exit ?_ | refine S_ret ?_ | refine B_exit ?_ | refine B_ret ?_ | refine B_pass rfl ?_ | refine C_normal ?_ | refine C_exit ?_ | refine C_ret ?_ | refine WS_off rfl (by first | rfl | assumption) ?_ | refine WS_on rfl (by first | rfl | assumption) ?_ | refine WS_move ?_ | refine WS_assign ?_ | refine WS_pick_t (by first | rfl | assumption) ?_ | refine WS_pick_f (by first | rfl | assumption) ?_ | refine WS_isnil ?_ | refine WS_notnil ?_ | refine WS_cmp rfl ?_ | refine WS_addi (by omega) ?_ | refine WS_subi (by omega) ?_ | refine WS_arith rfl ?_ | refine WS_not ?_ | refine WS_neg ?_ | refine WS_convert ?_ | refine WS_len_slice ?_ | refine WS_len_string ?_ | refine WS_fieldAddr ?_ | refine WS_load ?_ | refine WS_load_agg ?_ | refine WS_box_agg rfl ?_ | refine WS_box rfl ?_ | refine WS_makeFunc ?_ | refine WS_extract ?_ | refine WS_field ?_ | refine WS_build ?_ | refine WS_zero ?_ | refine WS_shift (by first | decide | omega) rfl ?_ | refine WS_strcmp rfl ?_ | refine WS_indexAddr (by first | decide | omega) ?_ | refine WS_alloc ?_ | refine WS_store rfl ?_ | refine WS_buildSlice (by decide) rfl rfl (by simp [Value.cells]) ?_ | refine WDK_go ?_ | refine WDT_go ?_ | refine WD_nil ?_ | refine WD_take_off rfl rfl (by first | rfl | assumption) ?_ | refine WD_load rfl ?_ | refine WD_load_on rfl rfl (by first | rfl | assumption) ?_ | refine WD_load_agg rfl ?_ | refine WD_load_agg_on rfl rfl (by first | rfl | assumption) ?_ | refine WD_take rfl rfl ?_ | refine WD_take_on rfl rfl (by first | rfl | assumption) rfl ?_ | refine WD_drop rfl rfl ?_ | refine WD_one rfl ?_ | refine WD_virt rfl rfl ?_) | (refine WS_guard rfl ?_ ?_ <;> intro hg) | (refine V_cond ?_ ?_ <;> intro hc <;> try (cases hc; done)))
    exact retK_1 ⟨e0.trans he, ho⟩ (.inr rfl)
instance : CallIs Try.prog 74 := .of Try.func74 rfl rfl

/-! ### Elimination, as it goes -/
def bitAt (r j : Nat) : Bool := (r >>> j) &&& 1 = 1
def swapRows (rows : List Nat) (i k : Nat) : List Nat := (rows.set i (rows.getD k 0)).set k (rows.getD i 0)
theorem swapRows_len (rows : List Nat) (i k : Nat) : (swapRows rows i k).length = rows.length := by simp [swapRows]
def All64 (rows : List Nat) : Prop := ∀ x ∈ rows, x < 2 ^ 64
theorem All64.set {rows : List Nat} (h : All64 rows) {i w : Nat} (hw : w < 2 ^ 64) : All64 (rows.set i w) := fun x hx => by
  rcases List.mem_or_eq_of_mem_set hx with h1 | h1
  · exact h x h1
  · omega
theorem All64.get {rows : List Nat} (h : All64 rows) (i : Nat) : rows.getD i 0 < 2 ^ 64 := getD_lt h i
theorem All64.swap {rows : List Nat} (h : All64 rows) (i k : Nat) : All64 (swapRows rows i k) := (h.set (h.get k)).set (h.get i)
theorem u64s_set (rows : List Nat) (i w : Nat) : u64s (rows.set i w) = (u64s rows).set i (.int .u64 w) := by simp [u64s, List.map_set]
theorem u64s_get {rows : List Nat} {i : Nat} (hi : i < rows.length) : (u64s rows)[i]? = some (.int .u64 (rows.getD i 0 : Nat)) := by
  simp [u64s, hi, List.getD_eq_getElem?_getD]
theorem cell_u64 {h : IHp} {b i : Nat} {rows : List Nat} {t : TypeId} {x : Bool} (o : ObjIs h b (u64s rows) t x) (hi : i < rows.length) : CellIs h b (0 + i * 1) (.int .u64 (rows.getD i 0 : Nat)) := cell_at o (u64s_get hi)
theorem set_u64 {rows : List Nat} {i : Nat} (w : Nat) (hi : i < rows.length) : SetIs (u64s rows) (0 + i * 1) [.int .u64 w] (u64s (rows.set i w)) := by
  rw [u64s_set]; exact set_at _ (by simpa [u64s] using hi)
end Go.Ideal

-- Li
set_option linter.unusedSimpArgs false
set_option linter.unusedVariables false
namespace Go.Ideal
open Go Go.Proofs
theorem bit_cases (r j : Nat) : r >>> j &&& 1 = 0 ∨ r >>> j &&& 1 = 1 := by have := bit_le (r >>> j); omega
theorem swap_two {rows : List Nat} {i k : Nat} : (rows.set i (rows.getD k 0)).set k (rows.getD i 0) = swapRows rows i k := rfl
instance : CallIs Try.prog 36 := .of Try.func36 rfl rfl
end Go.Ideal

-- Lj
set_option linter.unusedSimpArgs false
set_option linter.unusedVariables false
namespace Go.Ideal
open Go Go.Proofs
/-- all but two blocks are as they were -/
structure Fr2 (b c : Nat) (h h' : IHp) : Prop where
  old : h'.old = h.old
  new : ∀ (i : Nat) (o : IObj), h.new[i]? = some o → 2 * i ≠ b → 2 * i ≠ c → h'.new[i]? = some o
theorem Fr2.refl (b c : Nat) (h : IHp) : Fr2 b c h h := ⟨rfl, fun _ _ h _ _ => h⟩
theorem Fr2.obj {b c : Nat} {h h' : IHp} (f : Fr2 b c h h') {x : Nat} {l : List Value} {t : TypeId} {e : Bool} (o : ObjIs h x l t e) (h1 : x ≠ b) (h2 : x ≠ c) : ObjIs h' x l t e :=
  ⟨o.even, f.new _ _ o.eq (by have := o.even; omega) (by have := o.even; omega)⟩
theorem Fr2.ext {b c : Nat} {h h' h0 : IHp} (f : Fr2 b c h h') (e : Ext h0 h) (l1 : h0.fresh ≤ b) (l2 : h0.fresh ≤ c) : Ext h0 h' := ⟨f.old.trans e.old, fun i o hi => by
  have := (List.getElem?_eq_some_iff.1 hi).1
  unfold IHp.fresh at l1 l2
  exact f.new i o (e.new i o hi) (by omega) (by omega)⟩
instance : CallIs Try.prog 78 := .of Try.func78 rfl rfl
end Go.Ideal

-- Lk
set_option linter.unusedSimpArgs false
set_option linter.unusedVariables false
namespace Go.Ideal
open Go Go.Proofs
theorem All64.replicate (n : Nat) : All64 (List.replicate n 0) := fun x hx => by rw [List.eq_of_mem_replicate hx]; decide
instance : CallIs Try.prog 40 := .of Try.func40 rfl rfl
end Go.Ideal

-- Ll
set_option linter.unusedSimpArgs false
set_option linter.unusedVariables false
namespace Go.Ideal
open Go Go.Proofs
theorem eyeS_lt {n : Int} (h : n ≤ 64) : All64 (eyeS n) := fun x hx => by
  simp only [eyeS, List.mem_map, List.mem_range] at hx
  obtain ⟨i, hi, rfl⟩ := hx
  exact Nat.pow_lt_pow_right (by decide) (by omega)
theorem eyeS_length (n : Int) : (eyeS n).length = n.toNat := by simp [eyeS]
instance : CallIs Try.prog 39 := .of Try.func39 rfl rfl
end Go.Ideal
