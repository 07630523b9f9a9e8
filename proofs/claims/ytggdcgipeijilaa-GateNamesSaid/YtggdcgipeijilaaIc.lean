/- The interpreter is sound for whole functions: what it returns, the real call returns. No condition: no law is claimed here. -/
import Derived.Test.YtggdcgipeijilaaIb
import Derived.OrdersIn
import Derived.RangeFuncIn
import Derived.RangeFuncLeaves
import Derived.RangeFuncRecord
set_option linter.unusedSimpArgs false
set_option linter.unusedVariables false
namespace Go.Ideal
open Go Go.RowKit

def WideF (F : Fence) : Prop := (∀ f, F.fn f) ∧ F.depth = none
theorem WideF.room {F : Fence} (h : WideF F) (k : Nat) : F.room k := fun d hd => by rw [h.2] at hd; cases hd
theorem WideF.inRound {F : Fence} (h : WideF F) (l : Nat) : WideF (F.inRound l) := h

def SRel (ρ : RM) (s : Nat → Value) (nt : Nat) (tmps : Array Value) : Prop := tmps.size = nt ∧ ∀ t, R ρ (s t) (tmps.getD t undef)
def DRel (ρ : RM) : List Nat → List Deferred → Prop
  | [], [] => True
  | d :: ms, x :: ds => (∃ r y, ρ.at_ d = some (r, y) ∧ x = { target := .collected r, args := #[] }) ∧ DRel ρ ms ds
  | _, _ => False
theorem DRel.mono {ρ ρ' : RM} (h : ρ.le ρ') : ∀ {ms : List Nat} {ds : List Deferred}, DRel ρ ms ds → DRel ρ' ms ds
  | [], [], _ => trivial
  | d :: ms, x :: ds, ⟨⟨r, y, a, b⟩, k⟩ => ⟨⟨r, y, h _ _ a, b⟩, DRel.mono h k⟩
  | [], _ :: _, h => h.elim
  | _ :: _, [], h => h.elim

structure StRel (P : Program) (base : Nat) (w0 : World) (ρ : RM) (st : St) (a : Act) (w : World) : Prop where
  heap : HRel P base w0 ρ st.h w
  slots : SRel ρ st.s st.nt a.tmps
  defers : DRel ρ st.marks a.defers

section
variable {P : Program} {base : Nat} {w0 w : World} {ρ : RM} {st : St} {a : Act}

theorem SRel.mono {ρ ρ' : RM} (h : ρ.le ρ') {s : Nat → Value} {nt : Nat} {tmps : Array Value} (H : SRel ρ s nt tmps) : SRel ρ' s nt tmps := ⟨H.1, fun t => R_mono h _ _ (H.2 t)⟩

theorem SRel.put {s : Nat → Value} {nt : Nat} {tmps : Array Value} (H : SRel ρ s nt tmps) {d : Nat} {v v' : Value} (hd : d < nt) (hv : R ρ v v') : SRel ρ (putS s (some d) v) nt (tmps.setIfInBounds d v') := by
  refine ⟨by simp [H.1], fun t => ?_⟩
  simp only [putS]
  by_cases e : t = d
  · subst e
    have : t < tmps.size := by rw [H.1]; exact hd
    simp [Array.getD, this]
    exact hv
  · rw [if_neg e]
    have : (tmps.setIfInBounds d v').getD t undef = tmps.getD t undef := by
      simp [Array.getD_eq_getD_getElem?, Array.getElem?_setIfInBounds_ne (Ne.symm e)]
    rw [this]; exact H.2 t

theorem SRel.act {s : Nat → Value} {nt : Nat} (H : SRel ρ s nt a.tmps) {d : Option Tmp} {v v' : Value} (hd : ∀ x, d = some x → x < nt) (hv : R ρ v v') : SRel ρ (putS s d v) nt (a.put d v').tmps := by
  cases d with
  | none => exact H
  | some d => exact H.put (hd d rfl) hv
theorem put_defers' (a : Act) (d : Option Tmp) (v : Value) : (a.put d v).defers = a.defers := by cases d <;> rfl

theorem StRel.put (S : StRel P base w0 ρ st a w) {ρ' : RM} {w' : World} {h' : IHp} (hle : ρ.le ρ') (H : HRel P base w0 ρ' h' w') {d : Option Tmp} {v v' : Value} (hd : ∀ x, d = some x → x < st.nt) (hv : R ρ' v v') :
    StRel P base w0 ρ' { st with s := putS st.s d v, h := h' } (a.put d v') w' :=
  ⟨H, (S.slots.mono hle).act hd hv, by rw [put_defers']; exact S.defers.mono hle⟩

theorem StRel.eval (S : StRel P base w0 ρ st a w) {x : Operand} (hx : okOperand x = true) : R ρ (st.eval x) (a.eval x) := by
  cases x with
  | tmp t => exact S.slots.2 t
  | const v => exact flat_R hx
  | global g => simp [okOperand] at hx
  | func f => exact flat_R (by rfl)

theorem okOper_ops {n : Nat} {o : Oper} (h : okOper n o = true) : (∀ x, o.dst = some x → x < n) ∧ (∀ x ∈ o.op.operands, okOperand x = true) ∧ (∀ cs b, o.op ≠ .select cs b) ∧ (∀ c, o.op ≠ .defer c) := by
  unfold okOper at h
  simp only [Bool.and_eq_true, List.all_eq_true] at h
  refine ⟨fun x hx => ?_, fun x hx => h.1.2 x (Array.mem_toList_iff.2 hx), fun cs b e => ?_, fun c e => ?_⟩
  · have := h.1.1; rw [hx] at this; simpa using this
  · have := h.2; rw [e] at this; simp at this
  · have := h.2; rw [e] at this; simp at this

theorem StRel.evs (S : StRel P base w0 ρ st a w) {o : Oper} {n : Nat} (h : okOper n o = true) : EvR ρ st.eval a.eval o := fun x hx => S.eval ((okOper_ops h).2.1 x hx)

theorem R_bool_iff {v v' : Value} (h : R ρ v v') (b : Bool) : v = .bool b ↔ v' = .bool b := by
  constructor
  · rintro rfl; exact R_bool h
  · intro e
    subst e
    cases v with
    | bool c => simp only [R] at h; exact h.symm
    | agg cs => rw [R_agg] at h; obtain ⟨_, h, _⟩ := h; cases h
    | tuple cs => rw [R_tuple] at h; obtain ⟨_, h, _⟩ := h; cases h
    | iface t x => simp only [R] at h; obtain ⟨_, h, _⟩ := h; cases h
    | pointer a => cases a <;> simp only [R] at h <;> first | (cases h; done) | (obtain ⟨_, _, _, h⟩ := h; cases h)
    | slice a l c => cases a <;> simp only [R] at h <;> first | (cases h; done) | (obtain ⟨_, _, _, h⟩ := h; cases h)
    | map a => cases a <;> simp only [R] at h <;> first | (cases h; done) | (obtain ⟨_, _, _, h⟩ := h; cases h)
    | chan a => cases a <;> simp only [R] at h; cases h
    | func fn f c =>
      cases fn with
      | func g => rw [R_func] at h; obtain ⟨_, _, h, _⟩ := h; cases h
      | yield l => simp only [R] at h; obtain ⟨_, _, _, _, _, h⟩ := h; cases h
      | _ => simp only [R] at h
    | _ => simp only [R] at h; cases h

theorem yielded_eq (S : SRel ρ st.s st.nt a.tmps) (ops : Array Oper) (j : Nat) : yielded ops a.tmps j = iyielded ops st.s j := by
  unfold yielded iyielded
  cases hd : (ops[j]?).bind (·.dst) with
  | none => rfl
  | some t =>
    simp only [Option.bind_some]
    have h := S.2 t
    cases ht : a.tmps[t]? with
    | none =>
      have : a.tmps.getD t undef = undef := by simp [Array.getD_eq_getD_getElem?, ht]
      rw [this] at h
      simp only
      split
      · rename_i b hb
        have := (R_bool_iff h b).1 hb
        cases this
      · rfl
    | some v =>
      have : a.tmps.getD t undef = v := by simp [Array.getD_eq_getD_getElem?, ht]
      rw [this] at h
      cases hvb : v with
      | bool b => rw [(R_bool_iff h b).2 hvb]
      | _ =>
        simp only
        split
        · rename_i b hb
          have := (R_bool_iff h b).1 hb
          rw [this] at hvb; cases hvb
        · rfl

theorem wanted_eq (S : SRel ρ st.s st.nt a.tmps) (ops : Array Oper) (o : Oper) : Region.wanted o (yielded ops a.tmps) = iwanted ops st.s o := by
  unfold iwanted Region.wanted
  cases o.guard with
  | none => rfl
  | some g => simp only [yielded_eq S]

/-! ### Calls -/
def RPost (P : Program) (base : Nat) (w0 : World) (ρ : RM) (h' : IHp) (v : Value) : Ending → World → Prop := fun e w' => ∃ ρ' v', e = .returned v' ∧ ρ.le ρ' ∧ HRel P base w0 ρ' h' w' ∧ R ρ' v v'

def CallOK (P : Program) (base : Nat) (w0 : World) (call : ICall) : Prop :=
  (∀ f args h v h', call (.fn f) args h = some (v, h') → ∀ ρ w args', HRel P base w0 ρ h w → RA ρ args args' → ∀ F n, WideF F → CallsIn F n P f args' w (RPost P base w0 ρ h' v)) ∧
  (∀ l args h v h', call (.yld l) args h = some (v, h') → ∀ ρ w args' r, HRel P base w0 ρ h w → RA ρ args args' → l % 2 = 0 → ρ.block l = some r →
    ∃ L : Loop, w.heap[r]? = some (.loop L) ∧ args'.size = L.params.size ∧
      ∀ F n, WideF F → RoundIn F n P r L.fn ((L.params.zip args').foldl (fun tmps (t, a) => tmps.setIfInBounds t a) L.tmps) L.assign L.body w (RPost P base w0 ρ h' v))

theorem callee_fn {v v' : Value} {args args' args2 : Array Value} {g : FuncId} (hc : icalleeV P v args = some (.fn g, args2)) (hv : R ρ v v') (ha : RA ρ args args') :
    ∃ d args2', (Deferred.ofValue v' args' : Sem Deferred) = pure d ∧ (∀ w, (invoke d.target d.args).run P w = .ok (.enter g args2') w) ∧ RA ρ args2 args2' := by
  unfold icalleeV at hc
  split at hc
  · rename_i g' first captured
    split at hc
    · rename_i fn hfn
      split at hc
      · cases hc
      · rename_i hname
        split at hc
        · rename_i hbody
          simp only [Option.some.injEq, Prod.mk.injEq, Cl.fn.injEq] at hc
          obtain ⟨rfl, rfl⟩ := hc
          rw [R_func] at hv
          obtain ⟨f', c', rfl, h1, h2⟩ := hv
          refine ⟨{ target := .fn (.func g') c', args := f' ++ args' }, (f' ++ args') ++ c', rfl, fun w => ?_, RA_append (RA_append h1 ha) h2⟩
          have hb : fn.body.isNone = false := by cases h : fn.body <;> simp_all
          have hname' : (fn.name == "runtime.NumGoroutine") = false := by simpa using hname
          simp only [invoke, callFunc, Sem.run_bind, run_program, Result.andThen, hfn, hname', hb, Bool.false_eq_true, if_false, Sem.run_pure]
        · cases hc
    · cases hc
  · split at hc <;> simp at hc
  · cases hc

theorem callee_yld {v v' : Value} {args args' args2 : Array Value} {l : Nat} (hc : icalleeV P v args = some (.yld l, args2)) (hv : R ρ v v') :
    args2 = args ∧ l % 2 = 0 ∧ ∃ r, ρ.block l = some r ∧ v' = .func (.yield r) #[] #[] := by
  unfold icalleeV at hc
  split at hc
  · split at hc
    · split at hc
      · cases hc
      · split at hc <;> simp at hc
    · cases hc
  · rename_i l' first captured
    split at hc
    · simp only [Option.some.injEq, Prod.mk.injEq, Cl.yld.injEq] at hc
      obtain ⟨rfl, rfl⟩ := hc
      simp only [R] at hv
      obtain ⟨_, _, h1, r, h2, h3⟩ := hv
      exact ⟨rfl, h1, r, h2, h3⟩
    · cases hc
  · cases hc

/-- one operation -/
theorem iop_sound {call : ICall} {ops : Array Oper} {i : Nat} {st' : St} {F : Fence} {n : Nat} {Q : Exit → Act → World → Prop} {K : Act → World → Prop} (hcall : CallOK P base w0 call)
    (hok : ∀ o, ops[i]? = some o → okOper st.nt o = true) (hs : iop P call ops i st = some st') (S : StRel P base w0 ρ st a w) (hF : WideF F)
    (hK : ∀ ρ' a' w', ρ.le ρ' → StRel P base w0 ρ' st' a' w' → st'.nt = st.nt → st'.rd = st.rd → st'.marks = st.marks → K a' w') : wpOpIn F n P ops Q i K a w := by
  unfold iop at hs
  unfold wpOpIn
  cases ho : ops[i]? with
  | none => simp [ho] at hs
  | some o =>
    simp only [ho] at hs ⊢
    obtain ⟨hdst, hopd, hsel, hdef⟩ := okOper_ops (hok o ho)
    have hev := S.evs (hok o ho)
    rw [wanted_eq S.slots]
    split at hs
    · rename_i hw
      rw [if_pos hw]
      refine ⟨fun f _ => hF.1 f, ?_⟩
      rw [Oper.semAt_eq _ _ _ hdef]
      cases hc : icallee P st.eval o with
      | none =>
        simp only [hc, Option.map_eq_some_iff] at hs
        obtain ⟨⟨v, h'⟩, hh, rfl⟩ := hs
        obtain ⟨ρ', v', w', h1, h2, h3, h4⟩ := iheap_sound S.heap hh hev
        have := hK ρ' (a.put o.dst v') w' h1 (S.put h1 h2 hdst h3) rfl rfl rfl
        rcases h4 with h4 | ⟨rfl, h4⟩
        · rw [h4]; exact this
        · rw [h4]; exact this
      | some ca =>
        obtain ⟨c, args⟩ := ca
        simp only [hc, Option.map_eq_some_iff] at hs
        obtain ⟨⟨v, h'⟩, hh, rfl⟩ := hs
        obtain ⟨dst, op, type, pos, after, guard⟩ := o
        simp only at hdst hopd hev
        unfold icallee at hc
        simp only at hc
        split at hc
        · rename_i f as ats
          have hvf : R ρ (st.eval f) (a.eval f) := S.eval (hopd f (by simp [Op.operands, Call.operands]))
          have hva : RA ρ (as.map st.eval) (as.map a.eval) := RA_map fun x hx => S.eval (hopd x (by simp [Op.operands, Call.operands, hx]))
          cases c with
          | fn g =>
            obtain ⟨d, args', hd1, hd2, hd3⟩ := callee_fn hc hvf hva
            have hrun : (execOp a.eval ⟨dst, .call ⟨.value f, as, ats⟩, type, pos, after, guard⟩).run P w = .ok (.enter g args') w := by
              simp only [execOp, resolve, hd1, Sem.run_bind, Sem.run_pure, Result.andThen, hd2]
            rw [hrun, Oper.uponIn_enter]
            refine ⟨(fun h => by rw [hF.2] at h; cases h), (hcall.1 g _ _ _ _ hh ρ w args' S.heap hd3 F _ hF).mono ?_⟩
            rintro e w' ⟨ρ', v', rfl, h1, h2, h3⟩
            exact hK ρ' _ w' h1 (S.put h1 h2 hdst h3) rfl rfl rfl
          | yld l =>
            obtain ⟨rfl, hl, r, hr, hv'⟩ := callee_yld (args' := as.map a.eval) hc hvf
            obtain ⟨L, hL, hsz, hround⟩ := hcall.2 l _ _ _ _ hh ρ w _ r S.heap hva hl hr
            have hrun : (execOp a.eval ⟨dst, .call ⟨.value f, as, ats⟩, type, pos, after, guard⟩).run P w =
                .ok (.round r L.fn ((L.params.zip (as.map a.eval)).foldl (fun tmps (t, a) => tmps.setIfInBounds t a) L.tmps) L.assign L.body) w := by
              have := run_yield (P := P) hL hsz
              simp [execOp, resolve, hv', Deferred.ofValue, Sem.run_bind, Result.andThen, invoke, this]
            rw [hrun, Oper.uponIn_round]
            refine ⟨(fun h => by rw [hF.2] at h; cases h), (hround F _ hF).mono ?_⟩
            rintro e w' ⟨ρ', v', rfl, h1, h2, h3⟩
            exact hK ρ' _ w' h1 (S.put h1 h2 hdst h3) rfl rfl rfl
        · cases hc
    · rename_i hw
      rw [if_neg hw]
      simp only [Option.some.injEq] at hs
      subst hs
      exact ⟨fun f _ => hF.1 f, hK ρ _ w (RM.le_refl _) (S.put (RM.le_refl _) S.heap hdst R_undef) rfl rfl rfl⟩

theorem iops_sound {call : ICall} {ops : Array Oper} {F : Fence} {n : Nat} {Q : Exit → Act → World → Prop} (hcall : CallOK P base w0 call) (hF : WideF F) : ∀ (l : List Nat) (ρ : RM) (st st' : St) (a : Act) (w : World),
    (∀ (i : Nat) o, ops[i]? = some o → okOper st.nt o = true) → iops P call ops l st = some st' → StRel P base w0 ρ st a w →
    (∀ ρ' a' w', ρ.le ρ' → StRel P base w0 ρ' st' a' w' → st'.nt = st.nt → st'.rd = st.rd → Q .normal a' w') → wpOpsIn F n P ops Q l a w := by
  intro l
  induction l with
  | nil =>
    intro ρ st st' a w hok hs S hQ
    simp only [iops, Option.some.injEq] at hs
    subst hs
    exact hQ ρ a w (RM.le_refl _) S rfl rfl
  | cons i l ih =>
    intro ρ st st' a w hok hs S hQ
    simp only [iops, Option.bind_eq_some_iff] at hs
    obtain ⟨st1, h1, h2⟩ := hs
    rw [wpOpsIn_cons]
    refine iop_sound hcall (hok i) h1 S hF fun ρ1 a1 w1 hle S1 e1 e2 e3 => ih ρ1 st1 st' a1 w1 (by rw [e1]; exact hok) h2 S1 fun ρ2 a2 w2 hle2 S2 e4 e5 => hQ ρ2 a2 w2 (RM.le_trans hle hle2) S2 (e4.trans e1) (e5.trans e2)
end
end Go.Ideal

set_option linter.unusedSimpArgs false
set_option linter.unusedVariables false
namespace Go.Ideal
open Go Go.RowKit

/-- a value stands for one value alone -/
theorem R_fun {ρ : RM} : ∀ (v a b : Value), R ρ v a → R ρ v b → a = b
  | .bool _, _, _, h, k | .int _ _, _, _, h, k | .float _ _, _, _, h, k | .complex _ _ _, _, _, h, k | .string _, _, _, h, k | .pointer none, _, _, h, k | .slice none _ _, _, _, h, k
  | .map none, _, _, h, k | .chan none, _, _, h, k | .nilFunc, _, _, h, k | .nilIface, _, _, h, k => by simp only [R] at h k; rw [h, k]
  | .chan (some _), _, _, h, _ => by simp only [R] at h
  | .pointer (some a), _, _, h, k => by
    simp only [R] at h k
    obtain ⟨_, b, hb, rfl⟩ := h
    obtain ⟨_, c, hc, rfl⟩ := k
    rw [hb] at hc; cases hc; rfl
  | .slice (some a) l c, _, _, h, k => by
    simp only [R] at h k
    obtain ⟨_, b, hb, rfl⟩ := h
    obtain ⟨_, c, hc, rfl⟩ := k
    rw [hb] at hc; cases hc; rfl
  | .map (some r), _, _, h, k => by
    simp only [R] at h k
    obtain ⟨_, b, hb, rfl⟩ := h
    obtain ⟨_, c, hc, rfl⟩ := k
    rw [hb] at hc; cases hc; rfl
  | .func (.func g) f c, _, _, h, k => by
    simp only [R] at h k
    obtain ⟨f1, c1, rfl, ⟨h1, h2⟩, h3, h4⟩ := h
    obtain ⟨f2, c2, rfl, ⟨k1, k2⟩, k3, k4⟩ := k
    have e1 : f1 = f2 := Array.ext (by omega) fun i hi hj => by
      have := R_fun _ _ _ (h2 i (by omega)) (k2 i (by omega))
      simpa [Array.getD, hi, hj] using this
    have e2 : c1 = c2 := Array.ext (by omega) fun i hi hj => by
      have := R_fun _ _ _ (h4 i (by omega)) (k4 i (by omega))
      simpa [Array.getD, hi, hj] using this
    rw [e1, e2]
  | .func (.yield l) f c, _, _, h, k => by
    simp only [R] at h k
    obtain ⟨_, _, _, b, hb, rfl⟩ := h
    obtain ⟨_, _, _, c, hc, rfl⟩ := k
    rw [hb] at hc; cases hc; rfl
  | .func (.method _) _ _, _, _, h, _ | .func (.methodOf _ _) _ _, _, _, h, _ | .func (.via _ _ _ _) _ _, _, _, h, _ => by simp only [R] at h
  | .iface t x, _, _, h, k => by
    simp only [R] at h k
    obtain ⟨a, rfl, h⟩ := h
    obtain ⟨b, rfl, k⟩ := k
    rw [R_fun _ _ _ h k]
  | .agg cs, _, _, h, k => by
    simp only [R] at h k
    obtain ⟨d1, rfl, h1, h2⟩ := h
    obtain ⟨d2, rfl, k1, k2⟩ := k
    have e : d1 = d2 := Array.ext (by omega) fun i hi hj => by
      have := R_fun _ _ _ (h2 i (by omega)) (k2 i (by omega))
      simpa [Array.getD, hi, hj] using this
    rw [e]
  | .tuple cs, _, _, h, k => by
    simp only [R] at h k
    obtain ⟨d1, rfl, h1, h2⟩ := h
    obtain ⟨d2, rfl, k1, k2⟩ := k
    have e : d1 = d2 := Array.ext (by omega) fun i hi hj => by
      have := R_fun _ _ _ (h2 i (by omega)) (k2 i (by omega))
      simpa [Array.getD, hi, hj] using this
    rw [e]
termination_by v => SizeOf.sizeOf v

section
variable {P : Program} {ops : Array Oper} {Q : Exit → Act → World → Prop} {F : Fence} {n : Nat} {S : Array Bool → World → Prop} {C : World → Prop}

/-- whatever order is picked, S holds behind every operation -/
def wpS (F : Fence) (n : Nat) (P : Program) (ops : Array Oper) (Q : Exit → Act → World → Prop) (S : Array Bool → World → Prop) : Nat → Array Bool → Act → World → Prop
  | 0, listed, a, w => Region.ready .any ops listed = [] ∧ Q .normal a w
  | fuel + 1, listed, a, w =>
    (Region.ready .any ops listed = [] → Q .normal a w) ∧
    ∀ i ∈ Region.ready .any ops listed, wpOpIn F n P ops Q i (fun a' w' => S (listed.setIfInBounds i true) w' ∧ wpS F n P ops Q S fuel (listed.setIfInBounds i true) a' w') a w

theorem wpAnyIn_of_wpS : ∀ (fuel : Nat) (listed : Array Bool) (a : Act) (w : World), wpS F n P ops Q S fuel listed a w → wpAnyIn F n P .any ops Q fuel listed a w
  | 0, _, _, _, h => h
  | fuel + 1, _, _, _, h => ⟨h.1, fun i hi => wpOpIn_mono (fun a' w' h' => wpAnyIn_of_wpS fuel _ a' w' h'.2) (h.2 i hi)⟩

/-- in every world that meets C the operation yields v and does nothing else -/
def YC (P : Program) (ops : Array Oper) (C : World → Prop) (o : Oper) (v : Value) (a : Act) : Prop :=
  (Region.wanted o (yielded ops a.tmps) = true ∧ ∀ w, C w → (execOp a.eval o).run P w = .ok (.value v) w) ∨
  (Region.wanted o (yielded ops a.tmps) = false ∧ v = undef)

theorem YC.of_same {o : Oper} {v : Value} {a a' : Act} (hy : YC P ops C o v a) (he : execOp a'.eval o = execOp a.eval o)
    (hw : Region.wanted o (yielded ops a'.tmps) = Region.wanted o (yielded ops a.tmps)) : YC P ops C o v a' := by
  unfold YC at *
  rw [he, hw]
  exact hy

theorem YC.op {i : Nat} {o : Oper} {v : Value} {a : Act} (hF : WideF F) (hd : ∀ c, o.op ≠ .defer c) (hi : ops[i]? = some o) (hy : YC P ops C o v a) {K : Act → World → Prop} {w : World} (hC : C w)
    (h : K (a.put o.dst v) w) : wpOpIn F n P ops Q i K a w := by
  unfold wpOpIn
  simp only [hi]
  rcases hy with ⟨hw, hv⟩ | ⟨hw, rfl⟩
  · simp only [hw, if_true]
    refine ⟨fun f _ => hF.1 f, ?_⟩
    rw [Oper.semAt_eq _ _ _ hd, hv w hC]
    exact h
  · simp only [hw, Bool.false_eq_true, if_false]
    exact ⟨fun f _ => hF.1 f, h⟩

/-- an operation that is apart from it does not mind whether it has been carried out -/
theorem op_put {j : Nat} {oi oj : Oper} {v : Value} (hF : WideF F) (hj : ops[j]? = some oj) (hap : oi.apart ops oj = true)
    (hsi : ∀ cs b, oi.op ≠ .select cs b) (hsj : ∀ cs b, oj.op ≠ .select cs b) (hdj : ∀ c, oj.op ≠ .defer c)
    (hQ : ∀ c a w, ¬ Q (.panic c) a w) {K : Act → World → Prop} {a : Act} {w : World}
    (hy : YC P ops C oi v a) (h : wpOpIn F n P ops Q j K (a.put oi.dst v) w) :
    wpOpIn F n P ops Q j (fun a' w' => YC P ops C oi v a' ∧ K (a'.put oi.dst v) w') a w := by
  obtain ⟨h1, h2, h3⟩ := Oper.apart_spec hap
  have keep : ∀ (a : Act), YC P ops C oi v a → ∀ u, YC P ops C oi v (a.put oj.dst u) := fun a hy u =>
    hy.of_same (execOp_put oi hsi a oj.dst u h3) (wanted_put oi a oj.dst u h3)
  have keepD : ∀ d, YC P ops C oi v { a with defers := d :: a.defers } := fun d => hy.of_same rfl rfl
  unfold wpOpIn at *
  simp only [hj] at *
  rw [wanted_put oj a oi.dst v h1] at h
  split
  · rename_i hw
    simp only [hw, if_true] at h
    obtain ⟨_, h⟩ := h
    refine ⟨fun f _ => hF.1 f, ?_⟩
    rw [Oper.semAt_eq _ _ _ hdj] at h ⊢
    rw [execOp_put oj hsj a oi.dst v h1] at h
    generalize (execOp a.eval oj).run P w = r at *
    cases r with
    | ok x w' =>
      cases x <;> simp only [Oper.uponIn] at h ⊢
      case value u => exact ⟨keep a hy u, by rw [← Act.put_comm a v u h2]; exact h⟩
      case skip => exact ⟨keep a hy _, by rw [← Act.put_comm a v undef h2]; exact h⟩
      case defer d =>
        refine ⟨keep _ (keepD d) _, ?_⟩
        rw [← Act.put_comm _ v undef h2, ← Act.put_defers]
        exact h
      case enter f args =>
        refine ⟨h.1, CallsIn.mono h.2 fun e w'' he => ?_⟩
        cases e with
        | returned u => exact ⟨keep a hy u, by rw [← Act.put_comm a v u h2]; exact he⟩
        | panicked c => exact absurd he (hQ _ _ _)
        | outgrown => exact he
      case round l f tmps assign body =>
        refine ⟨h.1, RoundIn.mono h.2 fun e w'' he => ?_⟩
        cases e with
        | returned u => exact ⟨keep a hy u, by rw [← Act.put_comm a v u h2]; exact he⟩
        | panicked c => exact absurd he (hQ _ _ _)
        | outgrown => exact he
      case row row args => exact ⟨h.1, RowsIn.mono h.2 fun u w'' he => ⟨keep a hy u, by rw [← Act.put_comm a v u h2]; exact he⟩⟩
    | halt x w' =>
      cases x <;> simp only [Oper.uponIn] at h ⊢
      case panic u => exact absurd h (hQ _ _ _)
  · rename_i hw
    simp only [hw] at h
    exact ⟨fun f _ => hF.1 f, keep a hy _, by rw [← Act.put_comm a v undef h2]; exact h.2⟩

theorem notWaits {j i : Nat} {listed : Array Bool} (hj : j ∈ Region.ready .any ops listed) (hi : listed.getD i false = false) : waitsFor ops j i = false := by
  obtain ⟨_, o, ho, hall⟩ := mem_ready.1 hj
  unfold waitsFor
  simp only [ho, Option.map_some, Option.getD_some]
  rw [Array.any_eq_false]
  intro k hk hc
  simp only [Bool.and_eq_true, beq_iff_eq] at hc
  have := hall _ (Array.getElem_mem hk) hc.1
  rw [hc.2, hi] at this
  cases this

theorem getD_of_true {listed : Array Bool} {i : Nat} (h : listed.getD i true = false) : listed.getD i false = false := by
  rw [Array.getD_eq_getD_getElem?] at h ⊢
  cases hx : listed[i]? with
  | none => rfl
  | some b => simp [hx] at h ⊢; exact h

theorem wpS_first {i : Nat} {oi : Oper} {v : Value} (hF : WideF F) (hi : ops[i]? = some oi) (hsel : ∀ (j : Nat) (o : Oper) cs b, ops[j]? = some o → o.op ≠ .select cs b)
    (hdef : ∀ (j : Nat) (o : Oper) c, ops[j]? = some o → o.op ≠ .defer c) (hQ : ∀ c a w, ¬ Q (.panic c) a w)
    (hSi : ∀ D w, S (D.setIfInBounds i true) w ↔ S D w) (hSC : ∀ D w, S D w → (∀ j, D.getD j false = true → waitsFor ops j i = false) → C w) :
    ∀ (fuel : Nat) (listed : Array Bool) (a : Act) (w : World),
      (∀ j oj, ops[j]? = some oj → j ≠ i → listed.getD j true = false → (∀ e ∈ oj.after, Region.binds .any e = true → e.on ≠ i) → oi.apart ops oj = true) →
      (∀ j, listed.getD j false = true → waitsFor ops j i = false) →
      i ∈ Region.ready .any ops listed → YC P ops C oi v a → S listed w →
      wpS F n P ops Q S fuel (listed.setIfInBounds i true) (a.put oi.dst v) w → wpS F n P ops Q S (fuel + 1) listed a w := by
  intro fuel
  induction fuel with
  | zero =>
    intro listed a w _ hwait hr hy hS H
    refine ⟨fun h => (by rw [h] at hr; cases hr), fun j hj => ?_⟩
    by_cases hji : j = i
    · subst hji; exact hy.op hF (hdef j oi · hi) hi (hSC _ _ hS hwait) ⟨(hSi _ _).2 hS, H⟩
    · have := ready_mono hj hji
      rw [H.1] at this
      cases this
  | succ fuel ih =>
    intro listed a w hfree hwait hr hy hS H
    refine ⟨fun h => (by rw [h] at hr; cases hr), fun j hj => ?_⟩
    by_cases hji : j = i
    · subst hji; exact hy.op hF (hdef j oi · hi) hi (hSC _ _ hS hwait) ⟨(hSi _ _).2 hS, H⟩
    · have h1 := H.2 j (ready_mono hj hji)
      obtain ⟨hjun, oj, hoj, hall⟩ := mem_ready.1 hj
      have hiun := (mem_ready.1 hr).1
      have hiun' := getD_of_true hiun
      have hnot : ∀ e ∈ oj.after, Region.binds .any e = true → e.on ≠ i := fun e he hb heq => by
        have h1 := hall e he hb
        rw [heq, hiun'] at h1
        cases h1
      have h2 := op_put (C := C) hF hoj (hfree j oj hoj hji hjun hnot) (fun cs b => hsel i oi cs b hi) (fun cs b => hsel j oj cs b hoj) (fun c => hdef j oj c hoj) hQ hy h1
      have hfree' : ∀ k ok, ops[k]? = some ok → k ≠ i → (listed.setIfInBounds j true).getD k true = false →
          (∀ e ∈ ok.after, Region.binds .any e = true → e.on ≠ i) → oi.apart ops ok = true := fun k ok hk hki hun hno => by
        refine hfree k ok hk hki ?_ hno
        by_cases hjk : j = k
        · subst hjk; exact hjun
        · rw [getD_set_ne true hjk] at hun; exact hun
      have hwait' : ∀ k, (listed.setIfInBounds j true).getD k false = true → waitsFor ops k i = false := fun k hk => by
        by_cases hjk : j = k
        · subst hjk; exact notWaits hj hiun'
        · rw [getD_set_ne false hjk] at hk; exact hwait k hk
      refine wpOpIn_mono (fun a' w' h3 => ?_) h2
      obtain ⟨hy', hS', hrest⟩ := h3
      rw [Array.setIfInBounds_comm _ _ (Ne.symm hji)] at hS' hrest
      have hSj := (hSi _ _).1 hS'
      exact ⟨hSj, ih (listed.setIfInBounds j true) a' w' hfree' hwait' (ready_mono hr (Ne.symm hji)) hy' hSj hrest⟩
end
end Go.Ideal

set_option linter.unusedSimpArgs false
set_option linter.unusedVariables false
namespace Go.Ideal
open Go Go.RowKit

/-- no operation that has been carried out and acts waits for i -/
def liveAt (ops : Array Oper) (D : Array Bool) (i : Nat) : Prop := ∀ j, D.getD j false = true → quietAt ops j = false → waitsFor ops j i = false
/-- the cells of E are as they were in w1 -/
def SE (ops : Array Oper) (ρ0 : RM) (w1 : World) (E : Held) (D : Array Bool) (w : World) : Prop :=
  ∀ e ∈ E, liveAt ops D e.1 → ∀ rb, ρ0.block e.2.1 = some rb → w.cell? ⟨rb, e.2.2.1, none⟩ = w1.cell? ⟨rb, e.2.2.1, none⟩

section
variable {P : Program} {base : Nat} {w0 : World} {ops : Array Oper} {F : Fence} {n : Nat} {Q : Exit → Act → World → Prop}

theorem liveAt_set {D : Array Bool} {i k : Nat} (hq : quietAt ops i = true) : liveAt ops (D.setIfInBounds i true) k ↔ liveAt ops D k := by
  constructor
  · intro h j hj hn
    refine h j ?_ hn
    exact getD_set_true hj
  · intro h j hj hn
    by_cases e : i = j
    · subst e; rw [hq] at hn; cases hn
    · rw [getD_set_ne false e] at hj; exact h j hj hn

theorem SE_set {ρ0 : RM} {w1 : World} {E : Held} {i : Nat} (hq : quietAt ops i = true) (D : Array Bool) (w : World) : SE ops ρ0 w1 E (D.setIfInBounds i true) w ↔ SE ops ρ0 w1 E D w := by
  unfold SE
  constructor
  · intro h e he hl; exact h e he ((liveAt_set hq).2 hl)
  · intro h e he hl; exact h e he ((liveAt_set hq).1 hl)

theorem heldIn_cell {h : IHp} {l : Held} (hh : heldIn h l = true) {e : Nat × Nat × Nat × Value} (he : e ∈ l) : h.cell? e.2.1 e.2.2.1 = some e.2.2.2 := by
  unfold heldIn at hh
  rw [List.all_eq_true] at hh
  have := hh e he
  obtain ⟨i, b, off, v⟩ := e
  simp only at this ⊢
  split at this
  · rename_i u hu
    rw [hu, veq_eq this]
  · cases this

theorem cellsOf_mem {i b : Nat} : ∀ (vs : List Value) (off j : Nat) (v : Value), vs[j]? = some v → (i, b, off + j, v) ∈ cellsOf i b off vs := by
  intro vs
  induction vs with
  | nil => intro off j v h; simp at h
  | cons u vs ih =>
    intro off j v h
    cases j with
    | zero => simp at h; subst h; simp [cellsOf]
    | succ j =>
      have := ih (off + 1) j v (by simpa using h)
      simp only [cellsOf, List.mem_cons]
      right
      rw [show off + (j + 1) = off + 1 + j by omega]; exact this

/-- a quiet operation leaves the heap alone -/
theorem quiet_heap {h h' : IHp} {ev : Operand → Value} {o : Oper} {v : Value} (hq : isQuiet o.op = true) (hp : iheap P h ev o = some (v, h')) : h' = h := by
  obtain ⟨dst, op, type, pos, after, guard⟩ := o
  have pc : ∀ {x : Option Value}, x.map (·, h) = some (v, h') → h' = h := by
    intro x hx
    simp only [Option.map_eq_some_iff, Prod.mk.injEq] at hx
    obtain ⟨_, _, _, rfl⟩ := hx; rfl
  cases op <;> simp only [isQuiet, Bool.false_eq_true] at hq <;> try (exact pc (by simpa only [iheap] using hp))
  rename_i c
  obtain ⟨callee, args, ats⟩ := c
  cases callee with
  | builtin b => cases b <;> simp at hq <;> exact pc (by simpa only [iheap] using hp)
  | _ => simp at hq

theorem quiet_callee {ev : Operand → Value} {o : Oper} (hq : isQuiet o.op = true) : icallee P ev o = none := by
  obtain ⟨dst, op, type, pos, after, guard⟩ := o
  cases op <;> simp only [isQuiet, Bool.false_eq_true] at hq <;> try rfl
  rename_i c
  obtain ⟨callee, args, ats⟩ := c
  cases callee with
  | builtin b => rfl
  | _ => simp at hq

/-- what a quiet operation yields, in every world whose cells are as at the region's start -/
theorem quiet_yields {ρ0 ρ : RM} {w1 w : World} {h0 : IHp} {st : St} {a : Act} {o : Oper} {i : Nat} {v : Value} {h' : IHp} {more : Held} (hq : isQuiet o.op = true) (hle : ρ0.le ρ) (H0 : HRel P base w0 ρ0 h0 w1)
    (S : StRel P base w0 ρ st a w) (hok : okOper st.nt o = true) (hm : heldOf P st.h st.eval i o = some more) (h0m : heldIn h0 more = true) (hp : iheap P st.h st.eval o = some (v, h')) :
    ∃ v', R ρ v v' ∧ ∀ w2 : World, (∀ e ∈ more, ∀ rb, ρ0.block e.2.1 = some rb → w2.cell? ⟨rb, e.2.2.1, none⟩ = w1.cell? ⟨rb, e.2.2.1, none⟩) → (execOp a.eval o).run P w2 = .ok (.value v') w2 := by
  have hev := S.evs hok
  obtain ⟨dst, op, type, pos, after, guard⟩ := o
  by_cases hload : ∃ t x, op = .load t x
  · obtain ⟨t, x, rfl⟩ := hload
    simp only [iheap, Option.map_eq_some_iff, Prod.mk.injEq] at hp
    obtain ⟨u, hu, rfl, _⟩ := hp
    have hx := hev x (by simp [Op.operands])
    simp only [heldOf] at hm
    unfold iload at hu
    cases hxv : st.eval x with
    | pointer ad =>
      cases ad with
      | none => simp [hxv] at hu
      | some ad =>
        rw [hxv] at hx hu hm
        obtain ⟨hs, rb, hb, hax⟩ := R_ptr hx
        simp only [Option.bind_eq_some_iff] at hm hu
        obtain ⟨g, hg, hm⟩ := hm
        obtain ⟨g', hg', hu⟩ := hu
        rw [hg] at hg'; cases hg'
        -- the block lay at the start
        have hstart : ∀ e ∈ more, e.2.1 = ad.block → ρ0.block ad.block = some rb := by
          intro e he heb
          obtain ⟨_, rb', _, h1, _⟩ := H0.cell (heldIn_cell h0m he)
          rw [heb] at h1
          have := RM.block_mono hle h1
          rw [hb] at this; cases this; exact h1
        cases g with
        | true =>
          simp only [Option.bind_eq_some_iff, Option.map_eq_some_iff] at hm hu
          obtain ⟨n1, hn1, vs, hvs, rfl⟩ := hm
          obtain ⟨n2, hn2, vs2, hvs2, rfl⟩ := hu
          rw [hn1] at hn2; cases hn2
          rw [hvs] at hvs2; cases hvs2
          have hlen := (S.heap.row hb _ _ _ hvs).1
          -- the values at the start
          have hval : ∀ (j : Nat) v, vs[j]? = some v → ∃ v', w1.cell? ⟨rb, ad.off + j, none⟩ = some v' ∧ R ρ v v' := by
            intro j v hj
            have hmem := cellsOf_mem (i := i) (b := ad.block) vs ad.off j v hj
            have hc := heldIn_cell h0m hmem
            obtain ⟨_, rb', v', h1, h2, h3⟩ := H0.cell hc
            have h4 := hstart _ hmem rfl
            simp only at h1
            rw [h4] at h1; cases h1
            exact ⟨v', h2, R_mono hle _ _ h3⟩
          let vs' := (List.range vs.length).map fun j => (w1.cell? ⟨rb, ad.off + j, none⟩).getD undef
          have hvs' : ∀ (j : Nat) v, vs[j]? = some v → ∃ v', vs'[j]? = some v' ∧ R ρ v v' ∧ w1.cell? ⟨rb, ad.off + j, none⟩ = some v' := by
            intro j v hj
            obtain ⟨v', h1, h2⟩ := hval j v hj
            refine ⟨v', ?_, h2, h1⟩
            have hlt := (List.getElem?_eq_some_iff.1 hj).1
            simp [vs', hlt, h1]
          have hl' : vs'.length = vs.length := by simp [vs']
          refine ⟨.agg vs'.toArray, ?_, fun w2 hw2 => ?_⟩
          · rw [R_agg]
            exact ⟨_, rfl, RA_of_lists hl' fun j v hj => let ⟨v', a, b, _⟩ := hvs' j v hj; ⟨v', a, b⟩⟩
          · have hc2 : ∀ (j : Nat) v', vs'[j]? = some v' → w2.cell? ⟨rb, ad.off + j, none⟩ = some v' := by
              intro j v' hj
              have hlt := (List.getElem?_eq_some_iff.1 hj).1
              rw [hl'] at hlt
              obtain ⟨v'', h1, _, h3⟩ := hvs' j vs[j] (by simp [hlt])
              rw [hj] at h1; cases h1
              have hmem := cellsOf_mem (i := i) (b := ad.block) vs ad.off j vs[j] (by simp [hlt])
              have := hw2 _ hmem rb (hstart _ hmem rfl)
              simp only at this
              rw [this]; exact h3
            have hrun := load_agg (P := P) (w := w2) (t := t) (rb := rb) (off := ad.off) (vs' := vs') hg (by rw [hl', hlen]; exact hn1) hc2
            simp only [execOp, hax, Sem.run_bind, hrun, Result.andThen, Sem.run_pure]
        | false =>
          simp only [Option.map_eq_some_iff] at hm
          obtain ⟨u', hu', rfl⟩ := hm
          rw [hu'] at hu; cases hu
          have hmem : ((i, ad.block, ad.off, u) : Nat × Nat × Nat × Value) ∈ ([(i, ad.block, ad.off, u)] : Held) := by simp
          have hc := heldIn_cell h0m hmem
          obtain ⟨_, rb', v', h1, h2, h3⟩ := H0.cell hc
          have h4 := hstart _ hmem rfl
          simp only at h1
          rw [h4] at h1; cases h1
          refine ⟨v', R_mono hle _ _ h3, fun w2 hw2 => ?_⟩
          have := hw2 _ hmem rb h4
          simp only at this
          have hrun := load_one (P := P) (w := w2) (t := t) (rb := rb) (off := ad.off) (v := v') hg (by rw [this]; exact h2)
          simp only [execOp, hax, Sem.run_bind, hrun, Result.andThen, Sem.run_pure]
    | _ => simp [hxv] at hu
  · have hpure : ∃ u, ipure P st.h st.eval ⟨dst, op, type, pos, after, guard⟩ = some u ∧ v = u := by
      have pc : ∀ {x : Option Value}, x.map (·, st.h) = some (v, h') → ∃ u, x = some u ∧ v = u := by
        intro x hx
        simp only [Option.map_eq_some_iff, Prod.mk.injEq] at hx
        obtain ⟨u, h1, h2, _⟩ := hx
        exact ⟨u, h1, h2.symm⟩
      cases op <;> simp only [isQuiet, Bool.false_eq_true] at hq <;> try (exact pc (by simpa only [iheap] using hp))
      · exact absurd ⟨_, _, rfl⟩ hload
      · rename_i c
        obtain ⟨callee, args, ats⟩ := c
        cases callee with
        | builtin b => cases b <;> simp at hq <;> exact pc (by simpa only [iheap] using hp)
        | _ => simp at hq
    obtain ⟨u, hu, rfl⟩ := hpure
    obtain ⟨v', h1, h2⟩ := ipure_sound S.heap hu hev
    exact ⟨v', h1, fun w2 _ => h2 w2⟩
theorem closed_set {listed : Array Bool} {i : Nat} (hi : i ∈ Region.ready .any ops listed) (h : ∀ j k, listed.getD j false = true → waitsFor ops j k = true → listed.getD k false = true) :
    ∀ j k, (listed.setIfInBounds i true).getD j false = true → waitsFor ops j k = true → (listed.setIfInBounds i true).getD k false = true := by
  intro j k hj hw
  by_cases e : i = j
  · subst e
    refine getD_set_true ?_
    cases hk : listed.getD k false with
    | true => rfl
    | false => rw [notWaits hi hk] at hw; cases hw
  · rw [getD_set_ne false e] at hj
    exact getD_set_true (h j k hj hw)

/-- a region that draws, along its plan -/
theorem iplan_sound {call : ICall} {ρ0 : RM} {w1 : World} {h0 : IHp} (hF : WideF F) (hcall : CallOK P base w0 call) (hsel : ∀ (j : Nat) (o : Oper) cs b, ops[j]? = some o → o.op ≠ .select cs b)
    (hdef : ∀ (j : Nat) (o : Oper) c, ops[j]? = some o → o.op ≠ .defer c) (hQ : ∀ c a w, ¬ Q (.panic c) a w) (H0 : HRel P base w0 ρ0 h0 w1) :
    ∀ (fuel : Nat) (listed : Array Bool) (k : List PStep) (st st' : St) (held : Held) (snaps : List IHp), planFrom ops fuel listed = some k → iplan P call ops k st held snaps = some st' →
    h0 ∈ snaps → st.h ∈ snaps → (∀ j i, listed.getD j false = true → waitsFor ops j i = true → listed.getD i false = true) →
    ∃ Ek : Held, (∀ sn ∈ snaps, heldIn sn Ek = true) ∧ ∀ (E : Held), (∀ e ∈ Ek, e ∈ E) → (∀ e ∈ E, heldIn h0 [e] = true) → (∀ e ∈ E, e ∈ Ek ∨ (liveAt ops listed e.1 → e ∈ held)) → heldIn st.h held = true →
      ∀ (ρ : RM) (a : Act) (w : World), ρ0.le ρ → StRel P base w0 ρ st a w → (∀ (i : Nat) o, ops[i]? = some o → okOper st.nt o = true) → SE ops ρ0 w1 E listed w →
      (∀ ρ' a' w', ρ.le ρ' → StRel P base w0 ρ' st' a' w' → st'.nt = st.nt → st'.rd = st.rd → Q .normal a' w') →
      wpS F n P ops Q (SE ops ρ0 w1 E) fuel listed a w := by
  intro fuel
  induction fuel with
  | zero =>
    intro listed k st st' held snaps hp hi h0m hstm hclosed
    simp only [planFrom] at hp
    split at hp
    · rename_i hr
      cases hp
      simp only [iplan, Option.some.injEq] at hi
      subst hi
      refine ⟨[], fun sn _ => rfl, fun E _ _ _ _ ρ a w _ S _ _ hfin => ⟨by simpa using hr, hfin ρ a w (RM.le_refl _) S rfl rfl⟩⟩
    · cases hp
  | succ fuel ih =>
    intro listed k st st' held snaps hp hi h0m hstm hclosed
    simp only [planFrom] at hp
    split at hp
    · -- take
      rename_i i hfind
      simp only [Option.map_eq_some_iff] at hp
      obtain ⟨k', hk', rfl⟩ := hp
      have hmem := List.mem_of_find?_eq_some hfind
      have hprop := List.find?_some hfind
      simp only [iplan, Option.bind_eq_some_iff] at hi
      obtain ⟨o, ho, hi⟩ := hi
      simp only [ho, Option.map_some, Option.getD_some, Bool.and_eq_true] at hprop
      obtain ⟨hq, hfree⟩ := hprop
      have hqa : quietAt ops i = true := by simp [quietAt, ho, hq]
      have hiun := getD_of_true (mem_ready.1 hmem).1
      split at hi
      · rename_i hw
        simp only [Option.bind_eq_some_iff] at hi
        obtain ⟨more, hmore, hi⟩ := hi
        split at hi
        · rename_i hall
          simp only [Option.bind_eq_some_iff] at hi
          obtain ⟨⟨v, h'⟩, hh, hi⟩ := hi
          simp only at hi
          rw [List.all_eq_true] at hall
          obtain ⟨Ek', hE1, hE2⟩ := ih _ k' _ st' (more ++ held) snaps hk' hi h0m hstm (closed_set hmem hclosed)
          refine ⟨more ++ Ek', fun sn hsn => ?_, fun E hsub hE0 hE hheld ρ a w hle S hok hSE hfin => ?_⟩
          · have h1 := hall sn hsn
            have h2 := hE1 sn hsn
            unfold heldIn at h1 h2 ⊢
            rw [List.all_append, h1, h2]; rfl
          · obtain ⟨v', hv', hy⟩ := quiet_yields (i := i) hq hle H0 S (hok i o ho) hmore (hall h0 h0m) hh
            obtain ⟨hdst, _⟩ := okOper_ops (hok i o ho)
            -- the cells that it reads
            let C : World → Prop := fun w2 => ∀ e ∈ more, ∀ rb, ρ0.block e.2.1 = some rb → w2.cell? ⟨rb, e.2.2.1, none⟩ = w1.cell? ⟨rb, e.2.2.1, none⟩
            have hmi : ∀ e ∈ more, e.1 = i := by
              intro e he
              have cm : ∀ (vs : List Value) (b off : Nat), ∀ e ∈ cellsOf i b off vs, e.1 = i := by
                intro vs
                induction vs with
                | nil => intro b off e he; simp [cellsOf] at he
                | cons u vs ihv =>
                  intro b off e he
                  simp only [cellsOf, List.mem_cons] at he
                  rcases he with rfl | he
                  · rfl
                  · exact ihv _ _ _ he
              unfold heldOf at hmore
              split at hmore
              · split at hmore
                · simp only [Option.bind_eq_some_iff] at hmore
                  obtain ⟨g, hg, hmore⟩ := hmore
                  cases g with
                  | true =>
                    simp only [Option.bind_eq_some_iff, Option.map_eq_some_iff] at hmore
                    obtain ⟨_, _, vs, _, rfl⟩ := hmore
                    exact cm _ _ _ e he
                  | false =>
                    simp only [Option.map_eq_some_iff] at hmore
                    obtain ⟨_, _, rfl⟩ := hmore
                    simp at he; rw [he]
                · cases hmore
              · cases hmore; cases he
            refine wpS_first (C := C) (v := v') hF ho hsel hdef hQ (SE_set hqa) (fun D w2 hD hw2 e he rb hrb => ?_) fuel listed a w (fun j oj hj hne hun hno => Region.free_spec ho hfree j oj hj hne hun hno)
              (fun j hj => ?_) hmem (.inl ⟨by rw [wanted_eq S.slots]; exact hw, fun w2 hw2 => hy w2 hw2⟩) hSE ?_
            · refine hD e (hsub e (List.mem_append_left _ he)) (fun j hj _ => ?_) rb hrb
              rw [hmi e he]; exact hw2 j hj
            · -- nobody that has been carried out waits for i
              cases hwf : waitsFor ops j i with
              | false => rfl
              | true => have := hclosed j i hj hwf; rw [hiun] at this; cases this
            · refine hE2 E (fun e he => hsub e (List.mem_append_right _ he)) hE0 (fun e he => ?_) ?_ ρ (a.put o.dst v') w hle (S.put (RM.le_refl _) S.heap hdst hv') hok ((SE_set hqa _ _).2 hSE) fun ρ' a' w' hl S' e1 e2 => hfin ρ' a' w' hl S' e1 e2
              · rcases hE e he with h1 | h1
                · rcases List.mem_append.1 h1 with h1 | h1
                  · exact .inr fun _ => List.mem_append_left _ h1
                  · exact .inl h1
                · exact .inr fun hl => List.mem_append_right _ (h1 ((liveAt_set hqa).1 hl))
              · have h1 := hall st.h hstm
                unfold heldIn at h1 hheld ⊢
                rw [List.all_append, h1, hheld]; rfl
        · cases hi
      · rename_i hw
        obtain ⟨Ek', hE1, hE2⟩ := ih _ k' _ st' held snaps hk' hi h0m hstm (closed_set hmem hclosed)
        refine ⟨Ek', hE1, fun E hsub hE0 hE hheld ρ a w hle S hok hSE hfin => ?_⟩
        obtain ⟨hdst, _⟩ := okOper_ops (hok i o ho)
        have hw' : Region.wanted o (yielded ops a.tmps) = false := by rw [wanted_eq S.slots]; simpa using hw
        refine wpS_first (C := fun _ => True) (v := undef) hF ho hsel hdef hQ (SE_set hqa) (fun _ _ _ _ => trivial) fuel listed a w (fun j oj hj hne hun hno => Region.free_spec ho hfree j oj hj hne hun hno)
          (fun j hj => ?_) hmem (.inr ⟨hw', rfl⟩) hSE ?_
        · cases hwf : waitsFor ops j i with
          | false => rfl
          | true => have := hclosed j i hj hwf; rw [hiun] at this; cases this
        · refine hE2 E hsub hE0 (fun e he => ?_) hheld ρ (a.put o.dst undef) w hle (S.put (RM.le_refl _) S.heap hdst R_undef) hok ((SE_set hqa _ _).2 hSE) fun ρ' a' w' hl S' e1 e2 => hfin ρ' a' w' hl S' e1 e2
          rcases hE e he with h1 | h1
          · exact .inl h1
          · exact .inr fun hl => h1 ((liveAt_set hqa).1 hl)
    · -- one
      split at hp
      · rename_i hr
        cases hp
        simp only [iplan, Option.some.injEq] at hi
        subst hi
        refine ⟨[], fun sn _ => rfl, fun E _ _ _ _ ρ a w _ S _ _ hfin => ⟨fun _ => hfin ρ a w (RM.le_refl _) S rfl rfl, fun i hi => ?_⟩⟩
        rw [hr] at hi; cases hi
      · rename_i j hr
        simp only [Option.map_eq_some_iff] at hp
        obtain ⟨k', hk', rfl⟩ := hp
        simp only [iplan, Option.bind_eq_some_iff] at hi
        obtain ⟨st1, hst1, hi⟩ := hi
        split at hi
        · rename_i hheld1
          obtain ⟨Ek', hE1, hE2⟩ := ih _ k' _ st' (heldBut ops j held) (st1.h :: snaps) hk' hi (List.mem_cons_of_mem _ h0m) (by simp) (closed_set (by rw [hr]; simp) hclosed)
          refine ⟨Ek', fun sn hsn => hE1 sn (List.mem_cons_of_mem _ hsn), fun E hsub hE0 hE hheld ρ a w hle S hok hSE hfin => ?_⟩
          refine ⟨fun h => (by rw [hr] at h; cases h), fun i hi' => ?_⟩
          rw [hr] at hi'
          simp only [List.mem_singleton] at hi'
          subst hi'
          have hE' : ∀ e ∈ E, e ∈ Ek' ∨ (liveAt ops (listed.setIfInBounds i true) e.1 → e ∈ heldBut ops i held) := by
            intro e he
            rcases hE e he with h1 | h1
            · exact .inl h1
            · refine .inr fun hl => ?_
              have hl0 : liveAt ops listed e.1 := fun j hj hn => hl j (getD_set_true hj) hn
              have h2 := h1 hl0
              unfold heldBut
              split
              · exact h2
              · rename_i hnq
                rw [List.mem_filter]
                refine ⟨h2, ?_⟩
                have hin : i < listed.size := by
                  have := (mem_ready.1 (show i ∈ Region.ready .any ops listed by rw [hr]; simp)).1
                  rw [Array.getD_eq_getD_getElem?] at this
                  cases hx : listed[i]? with
                  | none => simp [hx] at this
                  | some b => exact (Array.getElem?_eq_some_iff.1 hx).1
                have := hl i (by simp [Array.getD, hin]) (by simpa using hnq)
                simp [this]
          refine iop_sound hcall (fun o ho => hok i o ho) hst1 S hF fun ρ' a' w' hle' S' e1 e2 e3 => ?_
          have hSE' : SE ops ρ0 w1 E (listed.setIfInBounds i true) w' := by
            intro e he hl rb hrb
            -- e's cell is in st1.h as it was at the start
            have hcell : st1.h.cell? e.2.1 e.2.2.1 = some e.2.2.2 := by
              rcases hE' e he with h1 | h1
              · exact heldIn_cell (hE1 st1.h (by simp)) h1
              · exact heldIn_cell hheld1 (h1 hl)
            obtain ⟨_, rb', v', h1, h2, h3⟩ := S'.heap.cell hcell
            have h4 := RM.block_mono (RM.le_trans hle hle') hrb
            rw [h4] at h1; cases h1
            obtain ⟨_, rb'', v'', h5, h6, h7⟩ := H0.cell (heldIn_cell (hE0 e he) (List.mem_singleton.2 rfl))
            rw [hrb] at h5; cases h5
            rw [h2, h6, R_fun _ _ _ h3 (R_mono (RM.le_trans hle hle') _ _ h7)]
          exact ⟨hSE', hE2 E hsub hE0 hE' hheld1 ρ' a' w' (RM.le_trans hle hle') S' (by rw [e1]; exact hok) hSE' fun ρ2 a2 w2 hl2 S2 e4 e5 => hfin ρ2 a2 w2 (RM.le_trans hle' hl2) S2 (e4.trans e1) (e5.trans e2)⟩
        · cases hi
      · cases hp
end
end Go.Ideal

set_option linter.unusedSimpArgs false
set_option linter.unusedVariables false
namespace Go.Ideal
open Go Go.RowKit

def IExit.toExit : IExit → Exit
  | .normal => .normal
  | .exit id => .exit id
  | .ret => .ret

def CPost (P : Program) (base : Nat) (w0 : World) (ρ : RM) (st : St) (e : IExit) (st' : St) : Exit → Act → World → Prop := fun x a' w' =>
  x = e.toExit ∧ ∃ ρ', ρ.le ρ' ∧ StRel P base w0 ρ' st' a' w' ∧ st'.nt = st.nt ∧ st'.rd = st.rd

def CodeOK (P : Program) (base : Nat) (w0 : World) (run : Code → St → Option (IExit × St)) : Prop :=
  ∀ c st e st', run c st = some (e, st') → okCode st.nt c = true → ∀ ρ a w, StRel P base w0 ρ st a w → ∀ F n, WideF F → (st.rd = false → F.round = none) → c.wpIn F n P (CPost P base w0 ρ st e st') a w

section
variable {P : Program} {base : Nat} {w0 w : World} {ρ : RM} {h : IHp} {st : St} {a : Act}

/-! results -/
def resSem (tmps : Array Value) : ResultVar → Sem Value
  | .tmp t => pure (tmps.getD t undef)
  | .cell a t => do loadVar t (← asAddr (tmps.getD a undef))
theorem results_eq (fn : Func) (tmps : Array Value) : results fn tmps = (do
    let vs ← fn.results.mapM (resSem tmps)
    pure (if h : vs.size = 1 then vs[0] else .tuple vs)) := by
  unfold results
  congr 1
theorem results_sound {fn : Func} {vs : List Value} (S : SRel ρ st.s st.nt a.tmps) (H : HRel P base w0 ρ st.h w) (hr : iresults P st fn.results.toList = some vs) :
    ∃ v', (results fn a.tmps).run P w = .ok v' w ∧ R ρ (iret vs) v' := by
  have gen : ∀ (l : List ResultVar) (vs : List Value), iresults P st l = some vs → ∃ vs' : List Value, vs'.length = vs.length ∧ (∀ (j : Nat) v, vs[j]? = some v → ∃ v', vs'[j]? = some v' ∧ R ρ v v') ∧
      (l.mapM (resSem a.tmps)).run P w = .ok vs' w := by
    intro l
    induction l with
    | nil => intro vs h; simp [iresults] at h; subst h; exact ⟨[], rfl, by simp, by simp⟩
    | cons x l ih =>
      intro vs h
      cases x with
      | tmp t =>
        simp only [iresults, Option.map_eq_some_iff] at h
        obtain ⟨vs1, h1, rfl⟩ := h
        obtain ⟨vs', h2, h3, h4⟩ := ih vs1 h1
        refine ⟨a.tmps.getD t undef :: vs', by simp [h2], fun j v hj => ?_, ?_⟩
        · cases j with
          | zero => simp at hj; subst hj; exact ⟨_, by simp, S.2 t⟩
          | succ j => obtain ⟨v', a, b⟩ := h3 j v (by simpa using hj); exact ⟨v', by simpa using a, b⟩
        · rw [List.mapM_cons]
          simp only [resSem, Sem.run_bind, Sem.run_pure, Result.andThen, h4]
      | cell ad t =>
        simp only [iresults, Option.bind_eq_some_iff, Option.map_eq_some_iff] at h
        obtain ⟨u, hu, vs1, h1, rfl⟩ := h
        obtain ⟨vs', h2, h3, h4⟩ := ih vs1 h1
        obtain ⟨u', hR, hrun⟩ := load_sound H hu (S.2 ad)
        have hld : (resSem a.tmps (.cell ad t)).run P w = .ok u' w := by
          unfold iload at hu
          have hs := S.2 ad
          cases hv : st.s ad with
          | pointer pa =>
            cases pa with
            | none => simp [hv] at hu
            | some pa =>
              rw [hv] at hs
              obtain ⟨_, b, _, he⟩ := R_ptr hs
              rw [he] at hrun
              simp only [Instr.loadAt, Instr.sureAddr, Sem.run_bind, Sem.run_pure, Result.andThen] at hrun
              simp only [resSem, he, asAddr, Sem.run_bind, Sem.run_pure, Result.andThen, hrun]
          | _ => simp [hv] at hu
        refine ⟨u' :: vs', by simp [h2], fun j v hj => ?_, ?_⟩
        · cases j with
          | zero => simp at hj; subst hj; exact ⟨_, by simp, hR⟩
          | succ j => obtain ⟨v', a, b⟩ := h3 j v (by simpa using hj); exact ⟨v', by simpa using a, b⟩
        · rw [List.mapM_cons]
          simp only [Sem.run_bind, hld, Sem.run_pure, Result.andThen, h4]
  obtain ⟨vs', h1, h2, h3⟩ := gen _ _ hr
  have hm : (fn.results.mapM (resSem a.tmps)).run P w = .ok vs'.toArray w := by
    rw [Array.mapM_eq_mapM_toList, ← bind_pure_comp]
    simp only [Sem.run_bind, h3, Result.andThen, Sem.run_pure]
  refine ⟨if h : vs'.toArray.size = 1 then vs'.toArray[0] else .tuple vs'.toArray, ?_, ?_⟩
  · rw [results_eq]
    simp only [Sem.run_bind]
    rw [hm]
    simp only [Result.andThen, Sem.run_pure]
  · by_cases h1' : vs.length = 1
    · match vs, h1' with
      | [v], _ =>
        obtain ⟨v', e, hR⟩ := h2 0 v (by simp)
        have hl : vs'.length = 1 := by simpa using h1
        match vs', hl with
        | [u], _ => simp at e; subst e; simpa [iret] using hR
    · rw [dif_neg (by simpa [h1] using h1')]
      have : iret vs = .tuple vs.toArray := by
        unfold iret
        split
        · simp at h1'
        · rfl
      rw [this, R_tuple]
      exact ⟨_, rfl, RA_of_lists h1 h2⟩

/-! the end of a function -/
theorem shut_sound {F : Fence} {n : Nat} {fn : Func} {tmps : Array Value} {Rr : Ending → World → Prop} : ∀ (ms : List Nat) (ds : List Deferred) (h h1 : IHp) (w : World), HRel P base w0 ρ h w → DRel ρ ms ds → ishut h ms = some h1 →
    (∀ w1, HRel P base w0 ρ h1 w1 → LeavesInM F n P fn tmps Rr [] .returning w1) → LeavesInM F n P fn tmps Rr ds .returning w := by
  intro ms
  induction ms with
  | nil =>
    intro ds h h1 w H hd hs hfin
    cases ds with
    | nil => simp only [ishut, Option.some.injEq] at hs; subst hs; exact hfin w H
    | cons x ds => exact hd.elim
  | cons d ms ih =>
    intro ds h h1 w H hd hs hfin
    cases ds with
    | nil => exact hd.elim
    | cons x ds =>
      obtain ⟨⟨r, y, hρ, rfl⟩, hd⟩ := hd
      simp only [ishut] at hs
      split at hs
      · rename_i hdefr
        obtain ⟨r', y', hρ', _, hrw, hO⟩ := H.blk _ _ hdefr
        rw [hρ] at hρ'; cases hρ'
        have hO : w.heap[r]? = some (.deferred (some [])) := hO
        refine ⟨by simp, .inl ⟨r, w.putObj r (.deferred none), rfl, run_takeDeferred hO, ?_⟩⟩
        refine ih ds _ h1 _ ?_ hd hs hfin
        exact H.turn hdefr rfl hρ trivial (fun k hk => World.putObj_heap_other hk) World.putObj_size rfl rfl rfl
      · cases hs

theorem RA_args {args args' : Array Value} {nt : Nat} (h : RA ρ args args') (hn : args.size ≤ nt) : SRel ρ (fun i => args.getD i undef) nt (args' ++ Array.replicate (nt - args'.size) undef) := by
  refine ⟨by simp [← h.1]; omega, fun t => ?_⟩
  by_cases ht : t < args.size
  · have ht' : t < args'.size := by rw [← h.1]; exact ht
    have h1 : args.getD t undef = args[t] := by simp [Array.getD, ht]
    have h2 : (args' ++ Array.replicate (nt - args'.size) undef).getD t undef = args'.getD t undef := by
      simp [Array.getD_eq_getD_getElem?, Array.getElem?_append, ht']
    simp only [h1, h2]
    exact h.2 t ht
  · have ht' : ¬ t < args'.size := by rw [← h.1]; exact ht
    have h1 : args.getD t undef = undef := by simp [Array.getD, ht]
    have h2 : (args' ++ Array.replicate (nt - args'.size) undef).getD t undef = undef := by
      rw [Array.getD_eq_getD_getElem?, Array.getElem?_append, if_neg ht', Array.getElem?_replicate]
      split <;> rfl
    simp only [h1, h2]
    exact R_undef

theorem putAll_sound : ∀ (ps : List Tmp) (args args' : List Value) (s : Nat → Value) (nt : Nat) (tmps : Array Value), SRel ρ s nt tmps → ps.all (· < nt) = true → args'.length = args.length →
    (∀ (j : Nat) v, args[j]? = some v → ∃ v', args'[j]? = some v' ∧ R ρ v v') → SRel ρ (putAll s (ps.zip args)) nt ((ps.zip args').foldl (fun tmps (x : Tmp × Value) => tmps.setIfInBounds x.1 x.2) tmps) := by
  intro ps
  induction ps with
  | nil => intro args args' s nt tmps S _ _ _; simpa [putAll] using S
  | cons p ps ih =>
    intro args args' s nt tmps S hp hl hr
    cases args with
    | nil =>
      have : args' = [] := by cases args' <;> simp_all
      subst this
      simpa [putAll] using S
    | cons v args =>
      cases args' with
      | nil => simp at hl
      | cons v' args' =>
        simp only [List.all_cons, Bool.and_eq_true, decide_eq_true_eq] at hp
        obtain ⟨u, hu, hv⟩ := hr 0 v (by simp)
        simp at hu; subst hu
        simp only [List.zip_cons_cons, putAll, List.foldl_cons]
        exact ih args args' _ nt _ (S.put hp.1 hv) hp.2 (by simpa using hl) fun j u hj => by
          obtain ⟨u', a, b⟩ := hr (j + 1) u (by simpa using hj)
          exact ⟨u', by simpa using a, b⟩

theorem CallsIn.plain_of {F : Fence} {n : Nat} {f : FuncId} {args : Array Value} {w : World} {Rr : Ending → World → Prop} (h : CallsIn F.plain n P f args w Rr) : CallsIn F n P f args w Rr := h

theorem callOK_of_code {run : Code → St → Option (IExit × St)} (hP : okProg P = true) (hrun : CodeOK P base w0 run) : CallOK P base w0 (icallBy P run) := by
  constructor
  · intro f args h v h' hc ρ w args' H hargs F n hF
    simp only [icallBy, ienter] at hc
    split at hc
    · cases hc
    · rename_i fn hfn
      split at hc
      · cases hc
      · rename_i c hbody
        split at hc
        · rename_i hsz
          have hokf : okCode fn.ntmps c = true := by
            unfold okProg at hP
            simp only [Bool.and_eq_true, List.all_eq_true] at hP
            have := hP.1 fn (Array.mem_toList_iff.2 (Array.mem_of_getElem? hfn))
            simpa [okFunc, hbody] using this
          have S0 : StRel P base w0 ρ { s := fun i => args.getD i undef, h, nt := fn.ntmps } { tmps := args' ++ Array.replicate (fn.ntmps - args'.size) undef, defers := [] } w := ⟨H, RA_args hargs hsz, trivial⟩
          have key : ∀ e st', run c { s := fun i => args.getD i undef, h, nt := fn.ntmps } = some (e, st') → (e = .normal ∨ e = .ret) → ((ishut st'.h st'.marks).bind fun h => (iresults P { st' with h } fn.results.toList).map fun vs => (iret vs, h)) = some (v, h') →
              CallsIn F n P f args' w (RPost P base w0 ρ h' v) := by
            intro e st' he hen hres
            simp only [Option.bind_eq_some_iff, Option.map_eq_some_iff, Prod.mk.injEq] at hres
            obtain ⟨h1, hsh, vs, hvs, rfl, rfl⟩ := hres
            refine CallsIn.plain_of (callsIn_of_wp_marks hfn hbody (hF.1 f) (wpIn_mono (hrun c _ e st' he hokf ρ _ w S0 F.plain n hF fun _ => rfl) ?_))
            rintro x a' w' ⟨rfl, ρ', hle, S', hnt, hrd⟩
            have fin : LeavesInM F.plain n P fn a'.tmps (RPost P base w0 ρ h1 (iret vs)) a'.defers .returning w' := by
              refine shut_sound (ρ := ρ') st'.marks a'.defers st'.h h1 w' S'.heap S'.defers hsh fun w1 H1 => ?_
              obtain ⟨v', hv1, hv2⟩ := results_sound (st := { st' with h := h1 }) S'.slots H1 hvs
              exact ⟨v', hv1, ρ', v', rfl, hle, H1, hv2⟩
            rcases hen with rfl | rfl <;> exact fin
          split at hc
          · rename_i st' he; exact key _ _ he (.inl rfl) hc
          · rename_i st' he; exact key _ _ he (.inr rfl) hc
          · cases hc
        · cases hc
  · intro l args h v h' hc ρ w args' r H hargs hl hr
    simp only [icallBy, iround] at hc
    rw [if_neg (by omega)] at hc
    split at hc
    · rename_i nt T ps assign body p hloop
      split at hc
      · rename_i hsz
        obtain ⟨r', x, hρ, _, _, L, hL, hL1, hL2, hL3, hL4, hL5, hL6, hL7, hL8, hL9, hL10⟩ := H.blk _ _ hloop
        have hrr : r = r' := by
          simp only [RM.block, show ¬ l % 2 = 1 by omega, if_false, hρ, Option.map_some, Option.some.injEq] at hr; exact hr.symm
        subst hrr
        refine ⟨L, hL, by rw [← hargs.1, hsz, hL3], fun F n hF => ?_⟩
        refine roundIn_of_wpIn (hF.1 _) ?_
        have S0 : StRel P base w0 ρ { s := putAll T (ps.toList.zip args.toList), h, nt, rd := true } { tmps := (L.params.zip args').foldl (fun tmps (t, a) => tmps.setIfInBounds t a) L.tmps, defers := [] } w := by
          refine ⟨H, ?_, trivial⟩
          have := putAll_sound (ρ := ρ) ps.toList args.toList args'.toList T nt L.tmps ⟨hL1, hL2⟩ hL8 (RA_list hargs).1 (RA_list hargs).2
          rw [hL3, ← Array.foldl_toList, Array.toList_zip]
          exact this
        split at hc
        · rename_i st1 hst1
          rw [hL4]
          refine wpIn_mono (hrun assign _ _ st1 hst1 hL9 ρ _ w S0 (F.inRound r) n (hF.inRound r) (by simp)) ?_
          rintro x1 a1 w1 ⟨rfl, ρ1, hle1, S1, hnt1, hrd1⟩
          simp only [IExit.toExit, Exit.then]
          split at hc
          · rename_i nt1 T1 ps1 as1 b1 p1 hloop1
            obtain ⟨r1, x1, hρ1, _, hr1w, L1, hLL1, hM1, hM2, hM3, hM4, hM5, hM6, hM7, hM8⟩ := S1.heap.blk _ _ hloop1
            have := hle1 _ _ hρ
            rw [hρ1] at this; cases this
            refine ⟨_, run_beginRound hLL1 hM6, ?_⟩
            have H2 : HRel P base w0 ρ1 { st1.h with new := st1.h.new.set (l / 2) (.loop nt1 T1 ps1 as1 b1 .busy p1) } (w1.putObj r (.loop { L1 with state := .busy })) := by
              refine S1.heap.turn hloop1 rfl hρ1 ?_ (fun k hk => World.putObj_heap_other hk) World.putObj_size rfl rfl rfl
              exact ⟨_, World.putObj_heap_same hr1w, hM1, hM2, hM3, hM4, hM5, rfl, hM7, hM8⟩
            split at hc
            · rename_i e st2 hst2
              rw [hL5]
              refine wpIn_mono (hrun body _ e st2 hst2 (by rw [show ({ st1 with h := _ } : St).nt = st1.nt from rfl, hnt1]; exact hL10) ρ1 a1 _ ⟨H2, S1.slots, S1.defers⟩ (F.inRound r) n (hF.inRound r) (by
                intro h; rw [show ({ st1 with h := _ } : St).rd = st1.rd from rfl, hrd1] at h; cases h)) ?_
              rintro x2 a2 w2 ⟨rfl, ρ2, hle2, S2, _, _⟩
              split at hc
              · rename_i nt2 T2 ps2 as2 b2 s2 p2 hloop2
                obtain ⟨r2, x2, hρ2, _, hr2w, L2, hLL2, hN1, hN2, hN3, hN4, hN5, hN6, hN7, hN8⟩ := S2.heap.blk _ _ hloop2
                have := hle2 _ _ hρ1
                rw [hρ2] at this; cases this
                have hend := fun jump => run_endRound (P := P) jump hLL2
                have turn : ∀ (jump : Option Code), HRel P base w0 ρ2 { st2.h with new := st2.h.new.set (l / 2) (.loop nt2 T2 ps2 as2 b2 (if jump.isNone then .ready else .done) jump) } (w2.putObj r (.loop { L2 with state := if jump.isNone then .ready else .done, pending := jump })) := by
                  intro jump
                  refine S2.heap.turn hloop2 rfl hρ2 ?_ (fun k hk => World.putObj_heap_other hk) World.putObj_size rfl rfl rfl
                  exact ⟨_, World.putObj_heap_same hr2w, hN1, hN2, hN3, hN4, hN5, rfl, rfl, hN8⟩
                cases e with
                | normal =>
                  simp only [Option.some.injEq, Prod.mk.injEq] at hc
                  obtain ⟨rfl, rfl⟩ := hc
                  exact ⟨_, _, hend none, ρ2, _, rfl, RM.le_trans hle1 hle2, turn none, flat_R (by rfl)⟩
                | ret =>
                  simp only [Option.some.injEq, Prod.mk.injEq] at hc
                  obtain ⟨rfl, rfl⟩ := hc
                  exact ⟨_, _, hend (some .ret), ρ2, _, rfl, RM.le_trans hle1 hle2, turn (some .ret), flat_R (by rfl)⟩
                | exit id =>
                  simp only [Option.some.injEq, Prod.mk.injEq] at hc
                  obtain ⟨rfl, rfl⟩ := hc
                  exact ⟨_, _, hend (some (.exit id)), ρ2, _, rfl, RM.le_trans hle1 hle2, turn (some (.exit id)), flat_R (by rfl)⟩
              · cases hc
            · cases hc
          · cases hc
        · cases hc
      · cases hc
    · cases hc
end
end Go.Ideal

set_option linter.unusedSimpArgs false
set_option linter.unusedVariables false
namespace Go.Ideal
open Go Go.RowKit

theorem exists_min (p : Nat → Prop) : ∀ n, p n → ∃ m, p m ∧ ∀ k, p k → m ≤ k := by
  intro n
  induction n using Nat.strongRecOn with
  | _ n ih =>
    intro hn
    by_cases h : ∃ k, k < n ∧ p k
    · obtain ⟨k, hk, hpk⟩ := h; exact ih k hk hpk
    · exact ⟨n, hn, fun k hk => by
        rcases Nat.lt_or_ge k n with h' | h'
        · exact absurd ⟨k, h', hk⟩ h
        · exact h'⟩

section
variable {P : Program} {base : Nat} {w0 : World}

open Classical in
/-- the least number of rounds -/
noncomputable def least (p : Nat → Prop) : Nat := if h : ∃ n, p n then Classical.choose (exists_min p h.choose h.choose_spec) else 0
theorem least_spec {p : Nat → Prop} {n : Nat} (h : p n) : p (least p) ∧ ∀ k, p k → least p ≤ k := by
  have hx : ∃ n, p n := ⟨n, h⟩
  simp only [least, dif_pos hx]
  exact Classical.choose_spec (exists_min p hx.choose hx.choose_spec)

theorem icode_sound (hP : okProg P = true) : ∀ n, CodeOK P base w0 (icode P n) := by
  have hmix : P.follows .mixedOrders = true := by
    unfold okProg at hP; simp only [Bool.and_eq_true] at hP; exact hP.2
  intro n
  induction n using Nat.strongRecOn with
  | _ n ihs =>
  cases n with
  | zero => intro c st e st' h; simp [icode] at h
  | succ n =>
    have ih : CodeOK P base w0 (icode P n) := ihs n (by omega)
    have hcall : CallOK P base w0 (icallBy P (icode P n)) := callOK_of_code hP ih
    intro c st e st' hi hok ρ a w S F m hF hrd
    cases c with
    | skip =>
      simp only [icode, Option.some.injEq, Prod.mk.injEq] at hi
      obtain ⟨rfl, rfl⟩ := hi
      exact wpIn_skip ⟨rfl, ρ, RM.le_refl _, S, rfl, rfl⟩
    | exit id =>
      simp only [icode, Option.some.injEq, Prod.mk.injEq] at hi
      obtain ⟨rfl, rfl⟩ := hi
      exact wpIn_exit ⟨rfl, ρ, RM.le_refl _, S, rfl, rfl⟩
    | ret =>
      simp only [icode, Option.some.injEq, Prod.mk.injEq] at hi
      obtain ⟨rfl, rfl⟩ := hi
      exact wpIn_ret ⟨rfl, ρ, RM.le_refl _, S, rfl, rfl⟩
    | region id ops draw =>
      have hops : ∀ (i : Nat) o, ops[i]? = some o → okOper st.nt o = true := by
        intro i o ho
        simp only [okCode, List.all_eq_true] at hok
        exact hok o (Array.mem_toList_iff.2 (Array.mem_of_getElem? ho))
      cases draw with
      | false =>
        simp only [icode, Bool.false_eq_true, if_false, Option.map_eq_some_iff, Prod.mk.injEq] at hi
        obtain ⟨st1, h1, rfl, rfl⟩ := hi
        refine wpIn_region (iops_sound hcall hF _ ρ st st1 a w hops h1 S fun ρ' a' w' hle S' e1 e2 => ⟨rfl, ρ', hle, S', e1, e2⟩)
      | true =>
        simp only [icode, if_true, Option.map_eq_some_iff, Prod.mk.injEq] at hi
        obtain ⟨st1, h1, rfl, rfl⟩ := hi
        simp only [idraw, Option.bind_eq_some_iff] at h1
        obtain ⟨p, hp, h1⟩ := h1
        simp only [planOf] at hp
        split at hp
        · have S1 : StRel P base w0 ρ st a { w with drawn := w.drawn + 1 } := ⟨S.heap.drew, S.slots, S.defers⟩
          obtain ⟨Ek, hE1, hE2⟩ := iplan_sound (Q := CPost P base w0 ρ st .normal st1) (ρ0 := ρ) (w1 := { w with drawn := w.drawn + 1 }) (h0 := st.h) (n := m) hF hcall
            (fun j o cs b ho => (okOper_ops (hops j o ho)).2.2.1 cs b) (fun j o c ho => (okOper_ops (hops j o ho)).2.2.2 c) (fun c a w h => by cases h.1) S1.heap ops.size (Array.replicate ops.size false) p st st1 [] [st.h] hp h1 (by simp) (by simp)
            (fun j i hj _ => by simp [Array.getD_eq_getD_getElem?, Array.getElem?_replicate] at hj; split at hj <;> simp at hj)
          refine wpIn_region_any hmix (wpAnyIn_of_wpS _ _ _ _ (hE2 Ek (fun e he => he) (fun e he => ?_) (fun e he => .inl he) rfl ρ a _ (RM.le_refl _) S1 hops (fun e _ _ rb _ => rfl) fun ρ' a' w' hle S' e1 e2 => ⟨rfl, ρ', hle, S', e1, e2⟩))
          have := hE1 st.h (by simp)
          unfold heldIn at this ⊢
          rw [List.all_eq_true] at this
          simp only [List.all_cons, List.all_nil, Bool.and_true]
          exact this e he
        · cases hp
    | seq x y =>
      simp only [okCode, Bool.and_eq_true] at hok
      simp only [icode] at hi
      refine wpIn_seq ?_
      cases hx : icode P n x st with
      | none => simp [hx] at hi
      | some r =>
        obtain ⟨e1, st1⟩ := r
        refine wpIn_mono (ih x st e1 st1 hx hok.1 ρ a w S F m hF hrd) ?_
        rintro x1 a1 w1 ⟨rfl, ρ1, hle1, S1, hnt1, hrd1⟩
        rw [hx] at hi
        cases e1 with
        | normal =>
          simp only at hi
          simp only [IExit.toExit, Exit.then]
          refine wpIn_mono (ih y st1 e st' hi (by rw [hnt1]; exact hok.2) ρ1 a1 w1 S1 F m hF (by rw [hrd1]; exact hrd)) ?_
          rintro x2 a2 w2 ⟨h1, ρ2, hle2, S2, hnt2, hrd2⟩
          exact ⟨h1, ρ2, RM.le_trans hle1 hle2, S2, hnt2.trans hnt1, hrd2.trans hrd1⟩
        | exit id =>
          simp only [Option.some.injEq, Prod.mk.injEq] at hi
          obtain ⟨rfl, rfl⟩ := hi
          exact ⟨rfl, ρ1, hle1, S1, hnt1, hrd1⟩
        | ret =>
          simp only [Option.some.injEq, Prod.mk.injEq] at hi
          obtain ⟨rfl, rfl⟩ := hi
          exact ⟨rfl, ρ1, hle1, S1, hnt1, hrd1⟩
    | cond co x y =>
      simp only [okCode, Bool.and_eq_true] at hok
      simp only [icode] at hi
      split at hi
      · rename_i t ht
        have h1 := S.eval hok.1.1
        rw [ht] at h1
        refine wpIn_cond (R_bool h1) ?_
        cases t with
        | true => exact ih x st e st' hi hok.1.2 ρ a w S F m hF hrd
        | false => exact ih y st e st' hi hok.2 ρ a w S F m hF hrd
      · cases hi
    | block id b =>
      simp only [okCode] at hok
      simp only [icode] at hi
      refine wpIn_block ?_
      cases hb : icode P n b st with
      | none => simp [hb] at hi
      | some r =>
        obtain ⟨e1, st1⟩ := r
        refine wpIn_mono (ih b st e1 st1 hb hok ρ a w S F m hF hrd) ?_
        rintro x1 a1 w1 ⟨rfl, ρ1, hle1, S1, hnt1, hrd1⟩
        rw [hb] at hi
        cases e1 with
        | normal =>
          simp only [Option.some.injEq, Prod.mk.injEq] at hi
          obtain ⟨rfl, rfl⟩ := hi
          exact ⟨rfl, ρ1, hle1, S1, hnt1, hrd1⟩
        | ret =>
          simp only [Option.some.injEq, Prod.mk.injEq] at hi
          obtain ⟨rfl, rfl⟩ := hi
          exact ⟨rfl, ρ1, hle1, S1, hnt1, hrd1⟩
        | exit j =>
          simp only at hi
          simp only [IExit.toExit, Exit.inBlock]
          split at hi
          · rename_i hj
            simp only [Option.some.injEq, Prod.mk.injEq] at hi
            obtain ⟨rfl, rfl⟩ := hi
            rw [if_pos hj]
            exact ⟨rfl, ρ1, hle1, S1, hnt1, hrd1⟩
          · rename_i hj
            simp only [Option.some.injEq, Prod.mk.injEq] at hi
            obtain ⟨rfl, rfl⟩ := hi
            rw [if_neg hj]
            exact ⟨rfl, ρ1, hle1, S1, hnt1, hrd1⟩
    | loop b =>
      simp only [okCode] at hok
      -- the rounds that are left
      let p : Act → World → Nat → Prop := fun a1 w1 k => k ≤ n + 1 ∧ ∃ ρ1 st1, ρ.le ρ1 ∧ StRel P base w0 ρ1 st1 a1 w1 ∧ st1.nt = st.nt ∧ st1.rd = st.rd ∧ icode P k (.loop b) st1 = some (e, st')
      refine wpIn_loop (fun a1 w1 => ∃ k, p a1 w1 k) (fun a1 w1 => least (p a1 w1)) ⟨n + 1, Nat.le_refl _, ρ, st, RM.le_refl _, S, rfl, rfl, hi⟩ ?_
      rintro a1 w1 ⟨k, hk⟩
      obtain ⟨⟨hle, ρ1, st1, hl1, S1, hnt1, hrd1, hrun⟩, hmin⟩ := least_spec hk
      cases hlk : least (p a1 w1) with
      | zero => rw [hlk] at hrun; simp [icode] at hrun
      | succ j =>
        rw [hlk] at hrun hle
        simp only [icode] at hrun
        cases hb : icode P j b st1 with
        | none => simp [hb] at hrun
        | some r =>
          obtain ⟨e1, st2⟩ := r
          rw [hb] at hrun
          have hjn : j ≤ n := by omega
          have hcode : CodeOK P base w0 (icode P j) := ihs j (by omega)
          refine wpIn_mono (hcode b st1 e1 st2 hb (by rw [hnt1]; exact hok) ρ1 a1 w1 S1 F m hF (by rw [hrd1]; exact hrd)) ?_
          rintro x2 a2 w2 ⟨rfl, ρ2, hle2, S2, hnt2, hrd2⟩
          cases e1 with
          | normal =>
            simp only at hrun
            simp only [IExit.toExit, Exit.then]
            have hp : p a2 w2 j := ⟨by omega, ρ2, st2, RM.le_trans hl1 hle2, S2, hnt2.trans hnt1, hrd2.trans hrd1, hrun⟩
            exact ⟨⟨j, hp⟩, Nat.lt_succ_of_le ((least_spec hp).2 j hp)⟩
          | exit id =>
            simp only [Option.some.injEq, Prod.mk.injEq] at hrun
            obtain ⟨rfl, rfl⟩ := hrun
            exact ⟨rfl, ρ2, RM.le_trans hl1 hle2, S2, hnt2.trans hnt1, hrd2.trans hrd1⟩
          | ret =>
            simp only [Option.some.injEq, Prod.mk.injEq] at hrun
            obtain ⟨rfl, rfl⟩ := hrun
            exact ⟨rfl, ρ2, RM.le_trans hl1 hle2, S2, hnt2.trans hnt1, hrd2.trans hrd1⟩
    | rangeFunc f ps assign body =>
      simp only [okCode, Bool.and_eq_true] at hok
      obtain ⟨⟨⟨hokf, hokp⟩, hoka⟩, hokb⟩ := hok
      simp only [icode, irange] at hi
      split at hi
      · cases hi
      · rename_i hrdf
        have hrd0 : F.round = none := hrd (by simpa using hrdf)
        split at hi
        · rename_i g args hcal
          simp only [Option.bind_eq_some_iff] at hi
          obtain ⟨⟨v, h3⟩, hc, hi⟩ := hi
          simp only at hi
          split at hi
          · rename_i nt3 T3 ps3 as3 b3 state pend hloop3
            split at hi
            · rename_i hnb
              refine wpIn_rangeFunc fun fn _ => ?_
              -- the two blocks
              let d := st.h.new.length
              let rd := w.heap.size
              let L : Loop := { state := .ready, pending := none, fn := fn, tmps := a.tmps, params := ps, assign := assign, body := body, defers := rd }
              have H1 : HRel P base w0 (ρ.add d (rd, 0)) (st.h.push .defr) (w.alloc (.deferred (some []))) := S.heap.push fun ρ' _ => rfl
              have hl1 : ρ.le (ρ.add d (rd, 0)) := RM.le_push S.heap _
              have hlen1 : (st.h.push IObj.defr).new.length = d + 1 := by simp [IHp.push, d]
              have hsz1 : (w.alloc (.deferred (some []))).heap.size = rd + 1 := by simp [heap_alloc', rd]
              have H2 : HRel P base w0 ((ρ.add d (rd, 0)).add (d + 1) (rd + 1, 0)) ((st.h.push .defr).push (.loop st.nt st.s ps assign body .ready none)) ((w.alloc (.deferred (some []))).alloc (.loop L)) := by
                have := H1.push (x := 0) (o := .loop st.nt st.s ps assign body .ready none) (O := .loop L) fun ρ' hle => ⟨L, rfl, S.slots.1, fun t => R_mono (RM.le_trans hl1 hle) _ _ (S.slots.2 t), rfl, rfl, rfl, rfl, rfl, hokp, hoka, hokb⟩
                rw [hlen1, hsz1] at this
                exact this
              have hl2 : (ρ.add d (rd, 0)).le ((ρ.add d (rd, 0)).add (d + 1) (rd + 1, 0)) := RM.le_add (by
                have := H1.dom (d + 1) (by rw [hlen1]; exact Nat.le_refl _); exact this)
              have hl12 := RM.le_trans hl1 hl2
              have hyR : R ((ρ.add d (rd, 0)).add (d + 1) (rd + 1, 0)) (.func (.yield (2 * (d + 1))) #[] #[]) (.func (.yield (rd + 1)) #[] #[]) := by
                simp only [R]
                exact ⟨rfl, rfl, by omega, rd + 1, RM.block_new (x := 0) (RM.add_at _ _ _), rfl⟩
              have hargs : RA ((ρ.add d (rd, 0)).add (d + 1) (rd + 1, 0)) #[.func (.yield (2 * (d + 1))) #[] #[]] #[.func (.yield (rd + 1)) #[] #[]] := by
                refine RA_mk rfl fun i u hu => ?_
                match i with
                | 0 => simp at hu; subst hu; exact ⟨_, by simp, hyR⟩
                | i + 1 => simp at hu
              obtain ⟨df, args', hd1, hd2, hd3⟩ := callee_fn hcal (R_mono hl12 _ _ (S.eval hokf)) hargs
              refine ⟨rd + 1, [{ target := .collected rd, args := #[] }], (w.alloc (.deferred (some []))).alloc (.loop L), df, (w.alloc (.deferred (some []))).alloc (.loop L), g, args', (w.alloc (.deferred (some []))).alloc (.loop L), by rw [hrd0]; exact run_enterLoop_outer fn a.tmps ps assign body, ?_, fun f' _ => hF.1 f', hd2 _, (fun h => by rw [hF.2] at h; cases h), ?_⟩
              · have hres : resolve a.eval (rangeCall f (rd + 1)) 0 = (Deferred.ofValue (a.eval f) #[.func (.yield (rd + 1)) #[] #[]] : Sem Deferred) := by
                  simp only [resolve, rangeCall, List.map_toArray, List.map_cons, List.map_nil]; rfl
                rw [hres, hd1, Sem.run_pure]
              · refine (hcall.1 g args _ v h3 hc _ _ args' H2 hd3 F _ hF).mono ?_
                rintro e1 w3 ⟨ρ3, v3, rfl, hl3, H3, _⟩
                have hd3' : ρ3.at_ (d + 1) = some (rd + 1, 0) := hl3 _ _ (RM.add_at _ _ _)
                have hdd : ρ3.at_ d = some (rd, 0) := hl3 _ _ (hl2 _ _ (RM.add_at _ _ _))
                obtain ⟨r3, x3, hρ3, _, hr3w, L3, hLL3, hN1, hN2, hN3, hN4, hN5, hN6, hN7, hN8⟩ := H3.blk _ _ hloop3
                rw [hd3'] at hρ3; cases hρ3
                have hbusy : L3.state ≠ .busy := by rw [hN6]; intro he; rw [he] at hnb; cases hnb
                have H4 : HRel P base w0 ρ3 { h3 with new := h3.new.set (d + 1) (.loop nt3 T3 ps3 as3 b3 .exhausted pend) } (w3.putObj (rd + 1) (.loop { L3 with state := .exhausted })) := by
                  refine H3.turn hloop3 rfl hd3' ?_ (fun k hk => World.putObj_heap_other hk) World.putObj_size rfl rfl rfl
                  exact ⟨_, World.putObj_heap_same hr3w, hN1, hN2, hN3, hN4, hN5, rfl, hN7, hN8⟩
                have S4 : StRel P base w0 ρ3 { st with h := { h3 with new := h3.new.set (d + 1) (.loop nt3 T3 ps3 as3 b3 .exhausted pend) }, marks := d :: st.marks } { a with defers := [{ target := .collected rd, args := #[] }] ++ a.defers } (w3.putObj (rd + 1) (.loop { L3 with state := .exhausted })) :=
                  ⟨H4, S.slots.mono (RM.le_trans hl12 hl3), ⟨⟨rd, 0, hdd, rfl⟩, S.defers.mono (RM.le_trans hl12 hl3)⟩⟩
                have hend := run_endLoop (P := P) hLL3 hbusy
                generalize w3.putObj (rd + 1) (.loop { L3 with state := .exhausted }) = W4 at hend S4
                refine ⟨L3.pending, W4, hend, ?_⟩
                rw [hN7]
                split at hi
                · simp only [Option.some.injEq, Prod.mk.injEq] at hi
                  obtain ⟨rfl, rfl⟩ := hi
                  exact ⟨rfl, ρ3, RM.le_trans hl12 hl3, S4, rfl, rfl⟩
                · simp only [Option.some.injEq, Prod.mk.injEq] at hi
                  obtain ⟨rfl, rfl⟩ := hi
                  exact wpIn_ret ⟨rfl, ρ3, RM.le_trans hl12 hl3, S4, rfl, rfl⟩
                · simp only [Option.some.injEq, Prod.mk.injEq] at hi
                  obtain ⟨rfl, rfl⟩ := hi
                  exact wpIn_exit ⟨rfl, ρ3, RM.le_trans hl12 hl3, S4, rfl, rfl⟩
                · cases hi
            · cases hi
          · cases hi
        · cases hi
    | _ => simp [icode] at hi
end
end Go.Ideal

set_option linter.unusedSimpArgs false
set_option linter.unusedVariables false
namespace Go.Ideal
open Go Go.RowKit

/-- the memory as it is: all of it old -/
def heapOf (w : World) : IHp := ⟨fun b off => if b < w.heap.size then (w.cell? ⟨b, off, none⟩).bind upv else none, []⟩
def RM0 : RM := ⟨fun _ => none⟩
theorem HRel_heapOf (P : Program) (w : World) : HRel P w.heap.size w RM0 (heapOf w) w := by
  refine ⟨Below.refl _ _, Nat.le_refl _, fun b off v hv => ?_, by simp [heapOf], by simp [heapOf], fun i _ => rfl⟩
  simp only [heapOf] at hv
  split at hv
  · rename_i hb
    simp only [Option.bind_eq_some_iff] at hv
    obtain ⟨u, hu, hup⟩ := hv
    exact ⟨hb, u, hu, hup⟩
  · cases hv

theorem calls_of_ideal {P : Program} {n f : Nat} {args args' : Array Value} {v : Value} {w : World} {h' : IHp} (hP : okProg P = true) (h : icall P n (.fn f) args (heapOf w) = some (v, h')) (ha : RA RM0 args args') :
    Calls P f args' w (RPost P w.heap.size w RM0 h' v) :=
  (callsIn_wide (n := 0)).1 ((callOK_of_code (base := w.heap.size) (w0 := w) hP (icode_sound hP n)).1 f args (heapOf w) v h' h RM0 w args' (HRel_heapOf P w) ha Fence.wide 0 ⟨fun _ => trivial, rfl⟩)

/-- a law's walk -/
theorem law_of_ideal {P : Program} {n f : Nat} {args args' : Array Value} {w : World} {h' : IHp} (hP : okProg P = true) (h : icall P n (.fn f) args (heapOf w) = some (.bool true, h')) (ha : RA RM0 args args') :
    Calls P f args' w fun e w' => e = .returned (.bool true) ∧ Below w.heap.size w w' :=
  (calls_of_ideal hP h ha).mono fun e w' ⟨ρ', v', he, _, H, hR⟩ => ⟨by rw [he, R_bool hR], H.below⟩
end Go.Ideal
