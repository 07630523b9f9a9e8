/- Part 2 of what the proof stands on: an interpreter over an ideal memory that is proved sound, steps over it, and contracts of the functions that are called. No condition: no law is claimed here. -/
import Derived.Test.YtfpfjlbgodgmlaaC1
import Derived.OrdersIn
import Derived.RangeFuncIn
import Derived.RangeFuncLeaves
import Derived.RangeFuncRecord
-- IdealL
set_option linter.unusedSimpArgs false
set_option linter.unusedVariables false
namespace Go.Ideal
open Go Go.RowKit

def WideF (F : Fence) : Prop := (∀ f, F.fn f) ∧ F.depth = none
theorem WideF.room {F : Fence} (h : WideF F) (k : Nat) : F.room k := fun d hd => by rw [h.2] at hd; cases hd
theorem WideF.inRound {F : Fence} (h : WideF F) (l : Nat) : WideF (F.inRound l) := h

def SRel (ρ : RM) (s : Nat → Value) (nt : Nat) (tmps : Array Value) : Prop := tmps.size = nt ∧ ∀ t, R ρ (s t) (tmps.getD t undef)
def DRel (ρ : RM) : List Nat → List Deferred → Prop
  | [], [] => True
  | d :: ms, x :: ds => (∃ r y, ρ.at_ d = some (r, y) ∧ x = { target := .collected r, args := #[] }) ∧ DRel ρ ms ds
  | _, _ => False
theorem DRel.sub {ρ ρ' : RM} (h : ρ.sub ρ') : ∀ {ms : List Nat} {ds : List Deferred}, DRel ρ ms ds → DRel ρ' ms ds
  | [], [], _ => trivial
  | d :: ms, x :: ds, ⟨⟨r, y, a, b⟩, k⟩ => ⟨⟨r, y, h _ _ a, b⟩, DRel.sub h k⟩
  | [], _ :: _, h => h.elim
  | _ :: _, [], h => h.elim
theorem DRel.mono {ρ ρ' : RM} (h : ρ.le ρ') {ms : List Nat} {ds : List Deferred} (hd : DRel ρ ms ds) : DRel ρ' ms ds := hd.sub h.1

structure StRel (P : Program) (base : Nat) (w0 : World) (ρ : RM) (st : St) (a : Act) (w : World) : Prop where
  heap : HRel P base w0 ρ st.h w
  slots : SRel ρ st.s st.nt a.tmps
  defers : DRel ρ st.marks a.defers

section
variable {P : Program} {base : Nat} {w0 w : World} {ρ : RM} {st : St} {a : Act}

theorem SRel.sub {ρ ρ' : RM} (h : ρ.sub ρ') {s : Nat → Value} {nt : Nat} {tmps : Array Value} (H : SRel ρ s nt tmps) : SRel ρ' s nt tmps := ⟨H.1, fun t => R_sub h _ _ (H.2 t)⟩
theorem SRel.mono {ρ ρ' : RM} (h : ρ.le ρ') {s : Nat → Value} {nt : Nat} {tmps : Array Value} (H : SRel ρ s nt tmps) : SRel ρ' s nt tmps := H.sub h.1

theorem SRel.put {s : Nat → Value} {nt : Nat} {tmps : Array Value} (H : SRel ρ s nt tmps) {d : Nat} {v v' : Value} (hd : d < nt) (hv : R ρ v v') : SRel ρ (putS s (some d) v) nt (tmps.setIfInBounds d v') := by
  refine ⟨by simp [H.1], fun t => ?_⟩
  simp only [putS]
  by_cases e : t = d
  · subst e
    have : t < tmps.size := by rw [H.1]; exact hd
    simp [Array.getD, this]
    exact hv
  · rw [if_neg e]
    have : (tmps.setIfInBounds d v').getD t undef = tmps.getD t undef := by
      simp [Array.getD_eq_getD_getElem?, Array.getElem?_setIfInBounds_ne (Ne.symm e)]
    rw [this]; exact H.2 t

theorem SRel.act {s : Nat → Value} {nt : Nat} (H : SRel ρ s nt a.tmps) {d : Option Tmp} {v v' : Value} (hd : ∀ x, d = some x → x < nt) (hv : R ρ v v') : SRel ρ (putS s d v) nt (a.put d v').tmps := by
  cases d with
  | none => exact H
  | some d => exact H.put (hd d rfl) hv
theorem put_defers' (a : Act) (d : Option Tmp) (v : Value) : (a.put d v).defers = a.defers := by cases d <;> rfl

theorem StRel.put (S : StRel P base w0 ρ st a w) {ρ' : RM} {w' : World} {h' : IHp} (hle : ρ.le ρ') (H : HRel P base w0 ρ' h' w') {d : Option Tmp} {v v' : Value} (hd : ∀ x, d = some x → x < st.nt) (hv : R ρ' v v') :
    StRel P base w0 ρ' { st with s := putS st.s d v, h := h' } (a.put d v') w' :=
  ⟨H, (S.slots.mono hle).act hd hv, by rw [put_defers']; exact S.defers.mono hle⟩

theorem StRel.eval (S : StRel P base w0 ρ st a w) {x : Operand} (hx : okOperand x = true) : R ρ (st.eval x) (a.eval x) := by
  cases x with
  | tmp t => exact S.slots.2 t
  | const v => exact flat_R hx
  | global g => simp [okOperand] at hx
  | func f => exact flat_R (by rfl)

theorem okOper_ops {n : Nat} {o : Oper} (h : okOper n o = true) : (∀ x, o.dst = some x → x < n) ∧ (∀ x ∈ o.op.operands, okOperand x = true) ∧ (∀ cs b, o.op ≠ .select cs b) ∧ (∀ c, o.op ≠ .defer c) := by
  unfold okOper at h
  simp only [Bool.and_eq_true, List.all_eq_true] at h
  refine ⟨fun x hx => ?_, fun x hx => h.1.2 x (Array.mem_toList_iff.2 hx), fun cs b e => ?_, fun c e => ?_⟩
  · have := h.1.1; rw [hx] at this; simpa using this
  · have := h.2; rw [e] at this; simp at this
  · have := h.2; rw [e] at this; simp at this

theorem StRel.evs (S : StRel P base w0 ρ st a w) {o : Oper} {n : Nat} (h : okOper n o = true) : EvR ρ st.eval a.eval o := fun x hx => S.eval ((okOper_ops h).2.1 x hx)

theorem R_bool_iff {v v' : Value} (h : R ρ v v') (b : Bool) : v = .bool b ↔ v' = .bool b := by
  constructor
  · rintro rfl; exact R_bool h
  · intro e
    subst e
    cases v with
    | bool c => simp only [R] at h; exact h.symm
    | agg cs => rw [R_agg] at h; obtain ⟨_, h, _⟩ := h; cases h
    | tuple cs => rw [R_tuple] at h; obtain ⟨_, h, _⟩ := h; cases h
    | iface t x => simp only [R] at h; obtain ⟨_, h, _⟩ := h; cases h
    | pointer a => cases a <;> simp only [R] at h <;> first | (cases h; done) | (obtain ⟨_, _, _, h⟩ := h; cases h)
    | slice a l c =>
      cases a with
      | none => simp only [R] at h; cases h
      | some a => obtain ⟨_, _, h⟩ := R_anySlice h; cases h
    | map a => cases a <;> simp only [R] at h <;> first | (cases h; done) | (obtain ⟨_, _, _, h⟩ := h; cases h)
    | chan a => cases a <;> simp only [R] at h; cases h
    | func fn f c =>
      cases fn with
      | func g => rw [R_func] at h; obtain ⟨_, _, h, _⟩ := h; cases h
      | yield l => simp only [R] at h; obtain ⟨_, _, _, _, _, h⟩ := h; cases h
      | _ => simp only [R] at h
    | _ => simp only [R] at h; cases h

theorem yielded_eq (S : SRel ρ st.s st.nt a.tmps) (ops : Array Oper) (j : Nat) : yielded ops a.tmps j = iyielded ops st.s j := by
  unfold yielded iyielded
  cases hd : (ops[j]?).bind (·.dst) with
  | none => rfl
  | some t =>
    simp only [Option.bind_some]
    have h := S.2 t
    cases ht : a.tmps[t]? with
    | none =>
      have : a.tmps.getD t undef = undef := by simp [Array.getD_eq_getD_getElem?, ht]
      rw [this] at h
      simp only
      split
      · rename_i b hb
        have := (R_bool_iff h b).1 hb
        cases this
      · rfl
    | some v =>
      have : a.tmps.getD t undef = v := by simp [Array.getD_eq_getD_getElem?, ht]
      rw [this] at h
      cases hvb : v with
      | bool b => rw [(R_bool_iff h b).2 hvb]
      | _ =>
        simp only
        split
        · rename_i b hb
          have := (R_bool_iff h b).1 hb
          rw [this] at hvb; cases hvb
        · rfl

theorem wanted_eq (S : SRel ρ st.s st.nt a.tmps) (ops : Array Oper) (o : Oper) : Region.wanted o (yielded ops a.tmps) = iwanted ops st.s o := by
  unfold iwanted Region.wanted
  cases o.guard with
  | none => rfl
  | some g => simp only [yielded_eq S]

/-! ### Calls -/
def RPost (P : Program) (base : Nat) (w0 : World) (ρ : RM) (h' : IHp) (v : Value) : Ending → World → Prop := fun e w' => ∃ ρ' v', e = .returned v' ∧ ρ.le ρ' ∧ HRel P base w0 ρ' h' w' ∧ R ρ' v v'

def CallOK (P : Program) (base : Nat) (w0 : World) (call : ICall) : Prop :=
  (∀ f args h v h', call (.fn f) args h = some (v, h') → ∀ ρ w args', HRel P base w0 ρ h w → RA ρ args args' → ∀ F n, WideF F → CallsIn F n P f args' w (RPost P base w0 ρ h' v)) ∧
  (∀ l args h v h', call (.yld l) args h = some (v, h') → ∀ ρ w args' r, HRel P base w0 ρ h w → RA ρ args args' → l % 2 = 0 → ρ.block l = some r →
    ∃ L : Loop, w.heap[r]? = some (.loop L) ∧ args'.size = L.params.size ∧
      ∀ F n, WideF F → RoundIn F n P r L.fn ((L.params.zip args').foldl (fun tmps (t, a) => tmps.setIfInBounds t a) L.tmps) L.assign L.body w (RPost P base w0 ρ h' v))

theorem callee_fn {v v' : Value} {args args' args2 : Array Value} {g : FuncId} (hc : icalleeV P v args = some (.fn g, args2)) (hv : R ρ v v') (ha : RA ρ args args') :
    ∃ d args2', (Deferred.ofValue v' args' : Sem Deferred) = pure d ∧ (∀ w, (invoke d.target d.args).run P w = .ok (.enter g args2') w) ∧ RA ρ args2 args2' := by
  unfold icalleeV at hc
  split at hc
  · rename_i g' first captured
    split at hc
    · rename_i fn hfn
      split at hc
      · cases hc
      · rename_i hname
        split at hc
        · rename_i hbody
          simp only [Option.some.injEq, Prod.mk.injEq, Cl.fn.injEq] at hc
          obtain ⟨rfl, rfl⟩ := hc
          rw [R_func] at hv
          obtain ⟨f', c', rfl, h1, h2⟩ := hv
          refine ⟨{ target := .fn (.func g') c', args := f' ++ args' }, (f' ++ args') ++ c', rfl, fun w => ?_, RA_append (RA_append h1 ha) h2⟩
          have hb : fn.body.isNone = false := by cases h : fn.body <;> simp_all
          have hname' : (fn.name == "runtime.NumGoroutine") = false := by simpa using hname
          simp only [invoke, callFunc, Sem.run_bind, run_program, Result.andThen, hfn, hname', hb, Bool.false_eq_true, if_false, Sem.run_pure]
        · cases hc
    · cases hc
  · split at hc <;> simp at hc
  · cases hc

theorem callee_yld {v v' : Value} {args args' args2 : Array Value} {l : Nat} (hc : icalleeV P v args = some (.yld l, args2)) (hv : R ρ v v') :
    args2 = args ∧ l % 2 = 0 ∧ ∃ r, ρ.block l = some r ∧ v' = .func (.yield r) #[] #[] := by
  unfold icalleeV at hc
  split at hc
  · split at hc
    · split at hc
      · cases hc
      · split at hc <;> simp at hc
    · cases hc
  · rename_i l' first captured
    split at hc
    · simp only [Option.some.injEq, Prod.mk.injEq, Cl.yld.injEq] at hc
      obtain ⟨rfl, rfl⟩ := hc
      simp only [R] at hv
      obtain ⟨_, _, h1, r, h2, h3⟩ := hv
      exact ⟨rfl, h1, r, h2, h3⟩
    · cases hc
  · cases hc

/-- one operation -/
theorem iop_sound {call : ICall} {ops : Array Oper} {i : Nat} {st' : St} {F : Fence} {n : Nat} {Q : Exit → Act → World → Prop} {K : Act → World → Prop} (hcall : CallOK P base w0 call)
    (hok : ∀ o, ops[i]? = some o → okOper st.nt o = true) (hs : iop P call ops i st = some st') (S : StRel P base w0 ρ st a w) (hF : WideF F)
    (hK : ∀ ρ' a' w', ρ.le ρ' → StRel P base w0 ρ' st' a' w' → st'.nt = st.nt → st'.rd = st.rd → st'.marks = st.marks → K a' w') : wpOpIn F n P ops Q i K a w := by
  unfold iop at hs
  unfold wpOpIn
  cases ho : ops[i]? with
  | none => simp [ho] at hs
  | some o =>
    simp only [ho] at hs ⊢
    obtain ⟨hdst, hopd, hsel, hdef⟩ := okOper_ops (hok o ho)
    have hev := S.evs (hok o ho)
    rw [wanted_eq S.slots]
    split at hs
    · rename_i hw
      rw [if_pos hw]
      refine ⟨fun f _ => hF.1 f, ?_⟩
      rw [Oper.semAt_eq _ _ _ hdef]
      cases hc : icallee P st.eval o with
      | none =>
        simp only [hc, Option.map_eq_some_iff] at hs
        obtain ⟨⟨v, h'⟩, hh, rfl⟩ := hs
        obtain ⟨ρ', v', w', h1, h2, h3, h4⟩ := iheap_sound S.heap hh hev
        have := hK ρ' (a.put o.dst v') w' h1 (S.put h1 h2 hdst h3) rfl rfl rfl
        rcases h4 with h4 | ⟨rfl, h4⟩
        · rw [h4]; exact this
        · rw [h4]; exact this
      | some ca =>
        obtain ⟨c, args⟩ := ca
        simp only [hc, Option.map_eq_some_iff] at hs
        obtain ⟨⟨v, h'⟩, hh, rfl⟩ := hs
        obtain ⟨dst, op, type, pos, after, guard⟩ := o
        simp only at hdst hopd hev
        unfold icallee at hc
        simp only at hc
        split at hc
        · rename_i f as ats
          have hvf : R ρ (st.eval f) (a.eval f) := S.eval (hopd f (by simp [Op.operands, Call.operands]))
          have hva : RA ρ (as.map st.eval) (as.map a.eval) := RA_map fun x hx => S.eval (hopd x (by simp [Op.operands, Call.operands, hx]))
          cases c with
          | fn g =>
            obtain ⟨d, args', hd1, hd2, hd3⟩ := callee_fn hc hvf hva
            have hrun : (execOp a.eval ⟨dst, .call ⟨.value f, as, ats⟩, type, pos, after, guard⟩).run P w = .ok (.enter g args') w := by
              simp only [execOp, resolve, hd1, Sem.run_bind, Sem.run_pure, Result.andThen, hd2]
            rw [hrun, Oper.uponIn_enter]
            refine ⟨(fun h => by rw [hF.2] at h; cases h), (hcall.1 g _ _ _ _ hh ρ w args' S.heap hd3 F _ hF).mono ?_⟩
            rintro e w' ⟨ρ', v', rfl, h1, h2, h3⟩
            exact hK ρ' _ w' h1 (S.put h1 h2 hdst h3) rfl rfl rfl
          | yld l =>
            obtain ⟨rfl, hl, r, hr, hv'⟩ := callee_yld (args' := as.map a.eval) hc hvf
            obtain ⟨L, hL, hsz, hround⟩ := hcall.2 l _ _ _ _ hh ρ w _ r S.heap hva hl hr
            have hrun : (execOp a.eval ⟨dst, .call ⟨.value f, as, ats⟩, type, pos, after, guard⟩).run P w =
                .ok (.round r L.fn ((L.params.zip (as.map a.eval)).foldl (fun tmps (t, a) => tmps.setIfInBounds t a) L.tmps) L.assign L.body) w := by
              have := run_yield (P := P) hL hsz
              simp [execOp, resolve, hv', Deferred.ofValue, Sem.run_bind, Result.andThen, invoke, this]
            rw [hrun, Oper.uponIn_round]
            refine ⟨(fun h => by rw [hF.2] at h; cases h), (hround F _ hF).mono ?_⟩
            rintro e w' ⟨ρ', v', rfl, h1, h2, h3⟩
            exact hK ρ' _ w' h1 (S.put h1 h2 hdst h3) rfl rfl rfl
        · cases hc
    · rename_i hw
      rw [if_neg hw]
      simp only [Option.some.injEq] at hs
      subst hs
      exact ⟨fun f _ => hF.1 f, hK ρ _ w (RM.le_refl _) (S.put (RM.le_refl _) S.heap hdst R_undef) rfl rfl rfl⟩

theorem iops_sound {call : ICall} {ops : Array Oper} {F : Fence} {n : Nat} {Q : Exit → Act → World → Prop} (hcall : CallOK P base w0 call) (hF : WideF F) : ∀ (l : List Nat) (ρ : RM) (st st' : St) (a : Act) (w : World),
    (∀ (i : Nat) o, ops[i]? = some o → okOper st.nt o = true) → iops P call ops l st = some st' → StRel P base w0 ρ st a w →
    (∀ ρ' a' w', ρ.le ρ' → StRel P base w0 ρ' st' a' w' → st'.nt = st.nt → st'.rd = st.rd → Q .normal a' w') → wpOpsIn F n P ops Q l a w := by
  intro l
  induction l with
  | nil =>
    intro ρ st st' a w hok hs S hQ
    simp only [iops, Option.some.injEq] at hs
    subst hs
    exact hQ ρ a w (RM.le_refl _) S rfl rfl
  | cons i l ih =>
    intro ρ st st' a w hok hs S hQ
    simp only [iops, Option.bind_eq_some_iff] at hs
    obtain ⟨st1, h1, h2⟩ := hs
    rw [wpOpsIn_cons]
    refine iop_sound hcall (hok i) h1 S hF fun ρ1 a1 w1 hle S1 e1 e2 e3 => ih ρ1 st1 st' a1 w1 (by rw [e1]; exact hok) h2 S1 fun ρ2 a2 w2 hle2 S2 e4 e5 => hQ ρ2 a2 w2 (RM.le_trans hle hle2) S2 (e4.trans e1) (e5.trans e2)
end
end Go.Ideal

-- IdealM
set_option linter.unusedSimpArgs false
set_option linter.unusedVariables false
namespace Go.Ideal
open Go Go.RowKit

/-- a value stands for one value alone -/
theorem R_fun {ρ : RM} : ∀ (v a b : Value), R ρ v a → R ρ v b → a = b
  | .bool _, _, _, h, k | .int _ _, _, _, h, k | .float _ _, _, _, h, k | .complex _ _ _, _, _, h, k | .string _, _, _, h, k | .pointer none, _, _, h, k | .slice none _ _, _, _, h, k
  | .map none, _, _, h, k | .chan none, _, _, h, k | .nilFunc, _, _, h, k | .nilIface, _, _, h, k => by simp only [R] at h k; rw [h, k]
  | .chan (some _), _, _, h, _ => by simp only [R] at h
  | .pointer (some a), _, _, h, k => by
    simp only [R] at h k
    obtain ⟨_, b, hb, rfl⟩ := h
    obtain ⟨_, c, hc, rfl⟩ := k
    rw [hb] at hc; cases hc; rfl
  | .slice (some a) l c, _, _, h, k => by
    simp only [R] at h k
    by_cases hs : a.spot = none
    · obtain ⟨b, hb, rfl⟩ := h.1 hs
      obtain ⟨c, hc, rfl⟩ := k.1 hs
      rw [hb] at hc; cases hc; rfl
    · rcases (h.2 hs).2 with ⟨h1, rfl⟩ | ⟨h1, b, hb, rfl⟩ <;> rcases (k.2 hs).2 with ⟨k1, rfl⟩ | ⟨k1, b', hb', rfl⟩
      · rfl
      · omega
      · omega
      · rw [hb] at hb'; cases hb'; rfl
  | .map (some r), _, _, h, k => by
    simp only [R] at h k
    obtain ⟨_, b, hb, rfl⟩ := h
    obtain ⟨_, c, hc, rfl⟩ := k
    rw [hb] at hc; cases hc; rfl
  | .func (.func g) f c, _, _, h, k => by
    simp only [R] at h k
    obtain ⟨f1, c1, rfl, ⟨h1, h2⟩, h3, h4⟩ := h
    obtain ⟨f2, c2, rfl, ⟨k1, k2⟩, k3, k4⟩ := k
    have e1 : f1 = f2 := Array.ext (by omega) fun i hi hj => by
      have := R_fun _ _ _ (h2 i (by omega)) (k2 i (by omega))
      simpa [Array.getD, hi, hj] using this
    have e2 : c1 = c2 := Array.ext (by omega) fun i hi hj => by
      have := R_fun _ _ _ (h4 i (by omega)) (k4 i (by omega))
      simpa [Array.getD, hi, hj] using this
    rw [e1, e2]
  | .func (.yield l) f c, _, _, h, k => by
    simp only [R] at h k
    obtain ⟨_, _, _, b, hb, rfl⟩ := h
    obtain ⟨_, _, _, c, hc, rfl⟩ := k
    rw [hb] at hc; cases hc; rfl
  | .func (.method _) _ _, _, _, h, _ | .func (.methodOf _ _) _ _, _, _, h, _ | .func (.via _ _ _ _) _ _, _, _, h, _ => by simp only [R] at h
  | .iface t x, _, _, h, k => by
    simp only [R] at h k
    obtain ⟨a, rfl, h⟩ := h
    obtain ⟨b, rfl, k⟩ := k
    rw [R_fun _ _ _ h k]
  | .agg cs, _, _, h, k => by
    simp only [R] at h k
    obtain ⟨d1, rfl, h1, h2⟩ := h
    obtain ⟨d2, rfl, k1, k2⟩ := k
    have e : d1 = d2 := Array.ext (by omega) fun i hi hj => by
      have := R_fun _ _ _ (h2 i (by omega)) (k2 i (by omega))
      simpa [Array.getD, hi, hj] using this
    rw [e]
  | .tuple cs, _, _, h, k => by
    simp only [R] at h k
    obtain ⟨d1, rfl, h1, h2⟩ := h
    obtain ⟨d2, rfl, k1, k2⟩ := k
    have e : d1 = d2 := Array.ext (by omega) fun i hi hj => by
      have := R_fun _ _ _ (h2 i (by omega)) (k2 i (by omega))
      simpa [Array.getD, hi, hj] using this
    rw [e]
termination_by v => SizeOf.sizeOf v

section
variable {P : Program} {ops : Array Oper} {Q : Exit → Act → World → Prop} {F : Fence} {n : Nat} {S : Array Bool → World → Prop} {C : World → Prop}

/-- whatever order is picked, S holds behind every operation -/
def wpS (F : Fence) (n : Nat) (P : Program) (ops : Array Oper) (Q : Exit → Act → World → Prop) (S : Array Bool → World → Prop) : Nat → Array Bool → Act → World → Prop
  | 0, listed, a, w => Region.ready .any ops listed = [] ∧ Q .normal a w
  | fuel + 1, listed, a, w =>
    (Region.ready .any ops listed = [] → Q .normal a w) ∧
    ∀ i ∈ Region.ready .any ops listed, wpOpIn F n P ops Q i (fun a' w' => S (listed.setIfInBounds i true) w' ∧ wpS F n P ops Q S fuel (listed.setIfInBounds i true) a' w') a w

theorem wpAnyIn_of_wpS : ∀ (fuel : Nat) (listed : Array Bool) (a : Act) (w : World), wpS F n P ops Q S fuel listed a w → wpAnyIn F n P .any ops Q fuel listed a w
  | 0, _, _, _, h => h
  | fuel + 1, _, _, _, h => ⟨h.1, fun i hi => wpOpIn_mono (fun a' w' h' => wpAnyIn_of_wpS fuel _ a' w' h'.2) (h.2 i hi)⟩

/-- in every world that meets C the operation yields v and does nothing else -/
def YC (P : Program) (ops : Array Oper) (C : World → Prop) (o : Oper) (v : Value) (a : Act) : Prop :=
  (Region.wanted o (yielded ops a.tmps) = true ∧ ∀ w, C w → (execOp a.eval o).run P w = .ok (.value v) w) ∨
  (Region.wanted o (yielded ops a.tmps) = false ∧ v = undef)

theorem YC.of_same {o : Oper} {v : Value} {a a' : Act} (hy : YC P ops C o v a) (he : execOp a'.eval o = execOp a.eval o)
    (hw : Region.wanted o (yielded ops a'.tmps) = Region.wanted o (yielded ops a.tmps)) : YC P ops C o v a' := by
  unfold YC at *
  rw [he, hw]
  exact hy

theorem YC.op {i : Nat} {o : Oper} {v : Value} {a : Act} (hF : WideF F) (hd : ∀ c, o.op ≠ .defer c) (hi : ops[i]? = some o) (hy : YC P ops C o v a) {K : Act → World → Prop} {w : World} (hC : C w)
    (h : K (a.put o.dst v) w) : wpOpIn F n P ops Q i K a w := by
  unfold wpOpIn
  simp only [hi]
  rcases hy with ⟨hw, hv⟩ | ⟨hw, rfl⟩
  · simp only [hw, if_true]
    refine ⟨fun f _ => hF.1 f, ?_⟩
    rw [Oper.semAt_eq _ _ _ hd, hv w hC]
    exact h
  · simp only [hw, Bool.false_eq_true, if_false]
    exact ⟨fun f _ => hF.1 f, h⟩

/-- an operation that is apart from it does not mind whether it has been carried out -/
theorem op_put {j : Nat} {oi oj : Oper} {v : Value} (hF : WideF F) (hj : ops[j]? = some oj) (hap : oi.apart ops oj = true)
    (hsi : ∀ cs b, oi.op ≠ .select cs b) (hsj : ∀ cs b, oj.op ≠ .select cs b) (hdj : ∀ c, oj.op ≠ .defer c)
    (hQ : ∀ c a w, ¬ Q (.panic c) a w) {K : Act → World → Prop} {a : Act} {w : World}
    (hy : YC P ops C oi v a) (h : wpOpIn F n P ops Q j K (a.put oi.dst v) w) :
    wpOpIn F n P ops Q j (fun a' w' => YC P ops C oi v a' ∧ K (a'.put oi.dst v) w') a w := by
  obtain ⟨h1, h2, h3⟩ := Oper.apart_spec hap
  have keep : ∀ (a : Act), YC P ops C oi v a → ∀ u, YC P ops C oi v (a.put oj.dst u) := fun a hy u =>
    hy.of_same (execOp_put oi hsi a oj.dst u h3) (wanted_put oi a oj.dst u h3)
  have keepD : ∀ d, YC P ops C oi v { a with defers := d :: a.defers } := fun d => hy.of_same rfl rfl
  unfold wpOpIn at *
  simp only [hj] at *
  rw [wanted_put oj a oi.dst v h1] at h
  split
  · rename_i hw
    simp only [hw, if_true] at h
    obtain ⟨_, h⟩ := h
    refine ⟨fun f _ => hF.1 f, ?_⟩
    rw [Oper.semAt_eq _ _ _ hdj] at h ⊢
    rw [execOp_put oj hsj a oi.dst v h1] at h
    generalize (execOp a.eval oj).run P w = r at *
    cases r with
    | ok x w' =>
      cases x <;> simp only [Oper.uponIn] at h ⊢
      case value u => exact ⟨keep a hy u, by rw [← Act.put_comm a v u h2]; exact h⟩
      case skip => exact ⟨keep a hy _, by rw [← Act.put_comm a v undef h2]; exact h⟩
      case defer d =>
        refine ⟨keep _ (keepD d) _, ?_⟩
        rw [← Act.put_comm _ v undef h2, ← Act.put_defers]
        exact h
      case enter f args =>
        refine ⟨h.1, CallsIn.mono h.2 fun e w'' he => ?_⟩
        cases e with
        | returned u => exact ⟨keep a hy u, by rw [← Act.put_comm a v u h2]; exact he⟩
        | panicked c => exact absurd he (hQ _ _ _)
        | outgrown => exact he
      case round l f tmps assign body =>
        refine ⟨h.1, RoundIn.mono h.2 fun e w'' he => ?_⟩
        cases e with
        | returned u => exact ⟨keep a hy u, by rw [← Act.put_comm a v u h2]; exact he⟩
        | panicked c => exact absurd he (hQ _ _ _)
        | outgrown => exact he
      case row row args => exact ⟨h.1, RowsIn.mono h.2 fun u w'' he => ⟨keep a hy u, by rw [← Act.put_comm a v u h2]; exact he⟩⟩
    | halt x w' =>
      cases x <;> simp only [Oper.uponIn] at h ⊢
      case panic u => exact absurd h (hQ _ _ _)
  · rename_i hw
    simp only [hw] at h
    exact ⟨fun f _ => hF.1 f, keep a hy _, by rw [← Act.put_comm a v undef h2]; exact h.2⟩

theorem notWaits {j i : Nat} {listed : Array Bool} (hj : j ∈ Region.ready .any ops listed) (hi : listed.getD i false = false) : waitsFor ops j i = false := by
  obtain ⟨_, o, ho, hall⟩ := mem_ready.1 hj
  unfold waitsFor
  simp only [ho, Option.map_some, Option.getD_some]
  rw [Array.any_eq_false]
  intro k hk hc
  simp only [Bool.and_eq_true, beq_iff_eq] at hc
  have := hall _ (Array.getElem_mem hk) hc.1
  rw [hc.2, hi] at this
  cases this

theorem getD_of_true {listed : Array Bool} {i : Nat} (h : listed.getD i true = false) : listed.getD i false = false := by
  rw [Array.getD_eq_getD_getElem?] at h ⊢
  cases hx : listed[i]? with
  | none => rfl
  | some b => simp [hx] at h ⊢; exact h

theorem wpS_first {i : Nat} {oi : Oper} {v : Value} (hF : WideF F) (hi : ops[i]? = some oi) (hsel : ∀ (j : Nat) (o : Oper) cs b, ops[j]? = some o → o.op ≠ .select cs b)
    (hdef : ∀ (j : Nat) (o : Oper) c, ops[j]? = some o → o.op ≠ .defer c) (hQ : ∀ c a w, ¬ Q (.panic c) a w)
    (hSi : ∀ D w, S (D.setIfInBounds i true) w ↔ S D w) (hSC : ∀ D w, S D w → (∀ j, D.getD j false = true → waitsFor ops j i = false) → C w) :
    ∀ (fuel : Nat) (listed : Array Bool) (a : Act) (w : World),
      (∀ j oj, ops[j]? = some oj → j ≠ i → listed.getD j true = false → (∀ e ∈ oj.after, Region.binds .any e = true → e.on ≠ i) → oi.apart ops oj = true) →
      (∀ j, listed.getD j false = true → waitsFor ops j i = false) →
      i ∈ Region.ready .any ops listed → YC P ops C oi v a → S listed w →
      wpS F n P ops Q S fuel (listed.setIfInBounds i true) (a.put oi.dst v) w → wpS F n P ops Q S (fuel + 1) listed a w := by
  intro fuel
  induction fuel with
  | zero =>
    intro listed a w _ hwait hr hy hS H
    refine ⟨fun h => (by rw [h] at hr; cases hr), fun j hj => ?_⟩
    by_cases hji : j = i
    · subst hji; exact hy.op hF (hdef j oi · hi) hi (hSC _ _ hS hwait) ⟨(hSi _ _).2 hS, H⟩
    · have := ready_mono hj hji
      rw [H.1] at this
      cases this
  | succ fuel ih =>
    intro listed a w hfree hwait hr hy hS H
    refine ⟨fun h => (by rw [h] at hr; cases hr), fun j hj => ?_⟩
    by_cases hji : j = i
    · subst hji; exact hy.op hF (hdef j oi · hi) hi (hSC _ _ hS hwait) ⟨(hSi _ _).2 hS, H⟩
    · have h1 := H.2 j (ready_mono hj hji)
      obtain ⟨hjun, oj, hoj, hall⟩ := mem_ready.1 hj
      have hiun := (mem_ready.1 hr).1
      have hiun' := getD_of_true hiun
      have hnot : ∀ e ∈ oj.after, Region.binds .any e = true → e.on ≠ i := fun e he hb heq => by
        have h1 := hall e he hb
        rw [heq, hiun'] at h1
        cases h1
      have h2 := op_put (C := C) hF hoj (hfree j oj hoj hji hjun hnot) (fun cs b => hsel i oi cs b hi) (fun cs b => hsel j oj cs b hoj) (fun c => hdef j oj c hoj) hQ hy h1
      have hfree' : ∀ k ok, ops[k]? = some ok → k ≠ i → (listed.setIfInBounds j true).getD k true = false →
          (∀ e ∈ ok.after, Region.binds .any e = true → e.on ≠ i) → oi.apart ops ok = true := fun k ok hk hki hun hno => by
        refine hfree k ok hk hki ?_ hno
        by_cases hjk : j = k
        · subst hjk; exact hjun
        · rw [getD_set_ne true hjk] at hun; exact hun
      have hwait' : ∀ k, (listed.setIfInBounds j true).getD k false = true → waitsFor ops k i = false := fun k hk => by
        by_cases hjk : j = k
        · subst hjk; exact notWaits hj hiun'
        · rw [getD_set_ne false hjk] at hk; exact hwait k hk
      refine wpOpIn_mono (fun a' w' h3 => ?_) h2
      obtain ⟨hy', hS', hrest⟩ := h3
      rw [Array.setIfInBounds_comm _ _ (Ne.symm hji)] at hS' hrest
      have hSj := (hSi _ _).1 hS'
      exact ⟨hSj, ih (listed.setIfInBounds j true) a' w' hfree' hwait' (ready_mono hr (Ne.symm hji)) hy' hSj hrest⟩
end
end Go.Ideal

-- IdealMa
set_option linter.unusedSimpArgs false
set_option linter.unusedVariables false
namespace Go.Ideal
open Go Go.RowKit

/-! ### Blocks of cells keep their type, their length, and whether they have room -/
def Sh (h h' : IHp) : Prop := h.new.length ≤ h'.new.length ∧ ∀ (i : Nat) c e x, i < h.new.length → h'.new[i]? = some (.cells c e x) → ∃ c0, h.new[i]? = some (.cells c0 e x) ∧ c0.length = c.length
theorem Sh.refl (h : IHp) : Sh h h := ⟨Nat.le_refl _, fun i c e x _ hc => ⟨c, hc, rfl⟩⟩
theorem Sh.trans {a b c : IHp} (x : Sh a b) (y : Sh b c) : Sh a c := ⟨Nat.le_trans x.1 y.1, fun i cs e u hi hc => by
  obtain ⟨c1, h1, l1⟩ := y.2 i cs e u (Nat.lt_of_lt_of_le hi x.1) hc
  obtain ⟨c2, h2, l2⟩ := x.2 i c1 e u hi h1
  exact ⟨c2, h2, l2.trans l1⟩⟩
theorem Sh.push (h : IHp) (o : IObj) : Sh h (h.push o) := ⟨by simp [IHp.push], fun i c e x hi hc => ⟨c, by simpa [IHp.push, List.getElem?_append_left hi] using hc, rfl⟩⟩
theorem Sh.set {h : IHp} {i : Nat} {o : IObj} (ho : ∀ c e x, o = .cells c e x → ∃ c0, h.new[i]? = some (.cells c0 e x) ∧ c0.length = c.length) : Sh h { h with new := h.new.set i o } := ⟨by simp, fun j c e x hj hc => by
  simp only [List.getElem?_set] at hc
  split at hc
  · rename_i he; subst he
    simp only [hj, if_true, Option.some.injEq] at hc
    exact ho _ _ _ hc
  · exact ⟨c, hc, rfl⟩⟩
theorem Sh.setOther {h : IHp} {i : Nat} {o : IObj} (ho : ∀ c e x, o ≠ .cells c e x) : Sh h { h with new := h.new.set i o } := Sh.set fun c e x hc => absurd hc (ho c e x)

theorem Sh.setCell {h h' : IHp} {b off : Nat} {v : Value} (hs : h.setCell b off v = some h') : Sh h h' := by
  unfold IHp.setCell at hs
  split at hs
  · cases hs
  · split at hs
    · rename_i c e ex hc
      split at hs
      · cases hs
        exact Sh.set fun c1 e1 x1 he => by cases he; exact ⟨c, hc, by simp⟩
      · cases hs
    · cases hs
theorem Sh.setRow {b : Nat} : ∀ {vs : List Value} {off : Nat} {h h' : IHp}, h.setRow b off vs = some h' → Sh h h' := by
  intro vs
  induction vs with
  | nil => intro off h h' hs; simp only [IHp.setRow, Option.some.injEq] at hs; subst hs; exact Sh.refl _
  | cons v vs ih =>
    intro off h h' hs
    simp only [IHp.setRow, Option.bind_eq_some_iff] at hs
    obtain ⟨h1, h2, h3⟩ := hs
    exact (Sh.setCell h2).trans (ih h3)

theorem Sh.copy {P : Program} {h h' : IHp} {ats : Array TypeId} {args : Array Value} {v : Value} (ha : icopy P h ats args = some (v, h')) : Sh h h' := by
  unfold icopy at ha
  split at ha
  · split at ha
    · split at ha
      · cases ha
      · simp only [Option.bind_eq_some_iff, Option.map_eq_some_iff, Prod.mk.injEq] at ha
        obtain ⟨_, _, _, _, h1, h2, _, rfl⟩ := ha
        exact Sh.setRow h2
    · cases ha
  · cases ha
theorem Sh.append {P : Program} {h h' : IHp} {ats : Array TypeId} {args : Array Value} {v : Value} (ha : iappend P h ats args = some (v, h')) : Sh h h' := by
  unfold iappend at ha
  split at ha
  · split at ha
    · simp only [Option.bind_eq_some_iff] at ha
      obtain ⟨ei, _, z, _, ha⟩ := ha
      split at ha
      · cases ha
      · split at ha
        · simp only [Option.bind_eq_some_iff] at ha
          obtain ⟨new, _, ha⟩ := ha
          split at ha
          · split at ha
            · split at ha
              · cases ha; exact Sh.refl _
              · cases ha
            · simp only [Option.map_eq_some_iff, Prod.mk.injEq] at ha
              obtain ⟨h1, h2, _, rfl⟩ := ha
              exact Sh.setRow h2
          · split at ha
            · split at ha
              · cases ha; exact Sh.push _ _
              · cases ha
            · simp only [Option.bind_eq_some_iff] at ha
              obtain ⟨old, _, ha⟩ := ha
              split at ha
              · cases ha; exact Sh.push _ _
              · split at ha
                · split at ha
                  · simp only [Option.some.injEq, Prod.mk.injEq] at ha
                    obtain ⟨_, rfl⟩ := ha
                    exact (Sh.setOther (i := _) (o := .dead) (by intro c e x he; cases he)).trans (Sh.push _ _)
                  · cases ha
                · cases ha
        · cases ha
    · split at ha
      · unfold iappmake at ha
        simp only [Option.bind_eq_some_iff] at ha
        obtain ⟨ei, _, z, _, ha⟩ := ha
        split at ha
        · cases ha
        · split at ha
          · cases ha; exact Sh.push _ _
          · cases ha
      · cases ha
    · cases ha
  · cases ha

theorem Sh.heap {P : Program} {h h' : IHp} {ev : Operand → Value} {o : Oper} {v : Value} (hp : iheap P h ev o = some (v, h')) : Sh h h' := by
  obtain ⟨dst, op, type, pos, after, guard⟩ := o
  have pc : ∀ {x : Option Value}, x.map (·, h) = some (v, h') → Sh h h' := by
    intro x hx
    simp only [Option.map_eq_some_iff, Prod.mk.injEq] at hx
    obtain ⟨_, _, _, rfl⟩ := hx; exact Sh.refl _
  have ins : ∀ {t : TypeId} {m k x : Value} {h1 : IHp}, iinsert P h t m k x = some h1 → Sh h h1 := by
    intro t m k x h1 hi
    unfold iinsert at hi
    split at hi
    · split at hi
      · cases hi
      · split at hi
        · split at hi
          · split at hi
            · cases hi; exact Sh.setOther (by intro c e x he; cases he)
            · cases hi
          · cases hi
        · cases hi
    · cases hi
  cases op
  case load => exact pc (by simpa only [iheap] using hp)
  case convert src dst x =>
    simp only [iheap] at hp
    split at hp
    · cases hp; exact Sh.refl _
    · split at hp
      · simp only [Option.map_eq_some_iff, Prod.mk.injEq] at hp
        obtain ⟨_, _, _, rfl⟩ := hp
        exact Sh.refl _
      · exact pc hp
  case lookup => exact pc (by simpa only [iheap] using hp)
  case store t a x =>
    simp only [iheap] at hp
    split at hp
    · simp only [Option.map_eq_some_iff, Prod.mk.injEq] at hp
      obtain ⟨h1, hs, _, rfl⟩ := hp
      unfold istore at hs
      split at hs
      · simp only [Option.bind_eq_some_iff] at hs
        obtain ⟨n, _, hs⟩ := hs
        split at hs
        · exact Sh.setRow hs
        · cases hs
      · cases hs
    · cases hp
  case alloc t =>
    simp only [iheap, Option.bind_eq_some_iff] at hp
    obtain ⟨z, _, hp⟩ := hp
    split at hp
    · cases hp; exact Sh.push _ _
    · cases hp
  case box t x =>
    simp only [iheap] at hp
    split at hp
    · cases hp; exact Sh.push _ _
    · cases hp
  case buildSlice t len parts =>
    simp only [iheap] at hp
    split at hp
    · simp only [Option.bind_eq_some_iff] at hp
      obtain ⟨s, _, hp⟩ := hp
      split at hp
      · cases hp
      · simp only [Option.bind_eq_some_iff] at hp
        obtain ⟨z, _, hp⟩ := hp
        split at hp
        · cases hp
        · simp only [Option.bind_eq_some_iff] at hp
          obtain ⟨cells, _, hp⟩ := hp
          split at hp
          · cases hp; exact Sh.push _ _
          · cases hp
    · cases hp
  case makeSlice t l c =>
    simp only [iheap] at hp
    split at hp
    · simp only [Option.bind_eq_some_iff] at hp
      obtain ⟨ei, _, z, _, hp⟩ := hp
      split at hp
      · cases hp
      · split at hp
        · cases hp; exact Sh.push _ _
        · cases hp
    · cases hp
  case makeMap t r =>
    cases r with
    | none => simp only [iheap, Option.some.injEq, Prod.mk.injEq] at hp; obtain ⟨_, rfl⟩ := hp; exact Sh.push _ _
    | some r => exact pc (by simpa only [iheap] using hp)
  case mapUpdate t m k x =>
    simp only [iheap, Option.map_eq_some_iff, Prod.mk.injEq] at hp
    obtain ⟨h1, hs, _, rfl⟩ := hp; exact ins hs
  case insert t m k x =>
    simp only [iheap, Option.map_eq_some_iff, Prod.mk.injEq] at hp
    obtain ⟨h1, hs, _, rfl⟩ := hp; exact ins hs
  case call c =>
    obtain ⟨callee, args, ats⟩ := c
    cases callee with
    | builtin b =>
      cases b <;> first
        | exact pc (by simpa only [iheap] using hp)
        | (simp only [iheap] at hp
           split at hp
           · first | exact Sh.append hp | exact Sh.copy hp
           · cases hp)
    | _ => exact pc (by simpa only [iheap] using hp)
  all_goals exact pc (by simpa only [iheap] using hp)

def CallSh (call : ICall) : Prop := ∀ c args h v h', call c args h = some (v, h') → Sh h h'
theorem Sh.op {P : Program} {call : ICall} (hc : CallSh call) {ops : Array Oper} {i : Nat} {st st' : St} (hs : iop P call ops i st = some st') : Sh st.h st'.h := by
  unfold iop at hs
  split at hs
  · cases hs
  · split at hs
    · split at hs
      · simp only [Option.map_eq_some_iff] at hs
        obtain ⟨⟨v, h⟩, h1, rfl⟩ := hs
        exact hc _ _ _ _ _ h1
      · simp only [Option.map_eq_some_iff] at hs
        obtain ⟨⟨v, h⟩, h1, rfl⟩ := hs
        exact Sh.heap h1
    · cases hs; exact Sh.refl _
theorem Sh.ops {P : Program} {call : ICall} (hc : CallSh call) {ops : Array Oper} : ∀ {l : List Nat} {st st' : St}, iops P call ops l st = some st' → Sh st.h st'.h := by
  intro l
  induction l with
  | nil => intro st st' hs; simp only [iops, Option.some.injEq] at hs; subst hs; exact Sh.refl _
  | cons i l ih =>
    intro st st' hs
    simp only [iops, Option.bind_eq_some_iff] at hs
    obtain ⟨st1, h1, h2⟩ := hs
    exact (Sh.op hc h1).trans (ih h2)
theorem Sh.plan {P : Program} {call : ICall} (hc : CallSh call) {ops : Array Oper} : ∀ {l : List PStep} {st st' : St} {held : Held} {snaps : List IHp}, iplan P call ops l st held snaps = some st' → Sh st.h st'.h := by
  intro l
  induction l with
  | nil => intro st st' held snaps hs; simp only [iplan, Option.some.injEq] at hs; subst hs; exact Sh.refl _
  | cons x l ih =>
    intro st st' held snaps hs
    cases x with
    | take i =>
      simp only [iplan, Option.bind_eq_some_iff] at hs
      obtain ⟨o, _, hs⟩ := hs
      split at hs
      · simp only [Option.bind_eq_some_iff] at hs
        obtain ⟨more, _, hs⟩ := hs
        split at hs
        · simp only [Option.bind_eq_some_iff] at hs
          obtain ⟨⟨v, h1⟩, _, hs⟩ := hs
          have := ih hs
          exact this
        · cases hs
      · have := ih hs
        exact this
    | one i =>
      simp only [iplan, Option.bind_eq_some_iff] at hs
      obtain ⟨st1, h1, hs⟩ := hs
      split at hs
      · exact (Sh.op hc h1).trans (ih hs)
      · cases hs
    | virt i =>
      simp only [iplan, Option.bind_eq_some_iff] at hs
      obtain ⟨o, _, m, _, hs⟩ := hs
      split at hs
      · exact (Sh.push _ _).trans (ih hs)
      · cases hs

def CodeSh (run : Code → St → Option (IExit × St)) : Prop := ∀ c st e st', run c st = some (e, st') → Sh st.h st'.h
theorem Sh.shut : ∀ {ms : List Nat} {h h' : IHp}, ishut h ms = some h' → Sh h h' := by
  intro ms
  induction ms with
  | nil => intro h h' hs; simp only [ishut, Option.some.injEq] at hs; subst hs; exact Sh.refl _
  | cons d ms ih =>
    intro h h' hs
    simp only [ishut] at hs
    split at hs
    · exact (Sh.setOther (i := d) (o := .dead) (by intro c e x he; cases he)).trans (ih hs)
    · cases hs
theorem callSh_of_code {P : Program} {run : Code → St → Option (IExit × St)} (hr : CodeSh run) : CallSh (icallBy P run) := by
  intro c args h v h' hc
  cases c with
  | fn f =>
    simp only [icallBy, ienter] at hc
    split at hc
    · cases hc
    · split at hc
      · cases hc
      · rename_i fn _ _ cd _
        split at hc
        · have key : ∀ (e : IExit) (st : St), run cd { s := fun i => args.getD i undef, h := h, nt := fn.ntmps } = some (e, st) → ((ishut st.h st.marks).bind fun h => (iresults P { st with h } fn.results.toList).map fun vs => (iret vs, h)) = some (v, h') → Sh h h' := by
            intro e st h1 h2
            simp only [Option.bind_eq_some_iff, Option.map_eq_some_iff, Prod.mk.injEq] at h2
            obtain ⟨h3, h4, vs, _, _, rfl⟩ := h2
            exact (hr _ _ _ _ h1).trans (Sh.shut h4)
          split at hc
          · rename_i st h1; exact key _ _ h1 hc
          · rename_i st h1; exact key _ _ h1 hc
          · cases hc
        · cases hc
  | yld l =>
    simp only [icallBy, iround] at hc
    split at hc
    · cases hc
    · split at hc
      · split at hc
        · split at hc
          · rename_i st1 h1
            split at hc
            · split at hc
              · rename_i e st2 h2
                split at hc
                · have hb : Sh h st2.h := (hr _ _ _ _ h1).trans ((Sh.setOther (h := st1.h) (by intro c e x he; cases he)).trans (hr _ _ _ _ h2))
                  split at hc <;> (cases hc; exact hb.trans (Sh.setOther (by intro c e x he; cases he)))
                · cases hc
              · cases hc
            · cases hc
          · cases hc
        · cases hc
      · cases hc
theorem codeSh (P : Program) : ∀ n, CodeSh (icode P n) := by
  intro n
  induction n with
  | zero => intro c st e st' h; simp [icode] at h
  | succ n ih =>
    have hcall : CallSh (icallBy P (icode P n)) := callSh_of_code ih
    intro c st e st' h
    cases c <;> simp only [icode] at h
    case skip => cases h; exact Sh.refl _
    case exit => cases h; exact Sh.refl _
    case ret => cases h; exact Sh.refl _
    case region id ops draw =>
      split at h
      · simp only [Option.map_eq_some_iff, Prod.mk.injEq] at h
        obtain ⟨st1, h1, _, rfl⟩ := h
        simp only [idraw, Option.bind_eq_some_iff] at h1
        obtain ⟨p, _, h1⟩ := h1
        exact Sh.plan hcall h1
      · simp only [Option.map_eq_some_iff, Prod.mk.injEq] at h
        obtain ⟨st1, h1, _, rfl⟩ := h
        exact Sh.ops hcall h1
    case seq a b =>
      split at h
      · rename_i st1 h1; exact (ih _ _ _ _ h1).trans (ih _ _ _ _ h)
      · exact ih _ _ _ _ h
    case cond c a b =>
      split at h
      · exact ih _ _ _ _ h
      · cases h
    case block id b =>
      split at h
      · rename_i j st1 h1
        split at h <;> (cases h; exact ih _ _ _ _ h1)
      · exact ih _ _ _ _ h
    case loop b =>
      split at h
      · rename_i st1 h1; exact (ih _ _ _ _ h1).trans (ih _ _ _ _ h)
      · exact ih _ _ _ _ h
    case rangeFunc f ps as b =>
      unfold irange at h
      split at h
      · cases h
      · simp only at h
        split at h
        · simp only [Option.bind_eq_some_iff] at h
          obtain ⟨⟨v, h3⟩, h1, h⟩ := h
          have hb : Sh st.h h3 := (Sh.push _ _).trans ((Sh.push _ _).trans (hcall _ _ _ _ _ h1))
          simp only at h
          split at h
          · split at h
            · have hb2 := fun (o : IObj) ho => hb.trans (Sh.setOther (h := h3) (i := st.h.new.length + 1) (o := o) ho)
              split at h
              · cases h; exact hb2 _ (by intro c e x he; cases he)
              · cases h; exact hb2 _ (by intro c e x he; cases he)
              · cases h; exact hb2 _ (by intro c e x he; cases he)
              · cases h
            · cases h
          · cases h
        · cases h
    all_goals cases h
end Go.Ideal

-- IdealMb
set_option linter.unusedSimpArgs false
set_option linter.unusedVariables false
namespace Go.Ideal
open Go Go.RowKit

/-! ### What an operation looks at -/
theorem iflat_congr {P : Program} {ev ev' : Operand → Value} {o : Oper} (hs : ∀ cs b, o.op ≠ .select cs b) (h : ∀ x ∈ o.op.operands, ev x = ev' x) : iflat P ev o = iflat P ev' o := by
  unfold iflat; rw [execOp_congr o hs h]
theorem opFlat_congr {ev ev' : Operand → Value} {o : Oper} (h : ∀ x ∈ o.op.operands, ev x = ev' x) : opFlat ev o = opFlat ev' o := by
  have e : ∀ l : List Operand, (∀ x ∈ l, ev x = ev' x) → (l.all fun x => flat (ev x)) = (l.all fun x => flat (ev' x)) := by
    intro l
    induction l with
    | nil => intro _; rfl
    | cons a l ih => intro hl; simp only [List.all_cons]; rw [hl a (by simp), ih fun x hx => hl x (by simp [hx])]
  unfold opFlat
  exact e _ fun x hx => h x (Array.mem_toList_iff.1 hx)
theorem pairs_congr {ev ev' : Operand → Value} (ps : Array (Nat × Operand)) (hp : ∀ x ∈ ps.map (·.2), ev x = ev' x) : (ps.map fun (i, x) => (i, ev x)) = (ps.map fun (i, x) => (i, ev' x)) :=
  Array.map_congr_left fun p hm => by
    obtain ⟨i, x⟩ := p
    simp only [hp x (Array.mem_map.2 ⟨(i, x), hm, rfl⟩)]

theorem ipure_congr {P : Program} {h : IHp} {ev ev' : Operand → Value} {o : Oper} (hs : ∀ cs b, o.op ≠ .select cs b) (he : ∀ x ∈ o.op.operands, ev x = ev' x) : ipure P h ev o = ipure P h ev' o := by
  have h1 := iflat_congr (P := P) hs he
  have h2 := opFlat_congr he
  obtain ⟨dst, op, type, pos, after, guard⟩ := o
  cases op <;> simp only [Op.operands] at he <;> simp only [ipure]
  case build t ps => rw [pairs_congr ps fun x hx => he x (by simpa using hx)]
  case makeFunc fn first captured =>
    cases fn <;> simp only
    rw [Array.map_congr_left (xs := first) fun x hx => he x (by simp [hx]), Array.map_congr_left (xs := captured) fun x hx => he x (by simp [hx])]
  case slice t x lo hi mx => cases lo <;> cases hi <;> cases mx <;> simp_all
  case call c =>
    obtain ⟨callee, args, ats⟩ := c
    cases callee with
    | builtin b =>
      have ha : ∀ x, args[0]? = some x → ev x = ev' x := fun x hx => he x (by simp [Call.operands, Array.mem_of_getElem? hx])
      cases b <;> first
        | (simp only [h1, h2]; done)
        | (cases hx : args[0]? with
           | none => simp only [hx]
           | some x =>
             cases h0 : ats[0]? with
             | none => simp only [hx, h0]
             | some t => simp only [hx, h0, ha x hx])
    | _ => first | rfl | (simp only [h1, h2]; done)
  all_goals first
    | rfl
    | (simp only [h1, h2]; done)
    | (simp_all; done)

theorem iheap_congr {P : Program} {h : IHp} {ev ev' : Operand → Value} {o : Oper} (hs : ∀ cs b, o.op ≠ .select cs b) (he : ∀ x ∈ o.op.operands, ev x = ev' x) : iheap P h ev o = iheap P h ev' o := by
  have h1 := ipure_congr (P := P) (h := h) hs he
  obtain ⟨dst, op, type, pos, after, guard⟩ := o
  cases op <;> simp only [Op.operands] at he <;> simp only [iheap]
  case buildSlice t n ps => rw [pairs_congr ps fun x hx => he x (by simpa using hx)]
  case makeMap t r => cases r <;> simp only [h1]
  case call c =>
    obtain ⟨callee, args, ats⟩ := c
    have ha : args.map ev = args.map ev' := Array.map_congr_left fun x hx => he x (by simp [Call.operands, hx])
    cases callee with
    | builtin b => cases b <;> first | (simp only [h1]; done) | (simp only [ha]; done)
    | _ => simp only [h1]
  all_goals first
    | rfl
    | (simp only [h1]; done)
    | (simp_all; done)

theorem imade_congr {P : Program} {ev ev' : Operand → Value} {o : Oper} (he : ∀ x ∈ o.op.operands, ev x = ev' x) : imade P ev o = imade P ev' o := by
  obtain ⟨dst, op, type, pos, after, guard⟩ := o
  cases op <;> simp only [Op.operands] at he <;> simp only [imade]
  rename_i t n ps
  rw [pairs_congr ps fun x hx => he x (by simpa using hx)]
theorem icallee_congr {P : Program} {ev ev' : Operand → Value} {o : Oper} (he : ∀ x ∈ o.op.operands, ev x = ev' x) : icallee P ev o = icallee P ev' o := by
  obtain ⟨dst, op, type, pos, after, guard⟩ := o
  cases op <;> simp only [Op.operands] at he <;> simp only [icallee]
  rename_i c
  obtain ⟨callee, args, ats⟩ := c
  have ha : args.map ev = args.map ev' := Array.map_congr_left fun x hx => he x (by simp [Call.operands, hx])
  cases callee with
  | value f => simp only [ha, he f (by simp [Call.operands])]
  | _ => rfl
theorem heldOf_congr {P : Program} {h : IHp} {ev ev' : Operand → Value} {i : Nat} {o : Oper} (he : ∀ x ∈ o.op.operands, ev x = ev' x) : heldOf P h ev i o = heldOf P h ev' i o := by
  obtain ⟨dst, op, type, pos, after, guard⟩ := o
  cases op <;> simp only [Op.operands] at he <;> simp only [heldOf]
  all_goals simp_all

/-- the slots agree on what the operation looks at -/
def Agree (ops : Array Oper) (o : Oper) (s s' : Nat → Value) : Prop := ∀ t ∈ o.looksAt ops, s t = s' t
theorem Agree.ev {ops : Array Oper} {o : Oper} {s s' : Nat → Value} (ha : Agree ops o s s') {h h' : IHp} {nt nt' : Nat} {m m' : List Nat} {r r' : Bool} : ∀ x ∈ o.op.operands, St.eval ⟨s, h, nt, m, r⟩ x = St.eval ⟨s', h', nt', m', r'⟩ x := by
  intro x hx
  cases x with
  | tmp t => exact ha t (List.mem_append_left _ (List.mem_filterMap.2 ⟨.tmp t, by simpa using hx, rfl⟩))
  | _ => rfl
theorem Agree.wanted {ops : Array Oper} {o : Oper} {s s' : Nat → Value} (ha : Agree ops o s s') : iwanted ops s o = iwanted ops s' o := by
  unfold iwanted Region.wanted
  cases hg : o.guard with
  | none => rfl
  | some gw =>
    obtain ⟨g, want⟩ := gw
    have : iyielded ops s g = iyielded ops s' g := by
      unfold iyielded
      cases ht : (ops[g]?).bind (·.dst) with
      | none => rfl
      | some t => simp only [ha t (by simp [Oper.looksAt, hg, ht])]
    simp only [this]

theorem iop_agree {P : Program} {call : ICall} {ops : Array Oper} {i : Nat} {st st1 : St} {s' : Nat → Value} {o : Oper} (ho : ops[i]? = some o) (hs : ∀ cs b, o.op ≠ .select cs b) (ha : Agree ops o st.s s') (h : iop P call ops i st = some st1) :
    ∃ v, st1.s = putS st.s o.dst v ∧ st1.nt = st.nt ∧ st1.rd = st.rd ∧ st1.marks = st.marks ∧ iop P call ops i { st with s := s' } = some { st1 with s := putS s' o.dst v } := by
  unfold iop at h ⊢
  simp only [ho] at h ⊢
  have hw := ha.wanted
  have he : ∀ x ∈ o.op.operands, st.eval x = ({ st with s := s' } : St).eval x := ha.ev
  rw [← hw, ← icallee_congr he, ← iheap_congr hs he]
  split at h
  · rename_i hwt
    rw [if_pos hwt]
    split at h
    · rename_i f args hc
      simp only [Option.map_eq_some_iff] at h
      obtain ⟨⟨v, h'⟩, h1, rfl⟩ := h
      exact ⟨v, rfl, rfl, rfl, rfl, by simp only [h1, Option.map_some]⟩
    · rename_i hc
      simp only [Option.map_eq_some_iff] at h
      obtain ⟨⟨v, h'⟩, h1, rfl⟩ := h
      exact ⟨v, rfl, rfl, rfl, rfl, by simp only [h1, Option.map_some]⟩
  · rename_i hwt
    rw [if_neg hwt]
    cases h
    exact ⟨undef, rfl, rfl, rfl, rfl, rfl⟩

/-! ### A block that was taken ahead of its time comes into being -/
section
variable {P : Program} {base : Nat} {w0 w : World} {ρ : RM} {h : IHp}
theorem HRel.fill (H : HRel P base w0 ρ h w) {b x : Nat} {o : IObj} {O : Obj} (hb : h.new[b]? = some o) (hn : ρ.at_ b = none) (hO : ∀ ρ', ρ.sub ρ' → ORel P ρ' x o (some O)) :
    HRel P base w0 (ρ.fill b (w.heap.size, x)) h (w.alloc O) := by
  have hle : ρ.sub (ρ.fill b (w.heap.size, x)) := RM.sub_fill hn
  have hblt : b < h.new.length := (List.getElem?_eq_some_iff.1 hb).1
  refine ⟨H.below.alloc H.size O, by simp [heap_alloc']; have := H.size; omega, H.old, ?_, ?_, ?_⟩
  · intro i oi ri xi hi hρi
    by_cases e : i = b
    · subst e
      rw [hb] at hi; cases hi
      rw [RM.fill_at] at hρi; cases hρi
      exact ⟨H.size, by simp [heap_alloc'], by simpa [heap_alloc'] using hO _ hle⟩
    · rw [RM.fill_ne e] at hρi
      obtain ⟨hb', hr, hOi⟩ := H.blk _ _ _ _ hi hρi
      refine ⟨hb', by simp [heap_alloc']; omega, ?_⟩
      have : (w.alloc O).heap[ri]? = w.heap[ri]? := by rw [heap_alloc', Array.getElem?_push]; simp; omega
      rw [this]
      exact hOi.sub hle
  · intro i j oi oj r y z hi hli hj hlj hρi hρj
    by_cases e1 : i = b
    · by_cases e2 : j = b
      · omega
      · subst e1
        rw [RM.fill_at] at hρi; cases hρi
        rw [RM.fill_ne e2] at hρj
        obtain ⟨_, hr, _⟩ := H.blk _ _ _ _ hj hρj
        omega
    · rw [RM.fill_ne e1] at hρi
      by_cases e2 : j = b
      · subst e2
        rw [RM.fill_at] at hρj; cases hρj
        obtain ⟨_, hr, _⟩ := H.blk _ _ _ _ hi hρi
        omega
      · rw [RM.fill_ne e2] at hρj
        exact H.inj i j oi oj r y z hi hli hj hlj hρi hρj
  · exact ⟨H.dom.1, fun i hi => by rw [RM.fill_ne (by omega)]; exact H.dom.2 i hi⟩
end
end Go.Ideal

-- IdealN
set_option linter.unusedSimpArgs false
set_option linter.unusedVariables false
namespace Go.Ideal
open Go Go.RowKit

/-- no operation that has been carried out and acts waits for i -/
def liveAt (ops : Array Oper) (vt : Nat → Bool) (D : Array Bool) (i : Nat) : Prop := ∀ j, D.getD j false = true → quietAt ops j = false → vt j = false → waitsFor ops j i = false
/-- the cells of E are as they were in w1 -/
def SE (ops : Array Oper) (vt : Nat → Bool) (ρ0 : RM) (w1 : World) (E : Held) (D : Array Bool) (w : World) : Prop :=
  ∀ e ∈ E, liveAt ops vt D e.1 → ∀ rb, ρ0.block e.2.1 = some rb → w.cell? ⟨rb, e.2.2.1, none⟩ = w1.cell? ⟨rb, e.2.2.1, none⟩

section
variable {P : Program} {base : Nat} {w0 : World} {ops : Array Oper} {F : Fence} {n : Nat} {Q : Exit → Act → World → Prop}

theorem liveAt_set {vt : Nat → Bool} {D : Array Bool} {i k : Nat} (hq : quietAt ops i = true) : liveAt ops vt (D.setIfInBounds i true) k ↔ liveAt ops vt D k := by
  constructor
  · intro h j hj hn
    refine h j ?_ hn
    exact getD_set_true hj
  · intro h j hj hn
    by_cases e : i = j
    · subst e; rw [hq] at hn; cases hn
    · rw [getD_set_ne false e] at hj; exact h j hj hn
theorem liveAt_less {vt : Nat → Bool} {D D' : Array Bool} {k : Nat} (hs : ∀ j, D.getD j false = true → D'.getD j false = true) (h : liveAt ops vt D' k) : liveAt ops vt D k := fun j hj => h j (hs j hj)

theorem SE_set {vt : Nat → Bool} {ρ0 : RM} {w1 : World} {E : Held} {i : Nat} (hq : quietAt ops i = true) (D : Array Bool) (w : World) : SE ops vt ρ0 w1 E (D.setIfInBounds i true) w ↔ SE ops vt ρ0 w1 E D w := by
  unfold SE
  constructor
  · intro h e he hl; exact h e he ((liveAt_set hq).2 hl)
  · intro h e he hl; exact h e he ((liveAt_set hq).1 hl)

theorem heldIn_cell {h : IHp} {l : Held} (hh : heldIn h l = true) {e : Nat × Nat × Nat × Value} (he : e ∈ l) : h.cell? e.2.1 e.2.2.1 = some e.2.2.2 := by
  unfold heldIn at hh
  rw [List.all_eq_true] at hh
  have := hh e he
  obtain ⟨i, b, off, v⟩ := e
  simp only at this ⊢
  split at this
  · rename_i u hu
    rw [hu, veq_eq this]
  · cases this

theorem cellsOf_mem {i b : Nat} : ∀ (vs : List Value) (off j : Nat) (v : Value), vs[j]? = some v → (i, b, off + j, v) ∈ cellsOf i b off vs := by
  intro vs
  induction vs with
  | nil => intro off j v h; simp at h
  | cons u vs ih =>
    intro off j v h
    cases j with
    | zero => simp at h; subst h; simp [cellsOf]
    | succ j =>
      have := ih (off + 1) j v (by simpa using h)
      simp only [cellsOf, List.mem_cons]
      right
      rw [show off + (j + 1) = off + 1 + j by omega]; exact this

theorem RM.block_before {ρ0 ρ : RM} {h0 : IHp} {b off rb : Nat} {v : Value} (hle : ρ0.le ρ) (hd : ρ0.dom = h0.new.length) (hc : h0.cell? b off = some v) (hb : ρ.block b = some rb) : ρ0.block b = some rb := by
  unfold IHp.cell? at hc
  by_cases ho : b % 2 = 1
  · simp only [RM.block, ho, if_true] at hb ⊢; exact hb
  · rw [if_neg ho] at hc
    have hlt : b / 2 < ρ0.dom := by
      rw [hd]
      cases hx : h0.new[b / 2]? with
      | none => rw [hx] at hc; cases hc
      | some o => exact (List.getElem?_eq_some_iff.1 hx).1
    obtain ⟨x, hx⟩ := RM.block_at ho hb
    cases hy : ρ0.at_ (b / 2) with
    | none => rw [hle.2.2 _ hlt hy] at hx; cases hx
    | some p =>
      have := hle.1 _ _ hy
      rw [hx] at this; cases this
      simp [RM.block, ho, hy]

/-- what a quiet operation yields, in every world whose cells are as at the region's start -/
theorem quiet_yields {ρ0 ρ : RM} {w1 w : World} {h0 : IHp} {st : St} {a : Act} {o : Oper} {i : Nat} {v : Value} {h' : IHp} {more : Held} (hq : isQuiet o.op = true) (hle : ρ0.le ρ) (H0 : HRel P base w0 ρ0 h0 w1)
    (S : StRel P base w0 ρ st a w) (hok : okOper st.nt o = true) (hm : heldOf P st.h st.eval i o = some more) (h0m : heldIn h0 more = true) (hp : iheap P st.h st.eval o = some (v, h')) :
    ∃ v', R ρ v v' ∧ ∀ w2 : World, (∀ e ∈ more, ∀ rb, ρ0.block e.2.1 = some rb → w2.cell? ⟨rb, e.2.2.1, none⟩ = w1.cell? ⟨rb, e.2.2.1, none⟩) → (execOp a.eval o).run P w2 = .ok (.value v') w2 := by
  have hev := S.evs hok
  obtain ⟨dst, op, type, pos, after, guard⟩ := o
  by_cases hload : ∃ t x, op = .load t x
  · obtain ⟨t, x, rfl⟩ := hload
    simp only [iheap, Option.map_eq_some_iff, Prod.mk.injEq] at hp
    obtain ⟨u, hu, rfl, _⟩ := hp
    have hx := hev x (by simp [Op.operands])
    simp only [heldOf] at hm
    unfold iload at hu
    cases hxv : st.eval x with
    | pointer ad =>
      cases ad with
      | none => simp [hxv] at hu
      | some ad =>
        rw [hxv] at hx hu hm
        obtain ⟨hs, rb, hb, hax⟩ := R_ptr hx
        simp only [Option.bind_eq_some_iff] at hm hu
        obtain ⟨g, hg, hm⟩ := hm
        obtain ⟨g', hg', hu⟩ := hu
        rw [hg] at hg'; cases hg'
        -- the block lay at the start
        have hstart : ∀ e ∈ more, e.2.1 = ad.block → ρ0.block ad.block = some rb := by
          intro e he heb
          have h1 := heldIn_cell h0m he
          rw [heb] at h1
          exact RM.block_before hle H0.dom.1 h1 hb
        cases g with
        | true =>
          simp only [Option.bind_eq_some_iff, Option.map_eq_some_iff] at hm hu
          obtain ⟨n1, hn1, vs, hvs, rfl⟩ := hm
          obtain ⟨n2, hn2, vs2, hvs2, rfl⟩ := hu
          rw [hn1] at hn2; cases hn2
          rw [hvs] at hvs2; cases hvs2
          have hlen := (S.heap.row hb _ _ _ hvs).1
          -- the values at the start
          have hval : ∀ (j : Nat) v, vs[j]? = some v → ∃ v', w1.cell? ⟨rb, ad.off + j, none⟩ = some v' ∧ R ρ v v' := by
            intro j v hj
            have hmem := cellsOf_mem (i := i) (b := ad.block) vs ad.off j v hj
            have hc := heldIn_cell h0m hmem
            have h4 := hstart _ hmem rfl
            obtain ⟨_, v', h2, h3⟩ := H0.cell h4 hc
            exact ⟨v', h2, R_mono hle _ _ h3⟩
          let vs' := (List.range vs.length).map fun j => (w1.cell? ⟨rb, ad.off + j, none⟩).getD undef
          have hvs' : ∀ (j : Nat) v, vs[j]? = some v → ∃ v', vs'[j]? = some v' ∧ R ρ v v' ∧ w1.cell? ⟨rb, ad.off + j, none⟩ = some v' := by
            intro j v hj
            obtain ⟨v', h1, h2⟩ := hval j v hj
            refine ⟨v', ?_, h2, h1⟩
            have hlt := (List.getElem?_eq_some_iff.1 hj).1
            simp [vs', hlt, h1]
          have hl' : vs'.length = vs.length := by simp [vs']
          refine ⟨.agg vs'.toArray, ?_, fun w2 hw2 => ?_⟩
          · rw [R_agg]
            exact ⟨_, rfl, RA_of_lists hl' fun j v hj => let ⟨v', a, b, _⟩ := hvs' j v hj; ⟨v', a, b⟩⟩
          · have hc2 : ∀ (j : Nat) v', vs'[j]? = some v' → w2.cell? ⟨rb, ad.off + j, none⟩ = some v' := by
              intro j v' hj
              have hlt := (List.getElem?_eq_some_iff.1 hj).1
              rw [hl'] at hlt
              obtain ⟨v'', h1, _, h3⟩ := hvs' j vs[j] (by simp [hlt])
              rw [hj] at h1; cases h1
              have hmem := cellsOf_mem (i := i) (b := ad.block) vs ad.off j vs[j] (by simp [hlt])
              have := hw2 _ hmem rb (hstart _ hmem rfl)
              simp only at this
              rw [this]; exact h3
            have hrun := load_agg (P := P) (w := w2) (t := t) (rb := rb) (off := ad.off) (vs' := vs') hg (by rw [hl', hlen]; exact hn1) hc2
            simp only [execOp, hax, Sem.run_bind, hrun, Result.andThen, Sem.run_pure]
        | false =>
          simp only [Option.map_eq_some_iff] at hm
          obtain ⟨u', hu', rfl⟩ := hm
          rw [hu'] at hu; cases hu
          have hmem : ((i, ad.block, ad.off, u) : Nat × Nat × Nat × Value) ∈ ([(i, ad.block, ad.off, u)] : Held) := by simp
          have hc := heldIn_cell h0m hmem
          have h4 := hstart _ hmem rfl
          obtain ⟨_, v', h2, h3⟩ := H0.cell h4 hc
          refine ⟨v', R_mono hle _ _ h3, fun w2 hw2 => ?_⟩
          have := hw2 _ hmem rb h4
          simp only at this
          have hrun := load_one (P := P) (w := w2) (t := t) (rb := rb) (off := ad.off) (v := v') hg (by rw [this]; exact h2)
          simp only [execOp, hax, Sem.run_bind, hrun, Result.andThen, Sem.run_pure]
    | _ => simp [hxv] at hu
  by_cases hconv : ∃ src dst x b off vs, op = .convert src dst x ∧ ibtsRow P st.h src dst (st.eval x) = some (b, off, vs)
  · obtain ⟨src, dst, x, b, off, vs, rfl, hrow⟩ := hconv
    simp only [isQuiet] at hq
    simp only [iheap, iconv_ne hq, hrow, Option.map_eq_some_iff, Prod.mk.injEq] at hp
    obtain ⟨r, hr, rfl, _⟩ := hp
    simp only [heldOf, hrow, Option.some.injEq] at hm
    subst hm
    obtain ⟨ad, c, e, hxv, hsp, rfl, rfl, hu, hd, he, hrw⟩ := ibtsRow_inv hrow
    have hx := hev x (by simp [Op.operands])
    rw [hxv] at hx
    obtain ⟨_, rb, hb, hax⟩ := R_slice hx hsp
    refine ⟨.string r, flat_R rfl, fun w2 hw2 => ?_⟩
    -- the values at the start
    have hval : ∀ (j : Nat) v, vs[j]? = some v → ∃ v', w2.cell? ⟨rb, ad.off + j, none⟩ = some v' ∧ R ρ0 v v' := by
      intro j v hj
      have hmem := cellsOf_mem (i := i) (b := ad.block) vs ad.off j v hj
      have hc := heldIn_cell h0m hmem
      have h4 := RM.block_before hle H0.dom.1 hc hb
      obtain ⟨_, v', h2, h3⟩ := H0.cell h4 hc
      refine ⟨v', ?_, h3⟩
      have := hw2 _ hmem rb h4
      simp only at this
      rw [this]; exact h2
    let vs' := (List.range vs.length).map fun j => (w2.cell? ⟨rb, ad.off + j, none⟩).getD undef
    have hvs' : ∀ (j : Nat) v, vs[j]? = some v → ∃ v', vs'[j]? = some v' ∧ R ρ0 v v' ∧ w2.cell? ⟨rb, ad.off + j, none⟩ = some v' := by
      intro j v hj
      obtain ⟨v', h1, h2⟩ := hval j v hj
      refine ⟨v', ?_, h2, h1⟩
      have hlt := (List.getElem?_eq_some_iff.1 hj).1
      simp [vs', hlt, h1]
    have hl' : vs'.length = vs.length := by simp [vs']
    have hrun := bts_run (P := P) (w := w2) (ρ := ρ0) (rb := rb) (off := ad.off) (c := c + ρ.extra ad.block) (vs' := vs') hu hd he hl' (fun j v' hj => by
      have hlt := (List.getElem?_eq_some_iff.1 hj).1
      rw [hl'] at hlt
      obtain ⟨v'', h1, _, h3⟩ := hvs' j vs[j] (by simp [hlt])
      rw [hj] at h1; cases h1
      exact h3) (fun j v hj => let ⟨v', a, b, _⟩ := hvs' j v hj; ⟨v', a, b⟩) hr
    simp only [execOp, hax, Sem.run_bind, hrun, Result.andThen, Sem.run_pure]
  · have hpure : ∃ u, ipure P st.h st.eval ⟨dst, op, type, pos, after, guard⟩ = some u ∧ v = u := by
      have pc : ∀ {x : Option Value}, x.map (·, st.h) = some (v, h') → ∃ u, x = some u ∧ v = u := by
        intro x hx
        simp only [Option.map_eq_some_iff, Prod.mk.injEq] at hx
        obtain ⟨u, h1, h2, _⟩ := hx
        exact ⟨u, h1, h2.symm⟩
      cases op <;> simp only [isQuiet, Bool.false_eq_true] at hq <;> try (exact pc (by simpa only [iheap] using hp))
      case convert src dst x =>
        simp only [iheap, iconv_ne hq] at hp
        cases hrow : ibtsRow P st.h src dst (st.eval x) with
        | some u => exact absurd ⟨src, dst, x, u.1, u.2.1, u.2.2, rfl, hrow⟩ hconv
        | none => simp only [hrow] at hp; exact pc hp
      · exact absurd ⟨_, _, rfl⟩ hload
      · rename_i c
        obtain ⟨callee, args, ats⟩ := c
        cases callee with
        | builtin b => cases b <;> simp at hq <;> exact pc (by simpa only [iheap] using hp)
        | _ => simp at hq
    obtain ⟨u, hu, rfl⟩ := hpure
    obtain ⟨v', h1, h2⟩ := ipure_sound S.heap hu hev
    exact ⟨v', h1, fun w2 _ => h2 w2⟩
theorem closed_set {listed : Array Bool} {i : Nat} (hi : i ∈ Region.ready .any ops listed) (h : ∀ j k, listed.getD j false = true → waitsFor ops j k = true → listed.getD k false = true) :
    ∀ j k, (listed.setIfInBounds i true).getD j false = true → waitsFor ops j k = true → (listed.setIfInBounds i true).getD k false = true := by
  intro j k hj hw
  by_cases e : i = j
  · subst e
    refine getD_set_true ?_
    cases hk : listed.getD k false with
    | true => rfl
    | false => rw [notWaits hi hk] at hw; cases hw
  · rw [getD_set_ne false e] at hj
    exact getD_set_true (h j k hj hw)

end
end Go.Ideal

-- IdealNa
set_option linter.unusedSimpArgs false
set_option linter.unusedVariables false
namespace Go.Ideal
open Go Go.RowKit

section
variable {P : Program} {base : Nat} {w0 : World} {ops : Array Oper} {F : Fence} {n : Nat} {Q : Exit → Act → World → Prop}

theorem apart_symm {x y : Oper} (h : x.apart ops y = true) : y.apart ops x = true := by
  obtain ⟨h1, h2, h3⟩ := Oper.apart_spec h
  unfold Oper.apart
  simp only [Bool.and_eq_true]
  constructor
  · cases hy : y.dst with
    | none => rfl
    | some d =>
      have a := h3 d hy
      have b : x.dst ≠ some d := fun hx => h2 d hx hy
      simp [a, b]
  · cases hx : x.dst with
    | none => rfl
    | some d =>
      have a := h1 d hx
      simp [a]

/-- more blocks in the ideal heap, of which none is there -/
def RM.grow (ρ : RM) : RM := ⟨ρ.at_, ρ.dom + 1⟩
theorem RM.sub_grow (ρ : RM) : ρ.sub ρ.grow := fun _ _ h => h
theorem RM.le_grow {ρ0 ρ : RM} (h : ρ0.le ρ) : ρ0.le ρ.grow := ⟨h.1, Nat.le_succ_of_le h.2.1, h.2.2⟩
theorem HRel.ghost {w : World} {ρ : RM} {h : IHp} (H : HRel P base w0 ρ h w) (o : IObj) : HRel P base w0 ρ.grow (h.push o) w := by
  have look : ∀ (i : Nat) oi r x, (h.push o).new[i]? = some oi → ρ.at_ i = some (r, x) → h.new[i]? = some oi := by
    intro i oi r x hi hρ
    have hlt : i < h.new.length := by
      rcases Nat.lt_or_ge i h.new.length with hlt | hge
      · exact hlt
      · rw [H.dom.2 i hge] at hρ; cases hρ
    simpa [IHp.push, List.getElem?_append_left hlt] using hi
  refine ⟨H.below, H.size, H.old, fun i oi r x hi hρ => ?_, fun i j oi oj r x y hi hli hj hlj hρi hρj => ?_, ?_⟩
  · obtain ⟨a, b, c⟩ := H.blk i oi r x (look _ _ _ _ hi hρ) hρ
    exact ⟨a, b, c.sub (RM.sub_grow ρ)⟩
  · exact H.inj i j oi oj r x y (look _ _ _ _ hi hρi) hli (look _ _ _ _ hj hρj) hlj hρi hρj
  · exact ⟨by simp [RM.grow, IHp.push, H.dom.1], fun i hi => H.dom.2 i (by simp [IHp.push] at hi; omega)⟩

/-- what is listed when the allocs that were taken ahead of their time count -/
structure Lists (D L : Array Bool) (gs : List (Nat × Nat)) : Prop where
  size : D.size = L.size
  mem : ∀ j, D.getD j false = true ↔ L.getD j false = true ∨ ∃ b, (j, b) ∈ gs
  out : ∀ g ∈ gs, L.getD g.1 true = false

theorem getD_true_iff {L : Array Bool} {j : Nat} : L.getD j true = false ↔ j < L.size ∧ L.getD j false = false := by
  rw [Array.getD_eq_getD_getElem?, Array.getD_eq_getD_getElem?]
  cases hx : L[j]? with
  | none => simp; rw [Array.getElem?_eq_none_iff] at hx; omega
  | some b => simp; intro _; exact (Array.getElem?_eq_some_iff.1 hx).1

theorem Lists.un {D L : Array Bool} {gs : List (Nat × Nat)} (h : Lists D L gs) {j : Nat} (hd : D.getD j true = false) : L.getD j true = false ∧ ∀ b, (j, b) ∉ gs := by
  rw [getD_true_iff] at hd ⊢
  have hm := h.mem j
  rw [hd.2] at hm
  simp only [Bool.false_eq_true, false_iff, not_or, not_exists] at hm
  exact ⟨⟨by rw [← h.size]; exact hd.1, by simpa using hm.1⟩, hm.2⟩
theorem Lists.un' {D L : Array Bool} {gs : List (Nat × Nat)} (h : Lists D L gs) {j : Nat} (hl : L.getD j true = false) (hg : ∀ b, (j, b) ∉ gs) : D.getD j true = false := by
  rw [getD_true_iff] at hl ⊢
  refine ⟨by rw [h.size]; exact hl.1, ?_⟩
  cases hd : D.getD j false with
  | false => rfl
  | true =>
    rcases (h.mem j).1 hd with h1 | ⟨b, h1⟩
    · rw [hl.2] at h1; cases h1
    · exact absurd h1 (hg b)
theorem Lists.sub {D L : Array Bool} {gs : List (Nat × Nat)} (h : Lists D L gs) : ∀ j, L.getD j false = true → D.getD j false = true := fun j hj => (h.mem j).2 (.inl hj)
theorem Lists.up {D L : Array Bool} {gs : List (Nat × Nat)} (h : Lists D L gs) {r : Nat} (hr : r ∈ Region.ready .any ops L) (hg : ∀ b, (r, b) ∉ gs) : r ∈ Region.ready .any ops D := by
  obtain ⟨h1, o, h2, h3⟩ := mem_ready.1 hr
  exact mem_ready.2 ⟨h.un' h1 hg, o, h2, fun e he hb => h.sub _ (h3 e he hb)⟩
theorem Lists.down {D L : Array Bool} {gs : List (Nat × Nat)} (h : Lists D L gs) {r : Nat} (hr : r ∈ Region.ready .any ops D) (hg : ∀ g ∈ gs, waitsFor ops r g.1 = false) : r ∈ Region.ready .any ops L := by
  obtain ⟨h1, o, h2, h3⟩ := mem_ready.1 hr
  refine mem_ready.2 ⟨(h.un h1).1, o, h2, fun e he hb => ?_⟩
  rcases (h.mem e.on).1 (h3 e he hb) with h4 | ⟨b, h4⟩
  · exact h4
  · have := hg _ h4
    unfold waitsFor at this
    simp only [h2, Option.map_some, Option.getD_some] at this
    rw [Array.any_eq_false] at this
    obtain ⟨k, hk, rfl⟩ := Array.mem_iff_getElem.1 he
    have := this k hk
    simp [hb] at this
theorem getD_set_iff {L : Array Bool} {r j : Nat} (hr : L.getD r true = false) : (L.setIfInBounds r true).getD j false = true ↔ j = r ∨ L.getD j false = true := by
  by_cases e : r = j
  · subst e
    have := (getD_true_iff.1 hr).1
    simp [Array.getD_eq_getD_getElem?, this]
  · rw [getD_set_ne false e]; simp [Ne.symm e]
theorem Lists.both {D L : Array Bool} {gs : List (Nat × Nat)} (h : Lists D L gs) {r : Nat} (hr : D.getD r true = false) : Lists (D.setIfInBounds r true) (L.setIfInBounds r true) gs := by
  refine ⟨by simp [h.size], fun j => ?_, fun g hg => ?_⟩
  · rw [getD_set_iff hr, getD_set_iff (h.un hr).1, h.mem j]
    simp only [or_assoc]
  · have : g.1 ≠ r := fun e => (h.un hr).2 g.2 (by rw [← e]; exact hg)
    rw [getD_set_ne true (Ne.symm this)]; exact h.out g hg
theorem Lists.ghost {D L : Array Bool} {gs : List (Nat × Nat)} (h : Lists D L gs) {r b : Nat} (hr : D.getD r true = false) : Lists (D.setIfInBounds r true) L ((r, b) :: gs) := by
  refine ⟨by simp [h.size], fun j => ?_, fun g hg => ?_⟩
  · rw [getD_set_iff hr, h.mem j]
    constructor
    · rintro (rfl | h1 | ⟨c, h1⟩)
      · exact .inr ⟨b, by simp⟩
      · exact .inl h1
      · exact .inr ⟨c, List.mem_cons_of_mem _ h1⟩
    · rintro (h1 | ⟨c, h1⟩)
      · exact .inr (.inl h1)
      · rcases List.mem_cons.1 h1 with h2 | h2
        · cases h2; exact .inl rfl
        · exact .inr (.inr ⟨c, h2⟩)
  · rcases List.mem_cons.1 hg with rfl | hg
    · exact (h.un hr).1
    · exact h.out g hg
theorem Lists.real {D L : Array Bool} {gs : List (Nat × Nat)} (h : Lists D L gs) {r b : Nat} (hg : (r, b) ∈ gs) : Lists D (L.setIfInBounds r true) (gs.filter fun g => g.1 != r) := by
  have hr := h.out _ hg
  refine ⟨by simp [h.size], fun j => ?_, fun g hg' => ?_⟩
  · rw [getD_set_iff hr, h.mem j]
    constructor
    · rintro (h1 | ⟨c, h1⟩)
      · exact .inl (.inr h1)
      · by_cases e : j = r
        · exact .inl (.inl e)
        · exact .inr ⟨c, List.mem_filter.2 ⟨h1, by simpa using e⟩⟩
    · rintro ((rfl | h1) | ⟨c, h1⟩)
      · exact .inr ⟨b, hg⟩
      · exact .inl h1
      · exact .inr ⟨c, (List.mem_filter.1 h1).1⟩
  · obtain ⟨h1, h2⟩ := List.mem_filter.1 hg'
    have : g.1 ≠ r := by simpa using h2
    rw [getD_set_ne true (Ne.symm this)]; exact h.out g h1

/-- new memory that the ideal machine has made, and the real one not yet -/
structure Ghost (P : Program) (ops : Array Oper) (vt : Nat → Bool) (L : Array Bool) (ρ : RM) (st : St) (held : Held) (pd : List Nat) (g : Nat × Nat) (o : Oper) (t : TypeId) (cs : List Value) (l : Option Nat) : Prop where
  op : ops[g.1]? = some o
  gd : o.guard = none
  self : ∀ d, o.dst = some d → ¬ d ∈ o.looksAt ops
  made : imade P st.eval o = some (t, cs, l)
  some_ : 0 < cs.length
  slot : ∀ d, o.dst = some d → st.s d = madeV l (2 * g.2)
  obj : st.h.new[g.2]? = some (.cells cs t true)
  held : ∀ e ∈ cellsOf g.1 (2 * g.2) 0 cs, e ∈ held
  apart : ∀ j oj, ops[j]? = some oj → j ≠ g.1 → L.getD j true = false → waitsFor ops j g.1 = false → o.apart ops oj = true
  ready : g.1 ∈ Region.ready .any ops L
  none_ : ρ.at_ g.2 = none
  pd : g.1 ∈ pd
  vt : vt g.1 = true
/-- a slot that is not looked at may change -/
theorem made_put {P : Program} {ops : Array Oper} {s s' : Nat → Value} {h h' : IHp} {nt nt' : Nat} {m m' : List Nat} {r r' : Bool} {o : Oper} {x : Option Tmp} {v : Value} (hs : s' = putS s x v) (hx : ∀ d, x = some d → ¬ d ∈ o.looksAt ops) : imade P (St.eval ⟨s', h', nt', m', r'⟩) o = imade P (St.eval ⟨s, h, nt, m, r⟩) o := by
  refine imade_congr fun y hy => ?_
  subst hs
  refine (Agree.ev (ops := ops) (o := o) (s := putS s x v) (s' := s) (fun t ht => ?_) y hy)
  cases x with
  | none => rfl
  | some d =>
    have : t ≠ d := fun e => hx d rfl (e ▸ ht)
    simp [putS, this]

theorem waits_no {j i : Nat} {oj : Oper} (hj : ops[j]? = some oj) : waitsFor ops j i = false ↔ ∀ e ∈ oj.after, Region.binds .any e = true → e.on ≠ i := by
  unfold waitsFor
  simp only [hj, Option.map_some, Option.getD_some]
  rw [Array.any_eq_false]
  constructor
  · intro h e he hb heq
    obtain ⟨k, hk, rfl⟩ := Array.mem_iff_getElem.1 he
    have := h k hk
    simp [hb, heq] at this
  · intro h k hk hc
    simp only [Bool.and_eq_true, beq_iff_eq] at hc
    exact h _ (Array.getElem_mem hk) hc.1 hc.2

theorem cellsOf_fst {i : Nat} : ∀ (vs : List Value) (b off : Nat), ∀ e ∈ cellsOf i b off vs, e.1 = i := by
  intro vs
  induction vs with
  | nil => intro b off e he; simp [cellsOf] at he
  | cons u vs ihv =>
    intro b off e he
    simp only [cellsOf, List.mem_cons] at he
    rcases he with rfl | he
    · rfl
    · exact ihv _ _ _ he

/-- the block is as it was: its cells are held, and blocks keep their shape -/
theorem ghost_stays {h h' : IHp} {i b : Nat} {t : TypeId} {c : List Value} (ho : h.new[b]? = some (.cells c t true)) (hs : Sh h h') (hpos : 0 < c.length) (hh : ∀ e ∈ cellsOf i (2 * b) 0 c, h'.cell? e.2.1 e.2.2.1 = some e.2.2.2) :
    h'.new[b]? = some (.cells c t true) := by
  have hb : ¬ (2 * b) % 2 = 1 := by omega
  have hd : (2 * b) / 2 = b := by omega
  have cell : ∀ (j : Nat) v, c[j]? = some v → h'.cell? (2 * b) j = some v := by
    intro j v hj
    have := hh _ (cellsOf_mem (i := i) (b := 2 * b) c 0 j v hj)
    simpa using this
  have h0 := cell 0 c[0] (by simp [hpos])
  unfold IHp.cell? at h0
  rw [if_neg hb, hd] at h0
  split at h0
  · rename_i c1 e1 x1 hc1
    have hlt : b < h.new.length := (List.getElem?_eq_some_iff.1 ho).1
    obtain ⟨c0, h1, h2⟩ := hs.2 b c1 e1 x1 hlt hc1
    rw [ho] at h1
    cases h1
    rw [hc1]
    have : c1 = c := by
      refine List.ext_getElem? fun j => ?_
      by_cases hj : j < c.length
      · have := cell j c[j] (by simp [hj])
        unfold IHp.cell? at this
        rw [if_neg hb, hd, hc1] at this
        simp only at this
        rw [this]; simp [hj]
      · rw [List.getElem?_eq_none (by omega), List.getElem?_eq_none (by omega)]
    rw [this]
  · cases h0

theorem wpS_done {S : Array Bool → World → Prop} {L : Array Bool} {a : Act} {w : World} (hr : Region.ready .any ops L = []) (h : Q .normal a w) : ∀ N, wpS F n P ops Q S N L a w
  | 0 => ⟨hr, h⟩
  | N + 1 => ⟨fun _ => h, fun i hi => by rw [hr] at hi; cases hi⟩
end
end Go.Ideal

-- IdealNb
set_option linter.unusedSimpArgs false
set_option linter.unusedVariables false
namespace Go.Ideal
open Go Go.RowKit

section
variable {P : Program} {base : Nat} {w0 : World} {ops : Array Oper} {F : Fence} {n : Nat} {Q : Exit → Act → World → Prop}

/-- the real machine carries out an alloc that the ideal one has carried out -/
theorem ghost_exec {vt : Nat → Bool} {L : Array Bool} {ρ : RM} {st : St} {s : Nat → Value} {held : Held} {pd : List Nat} {g : Nat × Nat} {o : Oper} {t : TypeId} {cs : List Value} {l : Option Nat} {a : Act} {w : World} {K : Act → World → Prop}
    (hF : WideF F) (hok : okOper st.nt o = true) (G : Ghost P ops vt L ρ st held pd g o t cs l) (ha : Agree ops o s st.s) (S : StRel P base w0 ρ { st with s := s } a w)
    (hK : ∀ cs' a', StRel P base w0 (ρ.fill g.2 (w.heap.size, 0)) { st with s := putS s o.dst (madeV l (2 * g.2)) } a' (w.alloc (.cells cs' t)) → K a' (w.alloc (.cells cs' t))) : wpOpIn F n P ops Q g.1 K a w := by
  obtain ⟨hdst, _, _, hdef⟩ := okOper_ops hok
  have hm : imade P (St.eval { st with s := s }) o = some (t, cs, l) := (imade_congr fun x hx => ha.ev x hx).trans G.made
  obtain ⟨hcell, cs', hcs, hex⟩ := made_sound (w := w) hm (S.evs hok)
  unfold wpOpIn
  simp only [G.op]
  have hw : Region.wanted o (yielded ops a.tmps) = true := by simp [Region.wanted, G.gd]
  rw [if_pos hw]
  refine ⟨fun f _ => hF.1 f, ?_⟩
  rw [Oper.semAt_eq _ _ _ hdef]
  rw [hex]
  have hbn := RM.block_new (x := 0) (RM.fill_at ρ g.2 (w.heap.size, 0))
  have hen := RM.extra_new (x := 0) (RM.fill_at ρ g.2 (w.heap.size, 0))
  refine hK _ _ ⟨?_, ?_, ?_⟩
  · refine S.heap.fill (x := 0) G.obj G.none_ fun ρ' hle => ⟨cs', t, ⟨(0, 0), rfl, .inl rfl⟩, by rw [← hcs.1]; simp, fun _ => rfl, fun k v hk => ⟨hcell v (List.mem_of_getElem? hk), ?_⟩⟩
    obtain ⟨v', h1, h2⟩ := RA_get hcs (i := k) (v := v) (by simpa using hk)
    exact ⟨v', h1, R_sub hle _ _ h2⟩
  · refine (S.slots.sub (RM.sub_fill G.none_)).act hdst ?_
    cases l with
    | none => exact mkR_ptr (a := { block := 2 * g.2, off := 0 }) rfl hbn
    | some n =>
      have := mkR_slice (ρ := ρ.fill g.2 (w.heap.size, 0)) (a := { block := 2 * g.2, off := 0 }) (l := n) (c := n) rfl hbn
      rw [hen] at this
      exact this
  · rw [put_defers']; exact S.defers.sub (RM.sub_fill G.none_)

theorem cell_alloc {w : World} {O : Obj} {b off : Nat} {v : Value} (h : w.cell? ⟨b, off, none⟩ = some v) : (w.alloc O).cell? ⟨b, off, none⟩ = some v := by
  have hb : b < w.heap.size := by
    rcases Nat.lt_or_ge b w.heap.size with hlt | hge
    · exact hlt
    · unfold World.cell? at h
      simp [Array.getElem?_eq_none hge] at h
  have : (w.alloc O).heap[b]? = w.heap[b]? := by rw [heap_alloc', Array.getElem?_push]; simp; omega
  unfold World.cell? at h ⊢
  simp only [this]; exact h

/-- a region that draws, along its plan -/
theorem iplan_sound {call : ICall} {ρ0 : RM} {w1 : World} {h0 : IHp} (hF : WideF F) (hcall : CallOK P base w0 call) (hsh : CallSh call) (hsel : ∀ (j : Nat) (o : Oper) cs b, ops[j]? = some o → o.op ≠ .select cs b)
    (hdef : ∀ (j : Nat) (o : Oper) c, ops[j]? = some o → o.op ≠ .defer c) (hQ : ∀ c a w, ¬ Q (.panic c) a w) (H0 : HRel P base w0 ρ0 h0 w1) (vt : Nat → Bool) :
    ∀ (fuel : Nat) (D : Array Bool) (pd : List Nat) (k : List PStep) (st st' : St) (held : Held) (snaps : List IHp), planFrom ops fuel D pd = some k → iplan P call ops k st held snaps = some st' →
    (∀ i, PStep.virt i ∈ k → vt i = true) → (∀ i, PStep.one i ∈ k → vt i = false) → h0 ∈ snaps → st.h ∈ snaps →
    ∃ Ek : Held, (∀ sn ∈ snaps, heldIn sn Ek = true) ∧ ∀ (E : Held), (∀ e ∈ Ek, e ∈ E) → (∀ e ∈ E, heldIn h0 [e] = true) → (∀ e ∈ E, e ∈ Ek ∨ (liveAt ops vt D e.1 → e ∈ held)) → heldIn st.h held = true →
      ∀ (N : Nat) (gs : List (Nat × Nat)) (L : Array Bool) (s : Nat → Value) (ρ : RM) (a : Act) (w : World), fuel + gs.length ≤ N →
      (∀ j i, L.getD j false = true → waitsFor ops j i = true → L.getD i false = true) → Lists D L gs → (∀ g ∈ gs, ∃ o t cs l, Ghost P ops vt L ρ st held pd g o t cs l) →
      (∀ g ∈ gs, ∀ g' ∈ gs, g.1 = g'.1 ∨ g.2 = g'.2 → g = g') → (∀ t, (∀ g ∈ gs, ∀ o, ops[g.1]? = some o → o.dst ≠ some t) → s t = st.s t) →
      ρ0.le ρ → (∀ g ∈ gs, ρ0.dom ≤ g.2) → StRel P base w0 ρ { st with s := s } a w → (∀ (i : Nat) o, ops[i]? = some o → okOper st.nt o = true) → SE ops vt ρ0 w1 E L w →
      (∀ ρ' a' w', ρ0.le ρ' → StRel P base w0 ρ' st' a' w' → st'.nt = st.nt → st'.rd = st.rd → Q .normal a' w') →
      wpS F n P ops Q (SE ops vt ρ0 w1 E) N L a w := by
  -- the end
  have fin : ∀ (D : Array Bool) (pd : List Nat) (st : St) (held : Held) (E : Held), Region.ready .any ops D = [] → pd = [] → ∀ (N : Nat) (gs : List (Nat × Nat)) (L : Array Bool) (s : Nat → Value) (ρ : RM) (a : Act) (w : World), Lists D L gs →
      (∀ g ∈ gs, ∃ o t cs l, Ghost P ops vt L ρ st held pd g o t cs l) → (∀ t, (∀ g ∈ gs, ∀ o, ops[g.1]? = some o → o.dst ≠ some t) → s t = st.s t) → ρ0.le ρ → StRel P base w0 ρ { st with s := s } a w →
      (∀ ρ' a' w', ρ0.le ρ' → StRel P base w0 ρ' st a' w' → st.nt = st.nt → st.rd = st.rd → Q .normal a' w') → wpS F n P ops Q (SE ops vt ρ0 w1 E) N L a w := by
    intro D pd st held E hr hpd N gs L s ρ a w hL hG hag hle S hfin
    have hgs : gs = [] := by
      cases gs with
      | nil => rfl
      | cons g gs =>
        obtain ⟨o, t, cs, l, G⟩ := hG g (by simp)
        have := G.pd
        rw [hpd] at this; cases this
    subst hgs
    have hs : s = st.s := funext fun t => hag t (by simp)
    subst hs
    refine wpS_done ?_ (hfin ρ a w hle S rfl rfl) N
    cases hx : Region.ready .any ops L with
    | nil => rfl
    | cons r rs =>
      have := hL.up (r := r) (by rw [hx]; simp) (by simp)
      rw [hr] at this; cases this
  intro fuel
  induction fuel with
  | zero =>
    intro D pd k st st' held snaps hp hi hv1 hv2 h0m hstm
    simp only [planFrom] at hp
    split at hp
    · rename_i hr
      cases hp
      simp only [iplan, Option.some.injEq] at hi
      subst hi
      simp only [Bool.and_eq_true, List.isEmpty_iff] at hr
      refine ⟨[], fun sn _ => rfl, fun E _ _ _ _ N gs L s ρ a w _ _ hL hG _ hag hle _ S _ _ hfin => fin D pd st held E hr.1 hr.2 N gs L s ρ a w hL hG hag hle S hfin⟩
    · cases hp
  | succ fuel ih =>
    intro D pd k st st' held snaps hp hi hv1 hv2 h0m hstm
    simp only [planFrom] at hp
    split at hp
    · -- take
      rename_i i hfind
      simp only [Option.map_eq_some_iff] at hp
      obtain ⟨k', hk', rfl⟩ := hp
      have hv1' : ∀ j, PStep.virt j ∈ k' → vt j = true := fun j hj => hv1 j (List.mem_cons_of_mem _ hj)
      have hv2' : ∀ j, PStep.one j ∈ k' → vt j = false := fun j hj => hv2 j (List.mem_cons_of_mem _ hj)
      have hmem := List.mem_of_find?_eq_some hfind
      have hprop := List.find?_some hfind
      simp only [iplan, Option.bind_eq_some_iff] at hi
      obtain ⟨o, ho, hi⟩ := hi
      simp only [ho, Option.map_some, Option.getD_some, Bool.and_eq_true, List.all_eq_true, Bool.not_eq_true'] at hprop
      obtain ⟨⟨⟨hq, _⟩, hfree⟩, hpdw⟩ := hprop
      have hqa : quietAt ops i = true := by simp [quietAt, ho, hq]
      have hun := (mem_ready.1 hmem).1
      -- what is common to both ways
      have common : ∀ (v : Value) (more : Held) (E : Held) (N : Nat) (gs : List (Nat × Nat)) (L : Array Bool) (s : Nat → Value) (ρ : RM) (a : Act) (w : World), Lists D L gs → (∀ g ∈ gs, ∃ o t cs l, Ghost P ops vt L ρ st held pd g o t cs l) →
          (∀ t, (∀ g ∈ gs, ∀ o, ops[g.1]? = some o → o.dst ≠ some t) → s t = st.s t) → (∀ j i, L.getD j false = true → waitsFor ops j i = true → L.getD i false = true) →
          i ∈ Region.ready .any ops L ∧ (∀ j oj, ops[j]? = some oj → j ≠ i → L.getD j true = false → (∀ e ∈ oj.after, Region.binds .any e = true → e.on ≠ i) → o.apart ops oj = true) ∧ (∀ j, L.getD j false = true → waitsFor ops j i = false) ∧
          Agree ops o st.s s ∧ (∀ g ∈ gs, ∃ o' t cs l, Ghost P ops vt (L.setIfInBounds i true) ρ { st with s := putS st.s o.dst v } (more ++ held) pd g o' t cs l) ∧
          (∀ t, (∀ g ∈ gs, ∀ o, ops[g.1]? = some o → o.dst ≠ some t) → putS s o.dst v t = putS st.s o.dst v t) := by
        intro v more E N gs L s ρ a w hL hG hag hclosed
        have hgw : ∀ g ∈ gs, waitsFor ops i g.1 = false := fun g hg => by
          obtain ⟨_, _, _, _, G⟩ := hG g hg
          exact hpdw _ G.pd
        have hrL := hL.down hmem hgw
        have hne : ∀ g ∈ gs, i ≠ g.1 := fun g hg e => (hL.un hun).2 g.2 (by rw [e]; exact hg)
        have hap : ∀ g ∈ gs, ∀ o' t cs l, Ghost P ops vt L ρ st held pd g o' t cs l → o'.apart ops o = true := fun g hg o' t cs l G => G.apart i o ho (hne g hg) (hL.un hun).1 (hgw g hg)
        refine ⟨hrL, fun j oj hj hji hjun hno => ?_, fun j hj => ?_, ?_, ?_, ?_⟩
        · by_cases hjg : ∃ b, (j, b) ∈ gs
          · obtain ⟨b, hb⟩ := hjg
            obtain ⟨o', t, cs, l, G⟩ := hG _ hb
            have h1 := hap _ hb o' t cs l G
            have h2 := G.op
            simp only at h2
            rw [hj] at h2; cases h2
            exact apart_symm h1
          · exact Region.free_spec ho hfree j oj hj hji (hL.un' hjun fun b hb => hjg ⟨b, hb⟩) hno
        · cases hwf : waitsFor ops j i with
          | false => rfl
          | true =>
            have := hclosed j i hj hwf
            rw [getD_of_true (hL.un hun).1] at this; cases this
        · intro t ht
          refine (hag t fun g hg o' ho' hd => ?_).symm
          obtain ⟨o2, t2, cs2, l2, G⟩ := hG g hg
          have h2 := G.op
          rw [ho'] at h2; cases h2
          exact (Oper.apart_spec (hap g hg _ _ _ _ G)).1 t hd ht
        · intro g hg
          obtain ⟨o', t, cs, l, G⟩ := hG g hg
          have h2 := (Oper.apart_spec (hap g hg _ _ _ _ G)).2.1
          refine ⟨o', t, cs, l, ⟨G.op, G.gd, G.self, (made_put rfl (Oper.apart_spec (hap g hg _ _ _ _ G)).2.2).trans G.made, G.some_, fun d hd => ?_, G.obj, fun e he => List.mem_append_right _ (G.held e he), fun j oj hj hji hjun hjw => ?_, ready_mono G.ready (hne g hg).symm, G.none_, G.pd, G.vt⟩⟩
          · have := h2 d hd
            rw [← G.slot d hd]
            cases hdo : o.dst with
            | none => rfl
            | some d2 =>
              have : d ≠ d2 := fun e => this (by rw [hdo, e])
              simp [putS, this]
          · refine G.apart j oj hj hji ?_ hjw
            by_cases e : i = j
            · subst e; exact (hL.un hun).1
            · rw [getD_set_ne true e] at hjun; exact hjun
        · intro t ht
          cases hdo : o.dst with
          | none => exact hag t ht
          | some d2 =>
            simp only [putS]
            split
            · rfl
            · exact hag t ht
      split at hi
      · rename_i hw
        simp only [Option.bind_eq_some_iff] at hi
        obtain ⟨more, hmore, hi⟩ := hi
        split at hi
        · rename_i hall
          simp only [Option.bind_eq_some_iff] at hi
          obtain ⟨⟨v, h'⟩, hh, hi⟩ := hi
          simp only at hi
          rw [List.all_eq_true] at hall
          obtain ⟨Ek', hE1, hE2⟩ := ih _ pd k' { st with s := putS st.s o.dst v } st' (more ++ held) snaps hk' hi hv1' hv2' h0m hstm
          refine ⟨more ++ Ek', fun sn hsn => ?_, fun E hsub hE0 hE hheld N gs L s ρ a w hN hclosed hL hG huq hag hle hdom S hok hSE hfin => ?_⟩
          · have h1 := hall sn hsn
            have h2 := hE1 sn hsn
            unfold heldIn at h1 h2 ⊢
            rw [List.all_append, h1, h2]; rfl
          · obtain ⟨hrL, hfr, hnw, hagr, hG', hag'⟩ := common v more E N gs L s ρ a w hL hG hag hclosed
            have he : ∀ x ∈ o.op.operands, st.eval x = ({ st with s := s } : St).eval x := hagr.ev
            have hmore' := hmore
            have hh' := hh
            rw [heldOf_congr he] at hmore'
            rw [iheap_congr (hsel i o · · ho) he] at hh'
            obtain ⟨v', hv', hy⟩ := quiet_yields (i := i) hq hle H0 S (hok i o ho) hmore' (hall h0 h0m) hh'
            obtain ⟨hdst, _⟩ := okOper_ops (hok i o ho)
            let C : World → Prop := fun w2 => ∀ e ∈ more, ∀ rb, ρ0.block e.2.1 = some rb → w2.cell? ⟨rb, e.2.2.1, none⟩ = w1.cell? ⟨rb, e.2.2.1, none⟩
            have hmi : ∀ e ∈ more, e.1 = i := by
              intro e he
              unfold heldOf at hmore
              split at hmore
              · split at hmore
                · simp only [Option.bind_eq_some_iff] at hmore
                  obtain ⟨g, hg, hmore⟩ := hmore
                  cases g with
                  | true =>
                    simp only [Option.bind_eq_some_iff, Option.map_eq_some_iff] at hmore
                    obtain ⟨_, _, vs, _, rfl⟩ := hmore
                    exact cellsOf_fst _ _ _ e he
                  | false =>
                    simp only [Option.map_eq_some_iff] at hmore
                    obtain ⟨_, _, rfl⟩ := hmore
                    simp at he; rw [he]
                · cases hmore
              · cases hmore
                split at he
                · exact cellsOf_fst _ _ _ e he
                · cases he
              · cases hmore; cases he
            obtain ⟨M, rfl⟩ : ∃ M, N = M + 1 := ⟨N - 1, by omega⟩
            have hwa : Region.wanted o (yielded ops a.tmps) = true := by rw [wanted_eq S.slots]; rw [← hagr.wanted]; exact hw
            refine wpS_first (C := C) (v := v') hF ho hsel hdef hQ (SE_set hqa) (fun D' w2 hD hw2 e he rb hrb => ?_) M L a w hfr hnw hrL (.inl ⟨hwa, fun w2 hw2 => hy w2 hw2⟩) hSE ?_
            · refine hD e (hsub e (List.mem_append_left _ he)) (fun j hj _ _ => ?_) rb hrb
              rw [hmi e he]; exact hw2 j hj
            · refine hE2 E (fun e he => hsub e (List.mem_append_right _ he)) hE0 (fun e he => ?_) ?_ M gs (L.setIfInBounds i true) (putS s o.dst v) ρ (a.put o.dst v') w (by omega) (closed_set hrL hclosed) (hL.both hun) hG' huq hag' hle hdom (S.put (RM.le_refl _) S.heap hdst hv') hok ((SE_set hqa _ _).2 hSE) hfin
              · rcases hE e he with h1 | h1
                · rcases List.mem_append.1 h1 with h1 | h1
                  · exact .inr fun _ => List.mem_append_left _ h1
                  · exact .inl h1
                · exact .inr fun hl => List.mem_append_right _ (h1 ((liveAt_set hqa).1 hl))
              · have h1 := hall st.h hstm
                unfold heldIn at h1 hheld ⊢
                rw [List.all_append, h1, hheld]; rfl
        · cases hi
      · rename_i hw
        obtain ⟨Ek', hE1, hE2⟩ := ih _ pd k' { st with s := putS st.s o.dst undef } st' held snaps hk' hi hv1' hv2' h0m hstm
        refine ⟨Ek', hE1, fun E hsub hE0 hE hheld N gs L s ρ a w hN hclosed hL hG huq hag hle hdom S hok hSE hfin => ?_⟩
        obtain ⟨hrL, hfr, hnw, hagr, hG', hag'⟩ := common undef [] E N gs L s ρ a w hL hG hag hclosed
        obtain ⟨hdst, _⟩ := okOper_ops (hok i o ho)
        have hw' : Region.wanted o (yielded ops a.tmps) = false := by rw [wanted_eq S.slots]; rw [← hagr.wanted]; simpa using hw
        obtain ⟨M, rfl⟩ : ∃ M, N = M + 1 := ⟨N - 1, by omega⟩
        refine wpS_first (C := fun _ => True) (v := undef) hF ho hsel hdef hQ (SE_set hqa) (fun _ _ _ _ => trivial) M L a w hfr hnw hrL (.inr ⟨hw', rfl⟩) hSE ?_
        refine hE2 E hsub hE0 (fun e he => ?_) hheld M gs (L.setIfInBounds i true) (putS s o.dst undef) ρ (a.put o.dst undef) w (by omega) (closed_set hrL hclosed) (hL.both hun) hG' huq hag' hle hdom (S.put (RM.le_refl _) S.heap hdst R_undef) hok ((SE_set hqa _ _).2 hSE) hfin
        rcases hE e he with h1 | h1
        · exact .inl h1
        · exact .inr fun hl => h1 ((liveAt_set hqa).1 hl)
    · split at hp
      · -- the end
        rename_i hr
        split at hp
        · rename_i hpd
          cases hp
          simp only [iplan, Option.some.injEq] at hi
          subst hi
          simp only [List.isEmpty_iff] at hpd
          exact ⟨[], fun sn _ => rfl, fun E _ _ _ _ N gs L s ρ a w _ _ hL hG _ hag hle _ S _ _ hfin => fin D pd st held E hr hpd N gs L s ρ a w hL hG hag hle S hfin⟩
        · cases hp
      · -- one
        rename_i j hr
        obtain ⟨pd', hpd', k', hk', rfl⟩ : ∃ pd', ((pd' = pd ∧ ∀ p ∈ pd, waitsFor ops j p = false) ∨ (pd' = [] ∧ ∀ p ∈ pd, waitsFor ops j p = true)) ∧ ∃ k', planFrom ops fuel (D.setIfInBounds j true) pd' = some k' ∧ k = .one j :: k' := by
          split at hp
          · rename_i hall
            simp only [Option.map_eq_some_iff] at hp
            obtain ⟨k', hk', rfl⟩ := hp
            simp only [List.all_eq_true, Bool.not_eq_true'] at hall
            exact ⟨pd, .inl ⟨rfl, hall⟩, k', hk', rfl⟩
          · split at hp
            · rename_i hall
              simp only [Option.map_eq_some_iff] at hp
              obtain ⟨k', hk', rfl⟩ := hp
              simp only [List.all_eq_true] at hall
              exact ⟨[], .inr ⟨rfl, hall⟩, k', hk', rfl⟩
            · cases hp
        have hv1' : ∀ i, PStep.virt i ∈ k' → vt i = true := fun i hi => hv1 i (List.mem_cons_of_mem _ hi)
        have hv2' : ∀ i, PStep.one i ∈ k' → vt i = false := fun i hi => hv2 i (List.mem_cons_of_mem _ hi)
        have hvj : vt j = false := hv2 j (by simp)
        have hjD : j ∈ Region.ready .any ops D := by rw [hr]; simp
        have hun := (mem_ready.1 hjD).1
        simp only [iplan, Option.bind_eq_some_iff] at hi
        obtain ⟨st1, hst1, hi⟩ := hi
        split at hi
        · rename_i hheld1
          obtain ⟨Ek', hE1, hE2⟩ := ih _ pd' k' _ st' (heldBut ops j held) (st1.h :: snaps) hk' hi hv1' hv2' (List.mem_cons_of_mem _ h0m) (by simp)
          refine ⟨Ek', fun sn hsn => hE1 sn (List.mem_cons_of_mem _ hsn), fun E hsub hE0 hE hheld => ?_⟩
          have hE' : ∀ e ∈ E, e ∈ Ek' ∨ (liveAt ops vt (D.setIfInBounds j true) e.1 → e ∈ heldBut ops j held) := by
            intro e he
            rcases hE e he with h1 | h1
            · exact .inl h1
            · refine .inr fun hl => ?_
              have h2 := h1 (liveAt_less (fun i hi => getD_set_true hi) hl)
              unfold heldBut
              split
              · exact h2
              · rename_i hnq
                rw [List.mem_filter]
                refine ⟨h2, ?_⟩
                have := hl j ((getD_set_iff hun).2 (.inl rfl)) (by simpa using hnq) hvj
                simp [this]
          -- what has been taken ahead of its time comes first, or not
          have key : ∀ (m : Nat) (N : Nat) (gs : List (Nat × Nat)) (L : Array Bool) (s : Nat → Value) (ρ : RM) (a : Act) (w : World), gs.length ≤ m → fuel + 1 + gs.length ≤ N →
              (∀ j i, L.getD j false = true → waitsFor ops j i = true → L.getD i false = true) → Lists D L gs → (∀ g ∈ gs, ∃ o t cs l, Ghost P ops vt L ρ st held pd g o t cs l) →
              (∀ g ∈ gs, ∀ g' ∈ gs, g.1 = g'.1 ∨ g.2 = g'.2 → g = g') → (∀ t, (∀ g ∈ gs, ∀ o, ops[g.1]? = some o → o.dst ≠ some t) → s t = st.s t) →
              ρ0.le ρ → (∀ g ∈ gs, ρ0.dom ≤ g.2) → StRel P base w0 ρ { st with s := s } a w → (∀ (i : Nat) o, ops[i]? = some o → okOper st.nt o = true) → SE ops vt ρ0 w1 E L w →
              (∀ ρ' a' w', ρ0.le ρ' → StRel P base w0 ρ' st' a' w' → st'.nt = st.nt → st'.rd = st.rd → Q .normal a' w') →
              wpS F n P ops Q (SE ops vt ρ0 w1 E) N L a w := by
            intro m
            induction m using Nat.strongRecOn with
            | _ m ihm =>
              intro N gs L s ρ a w hm hN hclosed hL hG huq hag hle hdom S hok hSE hfin
              obtain ⟨M, rfl⟩ : ∃ M, N = M + 1 := ⟨N - 1, by omega⟩
              refine ⟨fun hnil => ?_, fun r hrr => ?_⟩
              · exfalso
                cases gs with
                | nil =>
                  have := hL.down hjD (by simp)
                  rw [hnil] at this; cases this
                | cons g gs =>
                  obtain ⟨_, _, _, _, G⟩ := hG g (by simp)
                  have := G.ready
                  rw [hnil] at this; cases this
              · by_cases hg : ∃ b, (r, b) ∈ gs
                · obtain ⟨b, hb⟩ := hg
                  obtain ⟨o, t, cs, l, G⟩ := hG _ hb
                  have hop := G.op
                  simp only at hop
                  have hagr : Agree ops o s st.s := by
                    intro x hx
                    refine hag x fun g hg2 o2 ho2 hd => ?_
                    by_cases e : g.1 = r
                    · rw [e, hop] at ho2; cases ho2
                      exact G.self x hd hx
                    · obtain ⟨o3, t3, cs3, l3, G3⟩ := hG g hg2
                      have h2 := G3.op
                      rw [ho2] at h2; cases h2
                      exact (Oper.apart_spec (G3.apart r o hop (Ne.symm e) (hL.out _ hb) (notWaits hrr (getD_of_true (hL.out g hg2))))).1 x hd hx
                  refine ghost_exec (g := (r, b)) hF (hok r o hop) G hagr S fun cs' a' S' => ?_
                  have hSE' : SE ops vt ρ0 w1 E (L.setIfInBounds r true) (w.alloc (.cells cs' t)) := by
                    intro e he hl rb hrb
                    have h1 := hSE e he (liveAt_less (fun j hj => getD_set_true hj) hl) rb hrb
                    obtain ⟨_, v'', h6, h7⟩ := H0.cell hrb (heldIn_cell (hE0 e he) (List.mem_singleton.2 rfl))
                    rw [h6] at h1 ⊢
                    exact cell_alloc h1
                  have hbd := hdom _ hb
                  simp only at hbd
                  have hle' : ρ0.le (ρ.fill b (w.heap.size, 0)) := ⟨RM.sub_trans hle.1 (RM.sub_fill G.none_), hle.2.1, fun i hi hn => by rw [RM.fill_ne (by omega)]; exact hle.2.2 i hi hn⟩
                  refine ⟨hSE', ihm (gs.filter fun g => g.1 != r).length ?_ M _ (L.setIfInBounds r true) (putS s o.dst (madeV l (2 * b))) _ a' _ (Nat.le_refl _) ?_ (closed_set hrr hclosed) (hL.real hb) ?_ ?_ ?_ hle' ?_ S' hok hSE' hfin⟩
                  · have := List.length_filter_lt_length_iff_exists (l := gs) (p := fun g => g.1 != r) |>.2 ⟨(r, b), hb, by simp⟩
                    omega
                  · have := List.length_filter_lt_length_iff_exists (l := gs) (p := fun g => g.1 != r) |>.2 ⟨(r, b), hb, by simp⟩
                    omega
                  · intro g hg
                    obtain ⟨hg1, hg2⟩ := List.mem_filter.1 hg
                    have hne : g.1 ≠ r := by simpa using hg2
                    obtain ⟨o2, t2, cs2, l2, G2⟩ := hG g hg1
                    refine ⟨o2, t2, cs2, l2, ⟨G2.op, G2.gd, G2.self, G2.made, G2.some_, G2.slot, G2.obj, G2.held, fun j oj hj hji hjun hjw => G2.apart j oj hj hji ?_ hjw, ready_mono G2.ready hne, ?_, G2.pd, G2.vt⟩⟩
                    · by_cases e : r = j
                      · subst e; exact (hL.out _ hb)
                      · rw [getD_set_ne true e] at hjun; exact hjun
                    · have : g.2 ≠ b := fun e => hne (by have := huq g hg1 (r, b) hb (.inr e); rw [this])
                      rw [RM.fill_ne this]; exact G2.none_
                  · intro g hg g' hg' he
                    exact huq g (List.mem_filter.1 hg).1 g' (List.mem_filter.1 hg').1 he
                  · intro t' ht'
                    by_cases hd : o.dst = some t'
                    · rw [G.slot t' hd, hd]; simp [putS]
                    · have h1 := hag t' fun g hg o2 ho2 => by
                        by_cases e : g.1 = r
                        · have hgr := huq g hg (r, b) hb (.inl e)
                          subst hgr
                          simp only at ho2
                          rw [hop] at ho2; cases ho2
                          exact hd
                        · exact ht' g (List.mem_filter.2 ⟨hg, by simpa using e⟩) o2 ho2
                      rw [← h1]
                      cases hdo : o.dst with
                      | none => rfl
                      | some d2 =>
                        have : t' ≠ d2 := fun e => hd (by rw [hdo, e])
                        simp [putS, this]
                  · intro g hg
                    exact hdom g (List.mem_filter.1 hg).1
                · have hgn : ∀ b, (r, b) ∉ gs := fun b hb => hg ⟨b, hb⟩
                  have hrD := hL.up hrr hgn
                  rw [hr] at hrD
                  simp only [List.mem_singleton] at hrD
                  subst hrD
                  have hnw : ∀ g ∈ gs, waitsFor ops r g.1 = false := fun g hg => notWaits hrr (getD_of_true (hL.out g hg))
                  have hpdm : ∀ g ∈ gs, g.1 ∈ pd' := by
                    intro g hg
                    obtain ⟨_, _, _, _, G⟩ := hG g hg
                    rcases hpd' with ⟨rfl, _⟩ | ⟨_, h2⟩
                    · exact G.pd
                    · have := h2 _ G.pd
                      rw [hnw g hg] at this; cases this
                  obtain ⟨_, oj, hoj, _⟩ := mem_ready.1 hrr
                  have hne : ∀ g ∈ gs, r ≠ g.1 := fun g hg e => hgn g.2 (by rw [e]; exact hg)
                  have hap : ∀ g ∈ gs, ∀ o' t cs l, Ghost P ops vt L ρ st held pd g o' t cs l → o'.apart ops oj = true := fun g hg o' t cs l G => G.apart r oj hoj (hne g hg) (hL.un hun).1 (hnw g hg)
                  have hagr : Agree ops oj st.s s := by
                    intro t ht
                    refine (hag t fun g hg o' ho' hd => ?_).symm
                    obtain ⟨o2, t2, cs2, l2, G⟩ := hG g hg
                    have h2 := G.op
                    rw [ho'] at h2; cases h2
                    exact (Oper.apart_spec (hap g hg _ _ _ _ G)).1 t hd ht
                  obtain ⟨v, e1, e2, e3, e4, hop⟩ := iop_agree hoj (hsel r oj · · hoj) hagr hst1
                  refine iop_sound (st := { st with s := s }) hcall (fun o ho => hok r o ho) hop S hF fun ρ' a' w' hle' S' e5 e6 e7 => ?_
                  have hSE' : SE ops vt ρ0 w1 E (L.setIfInBounds r true) w' := by
                    intro e he hl rb hrb
                    have hlD : liveAt ops vt (D.setIfInBounds r true) e.1 := fun j hj hn hv => by
                      rcases (getD_set_iff hun).1 hj with rfl | hj
                      · exact hl j ((getD_set_iff (hL.un hun).1).2 (.inl rfl)) hn hv
                      · rcases (hL.mem j).1 hj with h1 | ⟨b, h1⟩
                        · exact hl j (getD_set_true h1) hn hv
                        · obtain ⟨_, _, _, _, G⟩ := hG _ h1
                          have := G.vt
                          simp only at this; rw [hv] at this; cases this
                    have hcell : st1.h.cell? e.2.1 e.2.2.1 = some e.2.2.2 := by
                      rcases hE' e he with h1 | h1
                      · exact heldIn_cell (hE1 st1.h (by simp)) h1
                      · exact heldIn_cell hheld1 (h1 hlD)
                    have h4 := RM.block_mono (RM.le_trans hle hle') hrb
                    obtain ⟨_, v', h2, h3⟩ := S'.heap.cell h4 hcell
                    obtain ⟨_, v'', h6, h7⟩ := H0.cell hrb (heldIn_cell (hE0 e he) (List.mem_singleton.2 rfl))
                    rw [h2, h6, R_fun _ _ _ h3 (R_mono (RM.le_trans hle hle') _ _ h7)]
                  have hkeep : ∀ g ∈ gs, ∀ e ∈ held, e.1 = g.1 → e ∈ heldBut ops r held := by
                    intro g hg e he heq
                    unfold heldBut
                    split
                    · exact he
                    · rw [List.mem_filter]
                      exact ⟨he, by rw [heq, hnw g hg]; rfl⟩
                  refine ⟨hSE', hE2 E hsub hE0 hE' hheld1 M gs (L.setIfInBounds r true) (putS s oj.dst v) ρ' a' w' (by omega) (closed_set hrr hclosed) (hL.both hun) ?_ huq ?_ (RM.le_trans hle hle') hdom S' (by rw [e2]; exact hok) hSE' fun ρ2 a2 w2 hl2 S2 e8 e9 => hfin ρ2 a2 w2 hl2 S2 (e8.trans e2) (e9.trans e3)⟩
                  · intro g hg
                    obtain ⟨o', t, cs, l, G⟩ := hG g hg
                    have h2 := (Oper.apart_spec (hap g hg _ _ _ _ G)).2.1
                    refine ⟨o', t, cs, l, ⟨G.op, G.gd, G.self, ?_, G.some_, fun d hd => ?_, ?_, fun e he => hkeep g hg e (G.held e he) (cellsOf_fst _ _ _ e he), fun j oj hj hji hjun hjw => G.apart j oj hj hji ?_ hjw, ready_mono G.ready (hne g hg).symm, ?_, hpdm g hg, G.vt⟩⟩
                    · have h9 := made_put (P := P) (ops := ops) (o := o') (h := st.h) (h' := st1.h) (nt := st.nt) (nt' := st1.nt) (m := st.marks) (m' := st1.marks) (r := st.rd) (r' := st1.rd) e1 (Oper.apart_spec (hap g hg _ _ _ _ G)).2.2
                      exact h9.trans G.made
                    · have := h2 d hd
                      rw [e1, ← G.slot d hd]
                      cases hdo : oj.dst with
                      | none => rfl
                      | some d2 =>
                        have : d ≠ d2 := fun e => this (by rw [hdo, e])
                        simp [putS, this]
                    · refine ghost_stays (i := g.1) G.obj (Sh.op hsh hst1) (by simpa using G.some_) fun e he => ?_
                      exact heldIn_cell hheld1 (hkeep g hg e (G.held e he) (cellsOf_fst _ _ _ e he))
                    · by_cases e : r = j
                      · subst e; exact (hL.un hun).1
                      · rw [getD_set_ne true e] at hjun; exact hjun
                    · refine hle'.2.2 _ ?_ G.none_
                      rw [S.heap.dom.1]
                      exact (List.getElem?_eq_some_iff.1 G.obj).1
                  · intro t' ht'
                    rw [e1]
                    cases hdo : oj.dst with
                    | none => exact hag t' ht'
                    | some d2 =>
                      simp only [putS]
                      split
                      · rfl
                      · exact hag t' ht'
          exact fun N gs L s ρ a w => key gs.length N gs L s ρ a w (Nat.le_refl _)
        · cases hi
      · -- an alloc ahead of its time
        obtain ⟨i, hfm, hfx⟩ := List.exists_of_findSome?_eq_some hp
        simp only [Option.map_eq_some_iff] at hfx
        obtain ⟨k', hk', rfl⟩ := hfx
        have hv1' : ∀ j, PStep.virt j ∈ k' → vt j = true := fun j hj => hv1 j (List.mem_cons_of_mem _ hj)
        have hv2' : ∀ j, PStep.one j ∈ k' → vt j = false := fun j hj => hv2 j (List.mem_cons_of_mem _ hj)
        have hvi : vt i = true := hv1 i (by simp)
        rw [List.mem_filter] at hfm
        obtain ⟨hfm, hprop⟩ := hfm
        simp only [iplan, Option.bind_eq_some_iff] at hi
        obtain ⟨o, ho, m, hmade, hi⟩ := hi
        simp only [Bool.and_eq_true, List.all_eq_true, Bool.not_eq_true'] at hprop
        obtain ⟨⟨hfree, hself⟩, hpdw⟩ := hprop
        obtain ⟨hmem, hgd⟩ : i ∈ Region.ready .any ops D ∧ o.guard = none := by
          rcases List.mem_append.1 hfm with h1 | h1
          · rw [List.mem_filter, ho] at h1
            obtain ⟨h1, h2⟩ := h1
            refine ⟨h1, ?_⟩
            simp only [Option.map_some, Option.getD_some, isAlloc] at h2
            split at h2
            · simpa using h2
            · cases h2
          · rw [List.mem_filter, ho] at h1
            obtain ⟨h1, h2⟩ := h1
            refine ⟨h1, ?_⟩
            simp only [Option.map_some, Option.getD_some, isBuild] at h2
            split at h2
            · simpa using h2
            · cases h2
        have hslf : ∀ d, o.dst = some d → ¬ d ∈ o.looksAt ops := by
          intro d hd
          simp only [selfFree, ho, Option.map_some, Option.getD_some, hd, Bool.not_eq_true'] at hself
          intro hm2
          rw [List.contains_iff_mem.2 hm2] at hself
          cases hself
        have hun := (mem_ready.1 hmem).1
        obtain ⟨t, cs, l⟩ := m
        simp only at hi
        split at hi
        · rename_i hck
          simp only [Bool.and_eq_true, decide_eq_true_eq] at hck
          obtain ⟨hpos, hheldn⟩ := hck
          obtain ⟨Ek', hE1, hE2⟩ := ih _ (i :: pd) k' _ st' _ _ hk' hi hv1' hv2' (List.mem_cons_of_mem _ h0m) (by simp)
          refine ⟨Ek', fun sn hsn => hE1 sn (List.mem_cons_of_mem _ hsn), fun E hsub hE0 hE hheld N gs L s ρ a w hN hclosed hL hG huq hag hle hdom S hok hSE hfin => ?_⟩
          have hgw : ∀ g ∈ gs, waitsFor ops i g.1 = false := fun g hg => by
            obtain ⟨_, _, _, _, G⟩ := hG g hg
            exact hpdw _ G.pd
          have hrL := hL.down hmem hgw
          have hne : ∀ g ∈ gs, i ≠ g.1 := fun g hg e => (hL.un hun).2 g.2 (by rw [e]; exact hg)
          have hap : ∀ g ∈ gs, ∀ o' t cs l, Ghost P ops vt L ρ st held pd g o' t cs l → o'.apart ops o = true := fun g hg o' t cs l G => G.apart i o ho (hne g hg) (hL.un hun).1 (hgw g hg)
          have hlt : ∀ g ∈ gs, g.2 < st.h.new.length := fun g hg => by
            obtain ⟨_, _, _, _, G⟩ := hG g hg
            exact (List.getElem?_eq_some_iff.1 G.obj).1
          have hfresh : st.h.fresh = 2 * st.h.new.length := rfl
          refine hE2 E hsub hE0 (fun e he => ?_) hheldn N ((i, st.h.new.length) :: gs) L s ρ.grow a w (by simp only [List.length_cons]; omega) hclosed (hL.ghost hun) ?_ ?_ ?_ (RM.le_grow hle) ?_ ⟨S.heap.ghost _, S.slots.sub (RM.sub_grow ρ), S.defers.sub (RM.sub_grow ρ)⟩ hok hSE hfin
          · rcases hE e he with h1 | h1
            · exact .inl h1
            · exact .inr fun hl => List.mem_append_right _ (h1 (liveAt_less (fun j hj => getD_set_true hj) hl))
          · intro g hg
            rcases List.mem_cons.1 hg with rfl | hg
            · refine ⟨o, t, cs, l, ⟨ho, hgd, hslf, (made_put rfl hslf).trans hmade, hpos, fun d hd => ?_, by simp [IHp.push], fun e he => List.mem_append_left _ he, fun j oj hj hji hjun hjw => ?_, hrL, ?_, by simp, hvi⟩⟩
              · simp [hd, putS, hfresh]
              · by_cases hjg : ∃ b, (j, b) ∈ gs
                · obtain ⟨b, hb⟩ := hjg
                  obtain ⟨o', t', cs', l', G⟩ := hG _ hb
                  have h1 := hap _ hb o' t' cs' l' G
                  have h2 := G.op
                  simp only at h2
                  rw [hj] at h2; cases h2
                  exact apart_symm h1
                · exact Region.free_spec ho hfree j oj hj hji (hL.un' hjun fun b hb => hjg ⟨b, hb⟩) ((waits_no hj).1 hjw)
              · exact S.heap.dom.2 _ (Nat.le_refl _)
            · obtain ⟨o', t', cs', l', G⟩ := hG g hg
              have h2 := (Oper.apart_spec (hap g hg _ _ _ _ G)).2.1
              refine ⟨o', t', cs', l', ⟨G.op, G.gd, G.self, (made_put rfl (Oper.apart_spec (hap g hg _ _ _ _ G)).2.2).trans G.made, G.some_, fun d hd => ?_, ?_, fun e he => List.mem_append_right _ (G.held e he), G.apart, G.ready, G.none_, List.mem_cons_of_mem _ G.pd, G.vt⟩⟩
              · have := h2 d hd
                rw [← G.slot d hd]
                cases hdo : o.dst with
                | none => rfl
                | some d2 =>
                  have : d ≠ d2 := fun e => this (by rw [hdo, e])
                  simp [putS, this]
              · have := hlt g hg
                simp only [IHp.push, List.getElem?_append_left this]; exact G.obj
          · intro g hg g' hg' he
            rcases List.mem_cons.1 hg with rfl | hg <;> rcases List.mem_cons.1 hg' with rfl | hg'
            · rfl
            · rcases he with he | he
              · exact absurd he (hne g' hg')
              · have := hlt g' hg'; simp only at he; omega
            · rcases he with he | he
              · exact absurd he.symm (hne g hg)
              · have := hlt g hg; simp only at he; omega
            · exact huq g hg g' hg' he
          · intro t' ht'
            have h1 := ht' _ (List.mem_cons_self ..) o ho
            rw [hag t' fun g hg => ht' g (List.mem_cons_of_mem _ hg)]
            cases hdo : o.dst with
            | none => rfl
            | some d2 =>
              have : t' ≠ d2 := fun e => h1 (by rw [hdo, e])
              simp [putS, this]
          · intro g hg
            rcases List.mem_cons.1 hg with rfl | hg
            · have := hle.2.1
              have h3 : ρ.dom = st.h.new.length := S.heap.dom.1
              simp only; omega
            · exact hdom g hg
        · cases hi
end
end Go.Ideal

-- IdealO
set_option linter.unusedSimpArgs false
set_option linter.unusedVariables false
namespace Go.Ideal
open Go Go.RowKit

def IExit.toExit : IExit → Exit
  | .normal => .normal
  | .exit id => .exit id
  | .ret => .ret

def CPost (P : Program) (base : Nat) (w0 : World) (ρ : RM) (st : St) (e : IExit) (st' : St) : Exit → Act → World → Prop := fun x a' w' =>
  x = e.toExit ∧ ∃ ρ', ρ.le ρ' ∧ StRel P base w0 ρ' st' a' w' ∧ st'.nt = st.nt ∧ st'.rd = st.rd

def CodeOK (P : Program) (base : Nat) (w0 : World) (run : Code → St → Option (IExit × St)) : Prop :=
  ∀ c st e st', run c st = some (e, st') → okCode st.nt c = true → ∀ ρ a w, StRel P base w0 ρ st a w → ∀ F n, WideF F → (st.rd = false → F.round = none) → c.wpIn F n P (CPost P base w0 ρ st e st') a w

section
variable {P : Program} {base : Nat} {w0 w : World} {ρ : RM} {h : IHp} {st : St} {a : Act}

/-! results -/
def resSem (tmps : Array Value) : ResultVar → Sem Value
  | .tmp t => pure (tmps.getD t undef)
  | .cell a t => do loadVar t (← asAddr (tmps.getD a undef))
theorem results_eq (fn : Func) (tmps : Array Value) : results fn tmps = (do
    let vs ← fn.results.mapM (resSem tmps)
    pure (if h : vs.size = 1 then vs[0] else .tuple vs)) := by
  unfold results
  congr 1
theorem results_sound {fn : Func} {vs : List Value} (S : SRel ρ st.s st.nt a.tmps) (H : HRel P base w0 ρ st.h w) (hr : iresults P st fn.results.toList = some vs) :
    ∃ v', (results fn a.tmps).run P w = .ok v' w ∧ R ρ (iret vs) v' := by
  have gen : ∀ (l : List ResultVar) (vs : List Value), iresults P st l = some vs → ∃ vs' : List Value, vs'.length = vs.length ∧ (∀ (j : Nat) v, vs[j]? = some v → ∃ v', vs'[j]? = some v' ∧ R ρ v v') ∧
      (l.mapM (resSem a.tmps)).run P w = .ok vs' w := by
    intro l
    induction l with
    | nil => intro vs h; simp [iresults] at h; subst h; exact ⟨[], rfl, by simp, by simp⟩
    | cons x l ih =>
      intro vs h
      cases x with
      | tmp t =>
        simp only [iresults, Option.map_eq_some_iff] at h
        obtain ⟨vs1, h1, rfl⟩ := h
        obtain ⟨vs', h2, h3, h4⟩ := ih vs1 h1
        refine ⟨a.tmps.getD t undef :: vs', by simp [h2], fun j v hj => ?_, ?_⟩
        · cases j with
          | zero => simp at hj; subst hj; exact ⟨_, by simp, S.2 t⟩
          | succ j => obtain ⟨v', a, b⟩ := h3 j v (by simpa using hj); exact ⟨v', by simpa using a, b⟩
        · rw [List.mapM_cons]
          simp only [resSem, Sem.run_bind, Sem.run_pure, Result.andThen, h4]
      | cell ad t =>
        simp only [iresults, Option.bind_eq_some_iff, Option.map_eq_some_iff] at h
        obtain ⟨u, hu, vs1, h1, rfl⟩ := h
        obtain ⟨vs', h2, h3, h4⟩ := ih vs1 h1
        obtain ⟨u', hR, hrun⟩ := load_sound H hu (S.2 ad)
        have hld : (resSem a.tmps (.cell ad t)).run P w = .ok u' w := by
          unfold iload at hu
          have hs := S.2 ad
          cases hv : st.s ad with
          | pointer pa =>
            cases pa with
            | none => simp [hv] at hu
            | some pa =>
              rw [hv] at hs
              obtain ⟨_, b, _, he⟩ := R_ptr hs
              rw [he] at hrun
              simp only [Instr.loadAt, Instr.sureAddr, Sem.run_bind, Sem.run_pure, Result.andThen] at hrun
              simp only [resSem, he, asAddr, Sem.run_bind, Sem.run_pure, Result.andThen, hrun]
          | _ => simp [hv] at hu
        refine ⟨u' :: vs', by simp [h2], fun j v hj => ?_, ?_⟩
        · cases j with
          | zero => simp at hj; subst hj; exact ⟨_, by simp, hR⟩
          | succ j => obtain ⟨v', a, b⟩ := h3 j v (by simpa using hj); exact ⟨v', by simpa using a, b⟩
        · rw [List.mapM_cons]
          simp only [Sem.run_bind, hld, Sem.run_pure, Result.andThen, h4]
  obtain ⟨vs', h1, h2, h3⟩ := gen _ _ hr
  have hm : (fn.results.mapM (resSem a.tmps)).run P w = .ok vs'.toArray w := by
    rw [Array.mapM_eq_mapM_toList, ← bind_pure_comp]
    simp only [Sem.run_bind, h3, Result.andThen, Sem.run_pure]
  refine ⟨if h : vs'.toArray.size = 1 then vs'.toArray[0] else .tuple vs'.toArray, ?_, ?_⟩
  · rw [results_eq]
    simp only [Sem.run_bind]
    rw [hm]
    simp only [Result.andThen, Sem.run_pure]
  · by_cases h1' : vs.length = 1
    · match vs, h1' with
      | [v], _ =>
        obtain ⟨v', e, hR⟩ := h2 0 v (by simp)
        have hl : vs'.length = 1 := by simpa using h1
        match vs', hl with
        | [u], _ => simp at e; subst e; simpa [iret] using hR
    · rw [dif_neg (by simpa [h1] using h1')]
      have : iret vs = .tuple vs.toArray := by
        unfold iret
        split
        · simp at h1'
        · rfl
      rw [this, R_tuple]
      exact ⟨_, rfl, RA_of_lists h1 h2⟩

/-! the end of a function -/
theorem shut_sound {F : Fence} {n : Nat} {fn : Func} {tmps : Array Value} {Rr : Ending → World → Prop} : ∀ (ms : List Nat) (ds : List Deferred) (h h1 : IHp) (w : World), HRel P base w0 ρ h w → DRel ρ ms ds → ishut h ms = some h1 →
    (∀ w1, HRel P base w0 ρ h1 w1 → LeavesInM F n P fn tmps Rr [] .returning w1) → LeavesInM F n P fn tmps Rr ds .returning w := by
  intro ms
  induction ms with
  | nil =>
    intro ds h h1 w H hd hs hfin
    cases ds with
    | nil => simp only [ishut, Option.some.injEq] at hs; subst hs; exact hfin w H
    | cons x ds => exact hd.elim
  | cons d ms ih =>
    intro ds h h1 w H hd hs hfin
    cases ds with
    | nil => exact hd.elim
    | cons x ds =>
      obtain ⟨⟨r, y, hρ, rfl⟩, hd⟩ := hd
      simp only [ishut] at hs
      split at hs
      · rename_i hdefr
        obtain ⟨_, hrw, hO⟩ := H.blk _ _ _ _ hdefr hρ
        have hO : w.heap[r]? = some (.deferred (some [])) := hO
        refine ⟨by simp, .inl ⟨r, w.putObj r (.deferred none), rfl, run_takeDeferred hO, ?_⟩⟩
        refine ih ds _ h1 _ ?_ hd hs hfin
        exact H.turn hdefr rfl hρ trivial (fun k hk => World.putObj_heap_other hk) World.putObj_size rfl rfl rfl
      · cases hs

theorem RA_args {args args' : Array Value} {nt : Nat} (h : RA ρ args args') (hn : args.size ≤ nt) : SRel ρ (fun i => args.getD i undef) nt (args' ++ Array.replicate (nt - args'.size) undef) := by
  refine ⟨by simp [← h.1]; omega, fun t => ?_⟩
  by_cases ht : t < args.size
  · have ht' : t < args'.size := by rw [← h.1]; exact ht
    have h1 : args.getD t undef = args[t] := by simp [Array.getD, ht]
    have h2 : (args' ++ Array.replicate (nt - args'.size) undef).getD t undef = args'.getD t undef := by
      simp [Array.getD_eq_getD_getElem?, Array.getElem?_append, ht']
    simp only [h1, h2]
    exact h.2 t ht
  · have ht' : ¬ t < args'.size := by rw [← h.1]; exact ht
    have h1 : args.getD t undef = undef := by simp [Array.getD, ht]
    have h2 : (args' ++ Array.replicate (nt - args'.size) undef).getD t undef = undef := by
      rw [Array.getD_eq_getD_getElem?, Array.getElem?_append, if_neg ht', Array.getElem?_replicate]
      split <;> rfl
    simp only [h1, h2]
    exact R_undef

theorem putAll_sound : ∀ (ps : List Tmp) (args args' : List Value) (s : Nat → Value) (nt : Nat) (tmps : Array Value), SRel ρ s nt tmps → ps.all (· < nt) = true → args'.length = args.length →
    (∀ (j : Nat) v, args[j]? = some v → ∃ v', args'[j]? = some v' ∧ R ρ v v') → SRel ρ (putAll s (ps.zip args)) nt ((ps.zip args').foldl (fun tmps (x : Tmp × Value) => tmps.setIfInBounds x.1 x.2) tmps) := by
  intro ps
  induction ps with
  | nil => intro args args' s nt tmps S _ _ _; simpa [putAll] using S
  | cons p ps ih =>
    intro args args' s nt tmps S hp hl hr
    cases args with
    | nil =>
      have : args' = [] := by cases args' <;> simp_all
      subst this
      simpa [putAll] using S
    | cons v args =>
      cases args' with
      | nil => simp at hl
      | cons v' args' =>
        simp only [List.all_cons, Bool.and_eq_true, decide_eq_true_eq] at hp
        obtain ⟨u, hu, hv⟩ := hr 0 v (by simp)
        simp at hu; subst hu
        simp only [List.zip_cons_cons, putAll, List.foldl_cons]
        exact ih args args' _ nt _ (S.put hp.1 hv) hp.2 (by simpa using hl) fun j u hj => by
          obtain ⟨u', a, b⟩ := hr (j + 1) u (by simpa using hj)
          exact ⟨u', by simpa using a, b⟩

theorem CallsIn.plain_of {F : Fence} {n : Nat} {f : FuncId} {args : Array Value} {w : World} {Rr : Ending → World → Prop} (h : CallsIn F.plain n P f args w Rr) : CallsIn F n P f args w Rr := h

theorem callOK_of_code {run : Code → St → Option (IExit × St)} (hP : okProg P = true) (hrun : CodeOK P base w0 run) : CallOK P base w0 (icallBy P run) := by
  constructor
  · intro f args h v h' hc ρ w args' H hargs F n hF
    simp only [icallBy, ienter] at hc
    split at hc
    · cases hc
    · rename_i fn hfn
      split at hc
      · cases hc
      · rename_i c hbody
        split at hc
        · rename_i hsz
          have hokf : okCode fn.ntmps c = true := by
            unfold okProg at hP
            simp only [Bool.and_eq_true, List.all_eq_true] at hP
            have := hP.1 fn (Array.mem_toList_iff.2 (Array.mem_of_getElem? hfn))
            simpa [okFunc, hbody] using this
          have S0 : StRel P base w0 ρ { s := fun i => args.getD i undef, h, nt := fn.ntmps } { tmps := args' ++ Array.replicate (fn.ntmps - args'.size) undef, defers := [] } w := ⟨H, RA_args hargs hsz, trivial⟩
          have key : ∀ e st', run c { s := fun i => args.getD i undef, h, nt := fn.ntmps } = some (e, st') → (e = .normal ∨ e = .ret) → ((ishut st'.h st'.marks).bind fun h => (iresults P { st' with h } fn.results.toList).map fun vs => (iret vs, h)) = some (v, h') →
              CallsIn F n P f args' w (RPost P base w0 ρ h' v) := by
            intro e st' he hen hres
            simp only [Option.bind_eq_some_iff, Option.map_eq_some_iff, Prod.mk.injEq] at hres
            obtain ⟨h1, hsh, vs, hvs, rfl, rfl⟩ := hres
            refine CallsIn.plain_of (callsIn_of_wp_marks hfn hbody (hF.1 f) (wpIn_mono (hrun c _ e st' he hokf ρ _ w S0 F.plain n hF fun _ => rfl) ?_))
            rintro x a' w' ⟨rfl, ρ', hle, S', hnt, hrd⟩
            have fin : LeavesInM F.plain n P fn a'.tmps (RPost P base w0 ρ h1 (iret vs)) a'.defers .returning w' := by
              refine shut_sound (ρ := ρ') st'.marks a'.defers st'.h h1 w' S'.heap S'.defers hsh fun w1 H1 => ?_
              obtain ⟨v', hv1, hv2⟩ := results_sound (st := { st' with h := h1 }) S'.slots H1 hvs
              exact ⟨v', hv1, ρ', v', rfl, hle, H1, hv2⟩
            rcases hen with rfl | rfl <;> exact fin
          split at hc
          · rename_i st' he; exact key _ _ he (.inl rfl) hc
          · rename_i st' he; exact key _ _ he (.inr rfl) hc
          · cases hc
        · cases hc
  · intro l args h v h' hc ρ w args' r H hargs hl hr
    simp only [icallBy, iround] at hc
    rw [if_neg (by omega)] at hc
    split at hc
    · rename_i nt T ps assign body p hloop
      split at hc
      · rename_i hsz
        obtain ⟨x, hρ⟩ := RM.block_at (by omega) hr
        obtain ⟨_, _, L, hL, hL1, hL2, hL3, hL4, hL5, hL6, hL7, hL8, hL9, hL10⟩ := H.blk _ _ _ _ hloop hρ
        refine ⟨L, hL, by rw [← hargs.1, hsz, hL3], fun F n hF => ?_⟩
        refine roundIn_of_wpIn (hF.1 _) ?_
        have S0 : StRel P base w0 ρ { s := putAll T (ps.toList.zip args.toList), h, nt, rd := true } { tmps := (L.params.zip args').foldl (fun tmps (t, a) => tmps.setIfInBounds t a) L.tmps, defers := [] } w := by
          refine ⟨H, ?_, trivial⟩
          have := putAll_sound (ρ := ρ) ps.toList args.toList args'.toList T nt L.tmps ⟨hL1, hL2⟩ hL8 (RA_list hargs).1 (RA_list hargs).2
          rw [hL3, ← Array.foldl_toList, Array.toList_zip]
          exact this
        split at hc
        · rename_i st1 hst1
          rw [hL4]
          refine wpIn_mono (hrun assign _ _ st1 hst1 hL9 ρ _ w S0 (F.inRound r) n (hF.inRound r) (by simp)) ?_
          rintro x1 a1 w1 ⟨rfl, ρ1, hle1, S1, hnt1, hrd1⟩
          simp only [IExit.toExit, Exit.then]
          split at hc
          · rename_i nt1 T1 ps1 as1 b1 p1 hloop1
            have hρ1 := hle1.1 _ _ hρ
            obtain ⟨_, hr1w, L1, hLL1, hM1, hM2, hM3, hM4, hM5, hM6, hM7, hM8⟩ := S1.heap.blk _ _ _ _ hloop1 hρ1
            refine ⟨_, run_beginRound hLL1 hM6, ?_⟩
            have H2 : HRel P base w0 ρ1 { st1.h with new := st1.h.new.set (l / 2) (.loop nt1 T1 ps1 as1 b1 .busy p1) } (w1.putObj r (.loop { L1 with state := .busy })) := by
              refine S1.heap.turn hloop1 rfl hρ1 ?_ (fun k hk => World.putObj_heap_other hk) World.putObj_size rfl rfl rfl
              exact ⟨_, World.putObj_heap_same hr1w, hM1, hM2, hM3, hM4, hM5, rfl, hM7, hM8⟩
            split at hc
            · rename_i e st2 hst2
              rw [hL5]
              refine wpIn_mono (hrun body _ e st2 hst2 (by rw [show ({ st1 with h := _ } : St).nt = st1.nt from rfl, hnt1]; exact hL10) ρ1 a1 _ ⟨H2, S1.slots, S1.defers⟩ (F.inRound r) n (hF.inRound r) (by
                intro h; rw [show ({ st1 with h := _ } : St).rd = st1.rd from rfl, hrd1] at h; cases h)) ?_
              rintro x2 a2 w2 ⟨rfl, ρ2, hle2, S2, _, _⟩
              split at hc
              · rename_i nt2 T2 ps2 as2 b2 s2 p2 hloop2
                have hρ2 := hle2.1 _ _ hρ1
                obtain ⟨_, hr2w, L2, hLL2, hN1, hN2, hN3, hN4, hN5, hN6, hN7, hN8⟩ := S2.heap.blk _ _ _ _ hloop2 hρ2
                have hend := fun jump => run_endRound (P := P) jump hLL2
                have turn : ∀ (jump : Option Code), HRel P base w0 ρ2 { st2.h with new := st2.h.new.set (l / 2) (.loop nt2 T2 ps2 as2 b2 (if jump.isNone then .ready else .done) jump) } (w2.putObj r (.loop { L2 with state := if jump.isNone then .ready else .done, pending := jump })) := by
                  intro jump
                  refine S2.heap.turn hloop2 rfl hρ2 ?_ (fun k hk => World.putObj_heap_other hk) World.putObj_size rfl rfl rfl
                  exact ⟨_, World.putObj_heap_same hr2w, hN1, hN2, hN3, hN4, hN5, rfl, rfl, hN8⟩
                cases e with
                | normal =>
                  simp only [Option.some.injEq, Prod.mk.injEq] at hc
                  obtain ⟨rfl, rfl⟩ := hc
                  exact ⟨_, _, hend none, ρ2, _, rfl, RM.le_trans hle1 hle2, turn none, flat_R (by rfl)⟩
                | ret =>
                  simp only [Option.some.injEq, Prod.mk.injEq] at hc
                  obtain ⟨rfl, rfl⟩ := hc
                  exact ⟨_, _, hend (some .ret), ρ2, _, rfl, RM.le_trans hle1 hle2, turn (some .ret), flat_R (by rfl)⟩
                | exit id =>
                  simp only [Option.some.injEq, Prod.mk.injEq] at hc
                  obtain ⟨rfl, rfl⟩ := hc
                  exact ⟨_, _, hend (some (.exit id)), ρ2, _, rfl, RM.le_trans hle1 hle2, turn (some (.exit id)), flat_R (by rfl)⟩
              · cases hc
            · cases hc
          · cases hc
        · cases hc
      · cases hc
    · cases hc
end
end Go.Ideal

-- IdealP
set_option linter.unusedSimpArgs false
set_option linter.unusedVariables false
namespace Go.Ideal
open Go Go.RowKit

theorem exists_min (p : Nat → Prop) : ∀ n, p n → ∃ m, p m ∧ ∀ k, p k → m ≤ k := by
  intro n
  induction n using Nat.strongRecOn with
  | _ n ih =>
    intro hn
    by_cases h : ∃ k, k < n ∧ p k
    · obtain ⟨k, hk, hpk⟩ := h; exact ih k hk hpk
    · exact ⟨n, hn, fun k hk => by
        rcases Nat.lt_or_ge k n with h' | h'
        · exact absurd ⟨k, h', hk⟩ h
        · exact h'⟩

section
variable {P : Program} {base : Nat} {w0 : World}

open Classical in
/-- the least number of rounds -/
noncomputable def least (p : Nat → Prop) : Nat := if h : ∃ n, p n then Classical.choose (exists_min p h.choose h.choose_spec) else 0
theorem least_spec {p : Nat → Prop} {n : Nat} (h : p n) : p (least p) ∧ ∀ k, p k → least p ≤ k := by
  have hx : ∃ n, p n := ⟨n, h⟩
  simp only [least, dif_pos hx]
  exact Classical.choose_spec (exists_min p hx.choose hx.choose_spec)

theorem icode_sound (hP : okProg P = true) : ∀ n, CodeOK P base w0 (icode P n) := by
  have hmix : P.follows .mixedOrders = true := by
    unfold okProg at hP; simp only [Bool.and_eq_true] at hP; exact hP.2
  intro n
  induction n using Nat.strongRecOn with
  | _ n ihs =>
  cases n with
  | zero => intro c st e st' h; simp [icode] at h
  | succ n =>
    have ih : CodeOK P base w0 (icode P n) := ihs n (by omega)
    have hcall : CallOK P base w0 (icallBy P (icode P n)) := callOK_of_code hP ih
    intro c st e st' hi hok ρ a w S F m hF hrd
    cases c with
    | skip =>
      simp only [icode, Option.some.injEq, Prod.mk.injEq] at hi
      obtain ⟨rfl, rfl⟩ := hi
      exact wpIn_skip ⟨rfl, ρ, RM.le_refl _, S, rfl, rfl⟩
    | exit id =>
      simp only [icode, Option.some.injEq, Prod.mk.injEq] at hi
      obtain ⟨rfl, rfl⟩ := hi
      exact wpIn_exit ⟨rfl, ρ, RM.le_refl _, S, rfl, rfl⟩
    | ret =>
      simp only [icode, Option.some.injEq, Prod.mk.injEq] at hi
      obtain ⟨rfl, rfl⟩ := hi
      exact wpIn_ret ⟨rfl, ρ, RM.le_refl _, S, rfl, rfl⟩
    | region id ops draw =>
      have hops : ∀ (i : Nat) o, ops[i]? = some o → okOper st.nt o = true := by
        intro i o ho
        simp only [okCode, List.all_eq_true] at hok
        exact hok o (Array.mem_toList_iff.2 (Array.mem_of_getElem? ho))
      cases draw with
      | false =>
        simp only [icode, Bool.false_eq_true, if_false, Option.map_eq_some_iff, Prod.mk.injEq] at hi
        obtain ⟨st1, h1, rfl, rfl⟩ := hi
        refine wpIn_region (iops_sound hcall hF _ ρ st st1 a w hops h1 S fun ρ' a' w' hle S' e1 e2 => ⟨rfl, ρ', hle, S', e1, e2⟩)
      | true =>
        simp only [icode, if_true, Option.map_eq_some_iff, Prod.mk.injEq] at hi
        obtain ⟨st1, h1, rfl, rfl⟩ := hi
        simp only [idraw, Option.bind_eq_some_iff] at h1
        obtain ⟨p, hp, h1⟩ := h1
        simp only [planOf] at hp
        split at hp
        · simp only [Option.bind_eq_some_iff] at hp
          obtain ⟨p', hp, hv⟩ := hp
          split at hv
          · rename_i hvo
            cases hv
            have S1 : StRel P base w0 ρ st a { w with drawn := w.drawn + 1 } := ⟨S.heap.drew, S.slots, S.defers⟩
            have hv1 : ∀ i, PStep.virt i ∈ p → virtAt p i = true := fun i hi => List.any_eq_true.2 ⟨_, hi, by simp⟩
            have hv2 : ∀ i, PStep.one i ∈ p → virtAt p i = false := fun i hi => by
              rw [List.all_eq_true] at hvo
              simpa using hvo _ hi
            obtain ⟨Ek, hE1, hE2⟩ := iplan_sound (Q := CPost P base w0 ρ st .normal st1) (ρ0 := ρ) (w1 := { w with drawn := w.drawn + 1 }) (h0 := st.h) (n := m) hF hcall (callSh_of_code (codeSh P n))
              (fun j o cs b ho => (okOper_ops (hops j o ho)).2.2.1 cs b) (fun j o c ho => (okOper_ops (hops j o ho)).2.2.2 c) (fun c a w h => by cases h.1) S1.heap (virtAt p) ops.size (Array.replicate ops.size false) [] p st st1 [] [st.h] hp h1 hv1 hv2 (by simp) (by simp)
            have hnone : ∀ j, (Array.replicate ops.size false).getD j false = true → False := fun j hj => by
              simp [Array.getD_eq_getD_getElem?, Array.getElem?_replicate] at hj; split at hj <;> simp at hj
            refine wpIn_region_any hmix (wpAnyIn_of_wpS _ _ _ _ (hE2 Ek (fun e he => he) (fun e he => ?_) (fun e he => .inl he) rfl ops.size [] (Array.replicate ops.size false) st.s ρ a _ (by simp) (fun j i hj _ => (hnone j hj).elim)
              ⟨rfl, fun j => by simp, by simp⟩ (by simp) (by simp) (fun _ _ => rfl) (RM.le_refl _) (by simp) S1 hops (fun e _ _ rb _ => rfl) fun ρ' a' w' hle S' e1 e2 => ⟨rfl, ρ', hle, S', e1, e2⟩))
            have := hE1 st.h (by simp)
            unfold heldIn at this ⊢
            rw [List.all_eq_true] at this
            simp only [List.all_cons, List.all_nil, Bool.and_true]
            exact this e he
          · cases hv
        · cases hp
    | seq x y =>
      simp only [okCode, Bool.and_eq_true] at hok
      simp only [icode] at hi
      refine wpIn_seq ?_
      cases hx : icode P n x st with
      | none => simp [hx] at hi
      | some r =>
        obtain ⟨e1, st1⟩ := r
        refine wpIn_mono (ih x st e1 st1 hx hok.1 ρ a w S F m hF hrd) ?_
        rintro x1 a1 w1 ⟨rfl, ρ1, hle1, S1, hnt1, hrd1⟩
        rw [hx] at hi
        cases e1 with
        | normal =>
          simp only at hi
          simp only [IExit.toExit, Exit.then]
          refine wpIn_mono (ih y st1 e st' hi (by rw [hnt1]; exact hok.2) ρ1 a1 w1 S1 F m hF (by rw [hrd1]; exact hrd)) ?_
          rintro x2 a2 w2 ⟨h1, ρ2, hle2, S2, hnt2, hrd2⟩
          exact ⟨h1, ρ2, RM.le_trans hle1 hle2, S2, hnt2.trans hnt1, hrd2.trans hrd1⟩
        | exit id =>
          simp only [Option.some.injEq, Prod.mk.injEq] at hi
          obtain ⟨rfl, rfl⟩ := hi
          exact ⟨rfl, ρ1, hle1, S1, hnt1, hrd1⟩
        | ret =>
          simp only [Option.some.injEq, Prod.mk.injEq] at hi
          obtain ⟨rfl, rfl⟩ := hi
          exact ⟨rfl, ρ1, hle1, S1, hnt1, hrd1⟩
    | cond co x y =>
      simp only [okCode, Bool.and_eq_true] at hok
      simp only [icode] at hi
      split at hi
      · rename_i t ht
        have h1 := S.eval hok.1.1
        rw [ht] at h1
        refine wpIn_cond (R_bool h1) ?_
        cases t with
        | true => exact ih x st e st' hi hok.1.2 ρ a w S F m hF hrd
        | false => exact ih y st e st' hi hok.2 ρ a w S F m hF hrd
      · cases hi
    | block id b =>
      simp only [okCode] at hok
      simp only [icode] at hi
      refine wpIn_block ?_
      cases hb : icode P n b st with
      | none => simp [hb] at hi
      | some r =>
        obtain ⟨e1, st1⟩ := r
        refine wpIn_mono (ih b st e1 st1 hb hok ρ a w S F m hF hrd) ?_
        rintro x1 a1 w1 ⟨rfl, ρ1, hle1, S1, hnt1, hrd1⟩
        rw [hb] at hi
        cases e1 with
        | normal =>
          simp only [Option.some.injEq, Prod.mk.injEq] at hi
          obtain ⟨rfl, rfl⟩ := hi
          exact ⟨rfl, ρ1, hle1, S1, hnt1, hrd1⟩
        | ret =>
          simp only [Option.some.injEq, Prod.mk.injEq] at hi
          obtain ⟨rfl, rfl⟩ := hi
          exact ⟨rfl, ρ1, hle1, S1, hnt1, hrd1⟩
        | exit j =>
          simp only at hi
          simp only [IExit.toExit, Exit.inBlock]
          split at hi
          · rename_i hj
            simp only [Option.some.injEq, Prod.mk.injEq] at hi
            obtain ⟨rfl, rfl⟩ := hi
            rw [if_pos hj]
            exact ⟨rfl, ρ1, hle1, S1, hnt1, hrd1⟩
          · rename_i hj
            simp only [Option.some.injEq, Prod.mk.injEq] at hi
            obtain ⟨rfl, rfl⟩ := hi
            rw [if_neg hj]
            exact ⟨rfl, ρ1, hle1, S1, hnt1, hrd1⟩
    | loop b =>
      simp only [okCode] at hok
      -- the rounds that are left
      let p : Act → World → Nat → Prop := fun a1 w1 k => k ≤ n + 1 ∧ ∃ ρ1 st1, ρ.le ρ1 ∧ StRel P base w0 ρ1 st1 a1 w1 ∧ st1.nt = st.nt ∧ st1.rd = st.rd ∧ icode P k (.loop b) st1 = some (e, st')
      refine wpIn_loop (fun a1 w1 => ∃ k, p a1 w1 k) (fun a1 w1 => least (p a1 w1)) ⟨n + 1, Nat.le_refl _, ρ, st, RM.le_refl _, S, rfl, rfl, hi⟩ ?_
      rintro a1 w1 ⟨k, hk⟩
      obtain ⟨⟨hle, ρ1, st1, hl1, S1, hnt1, hrd1, hrun⟩, hmin⟩ := least_spec hk
      cases hlk : least (p a1 w1) with
      | zero => rw [hlk] at hrun; simp [icode] at hrun
      | succ j =>
        rw [hlk] at hrun hle
        simp only [icode] at hrun
        cases hb : icode P j b st1 with
        | none => simp [hb] at hrun
        | some r =>
          obtain ⟨e1, st2⟩ := r
          rw [hb] at hrun
          have hjn : j ≤ n := by omega
          have hcode : CodeOK P base w0 (icode P j) := ihs j (by omega)
          refine wpIn_mono (hcode b st1 e1 st2 hb (by rw [hnt1]; exact hok) ρ1 a1 w1 S1 F m hF (by rw [hrd1]; exact hrd)) ?_
          rintro x2 a2 w2 ⟨rfl, ρ2, hle2, S2, hnt2, hrd2⟩
          cases e1 with
          | normal =>
            simp only at hrun
            simp only [IExit.toExit, Exit.then]
            have hp : p a2 w2 j := ⟨by omega, ρ2, st2, RM.le_trans hl1 hle2, S2, hnt2.trans hnt1, hrd2.trans hrd1, hrun⟩
            exact ⟨⟨j, hp⟩, Nat.lt_succ_of_le ((least_spec hp).2 j hp)⟩
          | exit id =>
            simp only [Option.some.injEq, Prod.mk.injEq] at hrun
            obtain ⟨rfl, rfl⟩ := hrun
            exact ⟨rfl, ρ2, RM.le_trans hl1 hle2, S2, hnt2.trans hnt1, hrd2.trans hrd1⟩
          | ret =>
            simp only [Option.some.injEq, Prod.mk.injEq] at hrun
            obtain ⟨rfl, rfl⟩ := hrun
            exact ⟨rfl, ρ2, RM.le_trans hl1 hle2, S2, hnt2.trans hnt1, hrd2.trans hrd1⟩
    | rangeFunc f ps assign body =>
      simp only [okCode, Bool.and_eq_true] at hok
      obtain ⟨⟨⟨hokf, hokp⟩, hoka⟩, hokb⟩ := hok
      simp only [icode, irange] at hi
      split at hi
      · cases hi
      · rename_i hrdf
        have hrd0 : F.round = none := hrd (by simpa using hrdf)
        split at hi
        · rename_i g args hcal
          simp only [Option.bind_eq_some_iff] at hi
          obtain ⟨⟨v, h3⟩, hc, hi⟩ := hi
          simp only at hi
          split at hi
          · rename_i nt3 T3 ps3 as3 b3 state pend hloop3
            split at hi
            · rename_i hnb
              refine wpIn_rangeFunc fun fn _ => ?_
              -- the two blocks
              let d := st.h.new.length
              let rd := w.heap.size
              let L : Loop := { state := .ready, pending := none, fn := fn, tmps := a.tmps, params := ps, assign := assign, body := body, defers := rd }
              have H1 : HRel P base w0 (ρ.add d (rd, 0)) (st.h.push .defr) (w.alloc (.deferred (some []))) := S.heap.push fun ρ' _ => rfl
              have hl1 : ρ.le (ρ.add d (rd, 0)) := RM.le_push S.heap _
              have hlen1 : (st.h.push IObj.defr).new.length = d + 1 := by simp [IHp.push, d]
              have hsz1 : (w.alloc (.deferred (some []))).heap.size = rd + 1 := by simp [heap_alloc', rd]
              have H2 : HRel P base w0 ((ρ.add d (rd, 0)).add (d + 1) (rd + 1, 0)) ((st.h.push .defr).push (.loop st.nt st.s ps assign body .ready none)) ((w.alloc (.deferred (some []))).alloc (.loop L)) := by
                have := H1.push (x := 0) (o := .loop st.nt st.s ps assign body .ready none) (O := .loop L) fun ρ' hle => ⟨L, rfl, S.slots.1, fun t => R_mono (RM.le_trans hl1 hle) _ _ (S.slots.2 t), rfl, rfl, rfl, rfl, rfl, hokp, hoka, hokb⟩
                rw [hlen1, hsz1] at this
                exact this
              have hl2 : (ρ.add d (rd, 0)).le ((ρ.add d (rd, 0)).add (d + 1) (rd + 1, 0)) := RM.le_add (by rw [H1.dom.1, hlen1]) (by
                have := H1.dom.2 (d + 1) (by rw [hlen1]; exact Nat.le_refl _); exact this)
              have hl12 := RM.le_trans hl1 hl2
              have hyR : R ((ρ.add d (rd, 0)).add (d + 1) (rd + 1, 0)) (.func (.yield (2 * (d + 1))) #[] #[]) (.func (.yield (rd + 1)) #[] #[]) := by
                simp only [R]
                exact ⟨rfl, rfl, by omega, rd + 1, RM.block_new (x := 0) (RM.add_at _ _ _), rfl⟩
              have hargs : RA ((ρ.add d (rd, 0)).add (d + 1) (rd + 1, 0)) #[.func (.yield (2 * (d + 1))) #[] #[]] #[.func (.yield (rd + 1)) #[] #[]] := by
                refine RA_mk rfl fun i u hu => ?_
                match i with
                | 0 => simp at hu; subst hu; exact ⟨_, by simp, hyR⟩
                | i + 1 => simp at hu
              obtain ⟨df, args', hd1, hd2, hd3⟩ := callee_fn hcal (R_mono hl12 _ _ (S.eval hokf)) hargs
              refine ⟨rd + 1, [{ target := .collected rd, args := #[] }], (w.alloc (.deferred (some []))).alloc (.loop L), df, (w.alloc (.deferred (some []))).alloc (.loop L), g, args', (w.alloc (.deferred (some []))).alloc (.loop L), by rw [hrd0]; exact run_enterLoop_outer fn a.tmps ps assign body, ?_, fun f' _ => hF.1 f', hd2 _, (fun h => by rw [hF.2] at h; cases h), ?_⟩
              · have hres : resolve a.eval (rangeCall f (rd + 1)) 0 = (Deferred.ofValue (a.eval f) #[.func (.yield (rd + 1)) #[] #[]] : Sem Deferred) := by
                  simp only [resolve, rangeCall, List.map_toArray, List.map_cons, List.map_nil]; rfl
                rw [hres, hd1, Sem.run_pure]
              · refine (hcall.1 g args _ v h3 hc _ _ args' H2 hd3 F _ hF).mono ?_
                rintro e1 w3 ⟨ρ3, v3, rfl, hl3, H3, _⟩
                have hd3' : ρ3.at_ (d + 1) = some (rd + 1, 0) := hl3.1 _ _ (RM.add_at _ _ _)
                have hdd : ρ3.at_ d = some (rd, 0) := hl3.1 _ _ (hl2.1 _ _ (RM.add_at _ _ _))
                obtain ⟨_, hr3w, L3, hLL3, hN1, hN2, hN3, hN4, hN5, hN6, hN7, hN8⟩ := H3.blk _ _ _ _ hloop3 hd3'
                have hbusy : L3.state ≠ .busy := by rw [hN6]; intro he; rw [he] at hnb; cases hnb
                have H4 : HRel P base w0 ρ3 { h3 with new := h3.new.set (d + 1) (.loop nt3 T3 ps3 as3 b3 .exhausted pend) } (w3.putObj (rd + 1) (.loop { L3 with state := .exhausted })) := by
                  refine H3.turn hloop3 rfl hd3' ?_ (fun k hk => World.putObj_heap_other hk) World.putObj_size rfl rfl rfl
                  exact ⟨_, World.putObj_heap_same hr3w, hN1, hN2, hN3, hN4, hN5, rfl, hN7, hN8⟩
                have S4 : StRel P base w0 ρ3 { st with h := { h3 with new := h3.new.set (d + 1) (.loop nt3 T3 ps3 as3 b3 .exhausted pend) }, marks := d :: st.marks } { a with defers := [{ target := .collected rd, args := #[] }] ++ a.defers } (w3.putObj (rd + 1) (.loop { L3 with state := .exhausted })) :=
                  ⟨H4, S.slots.mono (RM.le_trans hl12 hl3), ⟨⟨rd, 0, hdd, rfl⟩, S.defers.mono (RM.le_trans hl12 hl3)⟩⟩
                have hend := run_endLoop (P := P) hLL3 hbusy
                generalize w3.putObj (rd + 1) (.loop { L3 with state := .exhausted }) = W4 at hend S4
                refine ⟨L3.pending, W4, hend, ?_⟩
                rw [hN7]
                split at hi
                · simp only [Option.some.injEq, Prod.mk.injEq] at hi
                  obtain ⟨rfl, rfl⟩ := hi
                  exact ⟨rfl, ρ3, RM.le_trans hl12 hl3, S4, rfl, rfl⟩
                · simp only [Option.some.injEq, Prod.mk.injEq] at hi
                  obtain ⟨rfl, rfl⟩ := hi
                  exact wpIn_ret ⟨rfl, ρ3, RM.le_trans hl12 hl3, S4, rfl, rfl⟩
                · simp only [Option.some.injEq, Prod.mk.injEq] at hi
                  obtain ⟨rfl, rfl⟩ := hi
                  exact wpIn_exit ⟨rfl, ρ3, RM.le_trans hl12 hl3, S4, rfl, rfl⟩
                · cases hi
            · cases hi
          · cases hi
        · cases hi
    | _ => simp [icode] at hi
end
end Go.Ideal

-- IdealQ
set_option linter.unusedSimpArgs false
set_option linter.unusedVariables false
namespace Go.Ideal
open Go Go.RowKit

/-- the memory as it is: all of it old -/
def heapOf (w : World) : IHp := ⟨fun b off => if b < w.heap.size then (w.cell? ⟨b, off, none⟩).bind upv else none, []⟩
def RM0 : RM := { at_ := fun _ => none }
theorem HRel_heapOf (P : Program) (w : World) : HRel P w.heap.size w RM0 (heapOf w) w := by
  refine ⟨Below.refl _ _, Nat.le_refl _, fun b off v hv => ?_, by simp [heapOf], by simp [heapOf], rfl, fun i _ => rfl⟩
  simp only [heapOf] at hv
  split at hv
  · rename_i hb
    simp only [Option.bind_eq_some_iff] at hv
    obtain ⟨u, hu, hup⟩ := hv
    exact ⟨hb, u, hu, hup⟩
  · cases hv

theorem calls_of_ideal {P : Program} {n f : Nat} {args args' : Array Value} {v : Value} {w : World} {h' : IHp} (hP : okProg P = true) (h : icall P n (.fn f) args (heapOf w) = some (v, h')) (ha : RA RM0 args args') :
    Calls P f args' w (RPost P w.heap.size w RM0 h' v) :=
  (callsIn_wide (n := 0)).1 ((callOK_of_code (base := w.heap.size) (w0 := w) hP (icode_sound hP n)).1 f args (heapOf w) v h' h RM0 w args' (HRel_heapOf P w) ha Fence.wide 0 ⟨fun _ => trivial, rfl⟩)

/-- a law's walk -/
theorem law_of_ideal {P : Program} {n f : Nat} {args args' : Array Value} {w : World} {h' : IHp} (hP : okProg P = true) (h : icall P n (.fn f) args (heapOf w) = some (.bool true, h')) (ha : RA RM0 args args') :
    Calls P f args' w fun e w' => e = .returned (.bool true) ∧ Below w.heap.size w w' :=
  (calls_of_ideal hP h ha).mono fun e w' ⟨ρ', v', he, _, H, hR⟩ => ⟨by rw [he, R_bool hR], H.below⟩
end Go.Ideal

-- IdealR
set_option linter.unusedSimpArgs false
set_option linter.unusedVariables false
namespace Go.Ideal
open Go Go.RowKit

/-! ### More rounds give the same answer -/
def CLe (a b : ICall) : Prop := ∀ c args h r, a c args h = some r → b c args h = some r
def RLe (a b : Code → St → Option (IExit × St)) : Prop := ∀ c st r, a c st = some r → b c st = some r
variable {P : Program}

theorem iop_le {a b : ICall} (h : CLe a b) {ops : Array Oper} {i : Nat} {st st' : St} (hs : iop P a ops i st = some st') : iop P b ops i st = some st' := by
  unfold iop at *
  cases ho : ops[i]? with
  | none => simp [ho] at hs
  | some o =>
    simp only [ho] at hs ⊢
    split at hs
    · rename_i hw
      rw [if_pos hw]
      cases hc : icallee P st.eval o with
      | none => simpa [hc] using hs
      | some x =>
        simp only [hc, Option.map_eq_some_iff] at hs ⊢
        obtain ⟨r, h1, h2⟩ := hs
        exact ⟨r, h _ _ _ _ h1, h2⟩
    · rename_i hw; rw [if_neg hw]; exact hs
theorem iops_le {a b : ICall} (h : CLe a b) {ops : Array Oper} : ∀ {l : List Nat} {st st' : St}, iops P a ops l st = some st' → iops P b ops l st = some st' := by
  intro l
  induction l with
  | nil => intro st st' hs; exact hs
  | cons i l ih =>
    intro st st' hs
    simp only [iops, Option.bind_eq_some_iff] at hs ⊢
    obtain ⟨s1, h1, h2⟩ := hs
    exact ⟨s1, iop_le h h1, ih h2⟩
theorem iplan_le {a b : ICall} (h : CLe a b) {ops : Array Oper} : ∀ {l : List PStep} {st st' : St} {held : Held} {sn : List IHp}, iplan P a ops l st held sn = some st' → iplan P b ops l st held sn = some st' := by
  intro l
  induction l with
  | nil => intro st st' held sn hs; exact hs
  | cons x l ih =>
    intro st st' held sn hs
    cases x with
    | take i =>
      simp only [iplan, Option.bind_eq_some_iff] at hs ⊢
      obtain ⟨o, ho, hs⟩ := hs
      refine ⟨o, ho, ?_⟩
      split at hs
      · rename_i hw
        rw [if_pos hw]
        simp only [Option.bind_eq_some_iff] at hs ⊢
        obtain ⟨m, hm, hs⟩ := hs
        refine ⟨m, hm, ?_⟩
        split at hs
        · rename_i ha
          rw [if_pos ha]
          simp only [Option.bind_eq_some_iff] at hs ⊢
          obtain ⟨r, hr, hs⟩ := hs
          exact ⟨r, hr, ih hs⟩
        · cases hs
      · rename_i hw; rw [if_neg hw]; exact ih hs
    | one i =>
      simp only [iplan, Option.bind_eq_some_iff] at hs ⊢
      obtain ⟨s1, h1, h2⟩ := hs
      refine ⟨s1, iop_le h h1, ?_⟩
      split at h2
      · rename_i hh; rw [if_pos hh]; exact ih h2
      · cases h2
    | virt i =>
      simp only [iplan, Option.bind_eq_some_iff] at hs ⊢
      obtain ⟨o, ho, m, hm, hs⟩ := hs
      refine ⟨o, ho, m, hm, ?_⟩
      split at hs
      · rename_i hc; rw [if_pos hc]; exact ih hs
      · cases hs
theorem callBy_le {a b : Code → St → Option (IExit × St)} (h : RLe a b) : CLe (icallBy P a) (icallBy P b) := by
  intro c args hp r hr
  cases c with
  | fn f =>
    simp only [icallBy, ienter] at hr ⊢
    cases hf : P.funcs[f]? with
    | none => simp [hf] at hr
    | some fn =>
      simp only [hf] at hr ⊢
      cases hb : fn.body with
      | none => simp [hb] at hr
      | some co =>
        simp only [hb] at hr ⊢
        split at hr
        · rename_i hsz
          rw [if_pos hsz]
          cases hrun : a co { s := fun i => args.getD i undef, h := hp, nt := fn.ntmps } with
          | none => rw [hrun] at hr; cases hr
          | some x => rw [hrun] at hr; rw [h _ _ _ hrun]; exact hr
        · cases hr
  | yld l =>
    simp only [icallBy, iround] at hr ⊢
    split at hr
    · cases hr
    · rename_i hl
      rw [if_neg hl]
      split at hr
      · rename_i nt T ps as bo p hloop
        try simp only [hloop] at hr ⊢
        split at hr
        · rename_i hsz
          rw [if_pos hsz]
          cases hrun : a as { s := putAll T (ps.toList.zip args.toList), h := hp, nt, rd := true } with
          | none => rw [hrun] at hr; cases hr
          | some x =>
            rw [hrun] at hr; rw [h _ _ _ hrun]
            obtain ⟨e1, st1⟩ := x
            cases e1 <;> simp only at hr ⊢ <;> try (cases hr; done)
            split at hr
            · rename_i nt1 T1 ps1 as1 b1 p1 hl1
              try simp only [hl1] at hr ⊢
              cases hrun2 : a bo { st1 with h := { st1.h with new := st1.h.new.set (l / 2) (.loop nt1 T1 ps1 as1 b1 .busy p1) } } with
              | none => rw [hrun2] at hr; cases hr
              | some y => rw [hrun2] at hr; rw [h _ _ _ hrun2]; exact hr
            · cases hr
        · cases hr
      · cases hr
theorem icode_le : ∀ n, RLe (icode P n) (icode P (n + 1)) := by
  intro n
  induction n with
  | zero => intro c st r h; simp [icode] at h
  | succ n ih =>
    have hcl := callBy_le (P := P) ih
    intro c st r h
    cases c with
    | region id ops draw =>
      cases draw with
      | false =>
        rw [icode] at h ⊢
        simp only [Bool.false_eq_true, if_false, Option.map_eq_some_iff] at h ⊢
        obtain ⟨s, h1, h2⟩ := h
        exact ⟨s, iops_le hcl h1, h2⟩
      | true =>
        rw [icode] at h ⊢
        simp only [if_true, Option.map_eq_some_iff, idraw, Option.bind_eq_some_iff] at h ⊢
        obtain ⟨s, ⟨p, hp, h1⟩, h2⟩ := h
        exact ⟨s, ⟨p, hp, iplan_le hcl h1⟩, h2⟩
    | seq a b =>
      rw [icode] at h ⊢
      cases ha : icode P n a st with
      | none => simp [ha] at h
      | some x =>
        rw [ha] at h; rw [ih _ _ _ ha]
        obtain ⟨e, s⟩ := x
        cases e with
        | normal => exact ih _ _ _ h
        | exit id => exact h
        | ret => exact h
    | cond co a b =>
      rw [icode] at h ⊢
      split at h
      · rename_i t ht; exact ih _ _ _ h
      · cases h
    | block id b =>
      rw [icode] at h ⊢
      cases ha : icode P n b st with
      | none => simp [ha] at h
      | some x => rw [ha] at h; rw [ih _ _ _ ha]; exact h
    | loop b =>
      rw [icode] at h ⊢
      cases ha : icode P n b st with
      | none => simp [ha] at h
      | some x =>
        rw [ha] at h; rw [ih _ _ _ ha]
        obtain ⟨e, s⟩ := x
        cases e with
        | normal => exact ih _ _ _ h
        | exit id => exact h
        | ret => exact h
    | rangeFunc f ps a b =>
      rw [icode] at h ⊢
      unfold irange at *
      split at h
      · cases h
      · rename_i hrd
        rw [if_neg hrd]
        simp only at h ⊢
        split at h
        · rename_i g args hc
          simp only [Option.bind_eq_some_iff] at h ⊢
          obtain ⟨r1, h1, h2⟩ := h
          exact ⟨r1, hcl _ _ _ _ h1, h2⟩
        · cases h
    | skip => rw [icode] at h ⊢; exact h
    | exit id => rw [icode] at h ⊢; exact h
    | ret => rw [icode] at h ⊢; exact h
    | _ => simp [icode] at h
theorem icode_mono {n m : Nat} (h : n ≤ m) : RLe (icode P n) (icode P m) := by
  induction h with
  | refl => intro c st r h; exact h
  | step _ ih => intro c st r h; exact icode_le _ _ _ _ (ih _ _ _ h)
theorem icall_mono {n m : Nat} (h : n ≤ m) : CLe (icall P n) (icall P m) := callBy_le (icode_mono h)

/-! ### What a piece of code comes to -/
/-- the call of function f comes to v, and leaves the heap h' -/
def Ev (P : Program) (f : FuncId) (args : Array Value) (h : IHp) (v : Value) (h' : IHp) : Prop := ∃ n, icall P n (.fn f) args h = some (v, h')
def W (P : Program) (c : Code) (Q : IExit → St → Prop) (st : St) : Prop := ∃ n e st', icode P n c st = some (e, st') ∧ Q e st'
/-- the operations of a region that are left -/
def WL (P : Program) (ops : Array Oper) (K : St → Prop) (l : List Nat) (st : St) : Prop := ∃ n st', iops P (icall P n) ops l st = some st' ∧ K st'
/-- a value that is to be had, and what is done with it -/
def OK {α : Type} (o : Option α) (K : α → Prop) : Prop := ∃ a, o = some a ∧ K a
/-- a call and what is done behind it -/
def WC (P : Program) (c : Cl) (args : Array Value) (h : IHp) (K : Value → IHp → Prop) : Prop := ∃ n v h', icall P n c args h = some (v, h') ∧ K v h'
def seqK (P : Program) (b : Code) (Q : IExit → St → Prop) : IExit → St → Prop
  | .normal, st => W P b Q st
  | e, st => Q e st
def blockK (id : Nat) (Q : IExit → St → Prop) : IExit → St → Prop
  | .exit j, st => if j = id then Q .normal st else Q (.exit j) st
  | e, st => Q e st

section rules
variable {Q : IExit → St → Prop} {st : St}
theorem W_skip : W P .skip Q st = Q .normal st := by
  refine propext ⟨?_, fun h => ⟨1, .normal, st, by simp [icode], h⟩⟩
  rintro ⟨n, e, st', h, hq⟩
  cases n <;> simp [icode] at h
  obtain ⟨rfl, rfl⟩ := h; exact hq
theorem W_exit {id : Nat} : W P (.exit id) Q st = Q (.exit id) st := by
  refine propext ⟨?_, fun h => ⟨1, .exit id, st, by simp [icode], h⟩⟩
  rintro ⟨n, e, st', h, hq⟩
  cases n <;> simp [icode] at h
  obtain ⟨rfl, rfl⟩ := h; exact hq
theorem W_ret : W P .ret Q st = Q .ret st := by
  refine propext ⟨?_, fun h => ⟨1, .ret, st, by simp [icode], h⟩⟩
  rintro ⟨n, e, st', h, hq⟩
  cases n <;> simp [icode] at h
  obtain ⟨rfl, rfl⟩ := h; exact hq
theorem W_seq {a b : Code} : W P (.seq a b) Q st = W P a (seqK P b Q) st := by
  refine propext ⟨?_, ?_⟩
  · rintro ⟨n, e, st', h, hq⟩
    cases n with
    | zero => simp [icode] at h
    | succ n =>
      rw [icode] at h
      cases ha : icode P n a st with
      | none => simp [ha] at h
      | some x =>
        rw [ha] at h
        obtain ⟨e1, s1⟩ := x
        refine ⟨n, e1, s1, ha, ?_⟩
        cases e1 with
        | normal => exact ⟨n, e, st', h, hq⟩
        | exit id => simp only [Option.some.injEq, Prod.mk.injEq] at h; obtain ⟨rfl, rfl⟩ := h; exact hq
        | ret => simp only [Option.some.injEq, Prod.mk.injEq] at h; obtain ⟨rfl, rfl⟩ := h; exact hq
  · rintro ⟨n, e1, s1, ha, hk⟩
    cases e1 with
    | normal =>
      obtain ⟨m, e, st', hb, hq⟩ := hk
      refine ⟨max n m + 1, e, st', ?_, hq⟩
      rw [icode, icode_mono (Nat.le_max_left n m) _ _ _ ha]
      exact icode_mono (Nat.le_max_right n m) _ _ _ hb
    | exit id => exact ⟨n + 1, .exit id, s1, by rw [icode, ha], hk⟩
    | ret => exact ⟨n + 1, .ret, s1, by rw [icode, ha], hk⟩
theorem W_cond {co : Operand} {a b : Code} {t : Bool} (h : st.eval co = .bool t) : W P (.cond co a b) Q st = if t then W P a Q st else W P b Q st := by
  refine propext ⟨?_, ?_⟩
  · rintro ⟨n, e, st', hi, hq⟩
    cases n with
    | zero => simp [icode] at hi
    | succ n =>
      rw [icode, h] at hi
      cases t
      · exact ⟨n, e, st', hi, hq⟩
      · exact ⟨n, e, st', hi, hq⟩
  · intro hw
    cases t <;> (obtain ⟨n, e, st', hi, hq⟩ := hw; exact ⟨n + 1, e, st', by rw [icode, h]; exact hi, hq⟩)
theorem W_block {id : Nat} {b : Code} : W P (.block id b) Q st = W P b (blockK id Q) st := by
  refine propext ⟨?_, ?_⟩
  · rintro ⟨n, e, st', h, hq⟩
    cases n with
    | zero => simp [icode] at h
    | succ n =>
      rw [icode] at h
      cases ha : icode P n b st with
      | none => simp [ha] at h
      | some x =>
        rw [ha] at h
        obtain ⟨e1, s1⟩ := x
        refine ⟨n, e1, s1, ha, ?_⟩
        cases e1 with
        | exit j =>
          simp only at h
          split at h <;> simp only [Option.some.injEq, Prod.mk.injEq] at h <;> obtain ⟨rfl, rfl⟩ := h <;> simp [blockK, *]
        | normal => simp only [Option.some.injEq, Prod.mk.injEq] at h; obtain ⟨rfl, rfl⟩ := h; exact hq
        | ret => simp only [Option.some.injEq, Prod.mk.injEq] at h; obtain ⟨rfl, rfl⟩ := h; exact hq
  · rintro ⟨n, e1, s1, ha, hk⟩
    cases e1 with
    | exit j =>
      by_cases hj : j = id
      · simp only [blockK, hj, if_true] at hk; exact ⟨n + 1, .normal, s1, by rw [icode, ha]; simp [hj], hk⟩
      · simp only [blockK, hj, if_false] at hk; exact ⟨n + 1, .exit j, s1, by rw [icode, ha]; simp [hj], hk⟩
    | normal => exact ⟨n + 1, .normal, s1, by rw [icode, ha], hk⟩
    | ret => exact ⟨n + 1, .ret, s1, by rw [icode, ha], hk⟩

/-- one round -/
theorem W_loop_round {b : Code} : W P (.loop b) Q st = W P b (seqK P (.loop b) Q) st := by
  refine propext ⟨?_, ?_⟩
  · rintro ⟨n, e, st', h, hq⟩
    cases n with
    | zero => simp [icode] at h
    | succ n =>
      rw [icode] at h
      cases ha : icode P n b st with
      | none => simp [ha] at h
      | some x =>
        rw [ha] at h
        obtain ⟨e1, s1⟩ := x
        refine ⟨n, e1, s1, ha, ?_⟩
        cases e1 with
        | normal => exact ⟨n, e, st', h, hq⟩
        | exit id => simp only [Option.some.injEq, Prod.mk.injEq] at h; obtain ⟨rfl, rfl⟩ := h; exact hq
        | ret => simp only [Option.some.injEq, Prod.mk.injEq] at h; obtain ⟨rfl, rfl⟩ := h; exact hq
  · rintro ⟨n, e1, s1, ha, hk⟩
    cases e1 with
    | normal =>
      obtain ⟨m, e, st', hb, hq⟩ := hk
      refine ⟨max n m + 1, e, st', ?_, hq⟩
      rw [icode, icode_mono (Nat.le_max_left n m) _ _ _ ha]
      exact icode_mono (Nat.le_max_right n m) _ _ _ hb
    | exit id => exact ⟨n + 1, .exit id, s1, by rw [icode, ha], hk⟩
    | ret => exact ⟨n + 1, .ret, s1, by rw [icode, ha], hk⟩
/-- the relation of a loop -/
theorem W_loop {b : Code} (I : Nat → St → Prop) (round : ∀ d st, I d st → (∀ st', (∃ d', d' < d ∧ I d' st') → W P (.loop b) Q st') → W P b (seqK P (.loop b) Q) st) : ∀ d st, I d st → W P (.loop b) Q st := by
  intro d
  induction d using Nat.strongRecOn with
  | _ d ih =>
    intro st hI
    rw [W_loop_round]
    exact round d st hI fun st' ⟨d', hlt, hI'⟩ => ih d' hlt st' hI'

theorem W_region {id : Nat} {ops : Array Oper} : W P (.region id ops false) Q st = WL P ops (fun st' => Q .normal st') (List.range ops.size) st := by
  refine propext ⟨?_, ?_⟩
  · rintro ⟨n, e, st', h, hq⟩
    cases n with
    | zero => simp [icode] at h
    | succ n =>
      rw [icode] at h
      simp only [Bool.false_eq_true, if_false, Option.map_eq_some_iff, Prod.mk.injEq] at h
      obtain ⟨s, h1, rfl, rfl⟩ := h
      exact ⟨n, s, h1, hq⟩
  · rintro ⟨n, s, h1, hq⟩
    exact ⟨n + 1, .normal, s, by rw [icode]; simp only [Bool.false_eq_true, if_false, Option.map_eq_some_iff]; exact ⟨s, h1, rfl⟩, hq⟩

theorem WL_nil {ops : Array Oper} {K : St → Prop} : WL P ops K [] st = K st := by
  refine propext ⟨?_, fun h => ⟨0, st, rfl, h⟩⟩
  rintro ⟨n, s, h, hk⟩
  simp only [iops, Option.some.injEq] at h; subst h; exact hk

/-- what an operation does -/
def WO (P : Program) (o : Oper) (K : St → Prop) (st : St) : Prop :=
  match icallee P st.eval o with
  | some (c, args) => WC P c args st.h fun v h => K { st with s := putS st.s o.dst v, h }
  | none => OK (iheap P st.h st.eval o) fun r => K { st with s := putS st.s o.dst r.1, h := r.2 }

theorem WL_cons {ops : Array Oper} {K : St → Prop} {i : Nat} {l : List Nat} {o : Oper} (ho : ops[i]? = some o) :
    WL P ops K (i :: l) st = if iwanted ops st.s o then WO P o (WL P ops K l) st else WL P ops K l { st with s := putS st.s o.dst undef } := by
  refine propext ⟨?_, ?_⟩
  · rintro ⟨n, s, h, hk⟩
    simp only [iops, iop, ho, Option.bind_eq_some_iff] at h
    obtain ⟨s1, h1, h2⟩ := h
    split at h1
    · rename_i hw
      rw [if_pos hw]
      unfold WO
      cases hc : icallee P st.eval o with
      | none =>
        simp only [hc, Option.map_eq_some_iff] at h1
        obtain ⟨⟨v, h'⟩, h3, rfl⟩ := h1
        exact ⟨_, h3, n, s, h2, hk⟩
      | some x =>
        simp only [hc, Option.map_eq_some_iff] at h1
        obtain ⟨⟨v, h'⟩, h3, rfl⟩ := h1
        exact ⟨n, v, h', h3, n, s, h2, hk⟩
    · rename_i hw
      rw [if_neg hw]
      simp only [Option.some.injEq] at h1; subst h1
      exact ⟨n, s, h2, hk⟩
  · intro hx
    split at hx
    · rename_i hw
      unfold WO at hx
      cases hc : icallee P st.eval o with
      | none =>
        rw [hc] at hx
        obtain ⟨⟨v, h'⟩, h3, n, s, h2, hk⟩ := hx
        refine ⟨n, s, ?_, hk⟩
        simp only [iops, iop, ho, if_pos hw, hc, h3, Option.map_some, Option.bind_some]
        exact h2
      | some x =>
        obtain ⟨c, args⟩ := x
        rw [hc] at hx
        obtain ⟨n, v, h', h3, m, s, h2, hk⟩ := hx
        refine ⟨max n m, s, ?_, hk⟩
        simp only [iops, iop, ho, if_pos hw, hc, icall_mono (Nat.le_max_left n m) _ _ _ _ h3, Option.map_some, Option.bind_some]
        exact iops_le (icall_mono (Nat.le_max_right n m)) h2
    · rename_i hw
      obtain ⟨n, s, h2, hk⟩ := hx
      refine ⟨n, s, ?_, hk⟩
      simp only [iops, iop, ho, if_neg hw, Option.bind_some]
      exact h2
end rules

/-- a function out of its body -/
theorem Ev_of {f : FuncId} {fn : Func} {c : Code} {args : Array Value} {h h' : IHp} {v : Value} (hf : P.funcs[f]? = some fn) (hb : fn.body = some c) (hsz : args.size ≤ fn.ntmps)
    (hw : W P c (fun e st => (e = .normal ∨ e = .ret) ∧ ∃ h1 vs, ishut st.h st.marks = some h1 ∧ iresults P { st with h := h1 } fn.results.toList = some vs ∧ iret vs = v ∧ h1 = h') { s := fun i => args.getD i undef, h, nt := fn.ntmps }) : Ev P f args h v h' := by
  obtain ⟨n, e, st, hi, he, h1, vs, h2, h3, rfl, rfl⟩ := hw
  refine ⟨n, ?_⟩
  simp only [icall, icallBy, ienter, hf, hb, if_pos hsz, hi]
  rcases he with rfl | rfl <;> simp [h2, h3]
end Go.Ideal

-- IdealS
set_option linter.unusedSimpArgs false
set_option linter.unusedVariables false
namespace Go.Ideal
open Go Go.RowKit

/-! ### What holds of the program's types, as classes -/
class UnderIs (P : Program) (t : TypeId) (d : outParam TypeDesc) : Prop where eq : P.underlying t = some d
class SizeIs (P : Program) (t : TypeId) (n : outParam Nat) : Prop where eq : isz P t = some n
class AggIs (P : Program) (t : TypeId) (b : outParam Bool) : Prop where eq : iagg P t = some b
class ZeroIs (P : Program) (t : TypeId) (z : outParam Value) : Prop where eq : izero P t = some z
class BytesIs (P : Program) (t : TypeId) (n b : outParam Nat) : Prop where eq : ∃ i z, P.info? t = some i ∧ i.zero = some z ∧ i.size = n ∧ i.bytes = b ∧ z.cells.size = n ∧ n ≠ 0 ∧ b ≠ 0
class FieldIs (P : Program) (t : TypeId) (f : Nat) (off ft n : outParam Nat) : Prop where eq : ∃ fs fd, P.underlying t = some (.struct fs) ∧ fs[f]? = some fd ∧ fd.offset = off ∧ fd.type = ft ∧ isz P ft = some n ∧ n ≠ 0

/-! ### Slots and cells -/
class Get (s : Nat → Value) (i : Nat) (v : outParam Value) : Prop where eq : s i = v
instance (priority := 2000) Get.same {s : Nat → Value} {d : Nat} {v : Value} : Get (putS s (some d) v) d v := ⟨by simp [putS]⟩
theorem Get.ne {s : Nat → Value} {d i : Nat} {v w : Value} (hn : Nat.beq i d = false) (g : Get s i w) : Get (putS s (some d) v) i w := ⟨by
  have hid : i ≠ d := fun h => by subst h; simp at hn
  simp [putS, hid, g.eq]⟩
class BeqIs (i d : Nat) (r : Bool) : Prop where eq : Nat.beq i d = r
instance {i d : Nat} : BeqIs i d (no_index (Nat.beq i d)) := ⟨rfl⟩
instance (priority := 1000) Get.other {s : Nat → Value} {d i : Nat} {v w : Value} [n : BeqIs i d false] [g : Get s i w] : Get (putS s (some d) v) i w := Get.ne n.eq g
instance (priority := 2000) Get.nodst {s : Nat → Value} {i : Nat} {v w : Value} [g : Get s i w] : Get (putS s none v) i w := ⟨g.eq⟩
class EvalIs (s : Nat → Value) (x : Operand) (v : outParam Value) : Prop where eq : ∀ h nt marks rd, St.eval ⟨s, h, nt, marks, rd⟩ x = v
instance EvalIs.tmp {s : Nat → Value} {t : Nat} {v : Value} [g : Get s t v] : EvalIs s (.tmp t) v := ⟨fun _ _ _ _ => g.eq⟩
instance EvalIs.const {s : Nat → Value} {v : Value} : EvalIs s (.const v) v := ⟨fun _ _ _ _ => rfl⟩
instance EvalIs.func {s : Nat → Value} {f : FuncId} : EvalIs s (.func f) (.func (.func f) #[] #[]) := ⟨fun _ _ _ _ => rfl⟩

/-- what stays: nothing that is readable in h has changed in h' -/
class Ext (h : outParam IHp) (h' : IHp) : Prop where
  old : h'.old = h.old
  new : ∀ (i : Nat) (o : IObj), h.new[i]? = some o → h'.new[i]? = some o
theorem Ext.refl (h : IHp) : Ext h h := ⟨rfl, fun _ _ h => h⟩
theorem Ext.trans {a b c : IHp} (x : Ext a b) (y : Ext b c) : Ext a c := ⟨y.old.trans x.old, fun i o h => y.new i o (x.new i o h)⟩
theorem Ext.push (h : IHp) (o : IObj) : Ext h (h.push o) := ⟨rfl, fun i o' hi => by
  have : i < h.new.length := (List.getElem?_eq_some_iff.1 hi).1
  simp [IHp.push, List.getElem?_append_left this, hi]⟩
theorem Ext.fresh {a b : IHp} (x : Ext a b) : a.fresh ≤ b.fresh := by
  unfold IHp.fresh
  have : a.new.length ≤ b.new.length := by
    cases hl : a.new.length with
    | zero => exact Nat.zero_le _
    | succ n =>
      have h1 : a.new[n]? = some a.new[n] := List.getElem?_eq_getElem (by omega)
      have := (List.getElem?_eq_some_iff.1 (x.new _ _ h1)).1
      omega
  omega

class CellIs (h : IHp) (b off : Nat) (v : outParam Value) : Prop where eq : h.cell? b off = some v
theorem cell_ext {h h' : IHp} (e : Ext h h') {b off : Nat} {v : Value} (c : h.cell? b off = some v) : h'.cell? b off = some v := by
  unfold IHp.cell? at *
  rw [e.old]
  split
  · rename_i hb; rw [if_pos hb] at c; exact c
  · rename_i hb
    rw [if_neg hb] at c
    cases ho : h.new[b / 2]? with
    | none => rw [ho] at c; cases c
    | some o => rw [ho] at c; rw [e.new _ _ ho]; exact c
theorem row_ext {h h' : IHp} (e : Ext h h') {b n : Nat} : ∀ {off : Nat} {vs : List Value}, h.row b off n = some vs → h'.row b off n = some vs := by
  induction n with
  | zero => intro off vs h; exact h
  | succ n ih =>
    intro off vs hr
    simp only [IHp.row, Option.bind_eq_some_iff] at hr ⊢
    obtain ⟨v, hv, vs', hvs, h3⟩ := hr
    exact ⟨v, cell_ext e hv, vs', ih hvs, h3⟩
instance (priority := 500) CellIs.ext {h h' : IHp} {b off : Nat} {v : Value} [e : Ext h h'] [c : CellIs h b off v] : CellIs h' b off v := ⟨cell_ext e c.eq⟩
instance (priority := 900) CellIs.push {h : IHp} {o : IObj} {b off : Nat} {v : Value} [c : CellIs h b off v] : CellIs (h.push o) b off v := ⟨cell_ext (Ext.push h o) c.eq⟩
class Nth (l : List Value) (i : Nat) (v : outParam Value) : Prop where eq : l[i]? = some v
instance Nth.zero {v : Value} {l : List Value} : Nth (v :: l) (no_index 0) v := ⟨rfl⟩
instance Nth.succ {v w : Value} {l : List Value} {i : Nat} [n : Nth l i w] : Nth (v :: l) (no_index (i + 1)) w := ⟨by simp [n.eq]⟩
theorem obj_push (h : IHp) (o : IObj) : (h.push o).new[h.fresh / 2]? = some o := by simp [IHp.push, IHp.fresh, Nat.mul_comm 2, Nat.mul_div_cancel]
theorem fresh_even (h : IHp) : ¬ h.fresh % 2 = 1 := by unfold IHp.fresh; omega
instance (priority := 1000) CellIs.pushed {h : IHp} {c : List Value} {t : TypeId} {x : Bool} {off : Nat} {v : Value} [n : Nth c off v] : CellIs (h.push (.cells c t x)) h.fresh off v :=
  ⟨by unfold IHp.cell?; rw [if_neg (fresh_even h), obj_push]; exact n.eq⟩
class RowIs (h : IHp) (b off n : Nat) (vs : outParam (List Value)) : Prop where eq : h.row b off n = some vs
instance RowIs.zero {h : IHp} {b off : Nat} : RowIs h b off 0 [] := ⟨rfl⟩
instance RowIs.succ {h : IHp} {b off n : Nat} {v : Value} {vs : List Value} [c : CellIs h b off v] [r : RowIs h b (off + 1) n vs] : RowIs h b off (n + 1) (v :: vs) := ⟨by simp [IHp.row, c.eq, r.eq]⟩
end Go.Ideal

-- IdealT
set_option linter.unusedSimpArgs false
set_option linter.unusedVariables false
namespace Go.Ideal
open Go Go.RowKit
variable {P : Program}

/-! ### Pieces of code over slots and a heap -/
abbrev SK := (Nat → Value) → IHp → Prop
structure Env where
  nt : Nat
  marks : List Nat
  rd : Bool
def Env.st (E : Env) (s : Nat → Value) (h : IHp) : St := ⟨s, h, E.nt, E.marks, E.rd⟩
def liftK (E : Env) (Q : IExit → SK) : IExit → St → Prop := fun e st => ∃ s h, st = E.st s h ∧ Q e s h
@[irreducible] def V (P : Program) (E : Env) (c : Code) (Q : IExit → SK) : SK := fun s h => W P c (liftK E Q) (E.st s h)
/-- the operations of a region, from the front -/
def WS0 (P : Program) (E : Env) (ops : Array Oper) (K : SK) : List Oper → SK
  | [], s, h => K s h
  | o :: l, s, h => if iwanted ops s o then WO P o (fun st => ∃ s' h', st = E.st s' h' ∧ WS0 P E ops K l s' h') (E.st s h) else WS0 P E ops K l (putS s o.dst undef) h
@[irreducible] def WS (P : Program) (E : Env) (ops : Array Oper) (K : SK) (l : List Oper) : SK := WS0 P E ops K l
theorem WS_nil_eq (E : Env) (ops : Array Oper) (K : SK) (s : Nat → Value) (h : IHp) : WS P E ops K [] s h = K s h := by simp only [WS, WS0]
theorem WS_cons_eq (E : Env) (ops : Array Oper) (K : SK) (o : Oper) (l : List Oper) (s : Nat → Value) (h : IHp) : WS P E ops K (o :: l) s h = if iwanted ops s o then WO P o (fun st => ∃ s' h', st = E.st s' h' ∧ WS P E ops K l s' h') (E.st s h) else WS P E ops K l (putS s o.dst undef) h := by simp only [WS, WS0]
@[irreducible] def VseqK (P : Program) (E : Env) (b : Code) (Q : IExit → SK) : IExit → SK
  | .normal, s, h => V P E b Q s h
  | e, s, h => Q e s h
@[irreducible] def VblockK (id : Nat) (Q : IExit → SK) : IExit → SK
  | .exit j, s, h => if Nat.beq j id then Q .normal s h else Q (.exit j) s h
  | e, s, h => Q e s h

theorem WL_of_WS {E : Env} {ops : Array Oper} {K : SK} : ∀ (l pre : List Oper) (s : Nat → Value) (h : IHp), ops.toList = pre ++ l → WS P E ops K l s h → WL P ops (fun st => ∃ s' h', st = E.st s' h' ∧ K s' h') (List.range' pre.length l.length) (E.st s h) := by
  intro l
  induction l with
  | nil => intro pre s h ho hw; rw [WS_nil_eq] at hw; rw [List.length_nil, List.range'_zero, WL_nil]; exact ⟨s, h, rfl, hw⟩
  | cons o l ih =>
    intro pre s h ho hw
    have hi : ops[pre.length]? = some o := by
      rw [← Array.getElem?_toList, ho]; simp
    have hnext : ops.toList = (pre ++ [o]) ++ l := by rw [ho]; simp
    rw [List.length_cons, List.range'_succ, WL_cons hi]
    rw [WS_cons_eq] at hw
    have hK : ∀ (s' : Nat → Value) (h' : IHp), WS P E ops K l s' h' → WL P ops (fun st => ∃ s' h', st = E.st s' h' ∧ K s' h') (List.range' (pre.length + 1) l.length) (E.st s' h') := by
      intro s' h' hw'
      have := ih (pre ++ [o]) s' h' hnext hw'
      simpa using this
    split
    · rename_i hwn
      rw [if_pos (show iwanted ops s o = true from hwn)] at hw
      unfold WO at hw ⊢
      split
      · rename_i c args hc
        rw [hc] at hw
        obtain ⟨n, v, h', h1, s2, h2, h3, h4⟩ := hw
        refine ⟨n, v, h', h1, ?_⟩
        have h5 := hK _ _ h4; rw [← h3] at h5; exact h5
      · rename_i hc
        rw [hc] at hw
        obtain ⟨r, h1, s2, h2, h3, h4⟩ := hw
        refine ⟨r, h1, ?_⟩
        have h5 := hK _ _ h4; rw [← h3] at h5; exact h5
    · rename_i hwn
      rw [if_neg (show ¬ iwanted ops s o = true from hwn)] at hw
      exact hK _ _ hw

section rules
variable {E : Env} {Q : IExit → SK} {s : Nat → Value} {h : IHp}
theorem V_skip (k : Q .normal s h) : V P E .skip Q s h := by unfold V; rw [W_skip]; exact ⟨s, h, rfl, k⟩
theorem V_exit {id : Nat} (k : Q (.exit id) s h) : V P E (.exit id) Q s h := by unfold V; rw [W_exit]; exact ⟨s, h, rfl, k⟩
theorem V_ret (k : Q .ret s h) : V P E .ret Q s h := by unfold V; rw [W_ret]; exact ⟨s, h, rfl, k⟩
theorem W_mono {c : Code} {Q Q' : IExit → St → Prop} {st : St} (hq : ∀ e st, Q e st → Q' e st) (hw : W P c Q st) : W P c Q' st :=
  let ⟨n, e, st', h1, h2⟩ := hw; ⟨n, e, st', h1, hq _ _ h2⟩
theorem lift_seq {b : Code} : ∀ e st, liftK E (VseqK P E b Q) e st → seqK P b (liftK E Q) e st := by
  rintro e st ⟨s, h, rfl, hq⟩
  cases e with
  | normal => simp only [VseqK, V] at hq; exact hq
  | exit j => simp only [VseqK] at hq; exact ⟨s, h, rfl, hq⟩
  | ret => simp only [VseqK] at hq; exact ⟨s, h, rfl, hq⟩
theorem V_seq {a b : Code} (k : V P E a (VseqK P E b Q) s h) : V P E (.seq a b) Q s h := by
  unfold V at *; rw [W_seq]; exact W_mono lift_seq k
theorem V_cond {co : Operand} {a b : Code} {t : Bool} [ev : EvalIs s co (.bool t)] (k1 : t = true → V P E a Q s h) (k2 : t = false → V P E b Q s h) : V P E (.cond co a b) Q s h := by
  unfold V at *; rw [W_cond (st := E.st s h) (t := t) (ev.eq h E.nt E.marks E.rd)]
  cases t
  · exact k2 rfl
  · exact k1 rfl
theorem V_block {id : Nat} {b : Code} (k : V P E b (VblockK id Q) s h) : V P E (.block id b) Q s h := by
  unfold V at *; rw [W_block]
  refine W_mono ?_ k
  rintro e st ⟨s, h, rfl, hq⟩
  cases e with
  | normal => simp only [VblockK] at hq; exact ⟨s, h, rfl, hq⟩
  | exit j =>
    simp only [VblockK] at hq
    by_cases hj : j = id
    · subst hj; simp at hq; simp only [blockK, if_true]; exact ⟨s, h, rfl, hq⟩
    · rw [if_neg (by simpa using hj)] at hq; simp only [blockK, hj, if_false]; exact ⟨s, h, rfl, hq⟩
  | ret => simp only [VblockK] at hq; exact ⟨s, h, rfl, hq⟩
/-- a loop: I n is kept; each round makes the measure less -/
theorem V_loop {b : Code} (I : Nat → SK) (d : Nat) (first : I d s h) (round : ∀ d s h, I d s h → V P E b (fun e s' h' => match e with | .normal => ∃ d', d' < d ∧ I d' s' h' | e => Q e s' h') s h) : V P E (.loop b) Q s h := by
  unfold V at *
  refine W_loop (P := P) (Q := liftK E Q) (fun d st => ∃ s h, st = E.st s h ∧ I d s h) ?_ d _ ⟨s, h, rfl, first⟩
  rintro d st ⟨s, h, rfl, hI⟩ hnext
  refine W_mono ?_ (round d s h hI)
  rintro e st' ⟨s', h', rfl, hq⟩
  cases e with
  | normal => obtain ⟨d', hd, hI'⟩ := hq; exact hnext _ ⟨d', hd, s', h', rfl, hI'⟩
  | exit j => exact ⟨s', h', rfl, hq⟩
  | ret => exact ⟨s', h', rfl, hq⟩
theorem V_region {id : Nat} {l : List Oper} (k : WS P E l.toArray (Q .normal) l s h) : V P E (.region id l.toArray false) Q s h := by
  unfold V; rw [W_region]
  have := WL_of_WS (P := P) (E := E) (ops := l.toArray) (K := Q .normal) l [] s h (by simp) k
  rw [List.size_toArray, List.range_eq_range']
  exact this

variable {ops : Array Oper} {K : SK} {l : List Oper}
theorem WS_nil (k : K s h) : WS P E ops K [] s h := by rw [WS_nil_eq]; exact k
/-- the guard says no -/
theorem WS_off {d : Option Tmp} {op : Op} {ty : TypeId} {pos : String} {af : Array Edge} {j : Nat} {u t : Bool} {x : Tmp} (hd : (ops[j]?).bind (·.dst) = some x) [g : Get s x (.bool t)] (ht : t = !u) (k : WS P E ops K l (putS s d undef) h) : WS P E ops K (⟨d, op, ty, pos, af, some (j, u)⟩ :: l) s h := by
  rw [WS_cons_eq]
  rw [if_neg]
  · exact k
  · simp [iwanted, Region.wanted, iyielded, hd, g.eq, ht]
/-- the guard says yes -/
theorem WS_on {d : Option Tmp} {op : Op} {ty : TypeId} {pos : String} {af : Array Edge} {j : Nat} {u t : Bool} {x : Tmp} (hd : (ops[j]?).bind (·.dst) = some x) [g : Get s x (.bool t)] (ht : t = u) (k : WS P E ops K (⟨d, op, ty, pos, af, none⟩ :: l) s h) : WS P E ops K (⟨d, op, ty, pos, af, some (j, u)⟩ :: l) s h := by
  rw [WS_cons_eq] at k ⊢
  rw [if_pos (by simp [iwanted, Region.wanted])] at k
  rw [if_pos (by simp [iwanted, Region.wanted, iyielded, hd, g.eq, ht])]
  exact k
theorem WS_heap {d : Option Tmp} {op : Op} {ty : TypeId} {pos : String} {af : Array Edge} {v : Value} {h' : IHp} (hc : icallee P (E.st s h).eval ⟨d, op, ty, pos, af, none⟩ = none) (hv : iheap P h (E.st s h).eval ⟨d, op, ty, pos, af, none⟩ = some (v, h')) (k : WS P E ops K l (putS s d v) h') : WS P E ops K (⟨d, op, ty, pos, af, none⟩ :: l) s h := by
  rw [WS_cons_eq]
  rw [if_pos (by simp [iwanted, Region.wanted])]
  unfold WO
  rw [hc]
  exact ⟨(v, h'), hv, _, _, rfl, k⟩
theorem WS_pure {d : Option Tmp} {op : Op} {ty : TypeId} {pos : String} {af : Array Edge} {v : Value} (hc : icallee P (E.st s h).eval ⟨d, op, ty, pos, af, none⟩ = none) (hp : iheap P h (E.st s h).eval ⟨d, op, ty, pos, af, none⟩ = (ipure P h (E.st s h).eval ⟨d, op, ty, pos, af, none⟩).map (·, h)) (hv : ipure P h (E.st s h).eval ⟨d, op, ty, pos, af, none⟩ = some v) (k : WS P E ops K l (putS s d v) h) : WS P E ops K (⟨d, op, ty, pos, af, none⟩ :: l) s h :=
  WS_heap hc (by rw [hp, hv]; rfl) k
theorem ev_eq {x : Operand} {v : Value} [e : EvalIs s x v] : (E.st s h).eval x = v := e.eq _ _ _ _
end rules
end Go.Ideal

-- IdealU
set_option linter.unusedSimpArgs false
set_option linter.unusedVariables false
namespace Go.Ideal
open Go Go.RowKit
variable {P : Program} {E : Env} {s : Nat → Value} {h : IHp} {ops : Array Oper} {K : SK} {l : List Oper} {d : Option Tmp} {ty : TypeId} {pos : String} {af : Array Edge}

theorem WS_guard {op : Op} {j : Nat} {u t : Bool} {x : Tmp} (hd : (ops[j]?).bind (·.dst) = some x) [g : Get s x (.bool t)] (k1 : t = u → WS P E ops K (⟨d, op, ty, pos, af, none⟩ :: l) s h) (k2 : t = !u → WS P E ops K l (putS s d undef) h) : WS P E ops K (⟨d, op, ty, pos, af, some (j, u)⟩ :: l) s h := by
  by_cases ht : t = u
  · exact WS_on hd ht (k1 ht)
  · have : t = !u := by cases t <;> cases u <;> simp_all
    exact WS_off hd this (k2 this)

theorem WS_move {x : Operand} {v : Value} [e : EvalIs s x v] (k : WS P E ops K l (putS s d v) h) : WS P E ops K (⟨d, .move x, ty, pos, af, none⟩ :: l) s h :=
  WS_pure rfl rfl (by simp only [ipure]; rw [ev_eq (E := E) (h := h) (x := x)]) k
theorem WS_assign {x : Operand} {v : Value} [e : EvalIs s x v] (k : WS P E ops K l (putS s d v) h) : WS P E ops K (⟨d, .assign x, ty, pos, af, none⟩ :: l) s h :=
  WS_pure rfl rfl (by simp only [ipure]; rw [ev_eq (E := E) (h := h) (x := x)]) k
theorem WS_pick_t {c x y : Operand} {t : Bool} {v : Value} [ec : EvalIs s c (.bool t)] [e : EvalIs s x v] (ht : t = true) (k : WS P E ops K l (putS s d v) h) : WS P E ops K (⟨d, .pick c x y, ty, pos, af, none⟩ :: l) s h :=
  WS_pure rfl rfl (by subst ht; simp only [ipure]; rw [ev_eq (E := E) (h := h) (x := c), ev_eq (E := E) (h := h) (x := x)]; rfl) k
theorem WS_pick_f {c x y : Operand} {t : Bool} {v : Value} [ec : EvalIs s c (.bool t)] [e : EvalIs s y v] (ht : t = false) (k : WS P E ops K l (putS s d v) h) : WS P E ops K (⟨d, .pick c x y, ty, pos, af, none⟩ :: l) s h :=
  WS_pure rfl rfl (by subst ht; simp only [ipure]; rw [ev_eq (E := E) (h := h) (x := c), ev_eq (E := E) (h := h) (x := y)]; rfl) k

/-! ### Numbers -/
def icmp : BinOp → Int → Int → Option Bool
  | .eql, a, b => some (decide (a = b))
  | .neq, a, b => some (!decide (a = b))
  | .lss, a, b => some (decide (a < b))
  | .leq, a, b => some (decide (a ≤ b))
  | .gtr, a, b => some (decide (b < a))
  | .geq, a, b => some (decide (b ≤ a))
  | _, _, _ => none
def ibits (op : BinOp) (k : IntKind) (x y : Int) : Int :=
  let a := BitVec.ofInt k.bits x
  let b := BitVec.ofInt k.bits y
  k.wrap (match op with | .and => a &&& b | .or => a ||| b | .xor => a ^^^ b | _ => a &&& ~~~b).toNat
def iarith : BinOp → IntKind → Int → Int → Option Int
  | .add, k, a, b => some (k.wrap (a + b))
  | .sub, k, a, b => some (k.wrap (a - b))
  | .mul, k, a, b => some (k.wrap (a * b))
  | .and, k, a, b => some (ibits .and k a b)
  | .or, k, a, b => some (ibits .or k a b)
  | .xor, k, a, b => some (ibits .xor k a b)
  | .andNot, k, a, b => some (ibits .andNot k a b)
  | _, _, _, _ => none
def idivs : BinOp → IntKind → Int → Int → Option Int
  | .quo, k, a, b => some (k.wrap (a.tdiv b))
  | .rem, k, a, b => some (a.tmod b)
  | _, _, _, _ => none
def ishift : BinOp → IntKind → Int → Int → Option Int
  | .shl, k, a, b => some (k.wrap (a * 2 ^ (min b.toNat k.bits)))
  | .shr, k, a, b => some (a.fdiv (2 ^ (min b.toNat k.bits)))
  | _, _, _, _ => none

theorem ipure_bin {op : BinOp} {t yt : TypeId} {x y : Operand} {ev : Operand → Value} {a b : Value} (ha : ev x = a) (hb : ev y = b) (fa : flat a = true) (fb : flat b = true) (hn : isNilConst y = false) (h : IHp) {v : Value} (hv : pureOf P (do eqGuard op t x y a b; binOp op t a b) = some v) (fv : flat v = true) :
    ipure P h ev ⟨d, .binOp op t x y yt, ty, pos, af, none⟩ = some v := by
  subst ha; subst hb
  have hb' : ∀ {α β : Type} (s : Sem α) (f : α → β) (r : α), pureOf P s = some r → pureOf P (s >>= fun x => pure (f x)) = some (f r) := by
    intro α β s f
    induction s with
    | pure a => intro r hr; simp [pureOf] at hr; subst hr; rfl
    | program k ih => intro r hr; exact ih P r hr
    | mark m k ih => intro r hr; exact ih r hr
    | _ => intro r hr; simp [pureOf] at hr
  simp only [ipure, hn, fa, fb, Bool.false_eq_true, if_false, Bool.and_self, if_true, iflat, execOp]
  rw [hb' _ Next.value v hv]
  simp [fv]

theorem guard_int {op : BinOp} {t : TypeId} {x y : Operand} {j k : IntKind} {a b : Int} (f : Sem Value) : (do eqGuard op t x y (.int j a) (.int k b); f) = f := by
  cases op <;> rfl
theorem WS_cmp {op : BinOp} {t yt : TypeId} {x y : Operand} {k : IntKind} {a b : Int} {r : Bool} [e1 : EvalIs s x (.int k a)] [e2 : EvalIs s y (.int k b)] (hr : icmp op a b = some r) (kk : WS P E ops K l (putS s d (.bool r)) h) :
    WS P E ops K (⟨d, .binOp op t x y yt, ty, pos, af, none⟩ :: l) s h := by
  have hn : isNilConst y = false := by
    cases y with
    | const c => have h2 := e2.eq h 0 [] false; simp only [St.eval] at h2; subst h2; rfl
    | _ => rfl
  refine WS_pure rfl rfl (ipure_bin (ev_eq (E := E) (h := h) (x := x)) (ev_eq (E := E) (h := h) (x := y)) rfl rfl hn h ?_ rfl) kk
  rw [guard_int]
  cases op <;> simp only [icmp, Option.some.injEq] at hr <;> first | (cases hr; done) | (subst hr; simp [binOp, Op.intCmp]; rfl)
theorem WS_arith {op : BinOp} {t yt : TypeId} {x y : Operand} {k : IntKind} {a b r : Int} [e1 : EvalIs s x (.int k a)] [e2 : EvalIs s y (.int k b)] (hr : iarith op k a b = some r) (kk : WS P E ops K l (putS s d (.int k r)) h) :
    WS P E ops K (⟨d, .binOp op t x y yt, ty, pos, af, none⟩ :: l) s h := by
  have hn : isNilConst y = false := by
    cases y with
    | const c => have h2 := e2.eq h 0 [] false; simp only [St.eval] at h2; subst h2; rfl
    | _ => rfl
  refine WS_pure rfl rfl (ipure_bin (ev_eq (E := E) (h := h) (x := x)) (ev_eq (E := E) (h := h) (x := y)) rfl rfl hn h ?_ rfl) kk
  rw [guard_int]
  cases op <;> simp only [iarith, Option.some.injEq] at hr <;> first | (cases hr; done) | (subst hr; simp [binOp, Op.intArith, Op.intBits, ibits]; rfl)
theorem WS_div {op : BinOp} {t yt : TypeId} {x y : Operand} {k : IntKind} {a b r : Int} [e1 : EvalIs s x (.int k a)] [e2 : EvalIs s y (.int k b)] (hb : b ≠ 0) (hr : idivs op k a b = some r) (kk : WS P E ops K l (putS s d (.int k r)) h) :
    WS P E ops K (⟨d, .binOp op t x y yt, ty, pos, af, none⟩ :: l) s h := by
  have hn : isNilConst y = false := by
    cases y with
    | const c => have h2 := e2.eq h 0 [] false; simp only [St.eval] at h2; subst h2; rfl
    | _ => rfl
  refine WS_pure rfl rfl (ipure_bin (ev_eq (E := E) (h := h) (x := x)) (ev_eq (E := E) (h := h) (x := y)) rfl rfl hn h ?_ rfl) kk
  rw [guard_int]
  cases op <;> simp only [idivs, Option.some.injEq] at hr <;> first | (cases hr; done) | (subst hr; simp [binOp, Op.intDiv, hb]; rfl)
theorem WS_shift {op : BinOp} {t yt : TypeId} {x y : Operand} {k j : IntKind} {a b r : Int} [e1 : EvalIs s x (.int k a)] [e2 : EvalIs s y (.int j b)] (hb : 0 ≤ b) (hr : ishift op k a b = some r) (kk : WS P E ops K l (putS s d (.int k r)) h) :
    WS P E ops K (⟨d, .binOp op t x y yt, ty, pos, af, none⟩ :: l) s h := by
  have hn : isNilConst y = false := by
    cases y with
    | const c => have h2 := e2.eq h 0 [] false; simp only [St.eval] at h2; subst h2; rfl
    | _ => rfl
  have hb' : ¬ b < 0 := by omega
  refine WS_pure rfl rfl (ipure_bin (ev_eq (E := E) (h := h) (x := x)) (ev_eq (E := E) (h := h) (x := y)) rfl rfl hn h ?_ rfl) kk
  rw [guard_int]
  cases op <;> simp only [ishift, Option.some.injEq] at hr <;> first | (cases hr; done) | (subst hr; simp [binOp, Op.shift, hb']; rfl)
end Go.Ideal

-- IdealV
set_option linter.unusedSimpArgs false
set_option linter.unusedVariables false
namespace Go.Ideal
open Go Go.RowKit
variable {P : Program} {E : Env} {s : Nat → Value} {h : IHp} {ops : Array Oper} {K : SK} {l : List Oper} {d : Option Tmp} {ty : TypeId} {pos : String} {af : Array Edge}

@[reducible] def ad (b off : Nat) : Addr := { block := b, off := off }
theorem pureOf_map {α β : Type} (f : α → β) {s : Sem α} : ∀ {r : α}, pureOf P s = some r → pureOf P (s >>= fun x => pure (f x)) = some (f r) := by
  induction s with
  | pure a => intro r hr; simp [pureOf] at hr; subst hr; rfl
  | program k ih => intro r hr; exact ih P hr
  | mark m k ih => intro r hr; exact ih hr
  | _ => intro r hr; simp [pureOf] at hr
theorem WS_not {x : Operand} {t : TypeId} {b : Bool} [e : EvalIs s x (.bool b)] (k : WS P E ops K l (putS s d (.bool (!b))) h) : WS P E ops K (⟨d, .unOp .not t x, ty, pos, af, none⟩ :: l) s h := by
  refine WS_pure rfl rfl ?_ k
  have := ev_eq (E := E) (h := h) (x := x) (s := s)
  simp [ipure, opFlat, Op.operands, this, flat, flatN, iflat, execOp, Op.unary, pureOf, bind, pure, Sem.bind]
theorem WS_neg {x : Operand} {t : TypeId} {k : IntKind} {a : Int} [e : EvalIs s x (.int k a)] (kk : WS P E ops K l (putS s d (.int k (k.wrap (0 - a)))) h) : WS P E ops K (⟨d, .unOp .neg t x, ty, pos, af, none⟩ :: l) s h := by
  refine WS_pure rfl rfl ?_ kk
  have := ev_eq (E := E) (h := h) (x := x) (s := s)
  simp [ipure, opFlat, Op.operands, this, flat, flatN, iflat, execOp, Op.unary, Op.intArith, pureOf, bind, pure, Sem.bind]
theorem WS_convert {x : Operand} {src dst : TypeId} {k j : IntKind} {a : Int} {ds : TypeDesc} [e : EvalIs s x (.int k a)] [us : UnderIs P src ds] [ud : UnderIs P dst (.int j)] (kk : WS P E ops K l (putS s d (.int j (j.wrap a))) h) : WS P E ops K (⟨d, .convert src dst x, ty, pos, af, none⟩ :: l) s h := by
  refine WS_pure rfl (by
    have := ev_eq (E := E) (h := h) (x := x) (s := s)
    simp only [iheap, this, iconv, ibtsRow]) ?_ kk
  have := ev_eq (E := E) (h := h) (x := x) (s := s)
  have h1 : pureOf P (convert src dst (.int k a)) = some (.int j (j.wrap a)) := by
    simp only [convert, underlying, program]
    show pureOf P (Sem.bind _ _) = _
    simp [pureOf, bind, pure, Sem.bind, us.eq, ud.eq, Conv.intToInt]
  simp only [ipure, opFlat, Op.operands, List.all_cons, List.all_nil, Bool.and_true, this, flat, flatN, if_true, iflat, execOp]
  rw [pureOf_map Next.value h1]
  rfl
theorem WS_len_slice {x : Operand} {t : TypeId} {te : TypeId} {a : Option Addr} {n c : Nat} [e : EvalIs s x (.slice a n c)] [u : UnderIs P t (.slice te)] (k : WS P E ops K l (putS s d (.int .i64 n)) h) : WS P E ops K (⟨d, .call ⟨.builtin .len, #[x], #[t]⟩, ty, pos, af, none⟩ :: l) s h := by
  refine WS_pure rfl rfl ?_ k
  have := ev_eq (E := E) (h := h) (x := x) (s := s)
  simp [ipure, u.eq, this]
theorem WS_len_string {x : Operand} {t : TypeId} {b : ByteArray} [e : EvalIs s x (.string b)] [u : UnderIs P t .string] (k : WS P E ops K l (putS s d (.int .i64 b.size)) h) : WS P E ops K (⟨d, .call ⟨.builtin .len, #[x], #[t]⟩, ty, pos, af, none⟩ :: l) s h := by
  refine WS_pure rfl rfl ?_ k
  have := ev_eq (E := E) (h := h) (x := x) (s := s)
  simp [ipure, u.eq, this]
theorem WS_fieldAddr {x : Operand} {t : TypeId} {f : Nat} {b off : Nat} {fo ft n : Nat} [e : EvalIs s x (.pointer (some (ad b off)))] [u : FieldIs P t f fo ft n] (k : WS P E ops K l (putS s d (.pointer (some (ad b (off + fo))))) h) : WS P E ops K (⟨d, .fieldAddr t x f, ty, pos, af, none⟩ :: l) s h := by
  refine WS_pure rfl rfl ?_ k
  have := ev_eq (E := E) (h := h) (x := x) (s := s)
  obtain ⟨fs, fd, h1, h2, h3, h4, h5, h6⟩ := u.eq
  simp only [ipure, this, h1, h2, Option.bind_some, h4, h5, if_neg h6, h3]
theorem WS_indexAddr {x y : Operand} {t te : TypeId} {a : Addr} {n c m : Nat} {k : IntKind} {i : Int} [e : EvalIs s x (.slice (some a) n c)] [e2 : EvalIs s y (.int k i)] [u : UnderIs P t (.slice te)] [z : SizeIs P te m] (hi : 0 ≤ i ∧ i < n) (kk : WS P E ops K l (putS s d (.pointer (some (ad a.block (a.off + i.toNat * m))))) h) : WS P E ops K (⟨d, .indexAddr t x y, ty, pos, af, none⟩ :: l) s h := by
  refine WS_pure rfl rfl ?_ kk
  have h1 := ev_eq (E := E) (h := h) (x := x) (s := s)
  have h2 := ev_eq (E := E) (h := h) (x := y) (s := s)
  simp only [ipure, h1, h2, u.eq, if_pos hi, z.eq, Option.bind_some]
theorem WS_load {x : Operand} {t : TypeId} {b off : Nat} {v : Value} [e : EvalIs s x (.pointer (some (ad b off)))] [u : AggIs P t false] [c : CellIs h b off v] (k : WS P E ops K l (putS s d v) h) : WS P E ops K (⟨d, .load t x, ty, pos, af, none⟩ :: l) s h := by
  refine WS_heap rfl ?_ k
  have := ev_eq (E := E) (h := h) (x := x) (s := s)
  simp only [iheap, this, iload, u.eq, Option.bind_some, c.eq, Option.map_some]
theorem WS_load_agg {x : Operand} {t : TypeId} {b off : Nat} {n : Nat} {vs : List Value} [e : EvalIs s x (.pointer (some (ad b off)))] [u : AggIs P t true] [z : SizeIs P t n] [c : RowIs h b off n vs] (k : WS P E ops K l (putS s d (.agg vs.toArray)) h) : WS P E ops K (⟨d, .load t x, ty, pos, af, none⟩ :: l) s h := by
  refine WS_heap rfl ?_ k
  have := ev_eq (E := E) (h := h) (x := x) (s := s)
  simp only [iheap, this, iload, u.eq, Option.bind_some, z.eq, c.eq, Option.map_some]
theorem WS_box_agg {x : Operand} {t : TypeId} {vs : List Value} [e : EvalIs s x (.agg vs.toArray)] (hr : vs.all isCellV = true) (k : WS P E ops K l (putS s d (.pointer (some (ad h.fresh 0)))) (h.push (.cells vs t true))) : WS P E ops K (⟨d, .box t x, ty, pos, af, none⟩ :: l) s h := by
  refine WS_heap rfl ?_ k
  have := ev_eq (E := E) (h := h) (x := x) (s := s)
  simp only [iheap, this, isRowV, Value.cells, hr, if_true]
theorem WS_box {x : Operand} {t : TypeId} {v : Value} [e : EvalIs s x v] (hr : isCellV v = true) (k : WS P E ops K l (putS s d (.pointer (some (ad h.fresh 0)))) (h.push (.cells [v] t true))) : WS P E ops K (⟨d, .box t x, ty, pos, af, none⟩ :: l) s h := by
  refine WS_heap rfl ?_ k
  have := ev_eq (E := E) (h := h) (x := x) (s := s)
  have hc : v.cells = #[v] := by cases v <;> first | rfl | (simp [isCellV] at hr)
  simp only [iheap, this, isRowV, hc, List.all_cons, hr, List.all_nil, Bool.and_self, if_true]
theorem WS_extract {x : Operand} {i : Nat} {vs : List Value} {v : Value} [e : EvalIs s x (.tuple vs.toArray)] [n : Nth vs i v] (k : WS P E ops K l (putS s d v) h) : WS P E ops K (⟨d, .extract x i, ty, pos, af, none⟩ :: l) s h := by
  refine WS_pure rfl rfl ?_ k
  have := ev_eq (E := E) (h := h) (x := x) (s := s)
  simp [ipure, this, n.eq]
theorem WS_field {x : Operand} {t : TypeId} {f fo ft n : Nat} {vs : List Value} {v : Value} [e : EvalIs s x (.agg vs.toArray)] [u : FieldIs P t f fo ft n] [a : AggIs P ft false] [nt : Nth vs fo v] (k : WS P E ops K l (putS s d v) h) : WS P E ops K (⟨d, .field t x f, ty, pos, af, none⟩ :: l) s h := by
  refine WS_pure rfl rfl ?_ k
  have := ev_eq (E := E) (h := h) (x := x) (s := s)
  obtain ⟨fs, fd, h1, h2, h3, h4, h5, h6⟩ := u.eq
  have h7 := nt.eq
  simp only [ipure, this, h1, h2, Option.bind_some, ipart, h4, a.eq, h3]
  simpa using h7
/-- a struct out of all its parts -/
class BuildIs (P : Program) (t : TypeId) (parts : List (Nat × Value)) (vs : outParam (List Value)) : Prop where eq : ibuild P t parts.toArray = some (.agg vs.toArray)
class PartsIs (s : Nat → Value) (ps : List (Nat × Operand)) (vs : outParam (List (Nat × Value))) : Prop where eq : ∀ h nt marks rd, ps.map (fun (i, x) => (i, St.eval ⟨s, h, nt, marks, rd⟩ x)) = vs
instance PartsIs.nil : PartsIs s [] [] := ⟨fun _ _ _ _ => rfl⟩
instance PartsIs.cons {i : Nat} {x : Operand} {v : Value} {ps : List (Nat × Operand)} {vs : List (Nat × Value)} [e : EvalIs s x v] [p : PartsIs s ps vs] : PartsIs s ((i, x) :: ps) ((i, v) :: vs) := ⟨fun h nt m rd => by simp only [List.map_cons, e.eq, p.eq h nt m rd]⟩
theorem WS_build {t : TypeId} {ps : List (Nat × Operand)} {pv : List (Nat × Value)} {vs : List Value} [p : PartsIs s ps pv] [b : BuildIs P t pv vs] (k : WS P E ops K l (putS s d (.agg vs.toArray)) h) : WS P E ops K (⟨d, .build t ps.toArray, ty, pos, af, none⟩ :: l) s h := by
  refine WS_pure rfl rfl ?_ k
  simp only [ipure]
  have h1 : ps.toArray.map (fun (x : Nat × Operand) => (x.1, (E.st s h).eval x.2)) = pv.toArray := by
    rw [List.map_toArray]; exact congrArg List.toArray (p.eq h E.nt E.marks E.rd)
  exact (congrArg (ibuild P t) h1).trans b.eq

theorem wrap_i64_id {z : Int} (h : -9223372036854775808 ≤ z ∧ z ≤ 9223372036854775807) : IntKind.i64.wrap z = z := by
  simp [IntKind.wrap, IntKind.bits, IntKind.signed]; omega
theorem WS_addi {t yt : TypeId} {x y : Operand} {a b : Int} [e1 : EvalIs s x (.int .i64 a)] [e2 : EvalIs s y (.int .i64 b)] (hb : -9223372036854775808 ≤ a + b ∧ a + b ≤ 9223372036854775807) (kk : WS P E ops K l (putS s d (.int .i64 (a + b))) h) :
    WS P E ops K (⟨d, .binOp .add t x y yt, ty, pos, af, none⟩ :: l) s h :=
  WS_arith (r := a + b) (by simp only [iarith, wrap_i64_id hb]) kk
theorem WS_subi {t yt : TypeId} {x y : Operand} {a b : Int} [e1 : EvalIs s x (.int .i64 a)] [e2 : EvalIs s y (.int .i64 b)] (hb : -9223372036854775808 ≤ a - b ∧ a - b ≤ 9223372036854775807) (kk : WS P E ops K l (putS s d (.int .i64 (a - b))) h) :
    WS P E ops K (⟨d, .binOp .sub t x y yt, ty, pos, af, none⟩ :: l) s h :=
  WS_arith (r := a - b) (by simp only [iarith, wrap_i64_id hb]) kk
/-- a slice of cells -/
def SlIs (h : IHp) (a : Option Addr) (len cap : Nat) (vs : List Value) : Prop := vs.length = len ∧ len ≤ cap ∧ match a with | none => cap = 0 | some a => h.row a.block a.off len = some vs
theorem row_cell {h : IHp} {b n : Nat} : ∀ {off : Nat} {vs : List Value}, h.row b off n = some vs → ∀ i, i < n → h.cell? b (off + i) = vs[i]? := by
  induction n with
  | zero => intro off vs h i hi; omega
  | succ n ih =>
    intro off vs hr i hi
    simp only [IHp.row, Option.bind_eq_some_iff] at hr
    obtain ⟨v, hv, vs', hvs, h3⟩ := hr
    obtain rfl := Option.some.inj h3
    cases i with
    | zero => simpa using hv
    | succ i => have := ih hvs i (by omega); rw [show off + 1 + i = off + (i + 1) by omega] at this; simpa using this
theorem SlIs.ext {h h' : IHp} (e : Ext h h') {a : Option Addr} {len cap : Nat} {vs : List Value} (x : SlIs h a len cap vs) : SlIs h' a len cap vs := by
  obtain ⟨h1, h2, h3⟩ := x
  refine ⟨h1, h2, ?_⟩
  cases a with
  | none => exact h3
  | some a => exact row_ext e h3
/-- a slice's element: cells of one -/
theorem SlIs.at {h : IHp} {a : Option Addr} {len cap : Nat} {vs : List Value} (x : SlIs h a len cap vs) {i : Int} (h0 : 0 ≤ i) (h1 : i < len) : ∃ b v, a = some b ∧ vs[i.toNat]? = some v ∧ CellIs h b.block (b.off + i.toNat * 1) v := by
  obtain ⟨h2, h3, h4⟩ := x
  cases a with
  | none => simp at h4; omega
  | some b =>
    have hi : i.toNat < len := by omega
    have := row_cell h4 i.toNat hi
    rw [List.getElem?_eq_getElem (by omega)] at this
    exact ⟨b, vs[i.toNat], rfl, List.getElem?_eq_getElem (by omega), ⟨by rw [Nat.mul_one]; exact this⟩⟩

/-! ### Calls -/
def EvX (P : Program) (f : FuncId) (args : Array Value) (h : IHp) (Φ : Value → IHp → Prop) : Prop := ∃ v h', Ev P f args h v h' ∧ Φ v h'
class CallIs (P : Program) (f : FuncId) : Prop where eq : ∀ a b args, icalleeV P (.func (.func f) a b) args = some (.fn f, (a ++ args) ++ b)
theorem CallIs.of {f : FuncId} {fn : Func} (hf : P.funcs[f]? = some fn) (hn : (fn.name == "runtime.NumGoroutine") = false) (hb : fn.body.isSome = true) : CallIs P f := ⟨fun a b args => by simp only [icalleeV, hf, hn, Bool.false_eq_true, if_false, hb, if_true]⟩
class EvalsIs (s : Nat → Value) (ps : List Operand) (vs : outParam (List Value)) : Prop where eq : ∀ h nt marks rd, ps.map (St.eval ⟨s, h, nt, marks, rd⟩) = vs
instance EvalsIs.nil : EvalsIs s [] [] := ⟨fun _ _ _ _ => rfl⟩
instance EvalsIs.cons {x : Operand} {v : Value} {ps : List Operand} {vs : List Value} [e : EvalIs s x v] [p : EvalsIs s ps vs] : EvalsIs s (x :: ps) (v :: vs) := ⟨fun h nt m rd => by simp only [List.map_cons, e.eq, p.eq h nt m rd]⟩
theorem WS_callV {fv : Operand} {f : FuncId} {a b : Array Value} {ps : List Operand} {vs : List Value} {at_ : Array TypeId} {Φ : Value → IHp → Prop} [c : CallIs P f] [ef : EvalIs s fv (.func (.func f) a b)] [e : EvalsIs s ps vs] (hc : EvX P f ((a ++ vs.toArray) ++ b) h Φ) (k : ∀ v h', Φ v h' → WS P E ops K l (putS s d v) h') :
    WS P E ops K (⟨d, .call ⟨.value fv, ps.toArray, at_⟩, ty, pos, af, none⟩ :: l) s h := by
  obtain ⟨v, h', ⟨n, hn⟩, hp⟩ := hc
  rw [WS_cons_eq]
  rw [if_pos (by simp [iwanted, Region.wanted])]
  unfold WO
  have h1 : icallee P (E.st s h).eval ⟨d, .call ⟨.value fv, ps.toArray, at_⟩, ty, pos, af, none⟩ = some (.fn f, (a ++ vs.toArray) ++ b) := by
    simp only [icallee, List.map_toArray]
    have h2 : ps.map (E.st s h).eval = vs := e.eq h E.nt E.marks E.rd
    rw [h2, ev_eq (E := E) (h := h) (x := fv), c.eq]
  rw [h1]
  exact ⟨n, v, h', hn, _, _, rfl, k v h' hp⟩
theorem WS_call {f : FuncId} {ps : List Operand} {vs : List Value} {at_ : Array TypeId} {Φ : Value → IHp → Prop} [c : CallIs P f] [e : EvalsIs s ps vs] (hc : EvX P f vs.toArray h Φ) (k : ∀ v h', Φ v h' → WS P E ops K l (putS s d v) h') :
    WS P E ops K (⟨d, .call ⟨.value (.func f), ps.toArray, at_⟩, ty, pos, af, none⟩ :: l) s h :=
  WS_callV (a := #[]) (b := #[]) (by simpa using hc) k

/-- where a function's results are read -/
def retK (P : Program) (E : Env) (rs : List ResultVar) (Φ : Value → IHp → Prop) : IExit → SK := fun e s h => (e = .normal ∨ e = .ret) ∧ ∃ vs, iresults P (E.st s h) rs = some vs ∧ Φ (iret vs) h
def argS (args : List Value) : Nat → Value := fun i => args.toArray.getD i undef
instance Get.arg {args : List Value} {i : Nat} {v : Value} [n : Nth args i v] : Get (argS args) i v := ⟨by
  have h1 := n.eq
  have h2 : i < args.length := (List.getElem?_eq_some_iff.1 h1).1
  simp [argS, Array.getD, h2]
  rw [List.getElem?_eq_getElem h2] at h1; exact Option.some.inj h1⟩
theorem EvX_of {f : FuncId} {fn : Func} {c : Code} {args : List Value} {Φ : Value → IHp → Prop} (hf : P.funcs[f]? = some fn) (hb : fn.body = some c) (hsz : args.length ≤ fn.ntmps)
    (hw : V P ⟨fn.ntmps, [], false⟩ c (retK P ⟨fn.ntmps, [], false⟩ fn.results.toList Φ) (argS args) h) : EvX P f args.toArray h Φ := by
  unfold V at hw
  obtain ⟨n, e, st, hi, s', h', rfl, he, vs, h1, h2⟩ := hw
  refine ⟨iret vs, h', Ev_of hf hb (by simpa using hsz) ⟨n, e, _, hi, he, h', vs, rfl, h1, rfl, rfl⟩, h2⟩
theorem retK_1 {t : Tmp} {v : Value} {Φ : Value → IHp → Prop} [g : Get s t v] (k : Φ v h) {e : IExit} (he : e = .normal ∨ e = .ret) : retK P E [.tmp t] Φ e s h :=
  ⟨he, [v], by simp [iresults, Env.st, g.eq], k⟩
theorem retK_2 {t u : Tmp} {v w : Value} {Φ : Value → IHp → Prop} [g : Get s t v] [g2 : Get s u w] (k : Φ (.tuple [v, w].toArray) h) {e : IExit} (he : e = .normal ∨ e = .ret) : retK P E [.tmp t, .tmp u] Φ e s h :=
  ⟨he, [v, w], by simp [iresults, Env.st, g.eq, g2.eq], k⟩
section plumbing
variable {b : Code} {Q : IExit → SK}
theorem S_normal (k : V P E b Q s h) : VseqK P E b Q .normal s h := by unfold VseqK; exact k
theorem S_exit {j : Nat} (k : Q (.exit j) s h) : VseqK P E b Q (.exit j) s h := by unfold VseqK; exact k
theorem S_ret (k : Q .ret s h) : VseqK P E b Q .ret s h := by unfold VseqK; exact k
theorem B_normal {id : Nat} (k : Q .normal s h) : VblockK id Q .normal s h := by unfold VblockK; exact k
theorem B_ret {id : Nat} (k : Q .ret s h) : VblockK id Q .ret s h := by unfold VblockK; exact k
theorem B_exit {id : Nat} (k : Q .normal s h) : VblockK id Q (.exit id) s h := by simpa [VblockK] using k
end plumbing
attribute [irreducible] retK EvX
end Go.Ideal
