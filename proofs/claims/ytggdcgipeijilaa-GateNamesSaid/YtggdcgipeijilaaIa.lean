/- An interpreter of the translated code over an ideal memory, what its values stand for in the real memory, and that its plain operations are sound. No condition: no law is claimed here. -/
import Derived.OrdersHeld
import Derived.Below
import Derived.Laws.Cells
import Derived.Laws.Sem
import Derived.Laws.World
namespace Go.Ideal
open Go

/-! ### Values without addresses -/
def flatN : Nat → Value → Bool
  | _, .bool _ | _, .int _ _ | _, .float _ _ | _, .complex _ _ _ | _, .string _ => true
  | _, .pointer a => a.isNone
  | _, .slice a _ _ => a.isNone
  | _, .map a => a.isNone
  | _, .chan a => a.isNone
  | _, .nilFunc | _, .nilIface => true
  | n + 1, .func (.func _) f c => f.toList.all (flatN n) && c.toList.all (flatN n)
  | n + 1, .iface _ v => flatN n v
  | n + 1, .agg cs => cs.toList.all (flatN n)
  | n + 1, .tuple cs => cs.toList.all (flatN n)
  | _, _ => false
def flat (v : Value) : Bool := flatN 5 v

/-! ### Equality of values of one cell, as a Bool -/
def veq : Value → Value → Bool
  | .bool a, .bool b => a == b
  | .int j a, .int k b => j == k && a == b
  | .float j a, .float k b => j == k && a == b
  | .complex j a c, .complex k b d => j == k && a == b && c == d
  | .string a, .string b => a.data.toList == b.data.toList
  | .pointer a, .pointer b => a == b
  | .slice a l c, .slice b m d => a == b && l == m && c == d
  | .map a, .map b => a == b
  | .nilIface, .nilIface => true
  | .nilFunc, .nilFunc => true
  | _, _ => false
theorem veq_eq {v w : Value} (h : veq v w = true) : v = w := by
  unfold veq at h
  split at h <;> simp_all
  rename_i a b
  cases a; cases b; simp_all

/-! ### The ideal heap: old blocks have odd numbers and are read alone; new ones even numbers -/
inductive IObj where
  | cells (c : List Value) (elem : TypeId) (exact : Bool)
  | map (es : List MapEntry) (clock : Nat)
  | dead
  | defr
  | loop (nt : Nat) (T : Nat → Value) (params : Array Tmp) (assign body : Code) (state : LoopState) (pending : Option Code)
  deriving Inhabited
structure IHp where
  old : Nat → Nat → Option Value
  new : List IObj

def IHp.fresh (h : IHp) : Nat := 2 * h.new.length
def IHp.push (h : IHp) (o : IObj) : IHp := { h with new := h.new ++ [o] }
def IHp.cell? (h : IHp) (b off : Nat) : Option Value :=
  if b % 2 = 1 then h.old (b / 2) off
  else match h.new[b / 2]? with
    | some (.cells c _ _) => c[off]?
    | _ => none
def IHp.row (h : IHp) (b : Nat) : Nat → Nat → Option (List Value)
  | _, 0 => some []
  | off, n + 1 => (h.cell? b off).bind fun v => (h.row b (off + 1) n).bind fun vs => some (v :: vs)
def IHp.setCell (h : IHp) (b off : Nat) (v : Value) : Option IHp :=
  if b % 2 = 1 then none
  else match h.new[b / 2]? with
    | some (.cells c e x) => if off < c.length then some { h with new := h.new.set (b / 2) (.cells (c.set off v) e x) } else none
    | _ => none
def IHp.setRow (h : IHp) (b : Nat) : Nat → List Value → Option IHp
  | _, [] => some h
  | off, v :: vs => (h.setCell b off v).bind fun h' => h'.setRow b (off + 1) vs

/-! ### Types -/
def iagg (P : Program) (t : TypeId) : Option Bool :=
  (P.underlying t).map fun | .struct _ | .array _ _ => true | _ => false
def isz (P : Program) (t : TypeId) : Option Nat := (P.info? t).map (·.size)
def izero (P : Program) (t : TypeId) : Option Value :=
  (P.info? t).bind fun i => i.zero.bind fun v => if flat v then some v else none
def ipart (P : Program) (t : TypeId) (cs : Array Value) (off : Nat) : Option Value :=
  (iagg P t).bind fun
    | true => (isz P t).bind fun n => if off + n ≤ cs.size then some (.agg (cs.extract off (off + n))) else none
    | false => cs[off]?

/-! ### A Sem that touches nothing -/
def pureOf {α : Type} (P : Program) : Sem α → Option α
  | .pure a => some a
  | .program k => pureOf P (k P)
  | .mark _ k => pureOf P k
  | _ => none
theorem pureOf_run {α : Type} {P : Program} : ∀ {s : Sem α} {a : α}, pureOf P s = some a → ∀ w, s.run P w = .ok a w := by
  intro s
  induction s with
  | pure a => intro b h w; simp [pureOf] at h; subst h; rfl
  | program k ih => intro b h w; simp only [pureOf] at h; simp only [Sem.run]; exact ih P h w
  | mark m k ih => intro b h w; simp only [pureOf] at h; simp only [Sem.run]; exact ih h w
  | _ => intro b h; simp [pureOf] at h

/-! ### Operations that read and write no memory -/
def ibound (v : Value) (y : Nat) : Option Nat := match v with | .int _ i => if 0 ≤ i ∧ i ≤ y then some i.toNat else none | _ => none
def ibounds (len cap : Nat) (lo hi : Option Value) : Option (Nat × Nat × Nat) :=
  (match hi with | some v => ibound v cap | none => some len).bind fun h =>
  (match lo with | some v => ibound v h | none => some 0).bind fun l => if h ≤ cap then some (l, h, cap) else none

def iexact (h : IHp) (b : Nat) : Bool :=
  if b % 2 = 1 then true else match h.new[b / 2]? with
    | some (.cells _ _ x) => x
    | _ => false

/-- a slice of a slice: only where the address that comes of it is fixed -/
def islice (P : Program) (h : IHp) (t : TypeId) (x : Value) (lo hi mx : Option Value) : Option Value :=
  match P.underlying t, x, mx with
  | some (.slice e), .slice none len cap, none => (ibounds len cap lo hi).bind fun (l, hh, m) => (isz P e).bind fun _ => some (.slice none (hh - l) (m - l))
  | some (.slice e), .slice (some a) len cap, none =>
    (ibounds len cap lo hi).bind fun (l, hh, m) => (isz P e).bind fun s =>
      if m = l ∧ l ≠ 0 then
        if iexact h a.block then some (.slice (some a) (hh - l) (m - l)) else none
      else some (.slice (some { block := a.block, off := a.off + l * s }) (hh - l) (m - l))
  | some .string, .string s, none => (ibounds s.size s.size lo hi).bind fun (l, hh, _) => some (.string (s.extract l hh))
  | _, _, _ => none

def ifill (place : Nat → Option (Nat × Nat)) (cells : Array Value) (parts : List (Nat × Value)) : Option (Array Value) := Instr.fill place cells parts

def ibuild (P : Program) (t : TypeId) (parts : Array (Nat × Value)) : Option Value :=
  (izero P t).bind fun z =>
  match P.underlying t with
  | some (.struct fields) =>
    if fields.all fun f => (isz P f.type).isSome then
      (ifill (fun i => (fields[i]?).bind fun f => (isz P f.type).map fun s => (f.offset, s)) z.cells parts.toList).map .agg
    else none
  | some (.array _ e) => (isz P e).bind fun s => (ifill (fun i => some (i * s, s)) z.cells parts.toList).map .agg
  | _ => none

def isNilConst : Operand → Bool
  | .const (.pointer none) | .const (.slice none _ _) | .const (.map none) | .const .nilFunc => true
  | _ => false
/-- 'x == nil' -/
def inil (P : Program) (t : TypeId) (x y : Value) : Option Bool :=
  match P.underlying t, x, y with
  | some (.slice _), .slice a _ _, .slice none _ _ => some a.isNone
  | some (.pointer _), .pointer a, .pointer none => some a.isNone
  | some (.map _ _), .map a, .map none => some a.isNone
  | some (.func _ _ _), .nilFunc, .nilFunc => some true
  | some (.func _ _ _), .func _ _ _, .nilFunc => some false
  | _, _, _ => none

def opFlat (ev : Operand → Value) (o : Oper) : Bool := o.op.operands.toList.all fun x => flat (ev x)

/-- an operation on flat values -/
def iflat (P : Program) (ev : Operand → Value) (o : Oper) : Option Value :=
  match pureOf P (execOp ev o) with
  | some (.value v) => if flat v then some v else none
  | _ => none

def ipure (P : Program) (h : IHp) (ev : Operand → Value) (o : Oper) : Option Value :=
  match o.op with
  | .move x | .assign x => some (ev x)
  | .pick c a b => match ev c with | .bool t => some (if t then ev a else ev b) | _ => none
  | .extract t i => match ev t with | .tuple vs => vs[i]? | _ => none
  | .field xt x f =>
    match P.underlying xt, ev x with
    | some (.struct fs), .agg cs => (fs[f]?).bind fun f => ipart P f.type cs f.offset
    | _, _ => none
  | .fieldAddr s x f =>
    match P.underlying s, ev x with
    | some (.struct fs), .pointer (some a) => (fs[f]?).bind fun f => (isz P f.type).bind fun n => if n = 0 then none else some (.pointer (some { block := a.block, off := a.off + f.offset }))
    | _, _ => none
  | .indexAddr t x ix =>
    match P.underlying t, ev x, ev ix with
    | some (.slice e), .slice (some a) len _, .int _ i => if 0 ≤ i ∧ i < len then (isz P e).bind fun s => some (.pointer (some { block := a.block, off := a.off + i.toNat * s })) else none
    | some (.array len e), .pointer (some a), .int _ i => if 0 ≤ i ∧ i < len then (isz P e).bind fun s => some (.pointer (some { block := a.block, off := a.off + i.toNat * s })) else none
    | _, _, _ => none
  | .index t x ix =>
    match P.underlying t, ev x, ev ix with
    | some (.array len e), .agg cs, .int _ i => if 0 ≤ i ∧ i < len then (isz P e).bind fun s => ipart P e cs (i.toNat * s) else none
    | some .string, .string s, .int _ i => if 0 ≤ i then (s[i.toNat]?).map fun b => .int .u8 b.toNat else none
    | _, _, _ => none
  | .build t parts => ibuild P t (parts.map fun (i, x) => (i, ev x))
  | .makeFunc (.func f) first captured => some (.func (.func f) (first.map ev) (captured.map ev))
  | .slice t x lo hi mx => islice P h t (ev x) (lo.map ev) (hi.map ev) (mx.map ev)
  | .nilCheck x => match ev x with | .pointer (some a) => some (.pointer (some a)) | .func (.func f) a b => some (.func (.func f) a b) | _ => none
  | .call { callee := .builtin .len, args, argTypes } =>
    match args[0]?, argTypes[0]? with
    | some x, some t =>
      match P.underlying t, ev x with
      | some (.slice _), .slice _ n _ => some (.int .i64 n)
      | some .string, .string s => some (.int .i64 s.size)
      | some (.array n _), _ => some (.int .i64 n)
      | _, _ => none
    | _, _ => none
  | .binOp op t x y _ =>
    match (if isNilConst y then (match op with | .eql => (inil P t (ev x) (ev y)) | .neq => (inil P t (ev x) (ev y)).map not | _ => none) else none) with
    | some b => some (.bool b)
    | none =>
      if flat (ev x) && flat (ev y) then iflat P ev o else none
  | .unOp .. | .convert .. | .call _ => if opFlat ev o then iflat P ev o else none
  | _ => none

/-! ### Operations on memory -/
def roomOk (n : Nat) : Bool := n ≤ 2 ^ 40

def iload (P : Program) (h : IHp) (t : TypeId) (v : Value) : Option Value :=
  match v with
  | .pointer (some a) =>
    (iagg P t).bind fun
      | true => (isz P t).bind fun n => (h.row a.block a.off n).map fun vs => .agg vs.toArray
      | false => h.cell? a.block a.off
  | _ => none

def istore (P : Program) (h : IHp) (t : TypeId) (a v : Value) : Option IHp :=
  match a with
  | .pointer (some a) =>
    (isz P t).bind fun n => if v.cells.size = n then h.setRow a.block a.off v.cells.toList else none
  | _ => none

def isCellV : Value → Bool
  | .agg _ | .tuple _ => false
  | _ => true

def isRowV (v : Value) : Bool := v.cells.toList.all isCellV

def IHp.rowAt (h : IHp) (x : Option Addr) (n s : Nat) : Option (List Value) :=
  match x with
  | none => if n = 0 then some [] else none
  | some b => h.row b.block b.off (n * s)

def iappend (P : Program) (h : IHp) (argTypes : Array TypeId) (args : Array Value) : Option (Value × IHp) :=
  match argTypes[0]?, argTypes[1]?, args[0]?, args[1]? with
  | some t, some t1, some (Value.slice base len cap), some x =>
    match P.underlying t, P.underlying t1, x with
    | some (.slice e), some (.slice _), .slice xb n _ =>
      (P.info? e).bind fun ei => ei.zero.bind fun z =>
      if ei.size = 0 || ei.bytes = 0 || z.cells.size ≠ ei.size then none else
      if roomOk ((len + n) * ei.bytes) then
        (h.rowAt xb n ei.size).bind fun new =>
        if len + n ≤ cap then
          match base with
          | none => if n = 0 then some (.slice none (len + n) cap, h) else none
          | some a => (h.setRow a.block (a.off + len * ei.size) new).map fun h' => (.slice base (len + n) cap, h')
        else
          match base with
          | none => if len = 0 ∧ cap = 0 then some (.slice (some { block := h.fresh, off := 0 }) n n, h.push (.cells new e false)) else none
          | some a =>
            (h.rowAt base len ei.size).bind fun old =>
            if iexact h a.block then
              some (.slice (some { block := h.fresh, off := 0 }) (len + n) (len + n), h.push (.cells (old ++ new) e false))
            else
              match h.new[a.block / 2]? with
              | some (.cells c el _) =>
                if a.off = 0 ∧ c.length = cap * ei.size ∧ el = e then
                  some (.slice (some { block := h.fresh, off := 0 }) (len + n) (len + n), { h with new := (h.new.set (a.block / 2) .dead) ++ [IObj.cells (old ++ new) e false] })
                else none
              | _ => none
      else none
    | _, _, _ => none
  | _, _, _, _ => none

def plainKey : TypeDesc → Bool
  | .int _ | .string | .bool => true
  | _ => false

def ilookup (P : Program) (h : IHp) (t : TypeId) (m k : Value) (ok : Bool) : Option Value :=
  match P.underlying t, m with
  | some (.map kt et), .map (some r) =>
    if r % 2 = 1 then none else
    match h.new[r / 2]?, P.underlying kt with
    | some (.map es _), some kd =>
      if plainKey kd && flat k then
        match Instr.findNow kd k es 0 with
        | some (some (_, v)) => some (if ok then .tuple #[v, .bool true] else v)
        | some none => (izero P et).map fun v => if ok then .tuple #[v, .bool false] else v
        | none => none
      else none
    | _, _ => none
  | _, _ => none

def iinsert (P : Program) (h : IHp) (t : TypeId) (m k v : Value) : Option IHp :=
  match P.underlying t, m with
  | some (.map kt _), .map (some r) =>
    if r % 2 = 1 then none else
    match h.new[r / 2]?, P.underlying kt with
    | some (.map es ck), some kd =>
      if plainKey kd && flat k then
        match Instr.findNow kd k es 0 with
        | some none => some { h with new := h.new.set (r / 2) (.map (es ++ [({ key := k, val := v, born := ck } : MapEntry)]) (ck + 1)) }
        | _ => none
      else none
    | _, _ => none
  | _, _ => none

def izeros (z : Array Value) (n : Nat) : List Value := (List.range n).map (fun i => z.getD (i % z.size) undef)

/-- a value (undef where there is none) and the heap behind it -/
def iheap (P : Program) (h : IHp) (ev : Operand → Value) (o : Oper) : Option (Value × IHp) :=
  match o.op with
  | .load t a => (iload P h t (ev a)).map (·, h)
  | .store t a x => if isRowV (ev x) then (istore P h t (ev a) (ev x)).map (undef, ·) else none
  | .alloc t => (izero P t).bind fun z => if isRowV z then some (.pointer (some { block := h.fresh, off := 0 }), h.push (.cells z.cells.toList t true)) else none
  | .box t x => if isRowV (ev x) then some (.pointer (some { block := h.fresh, off := 0 }), h.push (.cells (ev x).cells.toList t true)) else none
  | .buildSlice t len parts =>
    match P.underlying t with
    | some (.slice e) =>
      (isz P e).bind fun s => if s = 0 || len * s > 2 ^ 24 then none else
      (izero P e).bind fun z => if z.cells.size ≠ s then none else
      (ifill (fun i => some (i * s, s)) (izeros z.cells (len * s)).toArray (parts.map fun (i, x) => (i, ev x)).toList).bind fun cells =>
      if cells.toList.all isCellV then
        some (.slice (some { block := h.fresh, off := 0 }) len len, h.push (.cells cells.toList e true))
      else none
    | _ => none
  | .makeSlice t l c =>
    match P.underlying t, ev l, ev c with
    | some (.slice e), .int _ l, .int _ c =>
      (P.info? e).bind fun ei => (izero P e).bind fun z =>
      if z.cells.size ≠ ei.size || ei.size = 0 || !isRowV z then none else
      if 0 ≤ l ∧ l ≤ c ∧ c ≤ 2 ^ 40 ∧ ei.bytes * c ≤ 2 ^ 46 then
        some (.slice (some { block := h.fresh, off := 0 }) l.toNat c.toNat, h.push (.cells (izeros z.cells (c.toNat * ei.size)) e true))
      else none
    | _, _, _ => none
  | .makeMap _ none => some (.map (some h.fresh), h.push (.map [] 0))
  | .mapUpdate t m k x | .insert t m k x => (iinsert P h t (ev m) (ev k) (ev x)).map (undef, ·)
  | .lookup t m k ok => (ilookup P h t (ev m) (ev k) ok).map (·, h)
  | .call { callee := .builtin .append, args, argTypes } => if args.size = 2 then iappend P h argTypes (args.map ev) else none
  | _ => (ipure P h ev o).map (·, h)

/-- what is called: a function with a body, or a loop's yield -/
inductive Cl where
  | fn (f : FuncId)
  | yld (l : Nat)
def icalleeV (P : Program) (v : Value) (args : Array Value) : Option (Cl × Array Value) :=
  match v with
  | .func (.func g) first captured =>
    match P.funcs[g]? with
    | some fn => if fn.name == "runtime.NumGoroutine" then none else if fn.body.isSome then some (.fn g, (first ++ args) ++ captured) else none
    | none => none
  | .func (.yield l) first captured => if first.size = 0 ∧ captured.size = 0 then some (.yld l, args) else none
  | _ => none
def icallee (P : Program) (ev : Operand → Value) (o : Oper) : Option (Cl × Array Value) :=
  match o.op with
  | .call { callee := .value f, args, .. } => icalleeV P (ev f) (args.map ev)
  | _ => none

/-! ### The interpreter -/
structure St where
  s : Nat → Value
  h : IHp
  nt : Nat := 0
  marks : List Nat := []
  rd : Bool := false
def St.eval (st : St) : Operand → Value
  | .tmp t => st.s t
  | .const v => v
  | .global g => .pointer (some { block := 2 * g + 1, off := 0 })
  | .func f => .func (.func f) #[] #[]
def putS (s : Nat → Value) (d : Option Tmp) (v : Value) : Nat → Value :=
  match d with
  | some d => fun i => if i = d then v else s i
  | none => s
inductive IExit where
  | normal | exit (id : Nat) | ret
  deriving DecidableEq, Inhabited

abbrev ICall := Cl → Array Value → IHp → Option (Value × IHp)

def iyielded (ops : Array Oper) (s : Nat → Value) (j : Nat) : Option Bool :=
  match (ops[j]?).bind (·.dst) with
  | some t => match s t with | .bool b => some b | _ => none
  | none => none
def iwanted (ops : Array Oper) (s : Nat → Value) (o : Oper) : Bool := Region.wanted o (iyielded ops s)

/-- one operation of a region -/
def iop (P : Program) (call : ICall) (ops : Array Oper) (i : Nat) (st : St) : Option St :=
  match ops[i]? with
  | none => none
  | some o =>
    if iwanted ops st.s o then
      match icallee P st.eval o with
      | some (f, args) => (call f args st.h).map fun (v, h) => { st with s := putS st.s o.dst v, h }
      | none => (iheap P st.h st.eval o).map fun (v, h) => { st with s := putS st.s o.dst v, h }
    else some { st with s := putS st.s o.dst undef }
def iops (P : Program) (call : ICall) (ops : Array Oper) : List Nat → St → Option St
  | [], st => some st
  | i :: rest, st => (iop P call ops i st).bind (iops P call ops rest)

/-! Regions that draw their order -/
inductive PStep where
  | take (i : Nat)
  | one (i : Nat)
  deriving Inhabited, DecidableEq

/-- may be taken first: it reads memory at the most -/
def isQuiet : Op → Bool
  | .move _ | .assign _ | .pick .. | .extract .. | .field .. | .fieldAddr .. | .indexAddr .. | .index .. | .build .. | .nilCheck _
  | .binOp .. | .unOp .. | .convert .. | .load .. | .makeFunc .. => true
  | .call { callee := .builtin b, .. } => match b with | .len | .real | .imag | .complex | .min | .max => true | _ => false
  | _ => false
def planFrom (ops : Array Oper) : Nat → Array Bool → Option (List PStep)
  | 0, listed => if (Region.ready .any ops listed).isEmpty then some [] else none
  | n + 1, listed =>
    let rs := Region.ready .any ops listed
    match rs.find? fun i => ((ops[i]?).map fun o => isQuiet o.op && Region.free .any ops listed i).getD false with
    | some i => (planFrom ops n (listed.setIfInBounds i true)).map (.take i :: ·)
    | none =>
      match rs with
      | [] => some []
      | [j] => (planFrom ops n (listed.setIfInBounds j true)).map (.one j :: ·)
      | _ => none
def planOf (ops : Array Oper) : Option (List PStep) :=
  if Region.noSelect ops then planFrom ops ops.size (Array.replicate ops.size false) else none

/-- the load's number, the cell's place, what it holds -/
abbrev Held := List (Nat × Nat × Nat × Value)
def heldIn (h : IHp) (l : Held) : Bool := l.all fun (_, b, off, v) => match h.cell? b off with | some u => veq u v | none => false
def cellsOf (i b : Nat) : Nat → List Value → Held
  | _, [] => []
  | off, v :: vs => (i, b, off, v) :: cellsOf i b (off + 1) vs
/-- the cells that an operation reads -/
def heldOf (P : Program) (h : IHp) (ev : Operand → Value) (i : Nat) (o : Oper) : Option Held :=
  match o.op with
  | .load t a =>
    match ev a with
    | .pointer (some a) =>
      (iagg P t).bind fun
        | true => (isz P t).bind fun n => (h.row a.block a.off n).map fun vs => cellsOf i a.block a.off vs
        | false => (h.cell? a.block a.off).map fun v => [(i, a.block, a.off, v)]
    | _ => none
  | _ => some []
/-- operation j waits for i -/
def waitsFor (ops : Array Oper) (j i : Nat) : Bool := ((ops[j]?).map fun o => o.after.any fun e => Region.binds .any e && e.on == i).getD false
def quietAt (ops : Array Oper) (j : Nat) : Bool := ((ops[j]?).map fun o => isQuiet o.op).getD true
def heldBut (ops : Array Oper) (j : Nat) (l : Held) : Held := if quietAt ops j then l else l.filter fun e => !waitsFor ops j e.1

def iplan (P : Program) (call : ICall) (ops : Array Oper) : List PStep → St → Held → List IHp → Option St
  | [], st, _, _ => some st
  | .take i :: k, st, held, snaps =>
    (ops[i]?).bind fun o =>
    if iwanted ops st.s o then
      (heldOf P st.h st.eval i o).bind fun more =>
      if snaps.all (heldIn · more) then
        (iheap P st.h st.eval o).bind fun (v, _) => iplan P call ops k { st with s := putS st.s o.dst v } (more ++ held) snaps
      else none
    else iplan P call ops k { st with s := putS st.s o.dst undef } held snaps
  | .one i :: k, st, held, snaps =>
    (iop P call ops i st).bind fun st' => if heldIn st'.h (heldBut ops i held) then iplan P call ops k st' (heldBut ops i held) (st'.h :: snaps) else none

def idraw (P : Program) (call : ICall) (ops : Array Oper) (st : St) : Option St :=
  (planOf ops).bind fun p => iplan P call ops p st [] [st.h]

def iresults (P : Program) (st : St) : List ResultVar → Option (List Value)
  | [] => some []
  | .tmp t :: k => (iresults P st k).map (st.s t :: ·)
  | .cell a t :: k => (iload P st.h t (st.s a)).bind fun v => (iresults P st k).map (v :: ·)
def iret (vs : List Value) : Value := match vs with | [v] => v | vs => .tuple vs.toArray

/-- the blocks of the rounds' deferred calls are shut -/
def ishut (h : IHp) : List Nat → Option IHp
  | [] => some h
  | d :: ds => match h.new[d]? with
    | some .defr => ishut { h with new := h.new.set d .dead } ds
    | _ => none
def putAll (s : Nat → Value) : List (Tmp × Value) → Nat → Value
  | [] => s
  | (t, v) :: k => putAll (putS s (some t) v) k

def ienter (P : Program) (run : Code → St → Option (IExit × St)) (f : FuncId) (args : Array Value) (h : IHp) : Option (Value × IHp) :=
  match P.funcs[f]? with
  | none => none
  | some fn =>
    match fn.body with
    | none => none
    | some c =>
      if args.size ≤ fn.ntmps then
        match run c { s := fun i => args.getD i undef, h, nt := fn.ntmps } with
        | some (.normal, st) | some (.ret, st) => (ishut st.h st.marks).bind fun h => (iresults P { st with h } fn.results.toList).map fun vs => (iret vs, h)
        | _ => none
      else none

def iround (run : Code → St → Option (IExit × St)) (l : Nat) (args : Array Value) (h : IHp) : Option (Value × IHp) :=
  if l % 2 = 1 then none else
  match h.new[l / 2]? with
  | some (.loop nt T ps assign body .ready _) =>
    if args.size = ps.size then
      match run assign { s := putAll T (ps.toList.zip args.toList), h, nt, rd := true } with
      | some (.normal, st1) =>
        match st1.h.new[l / 2]? with
        | some (.loop nt1 T1 ps1 as1 b1 .ready p1) =>
          match run body { st1 with h := { st1.h with new := st1.h.new.set (l / 2) (.loop nt1 T1 ps1 as1 b1 .busy p1) } } with
          | some (e, st2) =>
            match st2.h.new[l / 2]? with
            | some (.loop nt2 T2 ps2 as2 b2 _ _) =>
              match e with
              | .normal => some (.bool true, { st2.h with new := st2.h.new.set (l / 2) (.loop nt2 T2 ps2 as2 b2 .ready none) })
              | .ret => some (.bool false, { st2.h with new := st2.h.new.set (l / 2) (.loop nt2 T2 ps2 as2 b2 .done (some .ret)) })
              | .exit id => some (.bool false, { st2.h with new := st2.h.new.set (l / 2) (.loop nt2 T2 ps2 as2 b2 .done (some (.exit id))) })
            | _ => none
          | none => none
        | _ => none
      | _ => none
    else none
  | _ => none

def icallBy (P : Program) (run : Code → St → Option (IExit × St)) : ICall := fun c args h =>
  match c with
  | .fn f => ienter P run f args h
  | .yld l => iround run l args h

def notBusy : LoopState → Bool
  | .busy => false
  | _ => true

def irange (P : Program) (call : ICall) (f : Operand) (ps : Array Tmp) (assign body : Code) (st : St) : Option (IExit × St) :=
  if st.rd then none else
  let d := st.h.new.length
  let h1 := (st.h.push .defr).push (.loop st.nt st.s ps assign body .ready none)
  match icalleeV P (st.eval f) #[.func (.yield (2 * (d + 1))) #[] #[]] with
  | some (.fn g, args) =>
    (call (.fn g) args h1).bind fun (_, h3) =>
      match h3.new[d + 1]? with
      | some (.loop nt3 T3 ps3 as3 b3 state pend) =>
        if notBusy state then
          let st' : St := { st with h := { h3 with new := h3.new.set (d + 1) (.loop nt3 T3 ps3 as3 b3 .exhausted pend) }, marks := d :: st.marks }
          match pend with
          | none => some (.normal, st')
          | some .ret => some (.ret, st')
          | some (.exit id) => some (.exit id, st')
          | _ => none
        else none
      | _ => none
  | _ => none

def icode (P : Program) : Nat → Code → St → Option (IExit × St)
  | 0, _, _ => none
  | n + 1, c, st =>
    match c with
    | .skip => some (.normal, st)
    | .region _ ops draw =>
      if draw then (idraw P (icallBy P (icode P n)) ops st).map (.normal, ·)
      else (iops P (icallBy P (icode P n)) ops (List.range ops.size) st).map (.normal, ·)
    | .seq a b =>
      match icode P n a st with
      | some (.normal, st') => icode P n b st'
      | r => r
    | .cond c a b =>
      match st.eval c with
      | .bool t => icode P n (if t then a else b) st
      | _ => none
    | .block id b =>
      match icode P n b st with
      | some (.exit j, st') => if j = id then some (.normal, st') else some (.exit j, st')
      | r => r
    | .loop b =>
      match icode P n b st with
      | some (.normal, st') => icode P n (.loop b) st'
      | r => r
    | .rangeFunc f ps assign body => irange P (icallBy P (icode P n)) f ps assign body st
    | .exit id => some (.exit id, st)
    | .ret => some (.ret, st)
    | _ => none
def icall (P : Program) (n : Nat) : ICall := icallBy P (icode P n)

/-! ### What is asked of a program -/
def okOperand : Operand → Bool
  | .const v => flat v
  | .global _ => false
  | _ => true
def okOper (n : Nat) (o : Oper) : Bool :=
  (match o.dst with | some d => d < n | none => true) && o.op.operands.toList.all okOperand && (match o.op with | .select .. | .defer _ => false | _ => true)
def okCode (n : Nat) : Code → Bool
  | .region _ ops _ => ops.toList.all (okOper n)
  | .seq a b => okCode n a && okCode n b
  | .cond c a b => okOperand c && okCode n a && okCode n b
  | .block _ b | .loop b => okCode n b
  | .rangeFunc f ps a b => okOperand f && ps.toList.all (· < n) && okCode n a && okCode n b
  | .skip | .exit _ | .ret => true
  | _ => true
def okFunc (f : Func) : Bool := match f.body with | some c => okCode f.ntmps c | none => true
def okProg (P : Program) : Bool := P.funcs.toList.all okFunc && P.follows .mixedOrders
end Go.Ideal

namespace Go.Ideal
open Go

/-! ### Where the ideal blocks lie -/
structure RM where
  at_ : Nat → Option (Nat × Nat)
def RM.block (ρ : RM) (id : Nat) : Option Nat := if id % 2 = 1 then some (id / 2) else (ρ.at_ (id / 2)).map (·.1)
def RM.extra (ρ : RM) (id : Nat) : Nat := if id % 2 = 1 then 0 else ((ρ.at_ (id / 2)).map (·.2)).getD 0
def RM.le (ρ ρ' : RM) : Prop := ∀ i p, ρ.at_ i = some p → ρ'.at_ i = some p
theorem RM.le_refl (ρ : RM) : ρ.le ρ := fun _ _ h => h
theorem RM.le_trans {a b c : RM} (h : a.le b) (k : b.le c) : a.le c := fun i p hp => k i p (h i p hp)
theorem RM.block_mono {ρ ρ' : RM} (h : ρ.le ρ') {id b : Nat} (hb : ρ.block id = some b) : ρ'.block id = some b := by
  unfold RM.block at *
  split at hb
  · rename_i ho; simp [ho]; simpa using hb
  · rename_i ho
    cases hp : ρ.at_ (id / 2) with
    | none => simp [hp] at hb
    | some p => simp [ho, h _ _ hp]; simpa [hp] using hb
theorem RM.extra_mono {ρ ρ' : RM} (h : ρ.le ρ') {id b : Nat} (hb : ρ.block id = some b) : ρ'.extra id = ρ.extra id := by
  unfold RM.block at hb
  unfold RM.extra
  split
  · rfl
  · rename_i ho
    simp only [ho, if_false] at hb
    cases hp : ρ.at_ (id / 2) with
    | none => simp [hp] at hb
    | some p => simp [h _ _ hp]

/-! ### A value and what it stands for -/
def R (ρ : RM) : Value → Value → Prop
  | .bool b, v => v = .bool b
  | .int k n, v => v = .int k n
  | .float k n, v => v = .float k n
  | .complex k a b, v => v = .complex k a b
  | .string s, v => v = .string s
  | .pointer none, v => v = .pointer none
  | .pointer (some a), v => a.spot = none ∧ ∃ b, ρ.block a.block = some b ∧ v = .pointer (some ⟨b, a.off, none⟩)
  | .slice none l c, v => v = .slice none l c
  | .slice (some a) l c, v => a.spot = none ∧ ∃ b, ρ.block a.block = some b ∧ v = .slice (some ⟨b, a.off, none⟩) l (c + ρ.extra a.block)
  | .map none, v => v = .map none
  | .map (some r), v => r % 2 = 0 ∧ ∃ b, ρ.block r = some b ∧ v = .map (some b)
  | .chan none, v => v = .chan none
  | .chan (some _), _ => False
  | .func (.func g) f c, v => ∃ f' c', v = .func (.func g) f' c' ∧
      (f.size = f'.size ∧ ∀ (i : Nat) (_ : i < f.size), R ρ f[i] (f'.getD i undef)) ∧ (c.size = c'.size ∧ ∀ (i : Nat) (_ : i < c.size), R ρ c[i] (c'.getD i undef))
  | .func (.yield l) f c, v => f.size = 0 ∧ c.size = 0 ∧ l % 2 = 0 ∧ ∃ b, ρ.block l = some b ∧ v = .func (.yield b) #[] #[]
  | .func _ _ _, _ => False
  | .nilFunc, v => v = .nilFunc
  | .iface t x, v => ∃ x', v = .iface t x' ∧ R ρ x x'
  | .nilIface, v => v = .nilIface
  | .agg cs, v => ∃ ds : Array Value, v = .agg ds ∧ cs.size = ds.size ∧ ∀ (i : Nat) (_ : i < cs.size), R ρ cs[i] (ds.getD i undef)
  | .tuple cs, v => ∃ ds : Array Value, v = .tuple ds ∧ cs.size = ds.size ∧ ∀ (i : Nat) (_ : i < cs.size), R ρ cs[i] (ds.getD i undef)
termination_by v => SizeOf.sizeOf v

/-- a row of values -/
def RA (ρ : RM) (cs ds : Array Value) : Prop := cs.size = ds.size ∧ ∀ (i : Nat) (_ : i < cs.size), R ρ cs[i] (ds.getD i undef)
theorem R_agg {ρ : RM} {cs : Array Value} {v : Value} : R ρ (.agg cs) v ↔ ∃ ds, v = .agg ds ∧ RA ρ cs ds := by simp only [R, RA]
theorem R_tuple {ρ : RM} {cs : Array Value} {v : Value} : R ρ (.tuple cs) v ↔ ∃ ds, v = .tuple ds ∧ RA ρ cs ds := by simp only [R, RA]
theorem R_func {ρ : RM} {g : FuncId} {f c : Array Value} {v : Value} : R ρ (.func (.func g) f c) v ↔ ∃ f' c', v = .func (.func g) f' c' ∧ RA ρ f f' ∧ RA ρ c c' := by simp only [R, RA]

theorem R_mono {ρ ρ' : RM} (h : ρ.le ρ') : ∀ (v v' : Value), R ρ v v' → R ρ' v v'
  | .bool _, _, hr | .int _ _, _, hr | .float _ _, _, hr | .complex _ _ _, _, hr | .string _, _, hr | .pointer none, _, hr | .slice none _ _, _, hr
  | .map none, _, hr | .chan none, _, hr | .nilFunc, _, hr | .nilIface, _, hr => by simpa only [R] using hr
  | .chan (some _), _, hr => by simp only [R] at hr
  | .pointer (some a), v', hr => by
    simp only [R] at hr ⊢
    obtain ⟨hs, b, hb, hv⟩ := hr
    exact ⟨hs, b, RM.block_mono h hb, hv⟩
  | .slice (some a) l c, v', hr => by
    simp only [R] at hr ⊢
    obtain ⟨hs, b, hb, hv⟩ := hr
    exact ⟨hs, b, RM.block_mono h hb, by rw [RM.extra_mono h hb]; exact hv⟩
  | .map (some r), v', hr => by
    simp only [R] at hr ⊢
    obtain ⟨h0, b, hb, hv⟩ := hr
    exact ⟨h0, b, RM.block_mono h hb, hv⟩
  | .func (.func g) f c, v', hr => by
    simp only [R] at hr ⊢
    obtain ⟨f', c', rfl, ⟨h1, h2⟩, h3, h4⟩ := hr
    exact ⟨f', c', rfl, ⟨h1, fun i hi => R_mono h _ _ (h2 i hi)⟩, h3, fun i hi => R_mono h _ _ (h4 i hi)⟩
  | .func (.yield l) f c, v', hr => by
    simp only [R] at hr ⊢
    obtain ⟨h1, h2, h3, b, hb, hv⟩ := hr
    exact ⟨h1, h2, h3, b, RM.block_mono h hb, hv⟩
  | .func (.method _) _ _, _, hr | .func (.methodOf _ _) _ _, _, hr | .func (.via _ _ _ _) _ _, _, hr => by simp only [R] at hr
  | .iface t x, v', hr => by
    simp only [R] at hr ⊢
    obtain ⟨x', rfl, hx⟩ := hr
    exact ⟨x', rfl, R_mono h _ _ hx⟩
  | .agg cs, v', hr => by
    simp only [R] at hr ⊢
    obtain ⟨ds, rfl, h1, h2⟩ := hr
    exact ⟨ds, rfl, h1, fun i hi => R_mono h _ _ (h2 i hi)⟩
  | .tuple cs, v', hr => by
    simp only [R] at hr ⊢
    obtain ⟨ds, rfl, h1, h2⟩ := hr
    exact ⟨ds, rfl, h1, fun i hi => R_mono h _ _ (h2 i hi)⟩
termination_by v => SizeOf.sizeOf v

theorem RA.mono {ρ ρ' : RM} (h : ρ.le ρ') {cs ds : Array Value} (hr : RA ρ cs ds) : RA ρ' cs ds := ⟨hr.1, fun i hi => R_mono h _ _ (hr.2 i hi)⟩

theorem RA_of_flat {ρ : RM} {n : Nat} (ih : ∀ v, flatN n v = true → R ρ v v) {cs : Array Value} (h : cs.toList.all (flatN n) = true) : RA ρ cs cs := by
  refine ⟨rfl, fun i hi => ?_⟩
  rw [List.all_eq_true] at h
  have : cs.getD i undef = cs[i] := by simp [Array.getD, hi]
  rw [this]
  exact ih _ (h _ (by simp))

theorem flatN_R {ρ : RM} : ∀ (n : Nat) (v : Value), flatN n v = true → R ρ v v := by
  intro n
  induction n with
  | zero =>
    intro v h
    cases v <;> simp [flatN] at h <;> first | (simp only [R]; done) | (subst h; simp only [R])
  | succ n ih =>
    intro v h
    cases v with
    | agg cs => rw [R_agg]; exact ⟨cs, rfl, RA_of_flat ih (by simpa only [flatN] using h)⟩
    | tuple cs => rw [R_tuple]; exact ⟨cs, rfl, RA_of_flat ih (by simpa only [flatN] using h)⟩
    | iface t x => simp only [R]; exact ⟨x, rfl, ih _ (by simpa only [flatN] using h)⟩
    | func fn f c =>
      cases fn with
      | func g =>
        simp only [flatN, Bool.and_eq_true] at h
        rw [R_func]
        exact ⟨f, c, rfl, RA_of_flat ih h.1, RA_of_flat ih h.2⟩
      | _ => simp [flatN] at h
    | pointer a => simp [flatN] at h; subst h; simp only [R]
    | slice a l c => simp [flatN] at h; subst h; simp only [R]
    | map a => simp [flatN] at h; subst h; simp only [R]
    | chan a => simp [flatN] at h; subst h; simp only [R]
    | _ => simp only [R]
theorem flat_R {ρ : RM} {v : Value} (h : flat v = true) : R ρ v v := flatN_R 5 v h

/-- what a flat value stands for is itself -/
theorem flatN_eq {ρ : RM} : ∀ (n : Nat) (v v' : Value), flatN n v = true → R ρ v v' → v' = v := by
  have arr : ∀ n, (∀ v v', flatN n v = true → R ρ v v' → v' = v) → ∀ cs ds : Array Value, cs.toList.all (flatN n) = true → RA ρ cs ds → ds = cs := by
    intro n ih cs ds h hr
    rw [List.all_eq_true] at h
    refine Array.ext hr.1.symm fun i h1 h2 => ?_
    have := hr.2 i h2
    rw [show ds.getD i undef = ds[i] by simp [Array.getD, h1]] at this
    exact ih _ _ (h _ (by simp)) this
  intro n
  induction n with
  | zero =>
    intro v v' h hr
    cases v <;> simp [flatN] at h <;> first | (simpa only [R] using hr) | (subst h; simpa only [R] using hr)
  | succ n ih =>
    intro v v' h hr
    cases v with
    | agg cs => rw [R_agg] at hr; obtain ⟨ds, rfl, hr⟩ := hr; rw [arr n ih cs ds (by simpa only [flatN] using h) hr]
    | tuple cs => rw [R_tuple] at hr; obtain ⟨ds, rfl, hr⟩ := hr; rw [arr n ih cs ds (by simpa only [flatN] using h) hr]
    | iface t x => simp only [R] at hr; obtain ⟨x', rfl, hr⟩ := hr; rw [ih x x' (by simpa only [flatN] using h) hr]
    | func fn f c =>
      cases fn with
      | func g =>
        simp only [flatN, Bool.and_eq_true] at h
        rw [R_func] at hr
        obtain ⟨f', c', rfl, h1, h2⟩ := hr
        rw [arr n ih _ _ h.1 h1, arr n ih _ _ h.2 h2]
      | _ => simp [flatN] at h
    | pointer a => simp [flatN] at h; subst h; simpa only [R] using hr
    | slice a l c => simp [flatN] at h; subst h; simpa only [R] using hr
    | map a => simp [flatN] at h; subst h; simpa only [R] using hr
    | chan a => simp [flatN] at h; subst h; simpa only [R] using hr
    | _ => simpa only [R] using hr
theorem flat_eq {ρ : RM} {v v' : Value} (h : flat v = true) (hr : R ρ v v') : v' = v := flatN_eq 5 v v' h hr

theorem R_undef {ρ : RM} : R ρ undef undef := flat_R (by rfl)

/-! ### What old memory holds -/
def upv : Value → Option Value
  | .bool b => some (.bool b)
  | .int k n => some (.int k n)
  | .float k n => some (.float k n)
  | .complex k a b => some (.complex k a b)
  | .string s => some (.string s)
  | .pointer none => some (.pointer none)
  | .pointer (some a) => if a.spot.isNone then some (.pointer (some { block := 2 * a.block + 1, off := a.off })) else none
  | .slice none l c => some (.slice none l c)
  | .slice (some a) l c => if a.spot.isNone then some (.slice (some { block := 2 * a.block + 1, off := a.off }) l c) else none
  | .map none => some (.map none)
  | .nilFunc => some .nilFunc
  | .nilIface => some .nilIface
  | _ => none
theorem block_old (ρ : RM) (b : Nat) : ρ.block (2 * b + 1) = some b := by
  have h1 : (2 * b + 1) % 2 = 1 := by omega
  have h2 : (2 * b + 1) / 2 = b := by omega
  simp [RM.block, h1, h2]
theorem extra_old (ρ : RM) (b : Nat) : ρ.extra (2 * b + 1) = 0 := by
  have h1 : (2 * b + 1) % 2 = 1 := by omega
  simp [RM.extra, h1]
theorem upv_R {ρ : RM} {u v : Value} (h : upv u = some v) : R ρ v u := by
  cases u with
  | pointer a =>
    cases a with
    | none => simp [upv] at h; subst h; simp only [R]
    | some a =>
      simp only [upv] at h
      split at h
      · rename_i hs
        cases h
        obtain ⟨b, o, s⟩ := a
        simp at hs; subst hs
        simp [R, block_old]
      · cases h
  | slice a l c =>
    cases a with
    | none => simp [upv] at h; subst h; simp only [R]
    | some a =>
      simp only [upv] at h
      split at h
      · rename_i hs
        cases h
        obtain ⟨b, o, s⟩ := a
        simp at hs; subst hs
        simp [R, block_old, extra_old]
      · cases h
  | map a =>
    cases a with
    | none => simp [upv] at h; subst h; simp only [R]
    | some a => simp [upv] at h
  | _ => first | (simp [upv] at h; subst h; simp only [R]; done) | (simp [upv] at h)
/-- what old memory holds is one cell's value -/
theorem upv_cell {u v : Value} (h : upv u = some v) : isCellV v = true ∧ isCellV u = true := by
  cases u with
  | pointer a => cases a <;> simp [upv] at h <;> first | (subst h; simp [isCellV]; done) | (obtain ⟨_, rfl⟩ := h; simp [isCellV])
  | slice a l c => cases a <;> simp [upv] at h <;> first | (subst h; simp [isCellV]; done) | (obtain ⟨_, rfl⟩ := h; simp [isCellV])
  | map a => cases a <;> simp [upv] at h; subst h; simp [isCellV]
  | _ => first | (simp [upv] at h; subst h; simp [isCellV]; done) | (simp [upv] at h)

theorem R_cell {ρ : RM} {v v' : Value} (h : R ρ v v') : isCellV v' = isCellV v := by
  cases v with
  | agg cs => rw [R_agg] at h; obtain ⟨ds, rfl, _⟩ := h; rfl
  | tuple cs => rw [R_tuple] at h; obtain ⟨ds, rfl, _⟩ := h; rfl
  | iface t x => simp only [R] at h; obtain ⟨x', rfl, _⟩ := h; rfl
  | pointer a => cases a <;> simp only [R] at h <;> first | (subst h; rfl) | (obtain ⟨_, b, _, rfl⟩ := h; rfl)
  | slice a l c => cases a <;> simp only [R] at h <;> first | (subst h; rfl) | (obtain ⟨_, b, _, rfl⟩ := h; rfl)
  | map a => cases a <;> simp only [R] at h <;> first | (subst h; rfl) | (obtain ⟨_, b, _, rfl⟩ := h; rfl)
  | chan a => cases a <;> simp only [R] at h; subst h; rfl
  | func fn f c =>
    cases fn with
    | func g => rw [R_func] at h; obtain ⟨f', c', rfl, _⟩ := h; rfl
    | yield l => simp only [R] at h; obtain ⟨_, _, _, b, _, rfl⟩ := h; rfl
    | _ => simp only [R] at h
  | _ => simp only [R] at h; subst h; rfl

/-- the cells of a value -/
theorem R_cells {ρ : RM} {v v' : Value} (h : R ρ v v') : RA ρ v.cells v'.cells := by
  have one : isCellV v = true ∨ (∃ t, v = .tuple t) → RA ρ v.cells v'.cells := by
    intro hv
    have hc : v.cells = #[v] := by
      rcases hv with hv | ⟨t, rfl⟩
      · cases v <;> first | rfl | (simp [isCellV] at hv)
      · rfl
    have hc' : v'.cells = #[v'] := by
      rcases hv with hv | ⟨t, rfl⟩
      · have := R_cell h; rw [hv] at this; cases v' <;> first | rfl | (simp [isCellV] at this)
      · rw [R_tuple] at h; obtain ⟨ds, rfl, _⟩ := h; rfl
    rw [hc, hc']
    refine ⟨rfl, fun i hi => ?_⟩
    have : i = 0 := by simpa using hi
    subst this
    exact h
  cases v with
  | agg cs => rw [R_agg] at h; obtain ⟨ds, rfl, h⟩ := h; exact h
  | tuple cs => exact one (.inr ⟨_, rfl⟩)
  | _ => exact one (.inl rfl)
end Go.Ideal

set_option linter.unusedSimpArgs false
set_option linter.unusedVariables false
namespace Go.Ideal
open Go Go.RowKit

def RM.add (ρ : RM) (i : Nat) (p : Nat × Nat) : RM := ⟨fun j => if j = i then some p else ρ.at_ j⟩
theorem RM.le_add {ρ : RM} {i : Nat} {p : Nat × Nat} (h : ρ.at_ i = none) : ρ.le (ρ.add i p) := by
  intro j q hq
  simp only [RM.add]
  split
  · rename_i e; subst e; rw [h] at hq; cases hq
  · exact hq
theorem RM.add_at (ρ : RM) (i : Nat) (p : Nat × Nat) : (ρ.add i p).at_ i = some p := by simp [RM.add]
theorem RM.add_ne {ρ : RM} {i j : Nat} {p : Nat × Nat} (h : j ≠ i) : (ρ.add i p).at_ j = ρ.at_ j := by simp [RM.add, h]
theorem RM.block_new {ρ : RM} {i r x : Nat} (h : ρ.at_ i = some (r, x)) : ρ.block (2 * i) = some r := by
  have h1 : (2 * i) % 2 ≠ 1 := by omega
  have h2 : (2 * i) / 2 = i := by omega
  simp [RM.block, h1, h2, h]
theorem RM.extra_new {ρ : RM} {i r x : Nat} (h : ρ.at_ i = some (r, x)) : ρ.extra (2 * i) = x := by
  have h1 : (2 * i) % 2 ≠ 1 := by omega
  have h2 : (2 * i) / 2 = i := by omega
  simp [RM.extra, h1, h2, h]

def IObj.live : IObj → Bool
  | .dead => false
  | _ => true

def ERel (ρ : RM) (e e' : MapEntry) : Prop := flat e.key = true ∧ e'.key = e.key ∧ R ρ e.val e'.val ∧ e'.born = e.born

def ORel (P : Program) (ρ : RM) (x : Nat) : IObj → Option Obj → Prop
  | .cells c e ex, o => ∃ c' e', o = some (.cells c' e' (0, 0)) ∧ c'.size = c.length + x * P.cellsOf e ∧ (ex = true → x = 0) ∧
      ∀ (k : Nat) v, c[k]? = some v → isCellV v = true ∧ ∃ v', c'[k]? = some v' ∧ R ρ v v'
  | .map es ck, o => ∃ es', o = some (.map es' ck) ∧ es'.size = es.length ∧ ∀ (k : Nat) e, es[k]? = some e → ∃ e', es'[k]? = some e' ∧ ERel ρ e e'
  | .dead, _ => True
  | .defr, o => o = some (.deferred (some []))
  | .loop nt T ps assign body st pend, o => ∃ L : Loop, o = some (.loop L) ∧ L.tmps.size = nt ∧ (∀ t, R ρ (T t) (L.tmps.getD t undef)) ∧ L.params = ps ∧
      L.assign = assign ∧ L.body = body ∧ L.state = st ∧ L.pending = pend ∧ ps.toList.all (· < nt) = true ∧ okCode nt assign = true ∧ okCode nt body = true

theorem ORel.mono {P : Program} {ρ ρ' : RM} (h : ρ.le ρ') {x : Nat} {o : IObj} {O : Option Obj} (hr : ORel P ρ x o O) : ORel P ρ' x o O := by
  cases o with
  | cells c e ex =>
    obtain ⟨c', e', h1, h2, h3, h4⟩ := hr
    exact ⟨c', e', h1, h2, h3, fun k v hk => let ⟨a, v', b, c⟩ := h4 k v hk; ⟨a, v', b, R_mono h _ _ c⟩⟩
  | map es ck =>
    obtain ⟨es', h1, h2, h3⟩ := hr
    exact ⟨es', h1, h2, fun k e hk => let ⟨e', a, b1, b2, b3, b4⟩ := h3 k e hk; ⟨e', a, b1, b2, R_mono h _ _ b3, b4⟩⟩
  | dead => trivial
  | defr => exact hr
  | loop nt T ps as b st pd =>
    obtain ⟨L, h1, h2, h3, h4⟩ := hr
    exact ⟨L, h1, h2, fun t => R_mono h _ _ (h3 t), h4⟩

structure HRel (P : Program) (base : Nat) (w0 : World) (ρ : RM) (h : IHp) (w : World) : Prop where
  below : Below base w0 w
  size : base ≤ w.heap.size
  old : ∀ b off v, h.old b off = some v → b < base ∧ ∃ u, w0.cell? ⟨b, off, none⟩ = some u ∧ upv u = some v
  blk : ∀ (i : Nat) o, h.new[i]? = some o → ∃ r x, ρ.at_ i = some (r, x) ∧ base ≤ r ∧ r < w.heap.size ∧ ORel P ρ x o w.heap[r]?
  inj : ∀ (i j : Nat) oi oj r x y, h.new[i]? = some oi → oi.live = true → h.new[j]? = some oj → oj.live = true → ρ.at_ i = some (r, x) → ρ.at_ j = some (r, y) → i = j
  dom : ∀ i, h.new.length ≤ i → ρ.at_ i = none

section
variable {P : Program} {base : Nat} {w0 w : World} {ρ : RM} {h : IHp}

theorem HRel.drew (H : HRel P base w0 ρ h w) : HRel P base w0 ρ h { w with drawn := w.drawn + 1 } :=
  ⟨⟨H.below.os, H.below.tape, H.below.output, H.below.size, H.below.block⟩, H.size, H.old, H.blk, H.inj, H.dom⟩

theorem cell?_of_heap {w : World} {b off : Nat} {c : Array Value} {e : TypeId} {f : Nat × Nat} (h : w.heap[b]? = some (.cells c e f)) : w.cell? ⟨b, off, none⟩ = c[off]? := by
  simp [World.cell?, h]

theorem HRel.oldCell (H : HRel P base w0 ρ h w) {b off : Nat} {v : Value} (hv : h.old b off = some v) : ∃ u, w.cell? ⟨b, off, none⟩ = some u ∧ upv u = some v := by
  obtain ⟨hb, u, hu, hup⟩ := H.old b off v hv
  exact ⟨u, by rw [H.below.cell (p := ⟨b, off, none⟩) hb]; exact hu, hup⟩

theorem HRel.cell (H : HRel P base w0 ρ h w) {b off : Nat} {v : Value} (hv : h.cell? b off = some v) :
    isCellV v = true ∧ ∃ rb v', ρ.block b = some rb ∧ w.cell? ⟨rb, off, none⟩ = some v' ∧ R ρ v v' := by
  unfold IHp.cell? at hv
  split at hv
  · rename_i ho
    obtain ⟨u, hu, hup⟩ := H.oldCell hv
    exact ⟨(upv_cell hup).1, b / 2, u, by simp [RM.block, ho], hu, upv_R hup⟩
  · rename_i ho
    split at hv
    · rename_i c e ex hc
      obtain ⟨r, x, hρ, _, _, hO⟩ := H.blk _ _ hc
      obtain ⟨c', e', hw, _, _, hcells⟩ := hO
      obtain ⟨h1, v', h2, h3⟩ := hcells _ _ hv
      exact ⟨h1, r, v', by simp [RM.block, ho, hρ], by rw [cell?_of_heap hw]; exact h2, h3⟩
    · cases hv

theorem HRel.row (H : HRel P base w0 ρ h w) {b rb : Nat} (hb : ρ.block b = some rb) : ∀ (n off : Nat) (vs : List Value), h.row b off n = some vs →
    vs.length = n ∧ (∀ v ∈ vs, isCellV v = true) ∧ ∃ vs' : List Value, vs'.length = n ∧ (∀ (j : Nat) v', vs'[j]? = some v' → w.cell? ⟨rb, off + j, none⟩ = some v') ∧
      ∀ (j : Nat) v, vs[j]? = some v → ∃ v', vs'[j]? = some v' ∧ R ρ v v' := by
  intro n
  induction n with
  | zero => intro off vs h; simp [IHp.row] at h; subst h; exact ⟨rfl, by simp, [], rfl, by simp, by simp⟩
  | succ n ih =>
    intro off vs hr
    simp only [IHp.row, Option.bind_eq_some_iff] at hr
    obtain ⟨v, hv, vs1, h1, h2⟩ := hr
    cases h2
    obtain ⟨hcv, rb', v', hb', hw, hR⟩ := H.cell hv
    rw [hb] at hb'; cases hb'
    obtain ⟨l1, l2, vs1', l3, l4, l5⟩ := ih _ _ h1
    refine ⟨by simp [l1], ?_, v' :: vs1', by simp [l3], ?_, ?_⟩
    · intro x hx
      rcases List.mem_cons.1 hx with rfl | hx
      · exact hcv
      · exact l2 _ hx
    · intro j u hj
      cases j with
      | zero => simp at hj; subst hj; exact hw
      | succ j =>
        have := l4 j u (by simpa using hj)
        rw [show off + (j + 1) = off + 1 + j by omega]; exact this
    · intro j u hj
      cases j with
      | zero => simp at hj; subst hj; exact ⟨v', by simp, hR⟩
      | succ j =>
        obtain ⟨u', hu, hr⟩ := l5 j u (by simpa using hj)
        exact ⟨u', by simpa using hu, hr⟩

/-- an array related to a list read -/
theorem RA_of_lists {ρ : RM} {vs vs' : List Value} (hl : vs'.length = vs.length) (h : ∀ (j : Nat) v, vs[j]? = some v → ∃ v', vs'[j]? = some v' ∧ R ρ v v') : RA ρ vs.toArray vs'.toArray := by
  refine ⟨by simp [hl], fun i hi => ?_⟩
  have hi' : i < vs.length := by simpa using hi
  obtain ⟨v', h1, h2⟩ := h i vs[i] (by simp [hi'])
  have h3 : i < vs'.length := by omega
  simp only [List.getElem_toArray]
  have : vs'.toArray.getD i undef = v' := by
    simp [Array.getD, h3] at h1 ⊢; exact h1
  rw [this]; exact h2
theorem RA_get {ρ : RM} {cs ds : Array Value} (h : RA ρ cs ds) {i : Nat} {v : Value} (hv : cs[i]? = some v) : ∃ v', ds[i]? = some v' ∧ R ρ v v' := by
  obtain ⟨hi, rfl⟩ := Array.getElem?_eq_some_iff.1 hv
  have h2 := h.2 i hi
  have h3 : i < ds.size := by rw [← h.1]; exact hi
  refine ⟨ds[i], by simp [h3], ?_⟩
  rw [show ds.getD i undef = ds[i] by simp [Array.getD, h3]] at h2
  exact h2
theorem RA_mk {ρ : RM} {cs ds : Array Value} (hs : cs.size = ds.size) (h : ∀ (i : Nat) v, cs[i]? = some v → ∃ v', ds[i]? = some v' ∧ R ρ v v') : RA ρ cs ds := by
  refine ⟨hs, fun i hi => ?_⟩
  obtain ⟨v', h1, h2⟩ := h i cs[i] (by simp [hi])
  have : ds.getD i undef = v' := by
    obtain ⟨hj, rfl⟩ := Array.getElem?_eq_some_iff.1 h1
    simp [Array.getD, hj]
  rw [this]; exact h2

/-! ### Writing one cell -/
theorem heap_setCell_same {w : World} {r off : Nat} {c : Array Value} {e : TypeId} {f : Nat × Nat} {v : Value} (h : w.heap[r]? = some (.cells c e f)) :
    (w.setCell ⟨r, off, none⟩ v).heap[r]? = some (.cells (c.setIfInBounds off v) e f) := by
  simp [World.setCell, Array.getElem?_modify, h]
theorem heap_setCell_other {w : World} {r off k : Nat} {v : Value} (h : k ≠ r) : (w.setCell ⟨r, off, none⟩ v).heap[k]? = w.heap[k]? := by
  simp [World.setCell, Array.getElem?_modify, Ne.symm h]
theorem heap_setCell_size {w : World} {a : Addr} {v : Value} : (w.setCell a v).heap.size = w.heap.size := by simp [World.setCell]

/-- a block of the ideal heap is turned, and the block that it stands for -/
theorem HRel.turn (H : HRel P base w0 ρ h w) {i r x : Nat} {o o' : IObj} {w' : World} (hi : h.new[i]? = some o) (hl : o.live = true) (hρ : ρ.at_ i = some (r, x))
    (hO : ORel P ρ x o' (w'.heap[r]?)) (hsame : ∀ k, k ≠ r → w'.heap[k]? = w.heap[k]?) (hsize : w'.heap.size = w.heap.size)
    (hos : w'.os = w.os) (htape : w'.tape = w.tape) (hout : w'.output = w.output) :
    HRel P base w0 ρ { h with new := h.new.set i o' } w' := by
  obtain ⟨r', x', hρ', hbr, hrw, _⟩ := H.blk _ _ hi
  rw [hρ] at hρ'; cases hρ'
  have hilt : i < h.new.length := (List.getElem?_eq_some_iff.1 hi).1
  refine ⟨⟨hos.trans H.below.os, htape.trans H.below.tape, hout.trans H.below.output, by rw [hsize]; exact H.below.size, fun k hk => ?_⟩, by rw [hsize]; exact H.size, H.old, ?_, ?_, ?_⟩
  · rw [hsame k (by omega)]; exact H.below.block k hk
  · intro j oj hj
    simp only [List.getElem?_set] at hj
    split at hj
    · rename_i e; subst e
      simp only [hilt, if_true, Option.some.injEq] at hj
      subst hj
      exact ⟨r, x, hρ, hbr, by rw [hsize]; exact hrw, hO⟩
    · rename_i hne
      obtain ⟨rj, xj, hρj, hbj, hrj, hOj⟩ := H.blk _ _ hj
      by_cases hlj : oj.live = true
      · have : rj ≠ r := fun e => hne (H.inj i j o oj r x xj hi hl hj hlj hρ (e ▸ hρj))
        exact ⟨rj, xj, hρj, hbj, by rw [hsize]; exact hrj, by rw [hsame _ this]; exact hOj⟩
      · cases oj <;> simp [IObj.live] at hlj
        exact ⟨rj, xj, hρj, hbj, by rw [hsize]; exact hrj, trivial⟩
  · intro a b oa ob ra xa xb ha hla hb hlb hρa hρb
    have key : ∀ (a : Nat) oa, (h.new.set i o')[a]? = some oa → oa.live = true → ∃ oa', h.new[a]? = some oa' ∧ oa'.live = true := by
      intro a oa ha hla
      simp only [List.getElem?_set] at ha
      split at ha
      · rename_i e; subst e; exact ⟨o, hi, hl⟩
      · exact ⟨oa, ha, hla⟩
    obtain ⟨oa', ha', hla'⟩ := key a oa ha hla
    obtain ⟨ob', hb', hlb'⟩ := key b ob hb hlb
    exact H.inj a b oa' ob' ra xa xb ha' hla' hb' hlb' hρa hρb
  · intro j hj; exact H.dom j (by simpa using hj)

theorem HRel.setCell (H : HRel P base w0 ρ h w) {b rb off : Nat} {v v' : Value} {h' : IHp} (hs : h.setCell b off v = some h') (hb : ρ.block b = some rb)
    (hc : isCellV v = true) (hR : R ρ v v') : HRel P base w0 ρ h' (w.setCell ⟨rb, off, none⟩ v') ∧ w.frozen? ⟨rb, off, none⟩ = false ∧ (w.cell? ⟨rb, off, none⟩).isSome = true := by
  unfold IHp.setCell at hs
  split at hs
  · cases hs
  · rename_i ho
    split at hs
    · rename_i c e ex hcells
      split at hs
      · rename_i hoff
        cases hs
        obtain ⟨r, x, hρ, hbr, hrw, hO⟩ := H.blk _ _ hcells
        obtain ⟨c', e', hw, hsz, hex, hall⟩ := hO
        have hrb : rb = r := by
          simp only [RM.block, ho, if_false, hρ, Option.map_some, Option.some.injEq] at hb; exact hb.symm
        subst hrb
        have hoff' : off < c'.size := by omega
        refine ⟨H.turn hcells rfl hρ ?_ (fun k hk => heap_setCell_other hk) heap_setCell_size rfl rfl rfl, ?_, ?_⟩
        · refine ⟨c'.setIfInBounds off v', e', heap_setCell_same hw, by simp [hsz], hex, fun k u hk => ?_⟩
          simp only [List.getElem?_set] at hk
          split at hk
          · rename_i e; subst e
            simp only [hoff, if_true, Option.some.injEq] at hk
            subst hk
            exact ⟨hc, v', by simp [hoff'], hR⟩
          · rename_i hne
            obtain ⟨h1, u', h2, h3⟩ := hall k u hk
            exact ⟨h1, u', by rw [Array.getElem?_setIfInBounds_ne hne]; exact h2, h3⟩
        · simp [World.frozen?, hw]
        · rw [cell?_of_heap hw]; simp [hoff']
      · cases hs
    · cases hs

theorem Addr.add_row (rb off i : Nat) : (⟨rb, off, none⟩ : Addr).add i = ⟨rb, off + i, none⟩ := by
  unfold Addr.add; split
  · rename_i e; subst e; rfl
  · rfl

theorem HRel.setRow {b rb off0 : Nat} (hb : ρ.block b = some rb) : ∀ (vs vs' : List Value) (i : Nat) (h h' : IHp) (w : World), HRel P base w0 ρ h w → h.setRow b (off0 + i) vs = some h' →
    (∀ v ∈ vs, isCellV v = true) → vs'.length = vs.length → (∀ (j : Nat) v, vs[j]? = some v → ∃ v', vs'[j]? = some v' ∧ R ρ v v') →
    ∃ w', (storeCells ⟨rb, off0, none⟩ vs' i).run P w = .ok () w' ∧ HRel P base w0 ρ h' w' := by
  intro vs
  induction vs with
  | nil =>
    intro vs' i h h' w H hs _ hl _
    simp only [IHp.setRow, Option.some.injEq] at hs
    subst hs
    have : vs' = [] := by cases vs' <;> simp_all
    subst this
    exact ⟨w, by simp [storeCells], H⟩
  | cons v vs ih =>
    intro vs' i h h' w H hs hc hl hR
    cases vs' with
    | nil => simp at hl
    | cons v' vs' =>
      simp only [IHp.setRow, Option.bind_eq_some_iff] at hs
      obtain ⟨h1, hs1, hs2⟩ := hs
      have hRv : R ρ v v' := by
        obtain ⟨u, hu, hr⟩ := hR 0 v (by simp)
        simp at hu; subst hu; exact hr
      have hcv := hc v (by simp)
      obtain ⟨H1, hf, hcell⟩ := H.setCell hs1 hb hcv hRv
      have hcv' : isCellV v' = true := by rw [R_cell hRv]; exact hcv
      have hstore : (store ⟨rb, off0 + i, none⟩ v').run P w = .ok () (w.setCell ⟨rb, off0 + i, none⟩ v') := by
        obtain ⟨u, hu⟩ := Option.isSome_iff_exists.1 hcell
        unfold store
        cases v' <;> simp [isCellV] at hcv' <;> simp [Sem.run, hu, hf]
      obtain ⟨w', hw', H'⟩ := ih vs' (i + 1) h1 h' _ H1 (by rw [show off0 + (i + 1) = off0 + i + 1 by omega]; exact hs2) (fun u hu => hc u (by simp [hu])) (by simpa using hl)
        (fun j u hj => by
          obtain ⟨u', hu, hr⟩ := hR (j + 1) u (by simpa using hj)
          exact ⟨u', by simpa using hu, hr⟩)
      refine ⟨w', ?_, H'⟩
      simp only [storeCells, Sem.run_bind, Addr.add_row, hstore, Result.andThen]
      exact hw'

theorem run_loadCells_row {w : World} (rb off0 : Nat) : ∀ (vs : List Value) (i : Nat) (acc : Array Value), (∀ (j : Nat) v, vs[j]? = some v → w.cell? ⟨rb, off0 + i + j, none⟩ = some v) →
    (loadCellsFrom ⟨rb, off0, none⟩ i vs.length acc).run P w = .ok (acc ++ vs.toArray) w := by
  intro vs
  induction vs with
  | nil => intro i acc _; simp [loadCellsFrom]
  | cons v vs ih =>
    intro i acc h
    have h0 := h 0 v (by simp)
    simp only [Nat.add_zero] at h0
    simp only [List.length_cons, loadCellsFrom, Sem.run_bind, Addr.add_row]
    have : (load ⟨rb, off0 + i, none⟩).run P w = .ok v w := by simp [load, Sem.run, h0]
    rw [this]
    simp only [Result.andThen]
    rw [ih (i + 1) (acc.push v) (fun j u hj => by
      have := h (j + 1) u (by simpa using hj)
      rw [show off0 + (i + 1) + j = off0 + i + (j + 1) by omega]; exact this)]
    simp

/-! ### A new block -/
theorem heap_alloc' (w : World) (O : Obj) : (w.alloc O).heap = w.heap.push O := rfl
theorem HRel.push (H : HRel P base w0 ρ h w) {o : IObj} {O : Obj} {x : Nat} (hO : ∀ ρ', ρ.le ρ' → ORel P ρ' x o (some O)) :
    HRel P base w0 (ρ.add h.new.length (w.heap.size, x)) (h.push o) (w.alloc O) := by
  have hle : ρ.le (ρ.add h.new.length (w.heap.size, x)) := RM.le_add (H.dom _ (Nat.le_refl _))
  refine ⟨H.below.alloc H.size O, by simp [heap_alloc']; have := H.size; omega, H.old, ?_, ?_, ?_⟩
  · intro i oi hi
    simp only [IHp.push] at hi
    by_cases e : i = h.new.length
    · subst e
      have : oi = o := by simpa using hi.symm
      subst this
      exact ⟨_, x, RM.add_at _ _ _, H.size, by simp [heap_alloc'], by simpa [heap_alloc'] using hO _ hle⟩
    · have hi' : h.new[i]? = some oi := by
        rw [List.getElem?_append] at hi
        split at hi
        · exact hi
        · rename_i hlt
          have h1 : i - h.new.length = 0 := by
            by_cases hz : i - h.new.length = 0
            · exact hz
            · rw [List.getElem?_eq_none (by simp; omega)] at hi; cases hi
          omega
      obtain ⟨r, y, hρ, hb, hr, hOi⟩ := H.blk _ _ hi'
      refine ⟨r, y, by rw [RM.add_ne e]; exact hρ, hb, by simp [heap_alloc']; omega, ?_⟩
      have : (w.alloc O).heap[r]? = w.heap[r]? := by rw [heap_alloc', Array.getElem?_push]; simp; omega
      rw [this]
      exact hOi.mono hle
  · have key : ∀ (i : Nat) oi r y, (h.push o).new[i]? = some oi → (ρ.add h.new.length (w.heap.size, x)).at_ i = some (r, y) → (i = h.new.length ∧ r = w.heap.size) ∨ (h.new[i]? = some oi ∧ ρ.at_ i = some (r, y) ∧ r < w.heap.size) := by
      intro i oi r y hi hρ
      by_cases e : i = h.new.length
      · subst e
        rw [RM.add_at] at hρ; cases hρ
        exact .inl ⟨rfl, rfl⟩
      · rw [RM.add_ne e] at hρ
        simp only [IHp.push] at hi
        have hi' : h.new[i]? = some oi := by
          rw [List.getElem?_append] at hi
          split at hi
          · exact hi
          · have h1 : i - h.new.length = 0 := by
              by_cases hz : i - h.new.length = 0
              · exact hz
              · rw [List.getElem?_eq_none (by simp; omega)] at hi; cases hi
            omega
        obtain ⟨r', y', hρ', _, hr', _⟩ := H.blk _ _ hi'
        rw [hρ] at hρ'; cases hρ'
        exact .inr ⟨hi', hρ, hr'⟩
    intro i j oi oj r y z hi hli hj hlj hρi hρj
    rcases key i oi r y hi hρi with ⟨rfl, rfl⟩ | ⟨hi', hρi', hri⟩ <;> rcases key j oj _ z hj hρj with ⟨h1, h2⟩ | ⟨hj', hρj', hrj⟩
    · exact h1.symm
    · omega
    · omega
    · exact H.inj i j oi oj r y z hi' hli hj' hlj hρi' hρj'
  · intro i hi
    simp only [IHp.push, List.length_append, List.length_cons, List.length_nil] at hi
    rw [RM.add_ne (by omega)]
    exact H.dom i (by omega)
theorem RM.le_push (H : HRel P base w0 ρ h w) (p : Nat × Nat) : ρ.le (ρ.add h.new.length p) := RM.le_add (H.dom _ (Nat.le_refl _))

theorem block_fresh (H : HRel P base w0 ρ h w) (p : Nat × Nat) : (ρ.add h.new.length p).block h.fresh = some p.1 := RM.block_new (x := p.2) (RM.add_at _ _ _)
theorem extra_fresh (H : HRel P base w0 ρ h w) (p : Nat × Nat) : (ρ.add h.new.length p).extra h.fresh = p.2 := RM.extra_new (r := p.1) (RM.add_at _ _ _)
end
end Go.Ideal

set_option linter.unusedSimpArgs false
set_option linter.unusedVariables false
namespace Go.Ideal
open Go Go.RowKit

section
variable {P : Program} {base : Nat} {w0 w : World} {ρ : RM} {h : IHp}

theorem rUnd {t : TypeId} {d : TypeDesc} (h : P.underlying t = some d) (w : World) : (underlying t).run P w = .ok d w := by
  simp [underlying, Sem.run_bind, Result.andThen, h]
theorem rSize {t : TypeId} {n : Nat} (h : isz P t = some n) (w : World) : (sizeOf t).run P w = .ok n w := by
  unfold isz at h
  cases hi : P.info? t with
  | none => simp [hi] at h
  | some i => simp [hi] at h; subst h; simp [sizeOf, typeInfo, Sem.run_bind, Result.andThen, hi]
theorem rAgg {t : TypeId} {b : Bool} (h : iagg P t = some b) (w : World) : (isAgg t).run P w = .ok b w := by
  unfold iagg at h
  cases hi : P.underlying t with
  | none => simp [hi] at h
  | some d =>
    simp only [hi, Option.map_some, Option.some.injEq] at h
    unfold isAgg
    simp only [Sem.run_bind, rUnd hi w, Result.andThen]
    cases d <;> simp_all
theorem rZero {t : TypeId} {z : Value} (h : izero P t = some z) (w : World) : (zeroValue t).run P w = .ok z w ∧ flat z = true := by
  unfold izero at h
  cases hi : P.info? t with
  | none => simp [hi] at h
  | some i =>
    simp only [hi, Option.bind_some] at h
    cases hz : i.zero with
    | none => simp [hz] at h
    | some v =>
      simp only [hz, Option.bind_some] at h
      split at h
      · rename_i hf; cases h
        exact ⟨by simp [zeroValue, typeInfo, Sem.run_bind, Result.andThen, hi, hz], hf⟩
      · cases h

/-- 'part' of a row that stands for another -/
theorem part_sound {t : TypeId} {cs ds : Array Value} {off : Nat} {v : Value} (hp : ipart P t cs off = some v) (hr : RA ρ cs ds) :
    ∃ v', R ρ v v' ∧ ∀ w, (part t ds off).run P w = .ok v' w := by
  unfold ipart at hp
  simp only [Option.bind_eq_some_iff] at hp
  obtain ⟨b, hb, hp⟩ := hp
  cases b with
  | true =>
    simp only [Option.bind_eq_some_iff] at hp
    obtain ⟨n, hn, hp⟩ := hp
    split at hp
    · rename_i hle
      cases hp
      refine ⟨.agg (ds.extract off (off + n)), ?_, fun w => ?_⟩
      · rw [R_agg]
        refine ⟨_, rfl, RA_mk (by simp [hr.1]) fun i v hv => ?_⟩
        rw [Array.getElem?_extract] at hv ⊢
        split at hv
        · rename_i hi
          obtain ⟨v', h1, h2⟩ := RA_get hr hv
          refine ⟨v', ?_, h2⟩
          rw [if_pos (by rw [← hr.1]; exact hi)]; exact h1
        · cases hv
      · simp [part, Sem.run_bind, rAgg hb w, Result.andThen, rSize hn w]
    · cases hp
  | false =>
    obtain ⟨v', h1, h2⟩ := RA_get hr hp
    exact ⟨v', h2, fun w => by simp [part, Sem.run_bind, rAgg hb w, Result.andThen, h1]⟩

/-- one part of a build laid over the cells -/
theorem foldl_set_get (off : Nat) : ∀ (l : List Value) (j : Nat) (cs : Array Value) (k : Nat),
    ((l.zipIdx j).foldl (fun cs (x : Value × Nat) => cs.setIfInBounds (off + x.2) x.1) cs)[k]? =
      if off + j ≤ k ∧ k < off + j + l.length ∧ k < cs.size then l[k - (off + j)]? else cs[k]? := by
  intro l
  induction l with
  | nil => intro j cs k; simp; intro h1 h2; omega
  | cons v l ih =>
    intro j cs k
    simp only [List.zipIdx_cons, List.foldl_cons, ih, Array.size_setIfInBounds, List.length_cons]
    by_cases h1 : off + (j + 1) ≤ k ∧ k < off + (j + 1) + l.length ∧ k < cs.size
    · rw [if_pos h1, if_pos (by omega)]
      rw [show k - (off + j) = (k - (off + (j + 1))) + 1 by omega]
      simp
    · rw [if_neg h1]
      by_cases h2 : off + j = k
      · subst h2
        by_cases h3 : off + j < cs.size
        · rw [if_pos (by omega)]; simp [h3]
        · rw [if_neg (by omega)]; simp [h3]
      · rw [if_neg (by omega), Array.getElem?_setIfInBounds_ne h2]

theorem foldl_set_size (off : Nat) : ∀ (l : List (Value × Nat)) (cs : Array Value), (l.foldl (fun cs (x : Value × Nat) => cs.setIfInBounds (off + x.2) x.1) cs).size = cs.size := by
  intro l
  induction l with
  | nil => intro cs; rfl
  | cons v l ih => intro cs; simp [ih]

theorem foldl_cells (off : Nat) (cs vs : Array Value) : vs.zipIdx.foldl (fun cs (x : Value × Nat) => cs.setIfInBounds (off + x.2) x.1) cs = (vs.toList.zipIdx 0).foldl (fun cs (x : Value × Nat) => cs.setIfInBounds (off + x.2) x.1) cs := by
  rw [← Array.foldl_toList]; simp

/-- the parts' relation: same places, related values -/
def PRel (ρ : RM) (a b : List (Nat × Value)) : Prop := a.length = b.length ∧ ∀ (i : Nat) p, a[i]? = some p → ∃ q, b[i]? = some q ∧ q.1 = p.1 ∧ R ρ p.2 q.2

theorem fill_sound {place place' : Nat → Option (Nat × Nat)} (hpl : ∀ i p, place i = some p → place' i = some p) : ∀ (a b : List (Nat × Value)) (cs ds r : Array Value), PRel ρ a b → RA ρ cs ds → Instr.fill place cs a = some r →
    ∃ r', Instr.fill place' ds b = some r' ∧ RA ρ r r' := by
  intro a
  induction a with
  | nil =>
    intro b cs ds r hp hr hf
    have : b = [] := by cases b <;> simp_all [PRel]
    subst this
    simp only [Instr.fill, Option.some.injEq] at hf
    subst hf
    exact ⟨ds, rfl, hr⟩
  | cons p a ih =>
    intro b cs ds r hp hr hf
    cases b with
    | nil => simp [PRel] at hp
    | cons q b =>
      obtain ⟨i, v⟩ := p
      obtain ⟨i', v'⟩ := q
      obtain ⟨q0, hq0, hq1, hq2⟩ := hp.2 0 (i, v) (by simp)
      simp only [List.getElem?_cons_zero, Option.some.injEq] at hq0
      subst hq0
      simp only at hq1 hq2
      subst hq1
      simp only [Instr.fill] at hf ⊢
      cases hpi : place i' with
      | none => simp [hpi] at hf
      | some pl =>
        obtain ⟨off, size⟩ := pl
        simp only [hpi] at hf
        rw [hpl _ _ hpi]
        simp only
        have hc := R_cells hq2
        split at hf
        · cases hf
        · rename_i hcond
          simp only [ne_eq, Bool.or_eq_true, decide_eq_true_eq, not_or, Decidable.not_not] at hcond
          rw [if_neg (by
            simp only [ne_eq, Bool.or_eq_true, decide_eq_true_eq, not_or, Decidable.not_not]
            rw [← hc.1, ← hr.1]; exact hcond)]
          refine ih b _ _ r ⟨by simpa using hp.1, fun k p hk => ?_⟩ ?_ hf
          · exact hp.2 (k + 1) p (by simpa using hk)
          · rw [foldl_cells, foldl_cells]
            refine RA_mk (by rw [foldl_set_size, foldl_set_size, hr.1]) fun k u hu => ?_
            rw [foldl_set_get] at hu ⊢
            simp only [Array.length_toList] at hu ⊢
            split at hu
            · rename_i hk
              rw [if_pos (by rw [← hc.1, ← hr.1]; exact hk)]
              rw [Array.getElem?_toList] at hu ⊢
              exact RA_get hc hu
            · rename_i hk
              rw [if_neg (by rw [← hc.1, ← hr.1]; exact hk)]
              exact RA_get hr hu

/-- related operands -/
abbrev EvR (ρ : RM) (ev ev' : Operand → Value) (o : Oper) : Prop := ∀ x ∈ o.op.operands, R ρ (ev x) (ev' x)

theorem RA_map {ev ev' : Operand → Value} {xs : Array Operand} (h : ∀ x ∈ xs, R ρ (ev x) (ev' x)) : RA ρ (xs.map ev) (xs.map ev') := by
  refine RA_mk (by simp) fun i v hv => ?_
  simp only [Array.getElem?_map, Option.map_eq_some_iff] at hv ⊢
  obtain ⟨x, hx, rfl⟩ := hv
  exact ⟨ev' x, ⟨x, hx, rfl⟩, h x (Array.mem_of_getElem? hx)⟩

theorem RA_append {a b a' b' : Array Value} (h1 : RA ρ a a') (h2 : RA ρ b b') : RA ρ (a ++ b) (a' ++ b') := by
  refine RA_mk (by simp [h1.1, h2.1]) fun i v hv => ?_
  rw [Array.getElem?_append] at hv ⊢
  rw [← h1.1]
  split at hv
  · rename_i hi; rw [if_pos hi]; exact RA_get h1 hv
  · rename_i hi; rw [if_neg hi]; exact RA_get h2 hv

theorem PRel_map {ev ev' : Operand → Value} {ps : Array (Nat × Operand)} (h : ∀ p ∈ ps, R ρ (ev p.2) (ev' p.2)) : PRel ρ (ps.map fun (i, x) => (i, ev x)).toList (ps.map fun (i, x) => (i, ev' x)).toList := by
  refine ⟨by simp, fun i p hp => ?_⟩
  simp only [Array.toList_map, List.getElem?_map, Option.map_eq_some_iff] at hp ⊢
  obtain ⟨⟨k, x⟩, hx, rfl⟩ := hp
  refine ⟨(k, ev' x), ⟨(k, x), hx, rfl⟩, rfl, h (k, x) ?_⟩
  exact Array.mem_toList_iff.1 (List.mem_of_getElem? hx)
end
end Go.Ideal

set_option linter.unusedSimpArgs false
set_option linter.unusedVariables false
namespace Go.Ideal
open Go Go.RowKit

section
variable {P : Program} {base : Nat} {w0 w : World} {ρ : RM} {h : IHp} {ev ev' : Operand → Value}

theorem R_bool {b : Bool} {v : Value} (h : R ρ (.bool b) v) : v = .bool b := by simpa only [R] using h
theorem R_int {k : IntKind} {n : Int} {v : Value} (h : R ρ (.int k n) v) : v = .int k n := by simpa only [R] using h
theorem R_str {s : ByteArray} {v : Value} (h : R ρ (.string s) v) : v = .string s := by simpa only [R] using h
theorem R_ptr {a : Addr} {v : Value} (h : R ρ (.pointer (some a)) v) : a.spot = none ∧ ∃ b, ρ.block a.block = some b ∧ v = .pointer (some ⟨b, a.off, none⟩) := by simpa only [R] using h
theorem R_slice {a : Addr} {l c : Nat} {v : Value} (h : R ρ (.slice (some a) l c) v) : a.spot = none ∧ ∃ b, ρ.block a.block = some b ∧ v = .slice (some ⟨b, a.off, none⟩) l (c + ρ.extra a.block) := by simpa only [R] using h
theorem R_slice0 {l c : Nat} {v : Value} (h : R ρ (.slice none l c) v) : v = .slice none l c := by simpa only [R] using h
theorem mkR_ptr {a : Addr} {b : Nat} (hs : a.spot = none) (h : ρ.block a.block = some b) : R ρ (.pointer (some a)) (.pointer (some ⟨b, a.off, none⟩)) := by
  simp only [R]; exact ⟨hs, b, h, rfl⟩
theorem mkR_slice {a : Addr} {b l c : Nat} (hs : a.spot = none) (h : ρ.block a.block = some b) : R ρ (.slice (some a) l c) (.slice (some ⟨b, a.off, none⟩) l (c + ρ.extra a.block)) := by
  simp only [R]; exact ⟨hs, b, h, rfl⟩

/-- what an operation yields in whatever world -/
def Gives (P : Program) (s : Sem Next) (v : Value) : Prop := ∀ w, s.run P w = .ok (.value v) w
theorem gives_of {s : Sem Value} {v : Value} (h : ∀ w, s.run P w = .ok v w) : Gives P (do pure (.value (← s))) v := fun w => by
  simp [Sem.run_bind, h w, Result.andThen]

theorem fieldAt_run {s : TypeId} {fs : Array Field} {f : Nat} {fld : Field} {n : Nat} (hu : P.underlying s = some (.struct fs)) (hf : fs[f]? = some fld) (hn : isz P fld.type = some n) (h0 : n ≠ 0) (b off : Nat) (w : World) :
    (Instr.fieldAt s (.pointer (some ⟨b, off, none⟩)) f).run P w = .ok (.pointer (some ⟨b, off + fld.offset, none⟩)) w := by
  simp [Instr.fieldAt, Sem.run_bind, rUnd hu w, Result.andThen, hf, Instr.sureAddr, fieldPlace, rSize hn w, h0, Addr.add_row]

theorem indexAt_slice {t e : TypeId} {k : IntKind} {i : Int} {len cap n b off : Nat} (hu : P.underlying t = some (.slice e)) (hn : isz P e = some n) (hi : 0 ≤ i ∧ i < len) (w : World) :
    (Instr.indexAt t (.slice (some ⟨b, off, none⟩) len cap) (.int k i)).run P w = .ok (.pointer (some ⟨b, off + i.toNat * n, none⟩)) w := by
  simp [Instr.indexAt, Sem.run_bind, asIntOf, rUnd hu w, Result.andThen, rSize hn w, hi, Addr.add_row]

theorem indexAt_array {t e : TypeId} {k : IntKind} {i : Int} {len n b off : Nat} (hu : P.underlying t = some (.array len e)) (hn : isz P e = some n) (hi : 0 ≤ i ∧ i < len) (w : World) :
    (Instr.indexAt t (.pointer (some ⟨b, off, none⟩)) (.int k i)).run P w = .ok (.pointer (some ⟨b, off + i.toNat * n, none⟩)) w := by
  simp [Instr.indexAt, Sem.run_bind, asIntOf, rUnd hu w, Result.andThen, rSize hn w, hi, Addr.add_row, Instr.sureAddr]

theorem extract_run {vs : Array Value} {i : Nat} {v : Value} (h : vs[i]? = some v) (w : World) : (Instr.extract (.tuple vs) i).run P w = .ok v w := by
  simp [Instr.extract, h]

theorem field_run {t : TypeId} {fs : Array Field} {f : Nat} {fld : Field} {cs : Array Value} {v : Value} (hu : P.underlying t = some (.struct fs)) (hf : fs[f]? = some fld)
    (hp : ∀ w, (part fld.type cs fld.offset).run P w = .ok v w) (w : World) : (Instr.field t (.agg cs) f).run P w = .ok v w := by
  simp [Instr.field, Sem.run_bind, rUnd hu w, Result.andThen, hf, asAgg, hp w]

theorem index_array {t e : TypeId} {k : IntKind} {i : Int} {len n : Nat} {cs : Array Value} {v : Value} (hu : P.underlying t = some (.array len e)) (hn : isz P e = some n) (hi : 0 ≤ i ∧ i < len)
    (hp : ∀ w, (part e cs (i.toNat * n)).run P w = .ok v w) (w : World) : (Instr.index t (.agg cs) (.int k i)).run P w = .ok v w := by
  simp [Instr.index, Sem.run_bind, asIntOf, rUnd hu w, Result.andThen, rSize hn w, hi, hp w]
theorem index_string {t : TypeId} {k : IntKind} {i : Int} {s : ByteArray} {b : UInt8} (hu : P.underlying t = some .string) (hi : 0 ≤ i) (hb : s[i.toNat]? = some b) (w : World) :
    (Instr.index t (.string s) (.int k i)).run P w = .ok (.int .u8 b.toNat) w := by
  simp [Instr.index, Sem.run_bind, asIntOf, rUnd hu w, Result.andThen, hi, hb]

theorem mapM_fields : ∀ (fs : List Field) (w : World), (∀ f ∈ fs, (isz P f.type).isSome = true) →
    (fs.mapM (m := Sem) fun f => do pure (f.offset, ← sizeOf f.type)).run P w = .ok (fs.map fun f => (f.offset, (isz P f.type).getD 0)) w := by
  intro fs
  induction fs with
  | nil => intro w _; simp
  | cons f fs ih =>
    intro w hf
    obtain ⟨n, hn⟩ := Option.isSome_iff_exists.1 (hf f (by simp))
    rw [List.mapM_cons]
    simp only [Sem.run_bind, rSize hn w, Result.andThen, ih w fun g hg => hf g (by simp [hg]), Sem.run_pure, List.map_cons, hn, Option.getD_some]

theorem build_sound {t : TypeId} {parts parts' : Array (Nat × Value)} {v : Value} (hb : ibuild P t parts = some v) (hp : PRel ρ parts.toList parts'.toList) :
    ∃ v', R ρ v v' ∧ ∀ w, (Instr.build t parts').run P w = .ok v' w := by
  unfold ibuild at hb
  simp only [Option.bind_eq_some_iff] at hb
  obtain ⟨z, hz, hb⟩ := hb
  have hflat := (rZero hz default).2
  have hzr : RA ρ z.cells z.cells := R_cells (flat_R hflat)
  split at hb
  · rename_i fields hu
    split at hb
    · rename_i hall
      simp only [Option.map_eq_some_iff] at hb
      obtain ⟨cells, hfill, rfl⟩ := hb
      have hall' : ∀ f ∈ fields.toList, (isz P f.type).isSome = true := by
        intro f hf
        rw [Array.all_eq_true_iff_forall_mem] at hall
        exact hall f (Array.mem_toList_iff.1 hf)
      have hplace : ∀ (i : Nat) p, ((fields[i]?).bind fun f => (isz P f.type).map fun s => (f.offset, s)) = some p → ((fields.toList.map fun f => (f.offset, (isz P f.type).getD 0)).toArray)[i]? = some p := by
        intro i p hp
        simp only [Option.bind_eq_some_iff, Option.map_eq_some_iff] at hp
        obtain ⟨f, hf, s, hs, rfl⟩ := hp
        simp [hf, hs]
      obtain ⟨r', hr', hR⟩ := fill_sound hplace _ _ _ _ _ hp hzr hfill
      refine ⟨.agg r', ?_, fun w => ?_⟩
      · rw [R_agg]; exact ⟨r', rfl, hR⟩
      · have hm : (fields.mapM (m := Sem) fun f => do pure (f.offset, ← sizeOf f.type)).run P w = .ok (fields.toList.map fun f => (f.offset, (isz P f.type).getD 0)).toArray w := by
          rw [Array.mapM_eq_mapM_toList, ← bind_pure_comp]
          simp only [Sem.run_bind, mapM_fields fields.toList w hall', Result.andThen, Sem.run_pure]
        simp only [Instr.build, Sem.run_bind, (rZero hz w).1, Result.andThen, rUnd hu w, hm, hr', Sem.run_pure]
    · cases hb
  · rename_i n e hu
    simp only [Option.bind_eq_some_iff, Option.map_eq_some_iff] at hb
    obtain ⟨s, hs, cells, hfill, rfl⟩ := hb
    obtain ⟨r', hr', hR⟩ := fill_sound (place' := fun i => some (i * s, s)) (fun _ _ h => h) _ _ _ _ _ hp hzr hfill
    refine ⟨.agg r', ?_, fun w => ?_⟩
    · rw [R_agg]; exact ⟨r', rfl, hR⟩
    · simp only [Instr.build, Sem.run_bind, (rZero hz w).1, Result.andThen, rUnd hu w, rSize hs w, hr', Sem.run_pure]
  · cases hb
/-! slices of slices -/
theorem HRel.exact (H : HRel P base w0 ρ h w) {b : Nat} (he : iexact h b = true) : ρ.extra b = 0 := by
  unfold iexact at he
  split at he
  · rename_i ho; simp [RM.extra, ho]
  · rename_i ho
    split at he
    · rename_i c e x hc
      obtain ⟨r, y, hρ, _, _, hO⟩ := H.blk _ _ hc
      obtain ⟨_, _, _, _, hx, _⟩ := hO
      simp [RM.extra, ho, hρ, hx he]
    · cases he

theorem bound_run {v v' : Value} {y y' i : Nat} {code : BoundsCode} (hb : ibound v y = some i) (hr : R ρ v v') (hy : y ≤ y') (w : World) : (Instr.sliceBound v' y' code).run P w = .ok i w := by
  unfold ibound at hb
  split at hb
  · rename_i k n
    split at hb
    · rename_i hn
      cases hb
      have := R_int hr
      subst this
      have hn' : 0 ≤ n ∧ n ≤ (y' : Int) := ⟨hn.1, by omega⟩
      simp only [Instr.sliceBound, Sem.run_bind, asIntOf, Sem.run_pure, Result.andThen, if_pos hn']
    · cases hb
  · cases hb

theorem bounds_run {isS : Bool} {len cap cap' l hh m : Nat} {lo hi lo' hi' : Option Value} (hb : ibounds len cap lo hi = some (l, hh, m)) (hcap : cap ≤ cap')
    (hlo : ∀ v, lo = some v → ∃ v', lo' = some v' ∧ R ρ v v') (hlo0 : lo = none → lo' = none) (hhi : ∀ v, hi = some v → ∃ v', hi' = some v' ∧ R ρ v v') (hhi0 : hi = none → hi' = none) (w : World) :
    (Instr.sliceBounds isS len cap' lo' hi' none).run P w = .ok (l, hh, cap') w ∧ l ≤ hh ∧ hh ≤ cap ∧ m = cap := by
  unfold ibounds at hb
  simp only [Option.bind_eq_some_iff] at hb
  obtain ⟨h1, hh1, l1, hl1, hb⟩ := hb
  split at hb
  · rename_i hc
    simp only [Option.some.injEq, Prod.mk.injEq] at hb
    obtain ⟨rfl, rfl, rfl⟩ := hb
    have e1 : ∀ code, (match hi' with | some v => Instr.sliceBound v cap' code | none => pure len : Sem Nat).run P w = .ok h1 w := by
      intro code
      cases hi with
      | none => rw [hhi0 rfl]; simp at hh1; simp [hh1]
      | some v => obtain ⟨v', rfl, hr⟩ := hhi v rfl; exact bound_run hh1 hr hcap w
    have hle : l1 ≤ h1 := by
      cases lo with
      | none => simp at hl1; omega
      | some v =>
        simp only [ibound] at hl1
        split at hl1
        · split at hl1
          · rename_i hn; cases hl1; omega
          · cases hl1
        · cases hl1
    have e2 : ∀ code, (match lo' with | some v => Instr.sliceBound v h1 code | none => pure 0 : Sem Nat).run P w = .ok l1 w := by
      intro code
      cases lo with
      | none => rw [hlo0 rfl]; simp at hl1; simp [hl1]
      | some v => obtain ⟨v', rfl, hr⟩ := hlo v rfl; exact bound_run hl1 hr (Nat.le_refl _) w
    refine ⟨?_, hle, hc, rfl⟩
    unfold Instr.sliceBounds
    cases hi' with
    | none =>
      have := e1 .sliceAcap
      simp only [Sem.run_pure, Result.ok.injEq, and_true] at this
      subst this
      have e2' := e2 .sliceB
      cases lo' with
      | none => simp at e2'; simp [Sem.run_bind, Result.andThen, e2']
      | some v => simp only at e2'; simp [Sem.run_bind, Result.andThen, e2']
    | some v =>
      have e1' := e1 (if isS then .sliceAcap else .sliceAlen)
      simp only at e1'
      have e2' := e2 .sliceB
      cases lo' with
      | none => simp at e2'; simp [Sem.run_bind, Result.andThen, e1', e2']
      | some u => simp only at e2'; simp [Sem.run_bind, Result.andThen, e1', e2']
  · cases hb

theorem slice_sound (H : HRel P base w0 ρ h w) {t : TypeId} {x x' v : Value} {lo hi mx lo' hi' mx' : Option Value} (hs : islice P h t x lo hi mx = some v) (hx : R ρ x x')
    (hlo : ∀ v, lo = some v → ∃ v', lo' = some v' ∧ R ρ v v') (hlo0 : lo = none → lo' = none) (hhi : ∀ v, hi = some v → ∃ v', hi' = some v' ∧ R ρ v v') (hhi0 : hi = none → hi' = none) (hmx : mx = none → mx' = none) :
    ∃ v', R ρ v v' ∧ ∀ w, (Instr.sliceAt t x' lo' hi' mx').run P w = .ok v' w := by
  unfold islice at hs
  split at hs
  · rename_i e len cap hu
    simp only [Option.bind_eq_some_iff] at hs
    obtain ⟨⟨l, hh, m⟩, hb, s, hsz, hs⟩ := hs
    cases hs
    have := R_slice0 hx; subst this
    rw [hmx rfl]
    refine ⟨.slice none (hh - l) (cap - l), ?_, fun w => ?_⟩
    · obtain ⟨_, _, _, rfl⟩ := bounds_run (P := P) (isS := true) hb (Nat.le_refl _) hlo hlo0 hhi hhi0 w
      simp only [R]
    · obtain ⟨hrun, _⟩ := bounds_run (P := P) (isS := true) hb (Nat.le_refl _) hlo hlo0 hhi hhi0 w
      simp [Instr.sliceAt, Instr.slice, Sem.run_bind, rUnd hu w, Result.andThen, hrun, rSize hsz w]
  · rename_i e a len cap hu
    simp only [Option.bind_eq_some_iff] at hs
    obtain ⟨⟨l, hh, m⟩, hb, s, hsz, hs⟩ := hs
    obtain ⟨hsp, b, hblk, rfl⟩ := R_slice hx
    rw [hmx rfl]
    obtain ⟨_, hl, hhc, hmc⟩ := bounds_run (P := P) (isS := true) (cap' := cap + ρ.extra a.block) hb (by omega) hlo hlo0 hhi hhi0 w
    have hmc' := hmc.symm
    clear hmc
    subst hmc'
    have hrun := fun w => (bounds_run (P := P) (isS := true) (cap' := cap + ρ.extra a.block) hb (by omega) hlo hlo0 hhi hhi0 w).1
    have real : ∀ w, (Instr.sliceAt t (.slice (some ⟨b, a.off, none⟩) len (cap + ρ.extra a.block)) lo' hi' none).run P w =
        .ok (.slice (if cap + ρ.extra a.block = l then some ⟨b, a.off, none⟩ else some ⟨b, a.off + l * s, none⟩) (hh - l) (cap + ρ.extra a.block - l)) w := by
      intro w
      simp [Instr.sliceAt, Instr.slice, Sem.run_bind, rUnd hu w, Result.andThen, hrun w, rSize hsz w, Addr.add_row]
    simp only at hs
    split at hs
    · rename_i hml
      split at hs
      · rename_i hex
        cases hs
        have hx0 := H.exact hex
        refine ⟨_, ?_, real⟩
        rw [hx0, if_pos (by omega), show cap + 0 - l = (cap - l) + ρ.extra a.block by rw [hx0]; omega]
        exact mkR_slice hsp hblk
      · cases hs
    · rename_i hml
      cases hs
      refine ⟨_, ?_, real⟩
      have : (if cap + ρ.extra a.block = l then some (⟨b, a.off, none⟩ : Addr) else some ⟨b, a.off + l * s, none⟩) = some ⟨b, a.off + l * s, none⟩ := by
        split
        · have : l = 0 := by omega
          subst this; simp
        · rfl
      rw [this, show cap + ρ.extra a.block - l = (cap - l) + ρ.extra a.block by omega]
      exact mkR_slice (a := { block := a.block, off := a.off + l * s }) rfl hblk
  · rename_i s hu
    simp only [Option.bind_eq_some_iff] at hs
    obtain ⟨⟨l, hh, m⟩, hb, hs⟩ := hs
    cases hs
    have := R_str hx; subst this
    rw [hmx rfl]
    refine ⟨.string (s.extract l hh), by simp only [R], fun w => ?_⟩
    obtain ⟨hrun, _⟩ := bounds_run (P := P) (isS := false) hb (Nat.le_refl _) hlo hlo0 hhi hhi0 w
    simp [Instr.sliceAt, Instr.slice, Sem.run_bind, rUnd hu w, Result.andThen, hrun]
  · cases hs
end
end Go.Ideal
