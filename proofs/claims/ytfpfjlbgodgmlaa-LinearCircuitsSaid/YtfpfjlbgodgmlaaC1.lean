/- Part 1 of what the proof stands on: an interpreter over an ideal memory that is proved sound, steps over it, and contracts of the functions that are called. No condition: no law is claimed here. -/
import Derived.OrdersHeld
import Derived.Below
import Derived.Laws.Cells
import Derived.Laws.Sem
import Derived.Laws.World
import Derived.Laws.CopyRow
-- IdealA
namespace Go.Ideal
open Go

/-! ### Values without addresses -/
def flatN : Nat → Value → Bool
  | _, .bool _ | _, .int _ _ | _, .float _ _ | _, .complex _ _ _ | _, .string _ => true
  | _, .pointer a => a.isNone
  | _, .slice a _ _ => a.isNone
  | _, .map a => a.isNone
  | _, .chan a => a.isNone
  | _, .nilFunc | _, .nilIface => true
  | n + 1, .func (.func _) f c => f.toList.all (flatN n) && c.toList.all (flatN n)
  | n + 1, .iface _ v => flatN n v
  | n + 1, .agg cs => cs.toList.all (flatN n)
  | n + 1, .tuple cs => cs.toList.all (flatN n)
  | _, _ => false
def flat (v : Value) : Bool := flatN 5 v

/-! ### Equality of values of one cell, as a Bool -/
def veq : Value → Value → Bool
  | .bool a, .bool b => a == b
  | .int j a, .int k b => j == k && a == b
  | .float j a, .float k b => j == k && a == b
  | .complex j a c, .complex k b d => j == k && a == b && c == d
  | .string a, .string b => a.data.toList == b.data.toList
  | .pointer a, .pointer b => a == b
  | .slice a l c, .slice b m d => a == b && l == m && c == d
  | .map a, .map b => a == b
  | .nilIface, .nilIface => true
  | .nilFunc, .nilFunc => true
  | _, _ => false
theorem veq_eq {v w : Value} (h : veq v w = true) : v = w := by
  unfold veq at h
  split at h <;> simp_all
  rename_i a b
  cases a; cases b; simp_all

/-! ### The ideal heap: old blocks have odd numbers and are read alone; new ones even numbers -/
inductive IObj where
  | cells (c : List Value) (elem : TypeId) (exact : Bool)
  | map (es : List MapEntry) (clock : Nat)
  | dead
  | defr
  | loop (nt : Nat) (T : Nat → Value) (params : Array Tmp) (assign body : Code) (state : LoopState) (pending : Option Code)
  deriving Inhabited
structure IHp where
  old : Nat → Nat → Option Value
  new : List IObj

def IHp.fresh (h : IHp) : Nat := 2 * h.new.length
def IHp.push (h : IHp) (o : IObj) : IHp := { h with new := h.new ++ [o] }
def IHp.cell? (h : IHp) (b off : Nat) : Option Value :=
  if b % 2 = 1 then h.old (b / 2) off
  else match h.new[b / 2]? with
    | some (.cells c _ _) => c[off]?
    | _ => none
def IHp.row (h : IHp) (b : Nat) : Nat → Nat → Option (List Value)
  | _, 0 => some []
  | off, n + 1 => (h.cell? b off).bind fun v => (h.row b (off + 1) n).bind fun vs => some (v :: vs)
def IHp.setCell (h : IHp) (b off : Nat) (v : Value) : Option IHp :=
  if b % 2 = 1 then none
  else match h.new[b / 2]? with
    | some (.cells c e x) => if off < c.length then some { h with new := h.new.set (b / 2) (.cells (c.set off v) e x) } else none
    | _ => none
def IHp.setRow (h : IHp) (b : Nat) : Nat → List Value → Option IHp
  | _, [] => some h
  | off, v :: vs => (h.setCell b off v).bind fun h' => h'.setRow b (off + 1) vs

/-! ### Types -/
def iagg (P : Program) (t : TypeId) : Option Bool :=
  (P.underlying t).map fun | .struct _ | .array _ _ => true | _ => false
def isz (P : Program) (t : TypeId) : Option Nat := (P.info? t).map (·.size)
def izero (P : Program) (t : TypeId) : Option Value :=
  (P.info? t).bind fun i => i.zero.bind fun v => if flat v then some v else none
def ipart (P : Program) (t : TypeId) (cs : Array Value) (off : Nat) : Option Value :=
  (iagg P t).bind fun
    | true => (isz P t).bind fun n => if off + n ≤ cs.size then some (.agg (cs.extract off (off + n))) else none
    | false => cs[off]?

/-! ### A Sem that touches nothing -/
def pureOf {α : Type} (P : Program) : Sem α → Option α
  | .pure a => some a
  | .program k => pureOf P (k P)
  | .mark _ k => pureOf P k
  | _ => none
theorem pureOf_run {α : Type} {P : Program} : ∀ {s : Sem α} {a : α}, pureOf P s = some a → ∀ w, s.run P w = .ok a w := by
  intro s
  induction s with
  | pure a => intro b h w; simp [pureOf] at h; subst h; rfl
  | program k ih => intro b h w; simp only [pureOf] at h; simp only [Sem.run]; exact ih P h w
  | mark m k ih => intro b h w; simp only [pureOf] at h; simp only [Sem.run]; exact ih h w
  | _ => intro b h; simp [pureOf] at h

/-! ### Operations that read and write no memory -/
def ibound (v : Value) (y : Nat) : Option Nat := match v with | .int _ i => if 0 ≤ i ∧ i ≤ y then some i.toNat else none | _ => none
def ibounds (len cap : Nat) (lo hi : Option Value) : Option (Nat × Nat × Nat) :=
  (match hi with | some v => ibound v cap | none => some len).bind fun h =>
  (match lo with | some v => ibound v h | none => some 0).bind fun l => if h ≤ cap then some (l, h, cap) else none

def iexact (h : IHp) (b : Nat) : Bool :=
  if b % 2 = 1 then true else match h.new[b / 2]? with
    | some (.cells _ _ x) => x
    | _ => false

/-- no place of a slice's own (a slice of nothing that came so) -/
def spotted : Option Addr → Bool
  | some a => a.spot.isSome
  | none => false
/-- a slice of a slice: only where the address that comes of it is fixed -/
def islice (P : Program) (h : IHp) (t : TypeId) (x : Value) (lo hi mx : Option Value) : Option Value :=
  match P.underlying t, x, mx with
  | some (.slice e), .slice none len cap, none => (ibounds len cap lo hi).bind fun (l, hh, m) => (isz P e).bind fun _ => some (.slice none (hh - l) (m - l))
  | some (.slice e), .slice (some a) len cap, none =>
    if spotted (some a) then (if len = 0 ∧ cap = 0 then (ibounds 0 0 lo hi).bind fun (_, _, _) => (isz P e).bind fun _ => some (.slice (some a) 0 0) else none) else
    (ibounds len cap lo hi).bind fun (l, hh, m) => (isz P e).bind fun s =>
      if m = l ∧ l ≠ 0 then
        if iexact h a.block then some (.slice (some a) (hh - l) (m - l)) else if hh = l then some (.slice (some ⟨a.block, a.off, some (l * s)⟩) 0 1) else none
      else some (.slice (some { block := a.block, off := a.off + l * s }) (hh - l) (m - l))
  | some .string, .string s, none => (ibounds s.size s.size lo hi).bind fun (l, hh, _) => some (.string (s.extract l hh))
  | _, _, _ => none

def ifill (place : Nat → Option (Nat × Nat)) (cells : Array Value) (parts : List (Nat × Value)) : Option (Array Value) := Instr.fill place cells parts

def ibuild (P : Program) (t : TypeId) (parts : Array (Nat × Value)) : Option Value :=
  (izero P t).bind fun z =>
  match P.underlying t with
  | some (.struct fields) =>
    if fields.all fun f => (isz P f.type).isSome then
      (ifill (fun i => (fields[i]?).bind fun f => (isz P f.type).map fun s => (f.offset, s)) z.cells parts.toList).map .agg
    else none
  | some (.array _ e) => (isz P e).bind fun s => (ifill (fun i => some (i * s, s)) z.cells parts.toList).map .agg
  | _ => none

def isNilConst : Operand → Bool
  | .const (.pointer none) | .const (.slice none _ _) | .const (.map none) | .const .nilFunc => true
  | _ => false
/-- 'x == nil' -/
def inil (P : Program) (t : TypeId) (x y : Value) : Option Bool :=
  match P.underlying t, x, y with
  | some (.slice _), .slice a _ _, .slice none _ _ => some a.isNone
  | some (.pointer _), .pointer a, .pointer none => some a.isNone
  | some (.map _ _), .map a, .map none => some a.isNone
  | some (.func _ _ _), .nilFunc, .nilFunc => some true
  | some (.func _ _ _), .func _ _ _, .nilFunc => some false
  | _, _, _ => none

def opFlat (ev : Operand → Value) (o : Oper) : Bool := o.op.operands.toList.all fun x => flat (ev x)

/-- an operation on flat values -/
def iflat (P : Program) (ev : Operand → Value) (o : Oper) : Option Value :=
  match pureOf P (execOp ev o) with
  | some (.value v) => if flat v then some v else none
  | _ => none

def ipure (P : Program) (h : IHp) (ev : Operand → Value) (o : Oper) : Option Value :=
  match o.op with
  | .move x | .assign x => some (ev x)
  | .pick c a b => match ev c with | .bool t => some (if t then ev a else ev b) | _ => none
  | .extract t i => match ev t with | .tuple vs => vs[i]? | _ => none
  | .field xt x f =>
    match P.underlying xt, ev x with
    | some (.struct fs), .agg cs => (fs[f]?).bind fun f => ipart P f.type cs f.offset
    | _, _ => none
  | .fieldAddr s x f =>
    match P.underlying s, ev x with
    | some (.struct fs), .pointer (some a) => (fs[f]?).bind fun f => (isz P f.type).bind fun n => if n = 0 then none else some (.pointer (some { block := a.block, off := a.off + f.offset }))
    | _, _ => none
  | .indexAddr t x ix =>
    match P.underlying t, ev x, ev ix with
    | some (.slice e), .slice (some a) len _, .int _ i => if 0 ≤ i ∧ i < len then (isz P e).bind fun s => some (.pointer (some { block := a.block, off := a.off + i.toNat * s })) else none
    | some (.array len e), .pointer (some a), .int _ i => if 0 ≤ i ∧ i < len then (isz P e).bind fun s => some (.pointer (some { block := a.block, off := a.off + i.toNat * s })) else none
    | _, _, _ => none
  | .index t x ix =>
    match P.underlying t, ev x, ev ix with
    | some (.array len e), .agg cs, .int _ i => if 0 ≤ i ∧ i < len then (isz P e).bind fun s => ipart P e cs (i.toNat * s) else none
    | some .string, .string s, .int _ i => if 0 ≤ i then (s[i.toNat]?).map fun b => .int .u8 b.toNat else none
    | _, _, _ => none
  | .build t parts => ibuild P t (parts.map fun (i, x) => (i, ev x))
  | .makeFunc (.func f) first captured => some (.func (.func f) (first.map ev) (captured.map ev))
  | .slice t x lo hi mx => islice P h t (ev x) (lo.map ev) (hi.map ev) (mx.map ev)
  | .nilCheck x => match ev x with | .pointer (some a) => some (.pointer (some a)) | .func (.func f) a b => some (.func (.func f) a b) | _ => none
  | .call { callee := .builtin .len, args, argTypes } =>
    match args[0]?, argTypes[0]? with
    | some x, some t =>
      match P.underlying t, ev x with
      | some (.slice _), .slice _ n _ => some (.int .i64 n)
      | some .string, .string s => some (.int .i64 s.size)
      | some (.array n _), _ => some (.int .i64 n)
      | _, _ => none
    | _, _ => none
  | .call { callee := .builtin .cap, args, argTypes } =>
    match args[0]?, argTypes[0]? with
    | some x, some t =>
      match P.underlying t, ev x with
      | some (.slice _), .slice none _ c => some (.int .i64 c)
      | _, _ => none
    | _, _ => none
  | .binOp op t x y _ =>
    match (if isNilConst y then (match op with | .eql => (inil P t (ev x) (ev y)) | .neq => (inil P t (ev x) (ev y)).map not | _ => none) else none) with
    | some b => some (.bool b)
    | none =>
      if flat (ev x) && flat (ev y) then iflat P ev o else none
  | .unOp .. | .convert .. | .call _ => if opFlat ev o then iflat P ev o else none
  | _ => none

/-! ### Operations on memory -/
def roomOk (n : Nat) : Bool := n ≤ 2 ^ 47 + 2 ^ 20

def iload (P : Program) (h : IHp) (t : TypeId) (v : Value) : Option Value :=
  match v with
  | .pointer (some a) =>
    (iagg P t).bind fun
      | true => (isz P t).bind fun n => (h.row a.block a.off n).map fun vs => .agg vs.toArray
      | false => h.cell? a.block a.off
  | _ => none

def istore (P : Program) (h : IHp) (t : TypeId) (a v : Value) : Option IHp :=
  match a with
  | .pointer (some a) =>
    (isz P t).bind fun n => if v.cells.size = n then h.setRow a.block a.off v.cells.toList else none
  | _ => none

def isCellV : Value → Bool
  | .agg _ | .tuple _ => false
  | _ => true

def isRowV (v : Value) : Bool := v.cells.toList.all isCellV

def IHp.rowAt (h : IHp) (x : Option Addr) (n s : Nat) : Option (List Value) :=
  match x with
  | none => if n = 0 then some [] else none
  | some b => h.row b.block b.off (n * s)

def izeros (z : Array Value) (n : Nat) : List Value := (List.range n).map (fun i => z.getD (i % z.size) undef)

/-- append of a made slice, to nothing -/
def iappmake (P : Program) (h : IHp) (e : TypeId) (base : Option Addr) (len cap n : Nat) : Option (Value × IHp) :=
  (P.info? e).bind fun ei => (izero P e).bind fun z =>
  if z.cells.size ≠ ei.size || ei.size = 0 || !isRowV z then none else
  if base = none ∧ len = 0 ∧ cap = 0 ∧ n ≠ 0 ∧ ei.bytes ≠ 0 ∧ n * ei.bytes ≤ 2 ^ 40 then
    some (.slice (some { block := h.fresh, off := 0 }) n n, h.push (.cells (izeros z.cells (n * ei.size)) e false))
  else none

def iappend (P : Program) (h : IHp) (argTypes : Array TypeId) (args : Array Value) : Option (Value × IHp) :=
  match argTypes[0]?, argTypes[1]?, args[0]?, args[1]? with
  | some t, some t1, some (Value.slice base len cap), some x =>
    match P.underlying t, P.underlying t1, x with
    | some (.slice e), some (.slice _), .slice xb n _ =>
      (P.info? e).bind fun ei => ei.zero.bind fun z =>
      if ei.size = 0 || ei.bytes = 0 || z.cells.size ≠ ei.size then none else
      if roomOk ((len + n) * ei.bytes) && !spotted base then
        (h.rowAt xb n ei.size).bind fun new =>
        if len + n ≤ cap then
          match base with
          | none => if n = 0 then some (.slice none (len + n) cap, h) else none
          | some a => (h.setRow a.block (a.off + len * ei.size) new).map fun h' => (.slice base (len + n) cap, h')
        else
          match base with
          | none => if len = 0 ∧ cap = 0 then some (.slice (some { block := h.fresh, off := 0 }) n n, h.push (.cells new e false)) else none
          | some a =>
            (h.rowAt base len ei.size).bind fun old =>
            if iexact h a.block then
              some (.slice (some { block := h.fresh, off := 0 }) (len + n) (len + n), h.push (.cells (old ++ new) e false))
            else
              match h.new[a.block / 2]? with
              | some (.cells c el _) =>
                if a.off = 0 ∧ c.length = cap * ei.size ∧ el = e then
                  some (.slice (some { block := h.fresh, off := 0 }) (len + n) (len + n), { h with new := (h.new.set (a.block / 2) .dead) ++ [IObj.cells (old ++ new) e false] })
                else none
              | _ => none
      else none
    | some (.slice e), some (.int _), .int .i64 n => if 0 ≤ n then iappmake P h e base len cap n.toNat else none
    | _, _, _ => none
  | _, _, _, _ => none

/-- copy, into memory that is there -/
def icopy (P : Program) (h : IHp) (argTypes : Array TypeId) (args : Array Value) : Option (Value × IHp) :=
  match argTypes[0]?, args[0]?, args[1]? with
  | some t, some (Value.slice (some a) dl _), some (Value.slice xb n _) =>
    match P.underlying t with
    | some (.slice e) =>
      if spotted (some a) then none else
      (isz P e).bind fun s => (h.rowAt xb (Nat.min n dl) s).bind fun new => (h.setRow a.block a.off new).map fun h' => (.int .i64 (Nat.min n dl : Nat), h')
    | _ => none
  | _, _, _ => none

def plainKey : TypeDesc → Bool
  | .int _ | .string | .bool => true
  | _ => false

def ilookup (P : Program) (h : IHp) (t : TypeId) (m k : Value) (ok : Bool) : Option Value :=
  match P.underlying t, m with
  | some (.map kt et), .map (some r) =>
    if r % 2 = 1 then none else
    match h.new[r / 2]?, P.underlying kt with
    | some (.map es _), some kd =>
      if plainKey kd && flat k then
        match Instr.findNow kd k es 0 with
        | some (some (_, v)) => some (if ok then .tuple #[v, .bool true] else v)
        | some none => (izero P et).map fun v => if ok then .tuple #[v, .bool false] else v
        | none => none
      else none
    | _, _ => none
  | _, _ => none

def iinsert (P : Program) (h : IHp) (t : TypeId) (m k v : Value) : Option IHp :=
  match P.underlying t, m with
  | some (.map kt _), .map (some r) =>
    if r % 2 = 1 then none else
    match h.new[r / 2]?, P.underlying kt with
    | some (.map es ck), some kd =>
      if plainKey kd && flat k then
        match Instr.findNow kd k es 0 with
        | some none => some { h with new := h.new.set (r / 2) (.map (es ++ [({ key := k, val := v, born := ck } : MapEntry)]) (ck + 1)) }
        | _ => none
      else none
    | _, _ => none
  | _, _ => none


/-- bytes taken for bytes: the very slice -/
def iconv (P : Program) (h : IHp) (src dst : TypeId) (v : Value) : Option Value :=
  match v with
  | .slice (some a) n c =>
    if src == dst && a.spot.isNone && a.block % 2 == 0 then
      match P.underlying src with
      | some (.slice e) =>
        match P.underlying e with
        | some (.int .u8) =>
          match h.new[a.block / 2]? with
          | some (.cells _ _ _) => some (.slice (some a) n c)
          | _ => none
        | _ => none
      | _ => none
    else none
  | _ => none

theorem iconv_ne {P : Program} {h : IHp} {src dst : TypeId} {v : Value} (hq : (src != dst) = true) : iconv P h src dst v = none := by
  unfold iconv
  split
  · have : (src == dst) = false := by simpa using hq
    rw [this]; rfl
  · rfl
/-- the cells of the bytes that a string is made of -/
def ibtsRow (P : Program) (h : IHp) (src dst : TypeId) (v : Value) : Option (Nat × Nat × List Value) :=
  match v with
  | .slice (some a) n _ =>
    if a.spot.isNone then
      match P.underlying src, P.underlying dst with
      | some (.slice e), some .string =>
        match P.underlying e with
        | some (.int .u8) => (h.row a.block a.off n).map fun vs => (a.block, a.off, vs)
        | _ => none
      | _, _ => none
    else none
  | _ => none
def bytesStr : List Value → ByteArray → Option ByteArray
  | [], s => some s
  | .int .u8 n :: vs, s => bytesStr vs (s.push (UInt8.ofNat n.toNat))
  | _ :: _, _ => none
/-- a value (undef where there is none) and the heap behind it -/
def iheap (P : Program) (h : IHp) (ev : Operand → Value) (o : Oper) : Option (Value × IHp) :=
  match o.op with
  | .load t a => (iload P h t (ev a)).map (·, h)
  | .store t a x => if isRowV (ev x) then (istore P h t (ev a) (ev x)).map (undef, ·) else none
  | .alloc t => (izero P t).bind fun z => if isRowV z then some (.pointer (some { block := h.fresh, off := 0 }), h.push (.cells z.cells.toList t true)) else none
  | .box t x => if isRowV (ev x) then some (.pointer (some { block := h.fresh, off := 0 }), h.push (.cells (ev x).cells.toList t true)) else none
  | .buildSlice t len parts =>
    match P.underlying t with
    | some (.slice e) =>
      (isz P e).bind fun s => if s = 0 || len * s > 2 ^ 24 then none else
      (izero P e).bind fun z => if z.cells.size ≠ s then none else
      (ifill (fun i => some (i * s, s)) (izeros z.cells (len * s)).toArray (parts.map fun (i, x) => (i, ev x)).toList).bind fun cells =>
      if cells.toList.all isCellV then
        some (.slice (some { block := h.fresh, off := 0 }) len len, h.push (.cells cells.toList e true))
      else none
    | _ => none
  | .makeSlice t l c =>
    match P.underlying t, ev l, ev c with
    | some (.slice e), .int _ l, .int _ c =>
      (P.info? e).bind fun ei => (izero P e).bind fun z =>
      if z.cells.size ≠ ei.size || ei.size = 0 || !isRowV z then none else
      if 0 ≤ l ∧ l ≤ c ∧ c ≤ 2 ^ 40 ∧ ei.bytes * c ≤ 2 ^ 46 then
        some (.slice (some { block := h.fresh, off := 0 }) l.toNat c.toNat, h.push (.cells (izeros z.cells (c.toNat * ei.size)) e true))
      else none
    | _, _, _ => none
  | .makeMap _ none => some (.map (some h.fresh), h.push (.map [] 0))
  | .mapUpdate t m k x | .insert t m k x => (iinsert P h t (ev m) (ev k) (ev x)).map (undef, ·)
  | .lookup t m k ok => (ilookup P h t (ev m) (ev k) ok).map (·, h)
  | .call { callee := .builtin .append, args, argTypes } => if args.size = 2 then iappend P h argTypes (args.map ev) else none
  | .call { callee := .builtin .copy, args, argTypes } => if args.size = 2 then icopy P h argTypes (args.map ev) else none
  | .convert src dst x =>
    match iconv P h src dst (ev x) with
    | some v => some (v, h)
    | none =>
      match ibtsRow P h src dst (ev x) with
      | some r => (bytesStr r.2.2 .empty).map fun s => (.string s, h)
      | none => (ipure P h ev o).map (·, h)
  | _ => (ipure P h ev o).map (·, h)

/-- what is called: a function with a body, or a loop's yield -/
inductive Cl where
  | fn (f : FuncId)
  | yld (l : Nat)
def icalleeV (P : Program) (v : Value) (args : Array Value) : Option (Cl × Array Value) :=
  match v with
  | .func (.func g) first captured =>
    match P.funcs[g]? with
    | some fn => if fn.name == "runtime.NumGoroutine" then none else if fn.body.isSome then some (.fn g, (first ++ args) ++ captured) else none
    | none => none
  | .func (.yield l) first captured => if first.size = 0 ∧ captured.size = 0 then some (.yld l, args) else none
  | _ => none
def icallee (P : Program) (ev : Operand → Value) (o : Oper) : Option (Cl × Array Value) :=
  match o.op with
  | .call { callee := .value f, args, .. } => icalleeV P (ev f) (args.map ev)
  | _ => none

/-! ### The interpreter -/
structure St where
  s : Nat → Value
  h : IHp
  nt : Nat := 0
  marks : List Nat := []
  rd : Bool := false
def St.eval (st : St) : Operand → Value
  | .tmp t => st.s t
  | .const v => v
  | .global g => .pointer (some { block := 2 * g + 1, off := 0 })
  | .func f => .func (.func f) #[] #[]
def putS (s : Nat → Value) (d : Option Tmp) (v : Value) : Nat → Value :=
  match d with
  | some d => fun i => if i = d then v else s i
  | none => s
inductive IExit where
  | normal | exit (id : Nat) | ret
  deriving DecidableEq, Inhabited

abbrev ICall := Cl → Array Value → IHp → Option (Value × IHp)

def iyielded (ops : Array Oper) (s : Nat → Value) (j : Nat) : Option Bool :=
  match (ops[j]?).bind (·.dst) with
  | some t => match s t with | .bool b => some b | _ => none
  | none => none
def iwanted (ops : Array Oper) (s : Nat → Value) (o : Oper) : Bool := Region.wanted o (iyielded ops s)

/-- one operation of a region -/
def iop (P : Program) (call : ICall) (ops : Array Oper) (i : Nat) (st : St) : Option St :=
  match ops[i]? with
  | none => none
  | some o =>
    if iwanted ops st.s o then
      match icallee P st.eval o with
      | some (f, args) => (call f args st.h).map fun (v, h) => { st with s := putS st.s o.dst v, h }
      | none => (iheap P st.h st.eval o).map fun (v, h) => { st with s := putS st.s o.dst v, h }
    else some { st with s := putS st.s o.dst undef }
def iops (P : Program) (call : ICall) (ops : Array Oper) : List Nat → St → Option St
  | [], st => some st
  | i :: rest, st => (iop P call ops i st).bind (iops P call ops rest)

/-! Regions that draw their order -/
inductive PStep where
  | take (i : Nat)
  | one (i : Nat)
  | virt (i : Nat)
  deriving Inhabited, DecidableEq

/-- may be taken first: it reads memory at the most -/
def isQuiet : Op → Bool
  | .move _ | .assign _ | .pick .. | .extract .. | .field .. | .fieldAddr .. | .indexAddr .. | .index .. | .build .. | .nilCheck _ | .slice ..
  | .binOp .. | .unOp .. | .load .. | .makeFunc .. => true
  | .convert src dst _ => src != dst
  | .call { callee := .builtin b, .. } => match b with | .len | .real | .imag | .complex | .min | .max => true | _ => false
  | _ => false
def isBuild (o : Oper) : Bool := match o.op with | .buildSlice .. => o.guard.isNone | _ => false
def isAlloc (o : Oper) : Bool := match o.op with | .alloc _ => o.guard.isNone | _ => false
/-- an operation that does not look at the slot that it writes -/
def selfFree (ops : Array Oper) (i : Nat) : Bool := ((ops[i]?).map fun o => match o.dst with | some d => !(o.looksAt ops).contains d | none => true).getD false
/-- operation j waits for i -/
def waitsFor (ops : Array Oper) (j i : Nat) : Bool := ((ops[j]?).map fun o => o.after.any fun e => Region.binds .any e && e.on == i).getD false
/-- a slice that is made in the region, as another type -/
def ofMade (ops : Array Oper) (o : Oper) : Bool :=
  match o.op with
  | .convert _ _ (.tmp t) => ops.any fun p => p.dst == some t && (match p.op with | .buildSlice .. => true | _ => false)
  | _ => false
/-- pd: the allocs that have been taken ahead of their time -/
def planFrom (ops : Array Oper) : Nat → Array Bool → List Nat → Option (List PStep)
  | 0, listed, pd => if (Region.ready .any ops listed).isEmpty && pd.isEmpty then some [] else none
  | n + 1, listed, pd =>
    let rs := Region.ready .any ops listed
    match rs.find? fun i => ((ops[i]?).map fun o => isQuiet o.op && !ofMade ops o && Region.free .any ops listed i).getD false && pd.all fun p => !waitsFor ops i p with
    | some i => (planFrom ops n (listed.setIfInBounds i true) pd).map (.take i :: ·)
    | none =>
      match rs with
      | [] => if pd.isEmpty then some [] else none
      | [j] =>
        if pd.all fun p => !waitsFor ops j p then (planFrom ops n (listed.setIfInBounds j true) pd).map (.one j :: ·)
        else if pd.all fun p => waitsFor ops j p then (planFrom ops n (listed.setIfInBounds j true) []).map (.one j :: ·)
        else none
      | _ =>
        (((rs.filter fun i => ((ops[i]?).map isAlloc).getD false) ++ (rs.filter fun i => ((ops[i]?).map isBuild).getD false)).filter fun i => Region.free .any ops listed i && selfFree ops i && pd.all fun p => !waitsFor ops i p).findSome? fun i =>
          (planFrom ops n (listed.setIfInBounds i true) (i :: pd)).map (.virt i :: ·)
def virtAt (k : List PStep) (i : Nat) : Bool := k.any fun | .virt j => j == i | _ => false
def planOf (ops : Array Oper) : Option (List PStep) :=
  if Region.noSelect ops then (planFrom ops ops.size (Array.replicate ops.size false) []).bind fun k => if k.all fun | .one j => !virtAt k j | _ => true then some k else none else none

/-- the load's number, the cell's place, what it holds -/
abbrev Held := List (Nat × Nat × Nat × Value)
def heldIn (h : IHp) (l : Held) : Bool := l.all fun (_, b, off, v) => match h.cell? b off with | some u => veq u v | none => false
def cellsOf (i b : Nat) : Nat → List Value → Held
  | _, [] => []
  | off, v :: vs => (i, b, off, v) :: cellsOf i b (off + 1) vs
/-- the cells that an operation reads -/
def heldOf (P : Program) (h : IHp) (ev : Operand → Value) (i : Nat) (o : Oper) : Option Held :=
  match o.op with
  | .load t a =>
    match ev a with
    | .pointer (some a) =>
      (iagg P t).bind fun
        | true => (isz P t).bind fun n => (h.row a.block a.off n).map fun vs => cellsOf i a.block a.off vs
        | false => (h.cell? a.block a.off).map fun v => [(i, a.block, a.off, v)]
    | _ => none
  | .convert src dst a => some (match ibtsRow P h src dst (ev a) with | some (b, off, vs) => cellsOf i b off vs | none => [])
  | _ => some []
def quietAt (ops : Array Oper) (j : Nat) : Bool := ((ops[j]?).map fun o => isQuiet o.op).getD true
def heldBut (ops : Array Oper) (j : Nat) (l : Held) : Held := if quietAt ops j then l else l.filter fun e => !waitsFor ops j e.1

/-- new memory: its cells' type, the cells, and how long the slice is (none: a pointer) -/
def imade (P : Program) (ev : Operand → Value) (o : Oper) : Option (TypeId × List Value × Option Nat) :=
  match o.op with
  | .alloc t => (izero P t).bind fun z => if isRowV z then some (t, z.cells.toList, none) else none
  | .buildSlice t len parts =>
    match P.underlying t with
    | some (.slice e) =>
      (isz P e).bind fun s => if s = 0 || len * s > 2 ^ 24 then none else
      (izero P e).bind fun z => if z.cells.size ≠ s then none else
      (ifill (fun i => some (i * s, s)) (izeros z.cells (len * s)).toArray (parts.map fun (i, x) => (i, ev x)).toList).bind fun cells =>
      if cells.toList.all isCellV then some (e, cells.toList, some len) else none
    | _ => none
  | _ => none
def madeV (l : Option Nat) (b : Nat) : Value :=
  match l with
  | none => .pointer (some { block := b, off := 0 })
  | some n => .slice (some { block := b, off := 0 }) n n

def iplan (P : Program) (call : ICall) (ops : Array Oper) : List PStep → St → Held → List IHp → Option St
  | [], st, _, _ => some st
  | .take i :: k, st, held, snaps =>
    (ops[i]?).bind fun o =>
    if iwanted ops st.s o then
      (heldOf P st.h st.eval i o).bind fun more =>
      if snaps.all (heldIn · more) then
        (iheap P st.h st.eval o).bind fun (v, _) => iplan P call ops k { st with s := putS st.s o.dst v } (more ++ held) snaps
      else none
    else iplan P call ops k { st with s := putS st.s o.dst undef } held snaps
  | .one i :: k, st, held, snaps =>
    (iop P call ops i st).bind fun st' => if heldIn st'.h (heldBut ops i held) then iplan P call ops k st' (heldBut ops i held) (st'.h :: snaps) else none
  | .virt i :: k, st, held, snaps =>
    (ops[i]?).bind fun o => (imade P st.eval o).bind fun m =>
      if decide (0 < m.2.1.length) && heldIn (st.h.push (.cells m.2.1 m.1 true)) (cellsOf i st.h.fresh 0 m.2.1 ++ held) then
        iplan P call ops k { st with s := putS st.s o.dst (madeV m.2.2 st.h.fresh), h := st.h.push (.cells m.2.1 m.1 true) } (cellsOf i st.h.fresh 0 m.2.1 ++ held) (st.h.push (.cells m.2.1 m.1 true) :: snaps)
      else none

def idraw (P : Program) (call : ICall) (ops : Array Oper) (st : St) : Option St :=
  (planOf ops).bind fun p => iplan P call ops p st [] [st.h]

def iresults (P : Program) (st : St) : List ResultVar → Option (List Value)
  | [] => some []
  | .tmp t :: k => (iresults P st k).map (st.s t :: ·)
  | .cell a t :: k => (iload P st.h t (st.s a)).bind fun v => (iresults P st k).map (v :: ·)
def iret (vs : List Value) : Value := match vs with | [v] => v | vs => .tuple vs.toArray

/-- the blocks of the rounds' deferred calls are shut -/
def ishut (h : IHp) : List Nat → Option IHp
  | [] => some h
  | d :: ds => match h.new[d]? with
    | some .defr => ishut { h with new := h.new.set d .dead } ds
    | _ => none
def putAll (s : Nat → Value) : List (Tmp × Value) → Nat → Value
  | [] => s
  | (t, v) :: k => putAll (putS s (some t) v) k

def ienter (P : Program) (run : Code → St → Option (IExit × St)) (f : FuncId) (args : Array Value) (h : IHp) : Option (Value × IHp) :=
  match P.funcs[f]? with
  | none => none
  | some fn =>
    match fn.body with
    | none => none
    | some c =>
      if args.size ≤ fn.ntmps then
        match run c { s := fun i => args.getD i undef, h, nt := fn.ntmps } with
        | some (.normal, st) | some (.ret, st) => (ishut st.h st.marks).bind fun h => (iresults P { st with h } fn.results.toList).map fun vs => (iret vs, h)
        | _ => none
      else none

def iround (run : Code → St → Option (IExit × St)) (l : Nat) (args : Array Value) (h : IHp) : Option (Value × IHp) :=
  if l % 2 = 1 then none else
  match h.new[l / 2]? with
  | some (.loop nt T ps assign body .ready _) =>
    if args.size = ps.size then
      match run assign { s := putAll T (ps.toList.zip args.toList), h, nt, rd := true } with
      | some (.normal, st1) =>
        match st1.h.new[l / 2]? with
        | some (.loop nt1 T1 ps1 as1 b1 .ready p1) =>
          match run body { st1 with h := { st1.h with new := st1.h.new.set (l / 2) (.loop nt1 T1 ps1 as1 b1 .busy p1) } } with
          | some (e, st2) =>
            match st2.h.new[l / 2]? with
            | some (.loop nt2 T2 ps2 as2 b2 _ _) =>
              match e with
              | .normal => some (.bool true, { st2.h with new := st2.h.new.set (l / 2) (.loop nt2 T2 ps2 as2 b2 .ready none) })
              | .ret => some (.bool false, { st2.h with new := st2.h.new.set (l / 2) (.loop nt2 T2 ps2 as2 b2 .done (some .ret)) })
              | .exit id => some (.bool false, { st2.h with new := st2.h.new.set (l / 2) (.loop nt2 T2 ps2 as2 b2 .done (some (.exit id))) })
            | _ => none
          | none => none
        | _ => none
      | _ => none
    else none
  | _ => none

def icallBy (P : Program) (run : Code → St → Option (IExit × St)) : ICall := fun c args h =>
  match c with
  | .fn f => ienter P run f args h
  | .yld l => iround run l args h

def notBusy : LoopState → Bool
  | .busy => false
  | _ => true

def irange (P : Program) (call : ICall) (f : Operand) (ps : Array Tmp) (assign body : Code) (st : St) : Option (IExit × St) :=
  if st.rd then none else
  let d := st.h.new.length
  let h1 := (st.h.push .defr).push (.loop st.nt st.s ps assign body .ready none)
  match icalleeV P (st.eval f) #[.func (.yield (2 * (d + 1))) #[] #[]] with
  | some (.fn g, args) =>
    (call (.fn g) args h1).bind fun (_, h3) =>
      match h3.new[d + 1]? with
      | some (.loop nt3 T3 ps3 as3 b3 state pend) =>
        if notBusy state then
          let st' : St := { st with h := { h3 with new := h3.new.set (d + 1) (.loop nt3 T3 ps3 as3 b3 .exhausted pend) }, marks := d :: st.marks }
          match pend with
          | none => some (.normal, st')
          | some .ret => some (.ret, st')
          | some (.exit id) => some (.exit id, st')
          | _ => none
        else none
      | _ => none
  | _ => none

def icode (P : Program) : Nat → Code → St → Option (IExit × St)
  | 0, _, _ => none
  | n + 1, c, st =>
    match c with
    | .skip => some (.normal, st)
    | .region _ ops draw =>
      if draw then (idraw P (icallBy P (icode P n)) ops st).map (.normal, ·)
      else (iops P (icallBy P (icode P n)) ops (List.range ops.size) st).map (.normal, ·)
    | .seq a b =>
      match icode P n a st with
      | some (.normal, st') => icode P n b st'
      | r => r
    | .cond c a b =>
      match st.eval c with
      | .bool t => icode P n (if t then a else b) st
      | _ => none
    | .block id b =>
      match icode P n b st with
      | some (.exit j, st') => if j = id then some (.normal, st') else some (.exit j, st')
      | r => r
    | .loop b =>
      match icode P n b st with
      | some (.normal, st') => icode P n (.loop b) st'
      | r => r
    | .rangeFunc f ps assign body => irange P (icallBy P (icode P n)) f ps assign body st
    | .exit id => some (.exit id, st)
    | .ret => some (.ret, st)
    | _ => none
def icall (P : Program) (n : Nat) : ICall := icallBy P (icode P n)

/-! ### What is asked of a program -/
def okOperand : Operand → Bool
  | .const v => flat v
  | .global _ => false
  | _ => true
def okOper (n : Nat) (o : Oper) : Bool :=
  (match o.dst with | some d => d < n | none => true) && o.op.operands.toList.all okOperand && (match o.op with | .select .. | .defer _ => false | _ => true)
def okCode (n : Nat) : Code → Bool
  | .region _ ops _ => ops.toList.all (okOper n)
  | .seq a b => okCode n a && okCode n b
  | .cond c a b => okOperand c && okCode n a && okCode n b
  | .block _ b | .loop b => okCode n b
  | .rangeFunc f ps a b => okOperand f && ps.toList.all (· < n) && okCode n a && okCode n b
  | .skip | .exit _ | .ret => true
  | _ => true
def okFunc (f : Func) : Bool := match f.body with | some c => okCode f.ntmps c | none => true
def okProg (P : Program) : Bool := P.funcs.toList.all okFunc && P.follows .mixedOrders
end Go.Ideal

-- IdealB
namespace Go.Ideal
open Go

/-! ### Where the ideal blocks lie -/
structure RM where
  at_ : Nat → Option (Nat × Nat)
  dom : Nat := 0
def RM.block (ρ : RM) (id : Nat) : Option Nat := if id % 2 = 1 then some (id / 2) else (ρ.at_ (id / 2)).map (·.1)
def RM.extra (ρ : RM) (id : Nat) : Nat := if id % 2 = 1 then 0 else ((ρ.at_ (id / 2)).map (·.2)).getD 0
/-- what is known stays -/
def RM.sub (ρ ρ' : RM) : Prop := ∀ i p, ρ.at_ i = some p → ρ'.at_ i = some p
/-- what is known stays, and a block that is not there yet is still not there -/
def RM.le (ρ ρ' : RM) : Prop := ρ.sub ρ' ∧ ρ.dom ≤ ρ'.dom ∧ ∀ i, i < ρ.dom → ρ.at_ i = none → ρ'.at_ i = none
theorem RM.sub_trans {a b c : RM} (h : a.sub b) (k : b.sub c) : a.sub c := fun i p hp => k i p (h i p hp)
theorem RM.le_refl (ρ : RM) : ρ.le ρ := ⟨fun _ _ h => h, Nat.le_refl _, fun _ _ h => h⟩
theorem RM.le_trans {a b c : RM} (h : a.le b) (k : b.le c) : a.le c := ⟨fun i p hp => k.1 i p (h.1 i p hp), Nat.le_trans h.2.1 k.2.1, fun i hi hn => k.2.2 i (Nat.lt_of_lt_of_le hi h.2.1) (h.2.2 i hi hn)⟩
theorem RM.block_sub {ρ ρ' : RM} (h : ρ.sub ρ') {id b : Nat} (hb : ρ.block id = some b) : ρ'.block id = some b := by
  unfold RM.block at *
  split at hb
  · rename_i ho; simp [ho]; simpa using hb
  · rename_i ho
    cases hp : ρ.at_ (id / 2) with
    | none => simp [hp] at hb
    | some p => simp [ho, h _ _ hp]; simpa [hp] using hb
theorem RM.extra_sub {ρ ρ' : RM} (h : ρ.sub ρ') {id b : Nat} (hb : ρ.block id = some b) : ρ'.extra id = ρ.extra id := by
  unfold RM.block at hb
  unfold RM.extra
  split
  · rfl
  · rename_i ho
    simp only [ho, if_false] at hb
    cases hp : ρ.at_ (id / 2) with
    | none => simp [hp] at hb
    | some p => simp [h _ _ hp]

theorem RM.block_mono {ρ ρ' : RM} (h : ρ.le ρ') {id b : Nat} (hb : ρ.block id = some b) : ρ'.block id = some b := RM.block_sub h.1 hb
/-! ### A value and what it stands for -/
def R (ρ : RM) : Value → Value → Prop
  | .bool b, v => v = .bool b
  | .int k n, v => v = .int k n
  | .float k n, v => v = .float k n
  | .complex k a b, v => v = .complex k a b
  | .string s, v => v = .string s
  | .pointer none, v => v = .pointer none
  | .pointer (some a), v => a.spot = none ∧ ∃ b, ρ.block a.block = some b ∧ v = .pointer (some ⟨b, a.off, none⟩)
  | .slice none l c, v => v = .slice none l c
  | .slice (some a) l c, v => (a.spot = none → ∃ b, ρ.block a.block = some b ∧ v = .slice (some ⟨b, a.off, none⟩) l (c + ρ.extra a.block)) ∧ (a.spot ≠ none → l = 0 ∧ ((c = 0 ∧ v = .slice (some a) 0 0) ∨ (c = 1 ∧ ∃ b, ρ.block a.block = some b ∧ v = .slice (some ⟨b, if ρ.extra a.block = 0 then a.off else a.off + a.spot.getD 0, none⟩) 0 (ρ.extra a.block))))
  | .map none, v => v = .map none
  | .map (some r), v => r % 2 = 0 ∧ ∃ b, ρ.block r = some b ∧ v = .map (some b)
  | .chan none, v => v = .chan none
  | .chan (some _), _ => False
  | .func (.func g) f c, v => ∃ f' c', v = .func (.func g) f' c' ∧
      (f.size = f'.size ∧ ∀ (i : Nat) (_ : i < f.size), R ρ f[i] (f'.getD i undef)) ∧ (c.size = c'.size ∧ ∀ (i : Nat) (_ : i < c.size), R ρ c[i] (c'.getD i undef))
  | .func (.yield l) f c, v => f.size = 0 ∧ c.size = 0 ∧ l % 2 = 0 ∧ ∃ b, ρ.block l = some b ∧ v = .func (.yield b) #[] #[]
  | .func _ _ _, _ => False
  | .nilFunc, v => v = .nilFunc
  | .iface t x, v => ∃ x', v = .iface t x' ∧ R ρ x x'
  | .nilIface, v => v = .nilIface
  | .agg cs, v => ∃ ds : Array Value, v = .agg ds ∧ cs.size = ds.size ∧ ∀ (i : Nat) (_ : i < cs.size), R ρ cs[i] (ds.getD i undef)
  | .tuple cs, v => ∃ ds : Array Value, v = .tuple ds ∧ cs.size = ds.size ∧ ∀ (i : Nat) (_ : i < cs.size), R ρ cs[i] (ds.getD i undef)
termination_by v => SizeOf.sizeOf v

/-- a row of values -/
def RA (ρ : RM) (cs ds : Array Value) : Prop := cs.size = ds.size ∧ ∀ (i : Nat) (_ : i < cs.size), R ρ cs[i] (ds.getD i undef)
theorem R_agg {ρ : RM} {cs : Array Value} {v : Value} : R ρ (.agg cs) v ↔ ∃ ds, v = .agg ds ∧ RA ρ cs ds := by simp only [R, RA]
theorem R_tuple {ρ : RM} {cs : Array Value} {v : Value} : R ρ (.tuple cs) v ↔ ∃ ds, v = .tuple ds ∧ RA ρ cs ds := by simp only [R, RA]
theorem R_func {ρ : RM} {g : FuncId} {f c : Array Value} {v : Value} : R ρ (.func (.func g) f c) v ↔ ∃ f' c', v = .func (.func g) f' c' ∧ RA ρ f f' ∧ RA ρ c c' := by simp only [R, RA]

theorem R_sub {ρ ρ' : RM} (h : ρ.sub ρ') : ∀ (v v' : Value), R ρ v v' → R ρ' v v'
  | .bool _, _, hr | .int _ _, _, hr | .float _ _, _, hr | .complex _ _ _, _, hr | .string _, _, hr | .pointer none, _, hr | .slice none _ _, _, hr
  | .map none, _, hr | .chan none, _, hr | .nilFunc, _, hr | .nilIface, _, hr => by simpa only [R] using hr
  | .chan (some _), _, hr => by simp only [R] at hr
  | .pointer (some a), v', hr => by
    simp only [R] at hr ⊢
    obtain ⟨hs, b, hb, hv⟩ := hr
    exact ⟨hs, b, RM.block_sub h hb, hv⟩
  | .slice (some a) l c, v', hr => by
    simp only [R] at hr ⊢
    refine ⟨fun hs => ?_, fun hs => ?_⟩
    · obtain ⟨b, hb, hv⟩ := hr.1 hs
      exact ⟨b, RM.block_sub h hb, by rw [RM.extra_sub h hb]; exact hv⟩
    · obtain ⟨h1, h2⟩ := hr.2 hs
      refine ⟨h1, ?_⟩
      rcases h2 with h2 | ⟨h2, b, hb, hv⟩
      · exact .inl h2
      · exact .inr ⟨h2, b, RM.block_sub h hb, by rw [RM.extra_sub h hb]; exact hv⟩
  | .map (some r), v', hr => by
    simp only [R] at hr ⊢
    obtain ⟨h0, b, hb, hv⟩ := hr
    exact ⟨h0, b, RM.block_sub h hb, hv⟩
  | .func (.func g) f c, v', hr => by
    simp only [R] at hr ⊢
    obtain ⟨f', c', rfl, ⟨h1, h2⟩, h3, h4⟩ := hr
    exact ⟨f', c', rfl, ⟨h1, fun i hi => R_sub h _ _ (h2 i hi)⟩, h3, fun i hi => R_sub h _ _ (h4 i hi)⟩
  | .func (.yield l) f c, v', hr => by
    simp only [R] at hr ⊢
    obtain ⟨h1, h2, h3, b, hb, hv⟩ := hr
    exact ⟨h1, h2, h3, b, RM.block_sub h hb, hv⟩
  | .func (.method _) _ _, _, hr | .func (.methodOf _ _) _ _, _, hr | .func (.via _ _ _ _) _ _, _, hr => by simp only [R] at hr
  | .iface t x, v', hr => by
    simp only [R] at hr ⊢
    obtain ⟨x', rfl, hx⟩ := hr
    exact ⟨x', rfl, R_sub h _ _ hx⟩
  | .agg cs, v', hr => by
    simp only [R] at hr ⊢
    obtain ⟨ds, rfl, h1, h2⟩ := hr
    exact ⟨ds, rfl, h1, fun i hi => R_sub h _ _ (h2 i hi)⟩
  | .tuple cs, v', hr => by
    simp only [R] at hr ⊢
    obtain ⟨ds, rfl, h1, h2⟩ := hr
    exact ⟨ds, rfl, h1, fun i hi => R_sub h _ _ (h2 i hi)⟩
termination_by v => SizeOf.sizeOf v

theorem R_mono {ρ ρ' : RM} (h : ρ.le ρ') (v v' : Value) (hr : R ρ v v') : R ρ' v v' := R_sub h.1 v v' hr
theorem RA.sub {ρ ρ' : RM} (h : ρ.sub ρ') {cs ds : Array Value} (hr : RA ρ cs ds) : RA ρ' cs ds := ⟨hr.1, fun i hi => R_sub h _ _ (hr.2 i hi)⟩
theorem RA.mono {ρ ρ' : RM} (h : ρ.le ρ') {cs ds : Array Value} (hr : RA ρ cs ds) : RA ρ' cs ds := hr.sub h.1

theorem RA_of_flat {ρ : RM} {n : Nat} (ih : ∀ v, flatN n v = true → R ρ v v) {cs : Array Value} (h : cs.toList.all (flatN n) = true) : RA ρ cs cs := by
  refine ⟨rfl, fun i hi => ?_⟩
  rw [List.all_eq_true] at h
  have : cs.getD i undef = cs[i] := by simp [Array.getD, hi]
  rw [this]
  exact ih _ (h _ (by simp))

theorem flatN_R {ρ : RM} : ∀ (n : Nat) (v : Value), flatN n v = true → R ρ v v := by
  intro n
  induction n with
  | zero =>
    intro v h
    cases v <;> simp [flatN] at h <;> first | (simp only [R]; done) | (subst h; simp only [R])
  | succ n ih =>
    intro v h
    cases v with
    | agg cs => rw [R_agg]; exact ⟨cs, rfl, RA_of_flat ih (by simpa only [flatN] using h)⟩
    | tuple cs => rw [R_tuple]; exact ⟨cs, rfl, RA_of_flat ih (by simpa only [flatN] using h)⟩
    | iface t x => simp only [R]; exact ⟨x, rfl, ih _ (by simpa only [flatN] using h)⟩
    | func fn f c =>
      cases fn with
      | func g =>
        simp only [flatN, Bool.and_eq_true] at h
        rw [R_func]
        exact ⟨f, c, rfl, RA_of_flat ih h.1, RA_of_flat ih h.2⟩
      | _ => simp [flatN] at h
    | pointer a => simp [flatN] at h; subst h; simp only [R]
    | slice a l c => simp [flatN] at h; subst h; simp only [R]
    | map a => simp [flatN] at h; subst h; simp only [R]
    | chan a => simp [flatN] at h; subst h; simp only [R]
    | _ => simp only [R]
theorem flat_R {ρ : RM} {v : Value} (h : flat v = true) : R ρ v v := flatN_R 5 v h

/-- what a flat value stands for is itself -/
theorem flatN_eq {ρ : RM} : ∀ (n : Nat) (v v' : Value), flatN n v = true → R ρ v v' → v' = v := by
  have arr : ∀ n, (∀ v v', flatN n v = true → R ρ v v' → v' = v) → ∀ cs ds : Array Value, cs.toList.all (flatN n) = true → RA ρ cs ds → ds = cs := by
    intro n ih cs ds h hr
    rw [List.all_eq_true] at h
    refine Array.ext hr.1.symm fun i h1 h2 => ?_
    have := hr.2 i h2
    rw [show ds.getD i undef = ds[i] by simp [Array.getD, h1]] at this
    exact ih _ _ (h _ (by simp)) this
  intro n
  induction n with
  | zero =>
    intro v v' h hr
    cases v <;> simp [flatN] at h <;> first | (simpa only [R] using hr) | (subst h; simpa only [R] using hr)
  | succ n ih =>
    intro v v' h hr
    cases v with
    | agg cs => rw [R_agg] at hr; obtain ⟨ds, rfl, hr⟩ := hr; rw [arr n ih cs ds (by simpa only [flatN] using h) hr]
    | tuple cs => rw [R_tuple] at hr; obtain ⟨ds, rfl, hr⟩ := hr; rw [arr n ih cs ds (by simpa only [flatN] using h) hr]
    | iface t x => simp only [R] at hr; obtain ⟨x', rfl, hr⟩ := hr; rw [ih x x' (by simpa only [flatN] using h) hr]
    | func fn f c =>
      cases fn with
      | func g =>
        simp only [flatN, Bool.and_eq_true] at h
        rw [R_func] at hr
        obtain ⟨f', c', rfl, h1, h2⟩ := hr
        rw [arr n ih _ _ h.1 h1, arr n ih _ _ h.2 h2]
      | _ => simp [flatN] at h
    | pointer a => simp [flatN] at h; subst h; simpa only [R] using hr
    | slice a l c => simp [flatN] at h; subst h; simpa only [R] using hr
    | map a => simp [flatN] at h; subst h; simpa only [R] using hr
    | chan a => simp [flatN] at h; subst h; simpa only [R] using hr
    | _ => simpa only [R] using hr
theorem flat_eq {ρ : RM} {v v' : Value} (h : flat v = true) (hr : R ρ v v') : v' = v := flatN_eq 5 v v' h hr

theorem R_undef {ρ : RM} : R ρ undef undef := flat_R (by rfl)

/-! ### What old memory holds -/
def upv : Value → Option Value
  | .bool b => some (.bool b)
  | .int k n => some (.int k n)
  | .float k n => some (.float k n)
  | .complex k a b => some (.complex k a b)
  | .string s => some (.string s)
  | .pointer none => some (.pointer none)
  | .pointer (some a) => if a.spot.isNone then some (.pointer (some { block := 2 * a.block + 1, off := a.off })) else none
  | .slice none l c => some (.slice none l c)
  | .slice (some a) l c => if a.spot.isNone then some (.slice (some { block := 2 * a.block + 1, off := a.off }) l c) else if l = 0 ∧ c = 0 then some (.slice (some a) 0 0) else none
  | .map none => some (.map none)
  | .nilFunc => some .nilFunc
  | .nilIface => some .nilIface
  | _ => none
theorem block_old (ρ : RM) (b : Nat) : ρ.block (2 * b + 1) = some b := by
  have h1 : (2 * b + 1) % 2 = 1 := by omega
  have h2 : (2 * b + 1) / 2 = b := by omega
  simp [RM.block, h1, h2]
theorem extra_old (ρ : RM) (b : Nat) : ρ.extra (2 * b + 1) = 0 := by
  have h1 : (2 * b + 1) % 2 = 1 := by omega
  simp [RM.extra, h1]
theorem upv_R {ρ : RM} {u v : Value} (h : upv u = some v) : R ρ v u := by
  cases u with
  | pointer a =>
    cases a with
    | none => simp [upv] at h; subst h; simp only [R]
    | some a =>
      simp only [upv] at h
      split at h
      · rename_i hs
        cases h
        obtain ⟨b, o, s⟩ := a
        simp at hs; subst hs
        simp [R, block_old]
      · cases h
  | slice a l c =>
    cases a with
    | none => simp [upv] at h; subst h; simp only [R]
    | some a =>
      simp only [upv] at h
      split at h
      · rename_i hs
        cases h
        obtain ⟨b, o, s⟩ := a
        simp at hs; subst hs
        simp [R, block_old, extra_old]
      · rename_i hs
        split at h
        · rename_i hl
          obtain ⟨rfl, rfl⟩ := hl
          cases h
          simp only [R]
          exact ⟨fun h0 => absurd h0 (by intro h1; apply hs; simp [h1]), fun _ => by simp⟩
        · cases h
  | map a =>
    cases a with
    | none => simp [upv] at h; subst h; simp only [R]
    | some a => simp [upv] at h
  | _ => first | (simp [upv] at h; subst h; simp only [R]; done) | (simp [upv] at h)
/-- what old memory holds is one cell's value -/
theorem upv_cell {u v : Value} (h : upv u = some v) : isCellV v = true ∧ isCellV u = true := by
  cases u with
  | pointer a => cases a <;> simp [upv] at h <;> first | (subst h; simp [isCellV]; done) | (obtain ⟨_, rfl⟩ := h; simp [isCellV])
  | slice a l c =>
    cases a with
    | none => simp [upv] at h; subst h; simp [isCellV]
    | some a =>
      simp only [upv] at h
      split at h
      · cases h; simp [isCellV]
      · split at h
        · cases h; simp [isCellV]
        · cases h
  | map a => cases a <;> simp [upv] at h; subst h; simp [isCellV]
  | _ => first | (simp [upv] at h; subst h; simp [isCellV]; done) | (simp [upv] at h)

theorem R_cell {ρ : RM} {v v' : Value} (h : R ρ v v') : isCellV v' = isCellV v := by
  cases v with
  | agg cs => rw [R_agg] at h; obtain ⟨ds, rfl, _⟩ := h; rfl
  | tuple cs => rw [R_tuple] at h; obtain ⟨ds, rfl, _⟩ := h; rfl
  | iface t x => simp only [R] at h; obtain ⟨x', rfl, _⟩ := h; rfl
  | pointer a => cases a <;> simp only [R] at h <;> first | (subst h; rfl) | (obtain ⟨_, b, _, rfl⟩ := h; rfl)
  | slice a l c =>
    cases a with
    | none => simp only [R] at h; subst h; rfl
    | some a =>
      simp only [R] at h
      by_cases hs : a.spot = none
      · obtain ⟨b, _, rfl⟩ := h.1 hs; rfl
      · rcases (h.2 hs).2 with ⟨_, rfl⟩ | ⟨_, b, _, rfl⟩ <;> rfl
  | map a => cases a <;> simp only [R] at h <;> first | (subst h; rfl) | (obtain ⟨_, b, _, rfl⟩ := h; rfl)
  | chan a => cases a <;> simp only [R] at h; subst h; rfl
  | func fn f c =>
    cases fn with
    | func g => rw [R_func] at h; obtain ⟨f', c', rfl, _⟩ := h; rfl
    | yield l => simp only [R] at h; obtain ⟨_, _, _, b, _, rfl⟩ := h; rfl
    | _ => simp only [R] at h
  | _ => simp only [R] at h; subst h; rfl

/-- the cells of a value -/
theorem R_cells {ρ : RM} {v v' : Value} (h : R ρ v v') : RA ρ v.cells v'.cells := by
  have one : isCellV v = true ∨ (∃ t, v = .tuple t) → RA ρ v.cells v'.cells := by
    intro hv
    have hc : v.cells = #[v] := by
      rcases hv with hv | ⟨t, rfl⟩
      · cases v <;> first | rfl | (simp [isCellV] at hv)
      · rfl
    have hc' : v'.cells = #[v'] := by
      rcases hv with hv | ⟨t, rfl⟩
      · have := R_cell h; rw [hv] at this; cases v' <;> first | rfl | (simp [isCellV] at this)
      · rw [R_tuple] at h; obtain ⟨ds, rfl, _⟩ := h; rfl
    rw [hc, hc']
    refine ⟨rfl, fun i hi => ?_⟩
    have : i = 0 := by simpa using hi
    subst this
    exact h
  cases v with
  | agg cs => rw [R_agg] at h; obtain ⟨ds, rfl, h⟩ := h; exact h
  | tuple cs => exact one (.inr ⟨_, rfl⟩)
  | _ => exact one (.inl rfl)
end Go.Ideal

-- IdealC
set_option linter.unusedSimpArgs false
set_option linter.unusedVariables false
namespace Go.Ideal
open Go Go.RowKit

/-- a new block -/
def RM.add (ρ : RM) (i : Nat) (p : Nat × Nat) : RM := ⟨fun j => if j = i then some p else ρ.at_ j, i + 1⟩
/-- a block that was not there yet -/
def RM.fill (ρ : RM) (i : Nat) (p : Nat × Nat) : RM := ⟨fun j => if j = i then some p else ρ.at_ j, ρ.dom⟩
theorem RM.sub_add {ρ : RM} {i : Nat} {p : Nat × Nat} (h : ρ.at_ i = none) : ρ.sub (ρ.add i p) := by
  intro j q hq
  simp only [RM.add]
  split
  · rename_i e; subst e; rw [h] at hq; cases hq
  · exact hq
theorem RM.sub_fill {ρ : RM} {i : Nat} {p : Nat × Nat} (h : ρ.at_ i = none) : ρ.sub (ρ.fill i p) := RM.sub_add h
theorem RM.le_add {ρ : RM} {i : Nat} {p : Nat × Nat} (hd : ρ.dom = i) (h : ρ.at_ i = none) : ρ.le (ρ.add i p) := by
  refine ⟨RM.sub_add h, by simp only [RM.add]; omega, fun j hj hn => ?_⟩
  have : j ≠ i := by omega
  simp [RM.add, this, hn]
theorem RM.fill_at (ρ : RM) (i : Nat) (p : Nat × Nat) : (ρ.fill i p).at_ i = some p := by simp [RM.fill]
theorem RM.fill_ne {ρ : RM} {i j : Nat} {p : Nat × Nat} (h : j ≠ i) : (ρ.fill i p).at_ j = ρ.at_ j := by simp [RM.fill, h]
theorem RM.add_at (ρ : RM) (i : Nat) (p : Nat × Nat) : (ρ.add i p).at_ i = some p := by simp [RM.add]
theorem RM.add_ne {ρ : RM} {i j : Nat} {p : Nat × Nat} (h : j ≠ i) : (ρ.add i p).at_ j = ρ.at_ j := by simp [RM.add, h]
theorem RM.block_new {ρ : RM} {i r x : Nat} (h : ρ.at_ i = some (r, x)) : ρ.block (2 * i) = some r := by
  have h1 : (2 * i) % 2 ≠ 1 := by omega
  have h2 : (2 * i) / 2 = i := by omega
  simp [RM.block, h1, h2, h]
theorem RM.extra_new {ρ : RM} {i r x : Nat} (h : ρ.at_ i = some (r, x)) : ρ.extra (2 * i) = x := by
  have h1 : (2 * i) % 2 ≠ 1 := by omega
  have h2 : (2 * i) / 2 = i := by omega
  simp [RM.extra, h1, h2, h]

def IObj.live : IObj → Bool
  | .dead => false
  | _ => true

def ERel (ρ : RM) (e e' : MapEntry) : Prop := flat e.key = true ∧ e'.key = e.key ∧ R ρ e.val e'.val ∧ e'.born = e.born

def ORel (P : Program) (ρ : RM) (x : Nat) : IObj → Option Obj → Prop
  | .cells c e ex, o => ∃ c' e', (∃ fz : Nat × Nat, o = some (.cells c' e' fz) ∧ (fz.1 = fz.2 ∨ c'.size ≤ fz.1)) ∧ c'.size = c.length + x * P.cellsOf e ∧ (ex = true → x = 0) ∧
      ∀ (k : Nat) v, c[k]? = some v → isCellV v = true ∧ ∃ v', c'[k]? = some v' ∧ R ρ v v'
  | .map es ck, o => ∃ es', o = some (.map es' ck) ∧ es'.size = es.length ∧ ∀ (k : Nat) e, es[k]? = some e → ∃ e', es'[k]? = some e' ∧ ERel ρ e e'
  | .dead, _ => True
  | .defr, o => o = some (.deferred (some []))
  | .loop nt T ps assign body st pend, o => ∃ L : Loop, o = some (.loop L) ∧ L.tmps.size = nt ∧ (∀ t, R ρ (T t) (L.tmps.getD t undef)) ∧ L.params = ps ∧
      L.assign = assign ∧ L.body = body ∧ L.state = st ∧ L.pending = pend ∧ ps.toList.all (· < nt) = true ∧ okCode nt assign = true ∧ okCode nt body = true

theorem ORel.sub {P : Program} {ρ ρ' : RM} (h : ρ.sub ρ') {x : Nat} {o : IObj} {O : Option Obj} (hr : ORel P ρ x o O) : ORel P ρ' x o O := by
  cases o with
  | cells c e ex =>
    obtain ⟨c', e', h1, h2, h3, h4⟩ := hr
    exact ⟨c', e', h1, h2, h3, fun k v hk => let ⟨a, v', b, c⟩ := h4 k v hk; ⟨a, v', b, R_sub h _ _ c⟩⟩
  | map es ck =>
    obtain ⟨es', h1, h2, h3⟩ := hr
    exact ⟨es', h1, h2, fun k e hk => let ⟨e', a, b1, b2, b3, b4⟩ := h3 k e hk; ⟨e', a, b1, b2, R_sub h _ _ b3, b4⟩⟩
  | dead => trivial
  | defr => exact hr
  | loop nt T ps as b st pd =>
    obtain ⟨L, h1, h2, h3, h4⟩ := hr
    exact ⟨L, h1, h2, fun t => R_sub h _ _ (h3 t), h4⟩
theorem ORel.mono {P : Program} {ρ ρ' : RM} (h : ρ.le ρ') {x : Nat} {o : IObj} {O : Option Obj} (hr : ORel P ρ x o O) : ORel P ρ' x o O := hr.sub h.1

structure HRel (P : Program) (base : Nat) (w0 : World) (ρ : RM) (h : IHp) (w : World) : Prop where
  below : Below base w0 w
  size : base ≤ w.heap.size
  old : ∀ b off v, h.old b off = some v → b < base ∧ ∃ u, w0.cell? ⟨b, off, none⟩ = some u ∧ upv u = some v
  blk : ∀ (i : Nat) o r x, h.new[i]? = some o → ρ.at_ i = some (r, x) → base ≤ r ∧ r < w.heap.size ∧ ORel P ρ x o w.heap[r]?
  inj : ∀ (i j : Nat) oi oj r x y, h.new[i]? = some oi → oi.live = true → h.new[j]? = some oj → oj.live = true → ρ.at_ i = some (r, x) → ρ.at_ j = some (r, y) → i = j
  dom : ρ.dom = h.new.length ∧ ∀ i, h.new.length ≤ i → ρ.at_ i = none

section
variable {P : Program} {base : Nat} {w0 w : World} {ρ : RM} {h : IHp}

theorem HRel.drew (H : HRel P base w0 ρ h w) : HRel P base w0 ρ h { w with drawn := w.drawn + 1 } :=
  ⟨⟨H.below.os, H.below.tape, H.below.output, H.below.size, H.below.block⟩, H.size, H.old, H.blk, H.inj, H.dom⟩

theorem RM.block_at {ρ : RM} {b rb : Nat} (ho : ¬ b % 2 = 1) (hb : ρ.block b = some rb) : ∃ x, ρ.at_ (b / 2) = some (rb, x) := by
  simp only [RM.block, ho, if_false, Option.map_eq_some_iff] at hb
  obtain ⟨⟨r, x⟩, h1, rfl⟩ := hb
  exact ⟨x, h1⟩

theorem cell?_of_heap {w : World} {b off : Nat} {c : Array Value} {e : TypeId} {f : Nat × Nat} (h : w.heap[b]? = some (.cells c e f)) : w.cell? ⟨b, off, none⟩ = c[off]? := by
  simp [World.cell?, h]

theorem HRel.oldCell (H : HRel P base w0 ρ h w) {b off : Nat} {v : Value} (hv : h.old b off = some v) : ∃ u, w.cell? ⟨b, off, none⟩ = some u ∧ upv u = some v := by
  obtain ⟨hb, u, hu, hup⟩ := H.old b off v hv
  exact ⟨u, by rw [H.below.cell (p := ⟨b, off, none⟩) hb]; exact hu, hup⟩

theorem HRel.cell (H : HRel P base w0 ρ h w) {b rb off : Nat} {v : Value} (hb : ρ.block b = some rb) (hv : h.cell? b off = some v) :
    isCellV v = true ∧ ∃ v', w.cell? ⟨rb, off, none⟩ = some v' ∧ R ρ v v' := by
  unfold IHp.cell? at hv
  split at hv
  · rename_i ho
    obtain ⟨u, hu, hup⟩ := H.oldCell hv
    have : rb = b / 2 := by simp only [RM.block, ho, if_true, Option.some.injEq] at hb; exact hb.symm
    subst this
    exact ⟨(upv_cell hup).1, u, hu, upv_R hup⟩
  · rename_i ho
    split at hv
    · rename_i c e ex hc
      obtain ⟨x, hρ⟩ := RM.block_at ho hb
      obtain ⟨_, _, hO⟩ := H.blk _ _ _ _ hc hρ
      obtain ⟨c', e', ⟨fz, hw, hfz⟩, _, _, hcells⟩ := hO
      obtain ⟨h1, v', h2, h3⟩ := hcells _ _ hv
      exact ⟨h1, v', by rw [cell?_of_heap hw]; exact h2, h3⟩
    · cases hv

theorem HRel.row (H : HRel P base w0 ρ h w) {b rb : Nat} (hb : ρ.block b = some rb) : ∀ (n off : Nat) (vs : List Value), h.row b off n = some vs →
    vs.length = n ∧ (∀ v ∈ vs, isCellV v = true) ∧ ∃ vs' : List Value, vs'.length = n ∧ (∀ (j : Nat) v', vs'[j]? = some v' → w.cell? ⟨rb, off + j, none⟩ = some v') ∧
      ∀ (j : Nat) v, vs[j]? = some v → ∃ v', vs'[j]? = some v' ∧ R ρ v v' := by
  intro n
  induction n with
  | zero => intro off vs h; simp [IHp.row] at h; subst h; exact ⟨rfl, by simp, [], rfl, by simp, by simp⟩
  | succ n ih =>
    intro off vs hr
    simp only [IHp.row, Option.bind_eq_some_iff] at hr
    obtain ⟨v, hv, vs1, h1, h2⟩ := hr
    cases h2
    obtain ⟨hcv, v', hw, hR⟩ := H.cell hb hv
    obtain ⟨l1, l2, vs1', l3, l4, l5⟩ := ih _ _ h1
    refine ⟨by simp [l1], ?_, v' :: vs1', by simp [l3], ?_, ?_⟩
    · intro x hx
      rcases List.mem_cons.1 hx with rfl | hx
      · exact hcv
      · exact l2 _ hx
    · intro j u hj
      cases j with
      | zero => simp at hj; subst hj; exact hw
      | succ j =>
        have := l4 j u (by simpa using hj)
        rw [show off + (j + 1) = off + 1 + j by omega]; exact this
    · intro j u hj
      cases j with
      | zero => simp at hj; subst hj; exact ⟨v', by simp, hR⟩
      | succ j =>
        obtain ⟨u', hu, hr⟩ := l5 j u (by simpa using hj)
        exact ⟨u', by simpa using hu, hr⟩

/-- an array related to a list read -/
theorem RA_of_lists {ρ : RM} {vs vs' : List Value} (hl : vs'.length = vs.length) (h : ∀ (j : Nat) v, vs[j]? = some v → ∃ v', vs'[j]? = some v' ∧ R ρ v v') : RA ρ vs.toArray vs'.toArray := by
  refine ⟨by simp [hl], fun i hi => ?_⟩
  have hi' : i < vs.length := by simpa using hi
  obtain ⟨v', h1, h2⟩ := h i vs[i] (by simp [hi'])
  have h3 : i < vs'.length := by omega
  simp only [List.getElem_toArray]
  have : vs'.toArray.getD i undef = v' := by
    simp [Array.getD, h3] at h1 ⊢; exact h1
  rw [this]; exact h2
theorem RA_get {ρ : RM} {cs ds : Array Value} (h : RA ρ cs ds) {i : Nat} {v : Value} (hv : cs[i]? = some v) : ∃ v', ds[i]? = some v' ∧ R ρ v v' := by
  obtain ⟨hi, rfl⟩ := Array.getElem?_eq_some_iff.1 hv
  have h2 := h.2 i hi
  have h3 : i < ds.size := by rw [← h.1]; exact hi
  refine ⟨ds[i], by simp [h3], ?_⟩
  rw [show ds.getD i undef = ds[i] by simp [Array.getD, h3]] at h2
  exact h2
theorem RA_mk {ρ : RM} {cs ds : Array Value} (hs : cs.size = ds.size) (h : ∀ (i : Nat) v, cs[i]? = some v → ∃ v', ds[i]? = some v' ∧ R ρ v v') : RA ρ cs ds := by
  refine ⟨hs, fun i hi => ?_⟩
  obtain ⟨v', h1, h2⟩ := h i cs[i] (by simp [hi])
  have : ds.getD i undef = v' := by
    obtain ⟨hj, rfl⟩ := Array.getElem?_eq_some_iff.1 h1
    simp [Array.getD, hj]
  rw [this]; exact h2

/-! ### Writing one cell -/
theorem heap_setCell_same {w : World} {r off : Nat} {c : Array Value} {e : TypeId} {f : Nat × Nat} {v : Value} (h : w.heap[r]? = some (.cells c e f)) :
    (w.setCell ⟨r, off, none⟩ v).heap[r]? = some (.cells (c.setIfInBounds off v) e f) := by
  simp [World.setCell, Array.getElem?_modify, h]
theorem heap_setCell_other {w : World} {r off k : Nat} {v : Value} (h : k ≠ r) : (w.setCell ⟨r, off, none⟩ v).heap[k]? = w.heap[k]? := by
  simp [World.setCell, Array.getElem?_modify, Ne.symm h]
theorem heap_setCell_size {w : World} {a : Addr} {v : Value} : (w.setCell a v).heap.size = w.heap.size := by simp [World.setCell]

/-- a block of the ideal heap is turned, and the block that it stands for -/
theorem HRel.turn (H : HRel P base w0 ρ h w) {i r x : Nat} {o o' : IObj} {w' : World} (hi : h.new[i]? = some o) (hl : o.live = true) (hρ : ρ.at_ i = some (r, x))
    (hO : ORel P ρ x o' (w'.heap[r]?)) (hsame : ∀ k, k ≠ r → w'.heap[k]? = w.heap[k]?) (hsize : w'.heap.size = w.heap.size)
    (hos : w'.os = w.os) (htape : w'.tape = w.tape) (hout : w'.output = w.output) :
    HRel P base w0 ρ { h with new := h.new.set i o' } w' := by
  obtain ⟨hbr, hrw, _⟩ := H.blk _ _ _ _ hi hρ
  have hilt : i < h.new.length := (List.getElem?_eq_some_iff.1 hi).1
  refine ⟨⟨hos.trans H.below.os, htape.trans H.below.tape, hout.trans H.below.output, by rw [hsize]; exact H.below.size, fun k hk => ?_⟩, by rw [hsize]; exact H.size, H.old, ?_, ?_, ?_⟩
  · rw [hsame k (by omega)]; exact H.below.block k hk
  · intro j oj rj xj hj hρj
    simp only [List.getElem?_set] at hj
    split at hj
    · rename_i e; subst e
      simp only [hilt, if_true, Option.some.injEq] at hj
      subst hj
      rw [hρ] at hρj; cases hρj
      exact ⟨hbr, by rw [hsize]; exact hrw, hO⟩
    · rename_i hne
      obtain ⟨hbj, hrj, hOj⟩ := H.blk _ _ _ _ hj hρj
      by_cases hlj : oj.live = true
      · have : rj ≠ r := fun e => hne (H.inj i j o oj r x xj hi hl hj hlj hρ (e ▸ hρj))
        exact ⟨hbj, by rw [hsize]; exact hrj, by rw [hsame _ this]; exact hOj⟩
      · cases oj <;> simp [IObj.live] at hlj
        exact ⟨hbj, by rw [hsize]; exact hrj, trivial⟩
  · intro a b oa ob ra xa xb ha hla hb hlb hρa hρb
    have key : ∀ (a : Nat) oa, (h.new.set i o')[a]? = some oa → oa.live = true → ∃ oa', h.new[a]? = some oa' ∧ oa'.live = true := by
      intro a oa ha hla
      simp only [List.getElem?_set] at ha
      split at ha
      · rename_i e; subst e; exact ⟨o, hi, hl⟩
      · exact ⟨oa, ha, hla⟩
    obtain ⟨oa', ha', hla'⟩ := key a oa ha hla
    obtain ⟨ob', hb', hlb'⟩ := key b ob hb hlb
    exact H.inj a b oa' ob' ra xa xb ha' hla' hb' hlb' hρa hρb
  · exact ⟨by rw [H.dom.1]; simp, fun j hj => H.dom.2 j (by simpa using hj)⟩

theorem HRel.setCell (H : HRel P base w0 ρ h w) {b rb off : Nat} {v v' : Value} {h' : IHp} (hs : h.setCell b off v = some h') (hb : ρ.block b = some rb)
    (hc : isCellV v = true) (hR : R ρ v v') : HRel P base w0 ρ h' (w.setCell ⟨rb, off, none⟩ v') ∧ w.frozen? ⟨rb, off, none⟩ = false ∧ (w.cell? ⟨rb, off, none⟩).isSome = true := by
  unfold IHp.setCell at hs
  split at hs
  · cases hs
  · rename_i ho
    split at hs
    · rename_i c e ex hcells
      split at hs
      · rename_i hoff
        cases hs
        obtain ⟨x, hρ⟩ := RM.block_at ho hb
        obtain ⟨hbr, hrw, hO⟩ := H.blk _ _ _ _ hcells hρ
        obtain ⟨c', e', ⟨fz, hw, hfz⟩, hsz, hex, hall⟩ := hO
        have hoff' : off < c'.size := by omega
        refine ⟨H.turn hcells rfl hρ ?_ (fun k hk => heap_setCell_other hk) heap_setCell_size rfl rfl rfl, ?_, ?_⟩
        · refine ⟨c'.setIfInBounds off v', e', ⟨fz, heap_setCell_same hw, by simpa using hfz⟩, by simp [hsz], hex, fun k u hk => ?_⟩
          simp only [List.getElem?_set] at hk
          split at hk
          · rename_i e; subst e
            simp only [hoff, if_true, Option.some.injEq] at hk
            subst hk
            exact ⟨hc, v', by simp [hoff'], hR⟩
          · rename_i hne
            obtain ⟨h1, u', h2, h3⟩ := hall k u hk
            exact ⟨h1, u', by rw [Array.getElem?_setIfInBounds_ne hne]; exact h2, h3⟩
        · simp only [World.frozen?, hw]
          rcases hfz with h0 | h0
          · simp; omega
          · simp; omega
        · rw [cell?_of_heap hw]; simp [hoff']
      · cases hs
    · cases hs

theorem Addr.add_row (rb off i : Nat) : (⟨rb, off, none⟩ : Addr).add i = ⟨rb, off + i, none⟩ := by
  unfold Addr.add; split
  · rename_i e; subst e; rfl
  · rfl

theorem HRel.setRow {b rb off0 : Nat} (hb : ρ.block b = some rb) : ∀ (vs vs' : List Value) (i : Nat) (h h' : IHp) (w : World), HRel P base w0 ρ h w → h.setRow b (off0 + i) vs = some h' →
    (∀ v ∈ vs, isCellV v = true) → vs'.length = vs.length → (∀ (j : Nat) v, vs[j]? = some v → ∃ v', vs'[j]? = some v' ∧ R ρ v v') →
    ∃ w', (storeCells ⟨rb, off0, none⟩ vs' i).run P w = .ok () w' ∧ HRel P base w0 ρ h' w' := by
  intro vs
  induction vs with
  | nil =>
    intro vs' i h h' w H hs _ hl _
    simp only [IHp.setRow, Option.some.injEq] at hs
    subst hs
    have : vs' = [] := by cases vs' <;> simp_all
    subst this
    exact ⟨w, by simp [storeCells], H⟩
  | cons v vs ih =>
    intro vs' i h h' w H hs hc hl hR
    cases vs' with
    | nil => simp at hl
    | cons v' vs' =>
      simp only [IHp.setRow, Option.bind_eq_some_iff] at hs
      obtain ⟨h1, hs1, hs2⟩ := hs
      have hRv : R ρ v v' := by
        obtain ⟨u, hu, hr⟩ := hR 0 v (by simp)
        simp at hu; subst hu; exact hr
      have hcv := hc v (by simp)
      obtain ⟨H1, hf, hcell⟩ := H.setCell hs1 hb hcv hRv
      have hcv' : isCellV v' = true := by rw [R_cell hRv]; exact hcv
      have hstore : (store ⟨rb, off0 + i, none⟩ v').run P w = .ok () (w.setCell ⟨rb, off0 + i, none⟩ v') := by
        obtain ⟨u, hu⟩ := Option.isSome_iff_exists.1 hcell
        unfold store
        cases v' <;> simp [isCellV] at hcv' <;> simp [Sem.run, hu, hf]
      obtain ⟨w', hw', H'⟩ := ih vs' (i + 1) h1 h' _ H1 (by rw [show off0 + (i + 1) = off0 + i + 1 by omega]; exact hs2) (fun u hu => hc u (by simp [hu])) (by simpa using hl)
        (fun j u hj => by
          obtain ⟨u', hu, hr⟩ := hR (j + 1) u (by simpa using hj)
          exact ⟨u', by simpa using hu, hr⟩)
      refine ⟨w', ?_, H'⟩
      simp only [storeCells, Sem.run_bind, Addr.add_row, hstore, Result.andThen]
      exact hw'

theorem run_loadCells_row {w : World} (rb off0 : Nat) : ∀ (vs : List Value) (i : Nat) (acc : Array Value), (∀ (j : Nat) v, vs[j]? = some v → w.cell? ⟨rb, off0 + i + j, none⟩ = some v) →
    (loadCellsFrom ⟨rb, off0, none⟩ i vs.length acc).run P w = .ok (acc ++ vs.toArray) w := by
  intro vs
  induction vs with
  | nil => intro i acc _; simp [loadCellsFrom]
  | cons v vs ih =>
    intro i acc h
    have h0 := h 0 v (by simp)
    simp only [Nat.add_zero] at h0
    simp only [List.length_cons, loadCellsFrom, Sem.run_bind, Addr.add_row]
    have : (load ⟨rb, off0 + i, none⟩).run P w = .ok v w := by simp [load, Sem.run, h0]
    rw [this]
    simp only [Result.andThen]
    rw [ih (i + 1) (acc.push v) (fun j u hj => by
      have := h (j + 1) u (by simpa using hj)
      rw [show off0 + (i + 1) + j = off0 + i + (j + 1) by omega]; exact this)]
    simp

/-! ### A new block -/
theorem heap_alloc' (w : World) (O : Obj) : (w.alloc O).heap = w.heap.push O := rfl
theorem HRel.push (H : HRel P base w0 ρ h w) {o : IObj} {O : Obj} {x : Nat} (hO : ∀ ρ', ρ.le ρ' → ORel P ρ' x o (some O)) :
    HRel P base w0 (ρ.add h.new.length (w.heap.size, x)) (h.push o) (w.alloc O) := by
  have hle : ρ.le (ρ.add h.new.length (w.heap.size, x)) := RM.le_add H.dom.1 (H.dom.2 _ (Nat.le_refl _))
  refine ⟨H.below.alloc H.size O, by simp [heap_alloc']; have := H.size; omega, H.old, ?_, ?_, ?_⟩
  · intro i oi ri xi hi hρi
    simp only [IHp.push] at hi
    by_cases e : i = h.new.length
    · subst e
      have : oi = o := by simpa using hi.symm
      subst this
      rw [RM.add_at] at hρi; cases hρi
      exact ⟨H.size, by simp [heap_alloc'], by simpa [heap_alloc'] using hO _ hle⟩
    · have hi' : h.new[i]? = some oi := by
        rw [List.getElem?_append] at hi
        split at hi
        · exact hi
        · rename_i hlt
          have h1 : i - h.new.length = 0 := by
            by_cases hz : i - h.new.length = 0
            · exact hz
            · rw [List.getElem?_eq_none (by simp; omega)] at hi; cases hi
          omega
      rw [RM.add_ne e] at hρi
      obtain ⟨hb, hr, hOi⟩ := H.blk _ _ _ _ hi' hρi
      refine ⟨hb, by simp [heap_alloc']; omega, ?_⟩
      have : (w.alloc O).heap[ri]? = w.heap[ri]? := by rw [heap_alloc', Array.getElem?_push]; simp; omega
      rw [this]
      exact hOi.mono hle
  · have key : ∀ (i : Nat) oi r y, (h.push o).new[i]? = some oi → (ρ.add h.new.length (w.heap.size, x)).at_ i = some (r, y) → (i = h.new.length ∧ r = w.heap.size) ∨ (h.new[i]? = some oi ∧ ρ.at_ i = some (r, y) ∧ r < w.heap.size) := by
      intro i oi r y hi hρ
      by_cases e : i = h.new.length
      · subst e
        rw [RM.add_at] at hρ; cases hρ
        exact .inl ⟨rfl, rfl⟩
      · rw [RM.add_ne e] at hρ
        simp only [IHp.push] at hi
        have hi' : h.new[i]? = some oi := by
          rw [List.getElem?_append] at hi
          split at hi
          · exact hi
          · have h1 : i - h.new.length = 0 := by
              by_cases hz : i - h.new.length = 0
              · exact hz
              · rw [List.getElem?_eq_none (by simp; omega)] at hi; cases hi
            omega
        obtain ⟨_, hr', _⟩ := H.blk _ _ _ _ hi' hρ
        exact .inr ⟨hi', hρ, hr'⟩
    intro i j oi oj r y z hi hli hj hlj hρi hρj
    rcases key i oi r y hi hρi with ⟨rfl, rfl⟩ | ⟨hi', hρi', hri⟩ <;> rcases key j oj _ z hj hρj with ⟨h1, h2⟩ | ⟨hj', hρj', hrj⟩
    · exact h1.symm
    · omega
    · omega
    · exact H.inj i j oi oj r y z hi' hli hj' hlj hρi' hρj'
  · refine ⟨by simp [IHp.push, RM.add], fun i hi => ?_⟩
    simp only [IHp.push, List.length_append, List.length_cons, List.length_nil] at hi
    rw [RM.add_ne (by omega)]
    exact H.dom.2 i (by omega)
theorem RM.le_push (H : HRel P base w0 ρ h w) (p : Nat × Nat) : ρ.le (ρ.add h.new.length p) := RM.le_add H.dom.1 (H.dom.2 _ (Nat.le_refl _))

theorem block_fresh (H : HRel P base w0 ρ h w) (p : Nat × Nat) : (ρ.add h.new.length p).block h.fresh = some p.1 := RM.block_new (x := p.2) (RM.add_at _ _ _)
theorem extra_fresh (H : HRel P base w0 ρ h w) (p : Nat × Nat) : (ρ.add h.new.length p).extra h.fresh = p.2 := RM.extra_new (r := p.1) (RM.add_at _ _ _)
end
end Go.Ideal

-- IdealD
set_option linter.unusedSimpArgs false
set_option linter.unusedVariables false
namespace Go.Ideal
open Go Go.RowKit

section
variable {P : Program} {base : Nat} {w0 w : World} {ρ : RM} {h : IHp}

theorem rUnd {t : TypeId} {d : TypeDesc} (h : P.underlying t = some d) (w : World) : (underlying t).run P w = .ok d w := by
  simp [underlying, Sem.run_bind, Result.andThen, h]
theorem rSize {t : TypeId} {n : Nat} (h : isz P t = some n) (w : World) : (sizeOf t).run P w = .ok n w := by
  unfold isz at h
  cases hi : P.info? t with
  | none => simp [hi] at h
  | some i => simp [hi] at h; subst h; simp [sizeOf, typeInfo, Sem.run_bind, Result.andThen, hi]
theorem rAgg {t : TypeId} {b : Bool} (h : iagg P t = some b) (w : World) : (isAgg t).run P w = .ok b w := by
  unfold iagg at h
  cases hi : P.underlying t with
  | none => simp [hi] at h
  | some d =>
    simp only [hi, Option.map_some, Option.some.injEq] at h
    unfold isAgg
    simp only [Sem.run_bind, rUnd hi w, Result.andThen]
    cases d <;> simp_all
theorem rZero {t : TypeId} {z : Value} (h : izero P t = some z) (w : World) : (zeroValue t).run P w = .ok z w ∧ flat z = true := by
  unfold izero at h
  cases hi : P.info? t with
  | none => simp [hi] at h
  | some i =>
    simp only [hi, Option.bind_some] at h
    cases hz : i.zero with
    | none => simp [hz] at h
    | some v =>
      simp only [hz, Option.bind_some] at h
      split at h
      · rename_i hf; cases h
        exact ⟨by simp [zeroValue, typeInfo, Sem.run_bind, Result.andThen, hi, hz], hf⟩
      · cases h

/-- 'part' of a row that stands for another -/
theorem part_sound {t : TypeId} {cs ds : Array Value} {off : Nat} {v : Value} (hp : ipart P t cs off = some v) (hr : RA ρ cs ds) :
    ∃ v', R ρ v v' ∧ ∀ w, (part t ds off).run P w = .ok v' w := by
  unfold ipart at hp
  simp only [Option.bind_eq_some_iff] at hp
  obtain ⟨b, hb, hp⟩ := hp
  cases b with
  | true =>
    simp only [Option.bind_eq_some_iff] at hp
    obtain ⟨n, hn, hp⟩ := hp
    split at hp
    · rename_i hle
      cases hp
      refine ⟨.agg (ds.extract off (off + n)), ?_, fun w => ?_⟩
      · rw [R_agg]
        refine ⟨_, rfl, RA_mk (by simp [hr.1]) fun i v hv => ?_⟩
        rw [Array.getElem?_extract] at hv ⊢
        split at hv
        · rename_i hi
          obtain ⟨v', h1, h2⟩ := RA_get hr hv
          refine ⟨v', ?_, h2⟩
          rw [if_pos (by rw [← hr.1]; exact hi)]; exact h1
        · cases hv
      · simp [part, Sem.run_bind, rAgg hb w, Result.andThen, rSize hn w]
    · cases hp
  | false =>
    obtain ⟨v', h1, h2⟩ := RA_get hr hp
    exact ⟨v', h2, fun w => by simp [part, Sem.run_bind, rAgg hb w, Result.andThen, h1]⟩

/-- one part of a build laid over the cells -/
theorem foldl_set_get (off : Nat) : ∀ (l : List Value) (j : Nat) (cs : Array Value) (k : Nat),
    ((l.zipIdx j).foldl (fun cs (x : Value × Nat) => cs.setIfInBounds (off + x.2) x.1) cs)[k]? =
      if off + j ≤ k ∧ k < off + j + l.length ∧ k < cs.size then l[k - (off + j)]? else cs[k]? := by
  intro l
  induction l with
  | nil => intro j cs k; simp; intro h1 h2; omega
  | cons v l ih =>
    intro j cs k
    simp only [List.zipIdx_cons, List.foldl_cons, ih, Array.size_setIfInBounds, List.length_cons]
    by_cases h1 : off + (j + 1) ≤ k ∧ k < off + (j + 1) + l.length ∧ k < cs.size
    · rw [if_pos h1, if_pos (by omega)]
      rw [show k - (off + j) = (k - (off + (j + 1))) + 1 by omega]
      simp
    · rw [if_neg h1]
      by_cases h2 : off + j = k
      · subst h2
        by_cases h3 : off + j < cs.size
        · rw [if_pos (by omega)]; simp [h3]
        · rw [if_neg (by omega)]; simp [h3]
      · rw [if_neg (by omega), Array.getElem?_setIfInBounds_ne h2]

theorem foldl_set_size (off : Nat) : ∀ (l : List (Value × Nat)) (cs : Array Value), (l.foldl (fun cs (x : Value × Nat) => cs.setIfInBounds (off + x.2) x.1) cs).size = cs.size := by
  intro l
  induction l with
  | nil => intro cs; rfl
  | cons v l ih => intro cs; simp [ih]

theorem foldl_cells (off : Nat) (cs vs : Array Value) : vs.zipIdx.foldl (fun cs (x : Value × Nat) => cs.setIfInBounds (off + x.2) x.1) cs = (vs.toList.zipIdx 0).foldl (fun cs (x : Value × Nat) => cs.setIfInBounds (off + x.2) x.1) cs := by
  rw [← Array.foldl_toList]; simp

/-- the parts' relation: same places, related values -/
def PRel (ρ : RM) (a b : List (Nat × Value)) : Prop := a.length = b.length ∧ ∀ (i : Nat) p, a[i]? = some p → ∃ q, b[i]? = some q ∧ q.1 = p.1 ∧ R ρ p.2 q.2

theorem fill_sound {place place' : Nat → Option (Nat × Nat)} (hpl : ∀ i p, place i = some p → place' i = some p) : ∀ (a b : List (Nat × Value)) (cs ds r : Array Value), PRel ρ a b → RA ρ cs ds → Instr.fill place cs a = some r →
    ∃ r', Instr.fill place' ds b = some r' ∧ RA ρ r r' := by
  intro a
  induction a with
  | nil =>
    intro b cs ds r hp hr hf
    have : b = [] := by cases b <;> simp_all [PRel]
    subst this
    simp only [Instr.fill, Option.some.injEq] at hf
    subst hf
    exact ⟨ds, rfl, hr⟩
  | cons p a ih =>
    intro b cs ds r hp hr hf
    cases b with
    | nil => simp [PRel] at hp
    | cons q b =>
      obtain ⟨i, v⟩ := p
      obtain ⟨i', v'⟩ := q
      obtain ⟨q0, hq0, hq1, hq2⟩ := hp.2 0 (i, v) (by simp)
      simp only [List.getElem?_cons_zero, Option.some.injEq] at hq0
      subst hq0
      simp only at hq1 hq2
      subst hq1
      simp only [Instr.fill] at hf ⊢
      cases hpi : place i' with
      | none => simp [hpi] at hf
      | some pl =>
        obtain ⟨off, size⟩ := pl
        simp only [hpi] at hf
        rw [hpl _ _ hpi]
        simp only
        have hc := R_cells hq2
        split at hf
        · cases hf
        · rename_i hcond
          simp only [ne_eq, Bool.or_eq_true, decide_eq_true_eq, not_or, Decidable.not_not] at hcond
          rw [if_neg (by
            simp only [ne_eq, Bool.or_eq_true, decide_eq_true_eq, not_or, Decidable.not_not]
            rw [← hc.1, ← hr.1]; exact hcond)]
          refine ih b _ _ r ⟨by simpa using hp.1, fun k p hk => ?_⟩ ?_ hf
          · exact hp.2 (k + 1) p (by simpa using hk)
          · rw [foldl_cells, foldl_cells]
            refine RA_mk (by rw [foldl_set_size, foldl_set_size, hr.1]) fun k u hu => ?_
            rw [foldl_set_get] at hu ⊢
            simp only [Array.length_toList] at hu ⊢
            split at hu
            · rename_i hk
              rw [if_pos (by rw [← hc.1, ← hr.1]; exact hk)]
              rw [Array.getElem?_toList] at hu ⊢
              exact RA_get hc hu
            · rename_i hk
              rw [if_neg (by rw [← hc.1, ← hr.1]; exact hk)]
              exact RA_get hr hu

/-- related operands -/
abbrev EvR (ρ : RM) (ev ev' : Operand → Value) (o : Oper) : Prop := ∀ x ∈ o.op.operands, R ρ (ev x) (ev' x)

theorem RA_map {ev ev' : Operand → Value} {xs : Array Operand} (h : ∀ x ∈ xs, R ρ (ev x) (ev' x)) : RA ρ (xs.map ev) (xs.map ev') := by
  refine RA_mk (by simp) fun i v hv => ?_
  simp only [Array.getElem?_map, Option.map_eq_some_iff] at hv ⊢
  obtain ⟨x, hx, rfl⟩ := hv
  exact ⟨ev' x, ⟨x, hx, rfl⟩, h x (Array.mem_of_getElem? hx)⟩

theorem RA_append {a b a' b' : Array Value} (h1 : RA ρ a a') (h2 : RA ρ b b') : RA ρ (a ++ b) (a' ++ b') := by
  refine RA_mk (by simp [h1.1, h2.1]) fun i v hv => ?_
  rw [Array.getElem?_append] at hv ⊢
  rw [← h1.1]
  split at hv
  · rename_i hi; rw [if_pos hi]; exact RA_get h1 hv
  · rename_i hi; rw [if_neg hi]; exact RA_get h2 hv

theorem PRel_map {ev ev' : Operand → Value} {ps : Array (Nat × Operand)} (h : ∀ p ∈ ps, R ρ (ev p.2) (ev' p.2)) : PRel ρ (ps.map fun (i, x) => (i, ev x)).toList (ps.map fun (i, x) => (i, ev' x)).toList := by
  refine ⟨by simp, fun i p hp => ?_⟩
  simp only [Array.toList_map, List.getElem?_map, Option.map_eq_some_iff] at hp ⊢
  obtain ⟨⟨k, x⟩, hx, rfl⟩ := hp
  refine ⟨(k, ev' x), ⟨(k, x), hx, rfl⟩, rfl, h (k, x) ?_⟩
  exact Array.mem_toList_iff.1 (List.mem_of_getElem? hx)
end
end Go.Ideal

-- IdealE
set_option linter.unusedSimpArgs false
set_option linter.unusedVariables false
namespace Go.Ideal
open Go Go.RowKit

section
variable {P : Program} {base : Nat} {w0 w : World} {ρ : RM} {h : IHp} {ev ev' : Operand → Value}

theorem R_bool {b : Bool} {v : Value} (h : R ρ (.bool b) v) : v = .bool b := by simpa only [R] using h
theorem R_int {k : IntKind} {n : Int} {v : Value} (h : R ρ (.int k n) v) : v = .int k n := by simpa only [R] using h
theorem R_str {s : ByteArray} {v : Value} (h : R ρ (.string s) v) : v = .string s := by simpa only [R] using h
theorem R_ptr {a : Addr} {v : Value} (h : R ρ (.pointer (some a)) v) : a.spot = none ∧ ∃ b, ρ.block a.block = some b ∧ v = .pointer (some ⟨b, a.off, none⟩) := by simpa only [R] using h
theorem R_slice {a : Addr} {l c : Nat} {v : Value} (h : R ρ (.slice (some a) l c) v) (hs : a.spot = none) : a.spot = none ∧ ∃ b, ρ.block a.block = some b ∧ v = .slice (some ⟨b, a.off, none⟩) l (c + ρ.extra a.block) := by
  simp only [R] at h; exact ⟨hs, h.1 hs⟩
theorem R_spotted {a : Addr} {l c : Nat} {v : Value} (h : R ρ (.slice (some a) l c) v) (hs : a.spot ≠ none) : l = 0 ∧ ∃ a' c', v = .slice (some a') 0 c' := by
  simp only [R] at h
  obtain ⟨h1, h2⟩ := h.2 hs
  rcases h2 with ⟨_, h3⟩ | ⟨_, h3⟩
  · exact ⟨h1, _, _, h3⟩
  · obtain ⟨b, _, h4⟩ := h3; exact ⟨h1, _, _, h4⟩
theorem R_anySlice {a : Addr} {l c : Nat} {v : Value} (h : R ρ (.slice (some a) l c) v) : ∃ a' c', v = .slice (some a') l c' := by
  by_cases hs : a.spot = none
  · obtain ⟨_, b, _, rfl⟩ := R_slice h hs; exact ⟨_, _, rfl⟩
  · obtain ⟨rfl, a', c', rfl⟩ := R_spotted h hs; exact ⟨_, _, rfl⟩
theorem spot_of {a : Addr} (h : ¬ spotted (some a) = true) : a.spot = none := by simpa [spotted] using h
theorem R_slice0 {l c : Nat} {v : Value} (h : R ρ (.slice none l c) v) : v = .slice none l c := by simpa only [R] using h
theorem mkR_ptr {a : Addr} {b : Nat} (hs : a.spot = none) (h : ρ.block a.block = some b) : R ρ (.pointer (some a)) (.pointer (some ⟨b, a.off, none⟩)) := by
  simp only [R]; exact ⟨hs, b, h, rfl⟩
theorem mkR_slice {a : Addr} {b l c : Nat} (hs : a.spot = none) (h : ρ.block a.block = some b) : R ρ (.slice (some a) l c) (.slice (some ⟨b, a.off, none⟩) l (c + ρ.extra a.block)) := by
  simp only [R]; exact ⟨fun _ => ⟨b, h, rfl⟩, fun h0 => absurd hs h0⟩

/-- what an operation yields in whatever world -/
def Gives (P : Program) (s : Sem Next) (v : Value) : Prop := ∀ w, s.run P w = .ok (.value v) w
theorem fieldAt_run {s : TypeId} {fs : Array Field} {f : Nat} {fld : Field} {n : Nat} (hu : P.underlying s = some (.struct fs)) (hf : fs[f]? = some fld) (hn : isz P fld.type = some n) (h0 : n ≠ 0) (b off : Nat) (w : World) :
    (Instr.fieldAt s (.pointer (some ⟨b, off, none⟩)) f).run P w = .ok (.pointer (some ⟨b, off + fld.offset, none⟩)) w := by
  simp [Instr.fieldAt, Sem.run_bind, rUnd hu w, Result.andThen, hf, Instr.sureAddr, fieldPlace, rSize hn w, h0, Addr.add_row]

theorem indexAt_slice {t e : TypeId} {k : IntKind} {i : Int} {len cap n b off : Nat} (hu : P.underlying t = some (.slice e)) (hn : isz P e = some n) (hi : 0 ≤ i ∧ i < len) (w : World) :
    (Instr.indexAt t (.slice (some ⟨b, off, none⟩) len cap) (.int k i)).run P w = .ok (.pointer (some ⟨b, off + i.toNat * n, none⟩)) w := by
  simp [Instr.indexAt, Sem.run_bind, asIntOf, rUnd hu w, Result.andThen, rSize hn w, hi, Addr.add_row]

theorem indexAt_array {t e : TypeId} {k : IntKind} {i : Int} {len n b off : Nat} (hu : P.underlying t = some (.array len e)) (hn : isz P e = some n) (hi : 0 ≤ i ∧ i < len) (w : World) :
    (Instr.indexAt t (.pointer (some ⟨b, off, none⟩)) (.int k i)).run P w = .ok (.pointer (some ⟨b, off + i.toNat * n, none⟩)) w := by
  simp [Instr.indexAt, Sem.run_bind, asIntOf, rUnd hu w, Result.andThen, rSize hn w, hi, Addr.add_row, Instr.sureAddr]

theorem extract_run {vs : Array Value} {i : Nat} {v : Value} (h : vs[i]? = some v) (w : World) : (Instr.extract (.tuple vs) i).run P w = .ok v w := by
  simp [Instr.extract, h]

theorem field_run {t : TypeId} {fs : Array Field} {f : Nat} {fld : Field} {cs : Array Value} {v : Value} (hu : P.underlying t = some (.struct fs)) (hf : fs[f]? = some fld)
    (hp : ∀ w, (part fld.type cs fld.offset).run P w = .ok v w) (w : World) : (Instr.field t (.agg cs) f).run P w = .ok v w := by
  simp [Instr.field, Sem.run_bind, rUnd hu w, Result.andThen, hf, asAgg, hp w]

theorem index_array {t e : TypeId} {k : IntKind} {i : Int} {len n : Nat} {cs : Array Value} {v : Value} (hu : P.underlying t = some (.array len e)) (hn : isz P e = some n) (hi : 0 ≤ i ∧ i < len)
    (hp : ∀ w, (part e cs (i.toNat * n)).run P w = .ok v w) (w : World) : (Instr.index t (.agg cs) (.int k i)).run P w = .ok v w := by
  simp [Instr.index, Sem.run_bind, asIntOf, rUnd hu w, Result.andThen, rSize hn w, hi, hp w]
theorem index_string {t : TypeId} {k : IntKind} {i : Int} {s : ByteArray} {b : UInt8} (hu : P.underlying t = some .string) (hi : 0 ≤ i) (hb : s[i.toNat]? = some b) (w : World) :
    (Instr.index t (.string s) (.int k i)).run P w = .ok (.int .u8 b.toNat) w := by
  simp [Instr.index, Sem.run_bind, asIntOf, rUnd hu w, Result.andThen, hi, hb]

theorem mapM_fields : ∀ (fs : List Field) (w : World), (∀ f ∈ fs, (isz P f.type).isSome = true) →
    (fs.mapM (m := Sem) fun f => do pure (f.offset, ← sizeOf f.type)).run P w = .ok (fs.map fun f => (f.offset, (isz P f.type).getD 0)) w := by
  intro fs
  induction fs with
  | nil => intro w _; simp
  | cons f fs ih =>
    intro w hf
    obtain ⟨n, hn⟩ := Option.isSome_iff_exists.1 (hf f (by simp))
    rw [List.mapM_cons]
    simp only [Sem.run_bind, rSize hn w, Result.andThen, ih w fun g hg => hf g (by simp [hg]), Sem.run_pure, List.map_cons, hn, Option.getD_some]

theorem build_sound {t : TypeId} {parts parts' : Array (Nat × Value)} {v : Value} (hb : ibuild P t parts = some v) (hp : PRel ρ parts.toList parts'.toList) :
    ∃ v', R ρ v v' ∧ ∀ w, (Instr.build t parts').run P w = .ok v' w := by
  unfold ibuild at hb
  simp only [Option.bind_eq_some_iff] at hb
  obtain ⟨z, hz, hb⟩ := hb
  have hflat := (rZero hz default).2
  have hzr : RA ρ z.cells z.cells := R_cells (flat_R hflat)
  split at hb
  · rename_i fields hu
    split at hb
    · rename_i hall
      simp only [Option.map_eq_some_iff] at hb
      obtain ⟨cells, hfill, rfl⟩ := hb
      have hall' : ∀ f ∈ fields.toList, (isz P f.type).isSome = true := by
        intro f hf
        rw [Array.all_eq_true_iff_forall_mem] at hall
        exact hall f (Array.mem_toList_iff.1 hf)
      have hplace : ∀ (i : Nat) p, ((fields[i]?).bind fun f => (isz P f.type).map fun s => (f.offset, s)) = some p → ((fields.toList.map fun f => (f.offset, (isz P f.type).getD 0)).toArray)[i]? = some p := by
        intro i p hp
        simp only [Option.bind_eq_some_iff, Option.map_eq_some_iff] at hp
        obtain ⟨f, hf, s, hs, rfl⟩ := hp
        simp [hf, hs]
      obtain ⟨r', hr', hR⟩ := fill_sound hplace _ _ _ _ _ hp hzr hfill
      refine ⟨.agg r', ?_, fun w => ?_⟩
      · rw [R_agg]; exact ⟨r', rfl, hR⟩
      · have hm : (fields.mapM (m := Sem) fun f => do pure (f.offset, ← sizeOf f.type)).run P w = .ok (fields.toList.map fun f => (f.offset, (isz P f.type).getD 0)).toArray w := by
          rw [Array.mapM_eq_mapM_toList, ← bind_pure_comp]
          simp only [Sem.run_bind, mapM_fields fields.toList w hall', Result.andThen, Sem.run_pure]
        simp only [Instr.build, Sem.run_bind, (rZero hz w).1, Result.andThen, rUnd hu w, hm, hr', Sem.run_pure]
    · cases hb
  · rename_i n e hu
    simp only [Option.bind_eq_some_iff, Option.map_eq_some_iff] at hb
    obtain ⟨s, hs, cells, hfill, rfl⟩ := hb
    obtain ⟨r', hr', hR⟩ := fill_sound (place' := fun i => some (i * s, s)) (fun _ _ h => h) _ _ _ _ _ hp hzr hfill
    refine ⟨.agg r', ?_, fun w => ?_⟩
    · rw [R_agg]; exact ⟨r', rfl, hR⟩
    · simp only [Instr.build, Sem.run_bind, (rZero hz w).1, Result.andThen, rUnd hu w, rSize hs w, hr', Sem.run_pure]
  · cases hb
/-! slices of slices -/
theorem HRel.exact (H : HRel P base w0 ρ h w) {b : Nat} (he : iexact h b = true) : ρ.extra b = 0 := by
  unfold iexact at he
  split at he
  · rename_i ho; simp [RM.extra, ho]
  · rename_i ho
    split at he
    · rename_i c e x hc
      cases hρ : ρ.at_ (b / 2) with
      | none => simp [RM.extra, ho, hρ]
      | some p =>
        obtain ⟨r, y⟩ := p
        obtain ⟨_, _, hO⟩ := H.blk _ _ _ _ hc hρ
        obtain ⟨_, _, _, _, hx, _⟩ := hO
        simp [RM.extra, ho, hρ, hx he]
    · cases he

theorem bound_run {v v' : Value} {y y' i : Nat} {code : BoundsCode} (hb : ibound v y = some i) (hr : R ρ v v') (hy : y ≤ y') (w : World) : (Instr.sliceBound v' y' code).run P w = .ok i w := by
  unfold ibound at hb
  split at hb
  · rename_i k n
    split at hb
    · rename_i hn
      cases hb
      have := R_int hr
      subst this
      have hn' : 0 ≤ n ∧ n ≤ (y' : Int) := ⟨hn.1, by omega⟩
      simp only [Instr.sliceBound, Sem.run_bind, asIntOf, Sem.run_pure, Result.andThen, if_pos hn']
    · cases hb
  · cases hb

theorem bounds_run {isS : Bool} {len cap cap' l hh m : Nat} {lo hi lo' hi' : Option Value} (hb : ibounds len cap lo hi = some (l, hh, m)) (hcap : cap ≤ cap')
    (hlo : ∀ v, lo = some v → ∃ v', lo' = some v' ∧ R ρ v v') (hlo0 : lo = none → lo' = none) (hhi : ∀ v, hi = some v → ∃ v', hi' = some v' ∧ R ρ v v') (hhi0 : hi = none → hi' = none) (w : World) :
    (Instr.sliceBounds isS len cap' lo' hi' none).run P w = .ok (l, hh, cap') w ∧ l ≤ hh ∧ hh ≤ cap ∧ m = cap := by
  unfold ibounds at hb
  simp only [Option.bind_eq_some_iff] at hb
  obtain ⟨h1, hh1, l1, hl1, hb⟩ := hb
  split at hb
  · rename_i hc
    simp only [Option.some.injEq, Prod.mk.injEq] at hb
    obtain ⟨rfl, rfl, rfl⟩ := hb
    have e1 : ∀ code, (match hi' with | some v => Instr.sliceBound v cap' code | none => pure len : Sem Nat).run P w = .ok h1 w := by
      intro code
      cases hi with
      | none => rw [hhi0 rfl]; simp at hh1; simp [hh1]
      | some v => obtain ⟨v', rfl, hr⟩ := hhi v rfl; exact bound_run hh1 hr hcap w
    have hle : l1 ≤ h1 := by
      cases lo with
      | none => simp at hl1; omega
      | some v =>
        simp only [ibound] at hl1
        split at hl1
        · split at hl1
          · rename_i hn; cases hl1; omega
          · cases hl1
        · cases hl1
    have e2 : ∀ code, (match lo' with | some v => Instr.sliceBound v h1 code | none => pure 0 : Sem Nat).run P w = .ok l1 w := by
      intro code
      cases lo with
      | none => rw [hlo0 rfl]; simp at hl1; simp [hl1]
      | some v => obtain ⟨v', rfl, hr⟩ := hlo v rfl; exact bound_run hl1 hr (Nat.le_refl _) w
    refine ⟨?_, hle, hc, rfl⟩
    unfold Instr.sliceBounds
    cases hi' with
    | none =>
      have := e1 .sliceAcap
      simp only [Sem.run_pure, Result.ok.injEq, and_true] at this
      subst this
      have e2' := e2 .sliceB
      cases lo' with
      | none => simp at e2'; simp [Sem.run_bind, Result.andThen, e2']
      | some v => simp only at e2'; simp [Sem.run_bind, Result.andThen, e2']
    | some v =>
      have e1' := e1 (if isS then .sliceAcap else .sliceAlen)
      simp only at e1'
      have e2' := e2 .sliceB
      cases lo' with
      | none => simp at e2'; simp [Sem.run_bind, Result.andThen, e1', e2']
      | some u => simp only at e2'; simp [Sem.run_bind, Result.andThen, e1', e2']
  · cases hb

theorem R_spotted0 {a : Addr} {v : Value} (h : R ρ (.slice (some a) 0 0) v) (hs : spotted (some a) = true) : v = .slice (some a) 0 0 := by
  have h1 : a.spot ≠ none := fun e => by simp [spotted, e] at hs
  simp only [R] at h
  obtain ⟨_, h2⟩ := h.2 h1
  rcases h2 with ⟨_, h3⟩ | ⟨h3, _⟩
  · exact h3
  · cases h3
theorem slice_sound (H : HRel P base w0 ρ h w) {t : TypeId} {x x' v : Value} {lo hi mx lo' hi' mx' : Option Value} (hs : islice P h t x lo hi mx = some v) (hx : R ρ x x')
    (hlo : ∀ v, lo = some v → ∃ v', lo' = some v' ∧ R ρ v v') (hlo0 : lo = none → lo' = none) (hhi : ∀ v, hi = some v → ∃ v', hi' = some v' ∧ R ρ v v') (hhi0 : hi = none → hi' = none) (hmx : mx = none → mx' = none) :
    ∃ v', R ρ v v' ∧ ∀ w, (Instr.sliceAt t x' lo' hi' mx').run P w = .ok v' w := by
  unfold islice at hs
  split at hs
  · rename_i e len cap hu
    simp only [Option.bind_eq_some_iff] at hs
    obtain ⟨⟨l, hh, m⟩, hb, s, hsz, hs⟩ := hs
    cases hs
    have := R_slice0 hx; subst this
    rw [hmx rfl]
    refine ⟨.slice none (hh - l) (cap - l), ?_, fun w => ?_⟩
    · obtain ⟨_, _, _, rfl⟩ := bounds_run (P := P) (isS := true) hb (Nat.le_refl _) hlo hlo0 hhi hhi0 w
      simp only [R]
    · obtain ⟨hrun, _⟩ := bounds_run (P := P) (isS := true) hb (Nat.le_refl _) hlo hlo0 hhi hhi0 w
      simp [Instr.sliceAt, Instr.slice, Sem.run_bind, rUnd hu w, Result.andThen, hrun, rSize hsz w]
  · rename_i e a len cap hu
    split at hs
    · rename_i hspot
      split at hs
      · rename_i h00
        obtain ⟨rfl, rfl⟩ := h00
        simp only [Option.bind_eq_some_iff] at hs
        obtain ⟨⟨l, hh, m⟩, hb, s, hsz, hs⟩ := hs
        have hs := Option.some.inj hs
        subst hs
        have hx2 := R_spotted0 hx hspot
        subst hx2
        rw [hmx rfl]
        refine ⟨.slice (some a) 0 0, hx, fun w => ?_⟩
        obtain ⟨hrun, h1, h2, h3⟩ := bounds_run (P := P) (isS := true) hb (Nat.le_refl _) hlo hlo0 hhi hhi0 w
        have e1 : l = 0 := by omega
        have e2 : hh = 0 := by omega
        subst e1; subst e2
        simp [Instr.sliceAt, Instr.slice, Sem.run_bind, rUnd hu w, Result.andThen, hrun, rSize hsz w]
      · cases hs
    rename_i hspot
    simp only [Option.bind_eq_some_iff] at hs
    obtain ⟨⟨l, hh, m⟩, hb, s, hsz, hs⟩ := hs
    obtain ⟨hsp, b, hblk, rfl⟩ := R_slice hx (spot_of hspot)
    rw [hmx rfl]
    obtain ⟨_, hl, hhc, hmc⟩ := bounds_run (P := P) (isS := true) (cap' := cap + ρ.extra a.block) hb (by omega) hlo hlo0 hhi hhi0 w
    have hmc' := hmc.symm
    clear hmc
    subst hmc'
    have hrun := fun w => (bounds_run (P := P) (isS := true) (cap' := cap + ρ.extra a.block) hb (by omega) hlo hlo0 hhi hhi0 w).1
    have real : ∀ w, (Instr.sliceAt t (.slice (some ⟨b, a.off, none⟩) len (cap + ρ.extra a.block)) lo' hi' none).run P w =
        .ok (.slice (if cap + ρ.extra a.block = l then some ⟨b, a.off, none⟩ else some ⟨b, a.off + l * s, none⟩) (hh - l) (cap + ρ.extra a.block - l)) w := by
      intro w
      simp [Instr.sliceAt, Instr.slice, Sem.run_bind, rUnd hu w, Result.andThen, hrun w, rSize hsz w, Addr.add_row]
    simp only at hs
    split at hs
    · rename_i hml
      split at hs
      · rename_i hex
        cases hs
        have hx0 := H.exact hex
        refine ⟨_, ?_, real⟩
        rw [hx0, if_pos (by omega), show cap + 0 - l = (cap - l) + ρ.extra a.block by rw [hx0]; omega]
        exact mkR_slice hsp hblk
      · split at hs
        · rename_i hhl
          cases hs
          refine ⟨_, ?_, real⟩
          rw [hhl, Nat.sub_self]
          simp only [R]
          refine ⟨fun h => (by cases h), fun _ => ⟨trivial, .inr ⟨trivial, b, hblk, ?_⟩⟩⟩
          simp only [Option.getD_some]
          rw [show cap + ρ.extra a.block - l = ρ.extra a.block by omega]
          by_cases hx : ρ.extra a.block = 0
          · rw [if_pos (by omega), if_pos hx]
          · rw [if_neg (by omega), if_neg hx]
        · cases hs
    · rename_i hml
      cases hs
      refine ⟨_, ?_, real⟩
      have : (if cap + ρ.extra a.block = l then some (⟨b, a.off, none⟩ : Addr) else some ⟨b, a.off + l * s, none⟩) = some ⟨b, a.off + l * s, none⟩ := by
        split
        · have : l = 0 := by omega
          subst this; simp
        · rfl
      rw [this, show cap + ρ.extra a.block - l = (cap - l) + ρ.extra a.block by omega]
      exact mkR_slice (a := { block := a.block, off := a.off + l * s }) rfl hblk
  · rename_i s hu
    simp only [Option.bind_eq_some_iff] at hs
    obtain ⟨⟨l, hh, m⟩, hb, hs⟩ := hs
    cases hs
    have := R_str hx; subst this
    rw [hmx rfl]
    refine ⟨.string (s.extract l hh), by simp only [R], fun w => ?_⟩
    obtain ⟨hrun, _⟩ := bounds_run (P := P) (isS := false) hb (Nat.le_refl _) hlo hlo0 hhi hhi0 w
    simp [Instr.sliceAt, Instr.slice, Sem.run_bind, rUnd hu w, Result.andThen, hrun]
  · cases hs
end
end Go.Ideal

-- IdealF
set_option linter.unusedSimpArgs false
set_option linter.unusedVariables false
namespace Go.Ideal
open Go Go.RowKit

section
variable {P : Program} {base : Nat} {w0 w : World} {ρ : RM} {h : IHp} {ev ev' : Operand → Value}

theorem equal_succ (t : TypeId) (x y : Value) : Op.equal t x y = Op.equalIn (9999 + 1) t x y := rfl
theorem eq_slice {t e : TypeId} (hu : P.underlying t = some (.slice e)) (a : Option Addr) (l c l2 c2 : Nat) (w : World) : (Op.equal t (.slice a l c) (.slice none l2 c2)).run P w = .ok a.isNone w := by
  rw [equal_succ]
  generalize 9999 = d
  cases a <;> simp [Op.equalIn, Sem.run_bind, rUnd hu w, Result.andThen]
theorem eq_ptr {t e : TypeId} (hu : P.underlying t = some (.pointer e)) (a : Option Addr) (w : World) : (Op.equal t (.pointer a) (.pointer none)).run P w = .ok a.isNone w := by
  rw [equal_succ]
  generalize 9999 = d
  cases a <;> simp [Op.equalIn, Sem.run_bind, rUnd hu w, Result.andThen]
theorem eq_map {t k e : TypeId} (hu : P.underlying t = some (.map k e)) (a : Option Nat) (w : World) : (Op.equal t (.map a) (.map none)).run P w = .ok a.isNone w := by
  rw [equal_succ]
  generalize 9999 = d
  cases a <;> simp [Op.equalIn, Sem.run_bind, rUnd hu w, Result.andThen]
theorem eq_func0 {t : TypeId} {a b : Array TypeId} {v : Bool} (hu : P.underlying t = some (.func a b v)) (w : World) : (Op.equal t .nilFunc .nilFunc).run P w = .ok true w := by
  rw [equal_succ]
  generalize 9999 = d
  simp [Op.equalIn, Sem.run_bind, rUnd hu w, Result.andThen]
theorem eq_func {t : TypeId} {a b : Array TypeId} {v : Bool} (hu : P.underlying t = some (.func a b v)) (fn : Fn) (f c : Array Value) (w : World) : (Op.equal t (.func fn f c) .nilFunc).run P w = .ok false w := by
  rw [equal_succ]
  generalize 9999 = d
  simp [Op.equalIn, Sem.run_bind, rUnd hu w, Result.andThen]

theorem nil_run {t : TypeId} {x y x' y' : Value} {b : Bool} (hn : inil P t x y = some b) (hx : R ρ x x') (hy : R ρ y y') (w : World) : (Op.equal t x' y').run P w = .ok b w := by
  unfold inil at hn
  split at hn
  · rename_i e a l c l2 c2 hu
    cases hn
    have := R_slice0 hy; subst this
    cases a with
    | none => have := R_slice0 hx; subst this; exact eq_slice hu _ _ _ _ _ w
    | some a => obtain ⟨a', c', rfl⟩ := R_anySlice hx; exact eq_slice hu _ _ _ _ _ w
  · rename_i e a hu
    cases hn
    have : y' = .pointer none := by simpa only [R] using hy
    subst this
    cases a with
    | none =>
      have : x' = .pointer none := by simpa only [R] using hx
      subst this; exact eq_ptr hu _ w
    | some a => obtain ⟨_, b, _, rfl⟩ := R_ptr hx; exact eq_ptr hu _ w
  · rename_i k e a hu
    cases hn
    have : y' = .map none := by simpa only [R] using hy
    subst this
    cases a with
    | none =>
      have : x' = .map none := by simpa only [R] using hx
      subst this; exact eq_map hu _ w
    | some a =>
      simp only [R] at hx
      obtain ⟨_, b, _, rfl⟩ := hx; exact eq_map hu _ w
  · rename_i hu
    cases hn
    have : y' = .nilFunc := by simpa only [R] using hy
    subst this
    have : x' = .nilFunc := by simpa only [R] using hx
    subst this
    exact eq_func0 hu w
  · rename_i ps rs vr fn f c hu
    cases hn
    have : y' = .nilFunc := by simpa only [R] using hy
    subst this
    have : ∃ fn' f' c', x' = .func fn' f' c' := by
      cases fn with
      | func g => rw [R_func] at hx; obtain ⟨f', c', rfl, _⟩ := hx; exact ⟨_, _, _, rfl⟩
      | yield l => simp only [R] at hx; obtain ⟨_, _, _, b, _, rfl⟩ := hx; exact ⟨_, _, _, rfl⟩
      | _ => simp only [R] at hx
    obtain ⟨fn', f', c', rfl⟩ := this
    exact eq_func hu _ _ _ w
  · cases hn

theorem inil_shape {t : TypeId} {x y : Value} {b : Bool} (hn : inil P t x y = some b) : (∃ a l c, x = .slice a l c) ∨ (∃ a, x = .pointer a) ∨ (∃ a, x = .map a) ∨ x = .nilFunc ∨ (∃ f a c, x = .func f a c) := by
  unfold inil at hn
  split at hn
  · exact .inl ⟨_, _, _, rfl⟩
  · exact .inr (.inl ⟨_, rfl⟩)
  · exact .inr (.inr (.inl ⟨_, rfl⟩))
  · exact .inr (.inr (.inr (.inl rfl)))
  · exact .inr (.inr (.inr (.inr ⟨_, _, _, rfl⟩)))
  · cases hn

/-- neither an interface's value, a struct, a number nor a string -/
def plainV : Value → Bool
  | .slice .. | .pointer _ | .map _ | .nilFunc | .func .. => true
  | _ => false
theorem plainV_R {x x' : Value} (h : plainV x = true) (hr : R ρ x x') : plainV x' = true := by
  cases x with
  | slice a l c =>
    cases a with
    | none => have := R_slice0 hr; subst this; rfl
    | some a => obtain ⟨a', c', rfl⟩ := R_anySlice hr; rfl
  | pointer a =>
    cases a with
    | none =>
      have : x' = .pointer none := by simpa only [R] using hr
      subst this; rfl
    | some a => obtain ⟨_, b, _, rfl⟩ := R_ptr hr; rfl
  | map a => cases a with
    | none => have : x' = .map none := by simpa only [R] using hr
              subst this; rfl
    | some a => simp only [R] at hr; obtain ⟨_, b, _, rfl⟩ := hr; rfl
  | nilFunc => have : x' = .nilFunc := by simpa only [R] using hr
               subst this; rfl
  | func fn f c =>
    cases fn with
    | func g => rw [R_func] at hr; obtain ⟨f', c', rfl, _⟩ := hr; rfl
    | yield l => simp only [R] at hr; obtain ⟨_, _, _, b, _, rfl⟩ := hr; rfl
    | _ => simp only [R] at hr
  | _ => simp [plainV] at h
theorem plain_guard {op : BinOp} {t : TypeId} {x y : Operand} {a b : Value} (h : plainV a = true) (w : World) : (eqGuard op t x y a b).run P w = .ok () w := by
  cases a <;> simp [plainV] at h <;> cases op <;> simp [eqGuard]
theorem plain_eql {t : TypeId} {a b : Value} (h : plainV a = true) (w : World) : (binOp .eql t a b).run P w = ((Op.equal t a b).run P w).andThen fun r w => .ok (.bool r) w := by
  cases a <;> simp [plainV] at h <;> simp [binOp]
theorem plain_neq {t : TypeId} {a b : Value} (h : plainV a = true) (w : World) : (binOp .neq t a b).run P w = ((Op.equal t a b).run P w).andThen fun r w => .ok (.bool (!r)) w := by
  cases a <;> simp [plainV] at h <;> simp [binOp]

theorem flat_case {o : Oper} {v : Value} (hs : ∀ cs b, o.op ≠ .select cs b) (hf : ∀ x ∈ o.op.operands, flat (ev x) = true) (hev : EvR ρ ev ev' o) (hp : iflat P ev o = some v) :
    ∃ v', R ρ v v' ∧ Gives P (execOp ev' o) v' := by
  unfold iflat at hp
  split at hp
  · rename_i u hu
    split at hp
    · rename_i hv
      cases hp
      have : execOp ev' o = execOp ev o := execOp_congr o hs fun x hx => flat_eq (hf x hx) (hev x hx)
      rw [this]
      exact ⟨v, flat_R hv, pureOf_run hu⟩
    · cases hp
  · cases hp

theorem opt_map {lo : Option Operand} (hlo : ∀ x, lo = some x → R ρ (ev x) (ev' x)) : (∀ v, lo.map ev = some v → ∃ v', lo.map ev' = some v' ∧ R ρ v v') ∧ (lo.map ev = none → lo.map ev' = none) := by
  cases lo with
  | none => simp
  | some x => simp; exact hlo x rfl

theorem ipure_sound (H : HRel P base w0 ρ h w) {o : Oper} {v : Value} (hp : ipure P h ev o = some v) (hev : EvR ρ ev ev' o) : ∃ v', R ρ v v' ∧ Gives P (execOp ev' o) v' := by
  obtain ⟨dst, op, type, pos, after, guard⟩ := o
  simp only [EvR] at hev
  cases op with
  | move x => simp only [ipure, Option.some.injEq] at hp; subst hp; exact ⟨ev' x, hev x (by simp [Op.operands]), fun w => by simp [execOp]⟩
  | assign x => simp only [ipure, Option.some.injEq] at hp; subst hp; exact ⟨ev' x, hev x (by simp [Op.operands]), fun w => by simp [execOp]⟩
  | pick c a b =>
    simp only [ipure] at hp
    split at hp
    · rename_i t hc
      cases hp
      have h1 := hev c (by simp [Op.operands])
      rw [hc] at h1
      have h2 := R_bool h1
      refine ⟨if t then ev' a else ev' b, ?_, fun w => ?_⟩
      · cases t
        · exact hev b (by simp [Op.operands])
        · exact hev a (by simp [Op.operands])
      · simp [execOp, h2, asBool]
    · cases hp
  | extract t i =>
    simp only [ipure] at hp
    split at hp
    · rename_i vs ht
      have h1 := hev t (by simp [Op.operands])
      rw [ht, R_tuple] at h1
      obtain ⟨ds, h1, hr⟩ := h1
      obtain ⟨v', h2, h3⟩ := RA_get hr hp
      exact ⟨v', h3, fun w => by simp only [execOp, h1, Sem.run_bind, extract_run h2 w, Result.andThen, Sem.run_pure]⟩
    · cases hp
  | field xt x f =>
    simp only [ipure] at hp
    split at hp
    · rename_i fs cs hu hx
      simp only [Option.bind_eq_some_iff] at hp
      obtain ⟨fld, hf, hp⟩ := hp
      have h1 := hev x (by simp [Op.operands])
      rw [hx, R_agg] at h1
      obtain ⟨ds, h1, hr⟩ := h1
      obtain ⟨v', h2, h3⟩ := part_sound hp hr
      exact ⟨v', h2, fun w => by simp only [execOp, h1, Sem.run_bind, field_run hu hf h3 w, Result.andThen, Sem.run_pure]⟩
    · cases hp
  | fieldAddr s x f =>
    simp only [ipure] at hp
    split at hp
    · rename_i fs a hu hx
      simp only [Option.bind_eq_some_iff] at hp
      obtain ⟨fld, hf, n, hn, hp⟩ := hp
      split at hp
      · cases hp
      · rename_i h0
        cases hp
        have h1 := hev x (by simp [Op.operands])
        rw [hx] at h1
        obtain ⟨hsp, b, hb, h1⟩ := R_ptr h1
        refine ⟨_, mkR_ptr (a := { block := a.block, off := a.off + fld.offset }) rfl hb, fun w => ?_⟩
        simp only [execOp, h1, Sem.run_bind, fieldAt_run hu hf hn h0, Result.andThen, Sem.run_pure]
    · cases hp
  | indexAddr t x ix =>
    simp only [ipure] at hp
    have h1 := hev x (by simp [Op.operands])
    have h2 := hev ix (by simp [Op.operands])
    split at hp
    · rename_i e a len cap k i hu hx hi
      rw [hx] at h1; rw [hi] at h2
      split at hp
      · rename_i hb
        simp only [Option.bind_eq_some_iff] at hp
        obtain ⟨n, hn, hp⟩ := hp
        cases hp
        have hsp0 : a.spot = none := Decidable.byContradiction fun hn => by obtain ⟨rfl, _⟩ := R_spotted h1 hn; omega
        obtain ⟨hsp, b, hbl, h1⟩ := R_slice h1 hsp0
        have h2 := R_int h2
        refine ⟨_, mkR_ptr (a := { block := a.block, off := a.off + i.toNat * n }) rfl hbl, fun w => ?_⟩
        simp only [execOp, h1, h2, Sem.run_bind, indexAt_slice hu hn hb, Result.andThen, Sem.run_pure]
      · cases hp
    · rename_i len e a k i hu hx hi
      rw [hx] at h1; rw [hi] at h2
      split at hp
      · rename_i hb
        simp only [Option.bind_eq_some_iff] at hp
        obtain ⟨n, hn, hp⟩ := hp
        cases hp
        obtain ⟨hsp, b, hbl, h1⟩ := R_ptr h1
        have h2 := R_int h2
        refine ⟨_, mkR_ptr (a := { block := a.block, off := a.off + i.toNat * n }) rfl hbl, fun w => ?_⟩
        simp only [execOp, h1, h2, Sem.run_bind, indexAt_array hu hn hb, Result.andThen, Sem.run_pure]
      · cases hp
    · cases hp
  | index t x ix =>
    simp only [ipure] at hp
    have h1 := hev x (by simp [Op.operands])
    have h2 := hev ix (by simp [Op.operands])
    split at hp
    · rename_i len e cs k i hu hx hi
      rw [hx] at h1; rw [hi] at h2
      split at hp
      · rename_i hb
        simp only [Option.bind_eq_some_iff] at hp
        obtain ⟨n, hn, hp⟩ := hp
        rw [R_agg] at h1
        obtain ⟨ds, h1, hr⟩ := h1
        have h2 := R_int h2
        obtain ⟨v', h3, h4⟩ := part_sound hp hr
        exact ⟨v', h3, fun w => by simp only [execOp, h1, h2, Sem.run_bind, index_array hu hn hb h4 w, Result.andThen, Sem.run_pure]⟩
      · cases hp
    · rename_i s k i hu hx hi
      rw [hx] at h1; rw [hi] at h2
      split at hp
      · rename_i h0
        simp only [Option.map_eq_some_iff] at hp
        obtain ⟨b, hb, rfl⟩ := hp
        have h1 := R_str h1
        have h2 := R_int h2
        exact ⟨.int .u8 b.toNat, by simp only [R], fun w => by simp only [execOp, h1, h2, Sem.run_bind, index_string hu h0 hb w, Result.andThen, Sem.run_pure]⟩
      · cases hp
    · cases hp
  | build t parts =>
    simp only [ipure] at hp
    obtain ⟨v', h1, h2⟩ := build_sound hp (PRel_map (ev := ev) (ev' := ev') fun p hp => hev p.2 (by
      simp only [Op.operands, List.mem_toArray, List.mem_map]; exact ⟨p, Array.mem_toList_iff.2 hp, rfl⟩))
    exact ⟨v', h1, fun w => by simp only [execOp, Sem.run_bind, h2 w, Result.andThen, Sem.run_pure]⟩
  | makeFunc fn first captured =>
    cases fn with
    | func f =>
      simp only [ipure, Option.some.injEq] at hp
      subst hp
      refine ⟨.func (.func f) (first.map ev') (captured.map ev'), ?_, fun w => by simp [execOp, Instr.makeFunc]⟩
      rw [R_func]
      exact ⟨_, _, rfl, RA_map fun x hx => hev x (by simp [Op.operands, hx]), RA_map fun x hx => hev x (by simp [Op.operands, hx])⟩
    | _ => simp [ipure] at hp
  | slice t x lo hi mx =>
    simp only [ipure] at hp
    have hlo := opt_map (ρ := ρ) (ev := ev) (ev' := ev') (lo := lo) fun y hy => hev y (by simp [Op.operands, hy])
    have hhi := opt_map (ρ := ρ) (ev := ev) (ev' := ev') (lo := hi) fun y hy => hev y (by simp [Op.operands, hy])
    have hmx := opt_map (ρ := ρ) (ev := ev) (ev' := ev') (lo := mx) fun y hy => hev y (by simp [Op.operands, hy])
    obtain ⟨v', h1, h2⟩ := slice_sound H hp (hev x (by simp [Op.operands])) hlo.1 hlo.2 hhi.1 hhi.2 hmx.2
    exact ⟨v', h1, fun w => by simp only [execOp, Sem.run_bind, h2 w, Result.andThen, Sem.run_pure]⟩
  | nilCheck x =>
    simp only [ipure] at hp
    have h1 := hev x (by simp [Op.operands])
    split at hp
    · rename_i a hx
      cases hp
      rw [hx] at h1
      obtain ⟨hs, b, hb, h2⟩ := R_ptr h1
      exact ⟨_, mkR_ptr hs hb, fun w => by simp [execOp, h2]⟩
    · rename_i f a b hx
      cases hp
      rw [hx] at h1
      have h3 := h1
      rw [R_func] at h1
      obtain ⟨f', c', h2, _⟩ := h1
      exact ⟨_, by rw [h2] at h3; exact h3, fun w => by simp [execOp, h2]⟩
    · cases hp
  | binOp bop t x y yt =>
    have h1 := hev x (by simp [Op.operands])
    have h2 := hev y (by simp [Op.operands])
    simp only [ipure] at hp
    split at hp
    · rename_i b hb
      cases hp
      split at hb
      · split at hb
        · have hs := inil_shape hb
          have hpl : plainV (ev x) = true := by rcases hs with ⟨a, l, c, e⟩ | ⟨a, e⟩ | ⟨a, e⟩ | e | ⟨f, a, c, e⟩ <;> rw [e] <;> rfl
          have hpl' := plainV_R hpl h1
          exact ⟨.bool b, by simp only [R], fun w => by simp only [execOp, Sem.run_bind, plain_guard hpl' w, Result.andThen, plain_eql hpl' w, nil_run hb h1 h2 w, Sem.run_pure]⟩
        · simp only [Option.map_eq_some_iff] at hb
          obtain ⟨b', hb, rfl⟩ := hb
          have hs := inil_shape hb
          have hpl : plainV (ev x) = true := by rcases hs with ⟨a, l, c, e⟩ | ⟨a, e⟩ | ⟨a, e⟩ | e | ⟨f, a, c, e⟩ <;> rw [e] <;> rfl
          have hpl' := plainV_R hpl h1
          exact ⟨.bool !b', by simp only [R], fun w => by simp only [execOp, Sem.run_bind, plain_guard hpl' w, Result.andThen, plain_neq hpl' w, nil_run hb h1 h2 w, Sem.run_pure]⟩
        · cases hb
      · cases hb
    · split at hp
      · rename_i hf
        simp only [Bool.and_eq_true] at hf
        exact flat_case (by simp) (fun z hz => by
          simp only [Op.operands, List.mem_toArray, List.mem_cons, List.not_mem_nil, or_false] at hz
          rcases hz with rfl | rfl; exact hf.1; exact hf.2) hev hp
      · cases hp
  | unOp a b c =>
    simp only [ipure] at hp
    split at hp
    · rename_i hf
      simp only [opFlat, List.all_eq_true] at hf
      exact flat_case (by simp) (fun z hz => hf z (Array.mem_toList_iff.2 hz)) hev hp
    · cases hp
  | convert a b c =>
    simp only [ipure] at hp
    split at hp
    · rename_i hf
      simp only [opFlat, List.all_eq_true] at hf
      exact flat_case (by simp) (fun z hz => hf z (Array.mem_toList_iff.2 hz)) hev hp
    · cases hp
  | call c =>
    have gen : (if opFlat ev ⟨dst, .call c, type, pos, after, guard⟩ then iflat P ev ⟨dst, .call c, type, pos, after, guard⟩ else none) = some v →
        ∃ v', R ρ v v' ∧ Gives P (execOp ev' ⟨dst, .call c, type, pos, after, guard⟩) v' := by
      intro hp
      split at hp
      · rename_i hf
        simp only [opFlat, List.all_eq_true] at hf
        exact flat_case (by simp) (fun z hz => hf z (Array.mem_toList_iff.2 hz)) hev hp
      · cases hp
    obtain ⟨callee, args, argTypes⟩ := c
    by_cases hl : callee = .builtin .len
    · subst hl
      simp only [ipure] at hp
      split at hp
      · rename_i x t hx ht
        have h1 := hev x (by simp [Op.operands, Call.operands]; exact Array.mem_of_getElem? hx)
        split at hp
        · rename_i e a n c hu hxx
          cases hp
          rw [hxx] at h1
          refine ⟨.int .i64 n, by simp only [R], fun w => ?_⟩
          have h2 : ∃ a' c', ev' x = .slice a' n c' := by
            cases a with
            | none => exact ⟨_, _, R_slice0 h1⟩
            | some a => obtain ⟨a', c', h⟩ := R_anySlice h1; exact ⟨_, _, h⟩
          obtain ⟨a', c', h2⟩ := h2
          simp [execOp, resolve, invoke, builtin, Builtin.len_, hx, ht, h2, Sem.run_bind, rUnd hu w, Result.andThen, goInt]
        · rename_i s hu hxx
          cases hp
          rw [hxx] at h1
          have h2 := R_str h1
          refine ⟨.int .i64 s.size, by simp only [R], fun w => ?_⟩
          simp [execOp, resolve, invoke, builtin, Builtin.len_, hx, ht, h2, Sem.run_bind, rUnd hu w, Result.andThen, goInt]
        · rename_i n e hu
          cases hp
          refine ⟨.int .i64 n, by simp only [R], fun w => ?_⟩
          cases hxx : ev' x <;> simp [execOp, resolve, invoke, builtin, Builtin.len_, hx, ht, hxx, Sem.run_bind, rUnd hu w, Result.andThen, goInt]
        · cases hp
      · cases hp
    by_cases hl2 : callee = .builtin .cap
    · subst hl2
      simp only [ipure] at hp
      split at hp
      · rename_i x t hx ht
        have h1 := hev x (by simp [Op.operands, Call.operands]; exact Array.mem_of_getElem? hx)
        split at hp
        · rename_i e n c hu hxx
          cases hp
          rw [hxx] at h1
          refine ⟨.int .i64 c, by simp only [R], fun w => ?_⟩
          have h2 := R_slice0 h1
          simp [execOp, resolve, invoke, builtin, Builtin.cap_, hx, ht, h2, Sem.run_bind, rUnd hu w, Result.andThen, goInt]
        · cases hp
      · cases hp
    · refine gen ?_
      cases callee with
      | builtin b => cases b <;> first | (exact absurd rfl hl) | (exact absurd rfl hl2) | (simpa only [ipure] using hp)
      | _ => simpa only [ipure] using hp
  | _ => simp [ipure] at hp
end
end Go.Ideal

-- IdealG
set_option linter.unusedSimpArgs false
set_option linter.unusedVariables false
namespace Go.Ideal
open Go Go.RowKit

/-- an operation runs: it yields v', or it yields nothing (and its slot is left undefined) -/
def OkRun (P : Program) (s : Sem Next) (w : World) (v' : Value) (w' : World) : Prop := s.run P w = .ok (.value v') w' ∨ (v' = undef ∧ s.run P w = .ok .skip w')

section
variable {P : Program} {base : Nat} {w0 w : World} {ρ : RM} {h : IHp} {ev ev' : Operand → Value}

theorem run_askRoom' (n : Nat) (w : World) : (askRoom n).run P w = .ok () w := by
  unfold askRoom
  split
  · simp [mark, Sem.run]
  · simp

theorem load_agg {t : TypeId} {rb off : Nat} {vs' : List Value} (ha : iagg P t = some true) (hn : isz P t = some vs'.length) (hc : ∀ (j : Nat) v, vs'[j]? = some v → w.cell? ⟨rb, off + j, none⟩ = some v) :
    (Instr.loadAt t (.pointer (some ⟨rb, off, none⟩))).run P w = .ok (.agg vs'.toArray) w := by
  have := run_loadCells_row (P := P) (w := w) rb off vs' 0 #[] (by simpa using hc)
  simp only [Instr.loadAt, Instr.sureAddr, Sem.run_bind, Sem.run_pure, Result.andThen, loadVar, rAgg ha w, if_true, rSize hn w, loadCells, this]
  simp
theorem load_one {t : TypeId} {rb off : Nat} {v : Value} (ha : iagg P t = some false) (hc : w.cell? ⟨rb, off, none⟩ = some v) :
    (Instr.loadAt t (.pointer (some ⟨rb, off, none⟩))).run P w = .ok v w := by
  simp [Instr.loadAt, Instr.sureAddr, Sem.run_bind, Result.andThen, loadVar, rAgg ha w, load, Sem.run, hc]

theorem load_sound (H : HRel P base w0 ρ h w) {t : TypeId} {a a' u : Value} (hl : iload P h t a = some u) (ha : R ρ a a') : ∃ u', R ρ u u' ∧ (Instr.loadAt t a').run P w = .ok u' w := by
  unfold iload at hl
  split at hl
  · rename_i a
    obtain ⟨hs, rb, hb, rfl⟩ := R_ptr ha
    simp only [Option.bind_eq_some_iff] at hl
    obtain ⟨g, hg, hl⟩ := hl
    cases g with
    | true =>
      simp only [Option.bind_eq_some_iff, Option.map_eq_some_iff] at hl
      obtain ⟨n, hn, vs, hr, rfl⟩ := hl
      obtain ⟨h1, h2, vs', h3, h4, h5⟩ := H.row hb _ _ _ hr
      refine ⟨.agg vs'.toArray, ?_, load_agg hg (by rw [h3]; exact hn) h4⟩
      rw [R_agg]
      exact ⟨_, rfl, RA_of_lists (by omega) h5⟩
    | false =>
      obtain ⟨_, v', hw, hR⟩ := H.cell hb hl
      exact ⟨v', hR, load_one hg hw⟩
  · cases hl

theorem row_cells {v : Value} (h : isRowV v = true) : ∀ u ∈ v.cells.toList, isCellV u = true := by
  unfold isRowV at h
  rw [List.all_eq_true] at h
  exact h

theorem RA_list {cs ds : Array Value} (h : RA ρ cs ds) : ds.toList.length = cs.toList.length ∧ ∀ (j : Nat) v, cs.toList[j]? = some v → ∃ v', ds.toList[j]? = some v' ∧ R ρ v v' := by
  refine ⟨by simp [h.1], fun j v hj => ?_⟩
  rw [Array.getElem?_toList] at hj ⊢
  exact RA_get h hj

theorem store_sound (H : HRel P base w0 ρ h w) {t : TypeId} {a a' v v' : Value} {h' : IHp} (hs : istore P h t a v = some h') (hrow : isRowV v = true) (ha : R ρ a a') (hv : R ρ v v') :
    ∃ w', (Instr.storeAt t a' v').run P w = .ok () w' ∧ HRel P base w0 ρ h' w' := by
  unfold istore at hs
  split at hs
  · rename_i a
    obtain ⟨hsp, rb, hb, rfl⟩ := R_ptr ha
    simp only [Option.bind_eq_some_iff] at hs
    obtain ⟨n, hn, hs⟩ := hs
    split at hs
    · rename_i hsz
      have hc := R_cells hv
      obtain ⟨w', h1, h2⟩ := HRel.setRow (P := P) (off0 := a.off) hb v.cells.toList v'.cells.toList 0 h h' w H (by simpa using hs) (row_cells hrow) (RA_list hc).1 (RA_list hc).2
      refine ⟨w', ?_, h2⟩
      simp [Instr.storeAt, Instr.sureAddr, Sem.run_bind, Result.andThen, storeVar, rSize hn w, ← hc.1, hsz, h1]
    · cases hs
  · cases hs

/-- a new block of cells -/
theorem push_cells (H : HRel P base w0 ρ h w) {c : List Value} {c' : Array Value} {e : TypeId} {ex : Bool} {x : Nat} (hsz : c'.size = c.length + x * P.cellsOf e) (hx : ex = true → x = 0)
    (hc : ∀ (k : Nat) v, c[k]? = some v → isCellV v = true ∧ ∃ v', c'[k]? = some v' ∧ R ρ v v') (e' : TypeId) :
    HRel P base w0 (ρ.add h.new.length (w.heap.size, x)) (h.push (.cells c e ex)) (w.alloc (.cells c' e')) :=
  H.push fun ρ' hle => ⟨c', e', ⟨(0, 0), rfl, .inl rfl⟩, hsz, hx, fun k v hk => let ⟨a, v', b, d⟩ := hc k v hk; ⟨a, v', b, R_mono hle _ _ d⟩⟩

theorem push_row (H : HRel P base w0 ρ h w) {c : List Value} {c' : Array Value} {e : TypeId} (hcell : ∀ v ∈ c, isCellV v = true) (hc : RA ρ c.toArray c') (e' : TypeId) :
    HRel P base w0 (ρ.add h.new.length (w.heap.size, 0)) (h.push (.cells c e true)) (w.alloc (.cells c' e')) := by
  refine push_cells H (by rw [← hc.1]; simp) (fun _ => rfl) (fun k v hk => ⟨hcell v (List.mem_of_getElem? hk), ?_⟩) e'
  exact RA_get hc (by simpa using hk)

theorem fresh_ptr (H : HRel P base w0 ρ h w) (p : Nat × Nat) : R (ρ.add h.new.length p) (.pointer (some { block := h.fresh, off := 0 })) (.pointer (some ⟨p.1, 0, none⟩)) :=
  mkR_ptr (a := { block := h.fresh, off := 0 }) rfl (block_fresh H p)
theorem fresh_slice (H : HRel P base w0 ρ h w) (p : Nat × Nat) (l c : Nat) : R (ρ.add h.new.length p) (.slice (some { block := h.fresh, off := 0 }) l c) (.slice (some ⟨p.1, 0, none⟩) l (c + p.2)) := by
  have := mkR_slice (ρ := ρ.add h.new.length p) (a := { block := h.fresh, off := 0 }) (b := p.1) (l := l) (c := c) rfl (block_fresh H p)
  rw [extra_fresh H p] at this
  exact this

theorem izeros_RA {z : Value} {n : Nat} (hf : flat z = true) (hpos : n ≠ 0 → 0 < z.cells.size) : RA ρ (izeros z.cells n).toArray ((Array.range n).map (z.cells[· % z.cells.size]!)) := by
  have hz : RA ρ z.cells z.cells := R_cells (flat_R hf)
  refine RA_mk (by simp [izeros]) fun i v hv => ?_
  simp only [izeros, List.getElem?_toArray, List.getElem?_map, Option.map_eq_some_iff] at hv
  obtain ⟨k, hk, rfl⟩ := hv
  have hkn : k = i ∧ i < n := by
    obtain ⟨hi, rfl⟩ := List.getElem?_eq_some_iff.1 hk
    simp at hi ⊢
    exact hi
  obtain ⟨rfl, hlt⟩ := hkn
  have hm : k % z.cells.size < z.cells.size := Nat.mod_lt _ (hpos (by omega))
  refine ⟨z.cells[k % z.cells.size]!, by simp [hlt], ?_⟩
  have h1 : z.cells.getD (k % z.cells.size) undef = z.cells[k % z.cells.size] := by simp [Array.getD, hm]
  have h2 : z.cells[k % z.cells.size]! = z.cells[k % z.cells.size] := by simp [hm]
  rw [h1, h2]
  have := hz.2 _ hm
  rwa [h1] at this

theorem izeros_cell {z : Value} {n : Nat} (hr : isRowV z = true) (hpos : n ≠ 0 → 0 < z.cells.size) : ∀ v ∈ izeros z.cells n, isCellV v = true := by
  intro v hv
  simp only [izeros, List.mem_map, List.mem_range] at hv
  obtain ⟨k, hk, rfl⟩ := hv
  have hm : k % z.cells.size < z.cells.size := Nat.mod_lt _ (hpos (by omega))
  have h1 : z.cells.getD (k % z.cells.size) undef = z.cells[k % z.cells.size] := by simp [Array.getD, hm]
  rw [h1]
  exact row_cells hr _ (by simp)

theorem run_newVar {t : TypeId} {v : Value} (w : World) : (newVar t v).run P w = .ok ⟨w.heap.size, 0, none⟩ (w.alloc (.cells v.cells t)) := by
  simp [newVar, newRow, Sem.run_bind, Result.andThen]
theorem run_newRow' {t : TypeId} {c : Array Value} (w : World) : (newRow t c).run P w = .ok ⟨w.heap.size, 0, none⟩ (w.alloc (.cells c t)) := by
  simp [newRow, Sem.run_bind, Result.andThen]
end
end Go.Ideal

-- IdealH
set_option linter.unusedSimpArgs false
set_option linter.unusedVariables false
namespace Go.Ideal
open Go Go.RowKit

section
variable {P : Program} {base : Nat} {w0 w : World} {ρ : RM} {h : IHp} {ev ev' : Operand → Value}

theorem range0 : Array.range 0 = #[] := rfl
theorem alloc_sound (H : HRel P base w0 ρ h w) {t : TypeId} {z : Value} (hz : izero P t = some z) (hr : isRowV z = true) :
    (Instr.alloc t true (.tuple #[])).run P w = .ok (.pointer (some ⟨w.heap.size, 0, none⟩)) (w.alloc (.cells z.cells t)) ∧
      HRel P base w0 (ρ.add h.new.length (w.heap.size, 0)) (h.push (.cells z.cells.toList t true)) (w.alloc (.cells z.cells t)) := by
  have hf := rZero hz w
  refine ⟨?_, push_row H (row_cells hr) (by simpa using R_cells (flat_R hf.2)) t⟩
  simp only [Instr.alloc, Sem.run_bind, hf.1, Result.andThen, run_newVar, Sem.run_pure]

theorem box_sound (H : HRel P base w0 ρ h w) {t : TypeId} {v v' : Value} (hr : isRowV v = true) (hv : R ρ v v') :
    (Instr.box t v').run P w = .ok (.pointer (some ⟨w.heap.size, 0, none⟩)) (w.alloc (.cells v'.cells t)) ∧
      HRel P base w0 (ρ.add h.new.length (w.heap.size, 0)) (h.push (.cells v.cells.toList t true)) (w.alloc (.cells v'.cells t)) := by
  refine ⟨?_, push_row H (row_cells hr) (by simpa using R_cells hv) t⟩
  simp only [Instr.box, Sem.run_bind, Result.andThen, run_newVar, Sem.run_pure]

theorem buildSlice_run {t e : TypeId} {len s : Nat} {z : Value} {cells : Array Value} {parts parts' : Array (Nat × Value)} (hu : P.underlying t = some (.slice e)) (hs : isz P e = some s)
    (hsz : ¬ (s = 0 || len * s > 2 ^ 24) = true) (hz : izero P e = some z) (hzs : z.cells.size = s)
    (hf : ifill (fun i => some (i * s, s)) (izeros z.cells (len * s)).toArray parts.toList = some cells) (hp : PRel ρ parts.toList parts'.toList) :
    ∃ cells', (Instr.buildSlice t len parts').run P w = .ok (.slice (some ⟨w.heap.size, 0, none⟩) len len) (w.alloc (.cells cells' e)) ∧ RA ρ cells cells' := by
  simp only [Bool.or_eq_true, decide_eq_true_eq, not_or] at hsz
  have hflat := (rZero hz w).2
  obtain ⟨r', hr', hR⟩ := fill_sound (place' := fun i => some (i * s, s)) (fun _ _ h => h) _ _ _ _ _ hp (izeros_RA (n := len * s) hflat (by omega)) hf
  refine ⟨r', ?_, hR⟩
  have hlen : ¬ len * s > 2 ^ 24 := hsz.2
  by_cases h0 : len * s = 0
  · have hfill : Instr.fill (fun i => some (i * s, s)) ((Array.range (len * s)).map ((#[] : Array Value)[· % (#[] : Array Value).size]!)) parts'.toList = some r' := by
      rw [h0] at hr' ⊢; rw [range0, Array.map_empty] at hr' ⊢; exact hr'
    simp only [Instr.buildSlice, Sem.run_bind, rUnd hu w, Result.andThen, rSize hs w, if_neg hlen, if_pos h0, Sem.run_pure, hfill, run_newRow']
  · simp only [Instr.buildSlice, Sem.run_bind, rUnd hu w, Result.andThen, rSize hs w, if_neg hlen, if_neg h0, Sem.run_pure, (rZero hz w).1, hr', run_newRow']

theorem buildSlice_sound (H : HRel P base w0 ρ h w) {t e : TypeId} {len s : Nat} {z : Value} {cells : Array Value} {parts parts' : Array (Nat × Value)} (hu : P.underlying t = some (.slice e)) (hs : isz P e = some s)
    (hsz : ¬ (s = 0 || len * s > 2 ^ 24) = true) (hz : izero P e = some z) (hzs : z.cells.size = s)
    (hf : ifill (fun i => some (i * s, s)) (izeros z.cells (len * s)).toArray parts.toList = some cells) (hp : PRel ρ parts.toList parts'.toList) (hc : cells.toList.all isCellV = true) :
    ∃ cells', (Instr.buildSlice t len parts').run P w = .ok (.slice (some ⟨w.heap.size, 0, none⟩) len len) (w.alloc (.cells cells' e)) ∧
      HRel P base w0 (ρ.add h.new.length (w.heap.size, 0)) (h.push (.cells cells.toList e true)) (w.alloc (.cells cells' e)) := by
  obtain ⟨r', h1, hR⟩ := buildSlice_run (w := w) hu hs hsz hz hzs hf hp
  exact ⟨r', h1, push_row H (by rw [List.all_eq_true] at hc; exact hc) (by simpa using hR) e⟩

theorem wrap_small {n : Int} (h0 : 0 ≤ n) (h1 : n ≤ 2 ^ 40) : IntKind.i64.wrap n = n := by
  have hb : (2 : Int) ^ IntKind.i64.bits = 18446744073709551616 := by rfl
  have hb' : (2 : Int) ^ (IntKind.i64.bits - 1) = 9223372036854775808 := by rfl
  have h2 : (2 : Int) ^ 40 = 1099511627776 := by rfl
  rw [h2] at h1
  unfold IntKind.wrap
  simp only [hb, hb']
  rw [Int.emod_eq_of_lt h0 (by omega)]
  rw [if_neg]
  simp only [Bool.and_eq_true, decide_eq_true_eq, not_and]
  omega

theorem makeSlice_sound (H : HRel P base w0 ρ h w) {t e : TypeId} {l c : Int} {k k' : IntKind} {ei : TypeInfo} {z : Value} (hu : P.underlying t = some (.slice e)) (hi : P.info? e = some ei) (hz : izero P e = some z)
    (hzs : ¬ (z.cells.size ≠ ei.size || ei.size = 0 || !isRowV z) = true) (hb : 0 ≤ l ∧ l ≤ c ∧ c ≤ 2 ^ 40 ∧ ei.bytes * c ≤ 2 ^ 46) :
    ∃ cells', (Instr.makeSlice t (.int k l) (.int k' c)).run P w = .ok (.slice (some ⟨w.heap.size, 0, none⟩) l.toNat c.toNat) (w.alloc (.cells cells' e)) ∧
      HRel P base w0 (ρ.add h.new.length (w.heap.size, 0)) (h.push (.cells (izeros z.cells (c.toNat * ei.size)) e true)) (w.alloc (.cells cells' e)) := by
  simp only [Bool.or_eq_true, decide_eq_true_eq, not_or, ne_eq, Decidable.not_not, Bool.not_eq_true', Bool.not_eq_false] at hzs
  obtain ⟨⟨hz1, hz2⟩, hz3⟩ := hzs
  obtain ⟨h0, h1, h2, h3⟩ := hb
  have hflat := (rZero hz w).2
  have hpos : c.toNat * ei.size ≠ 0 → 0 < z.cells.size := by omega
  refine ⟨_, ?_, push_row H (izeros_cell hz3 hpos) (izeros_RA hflat hpos) e⟩
  have hwl : IntKind.i64.wrap l = l := wrap_small h0 (by omega)
  have hwc : IntKind.i64.wrap c = c := wrap_small (by omega) h2
  have hsize : isz P e = some ei.size := by simp [isz, hi]
  have hti : (typeInfo e).run P w = .ok ei w := by simp [typeInfo, Sem.run_bind, Result.andThen, hi]
  have h4 : ¬ ((c < 0 || (ei.bytes : Int) * c > 2 ^ 48) || l < 0 || l > c) = true := by
    simp only [Bool.or_eq_true, decide_eq_true_eq, not_or]
    have e1 : (2 : Int) ^ 48 = 281474976710656 := by rfl
    have e2 : (2 : Int) ^ 46 = 70368744177664 := by rfl
    rw [e2] at h3
    rw [e1]
    omega
  simp only [Instr.makeSlice, Sem.run_bind, rUnd hu w, Result.andThen, asInt, asIntOf, Sem.run_pure, hti, hwl, hwc]
  rw [if_neg h4]
  by_cases h0 : c.toNat * ei.size = 0
  · simp only [Sem.run_bind, run_askRoom', Result.andThen, rSize hsize w, if_pos h0, run_newRow', Sem.run_pure]
    rw [h0, range0, Array.map_empty, Array.map_empty]
  · simp only [Sem.run_bind, run_askRoom', Result.andThen, rSize hsize w, if_neg h0, (rZero hz w).1, run_newRow', Sem.run_pure]
end
end Go.Ideal

-- IdealI
set_option linter.unusedSimpArgs false
set_option linter.unusedVariables false
namespace Go.Ideal
open Go Go.RowKit

section
variable {P : Program} {base : Nat} {w0 w : World} {ρ : RM} {h : IHp} {ev ev' : Operand → Value}

/-! maps -/
theorem findNow_rel {kd : TypeDesc} {k : Value} : ∀ (es es' : List MapEntry) (i : Nat), es'.length = es.length → (∀ (j : Nat) e, es[j]? = some e → ∃ e', es'[j]? = some e' ∧ ERel ρ e e') →
    match Instr.findNow kd k es i with
    | some none => Instr.findNow kd k es' i = some none
    | some (some (j, v)) => ∃ v', Instr.findNow kd k es' i = some (some (j, v')) ∧ R ρ v v'
    | none => True := by
  intro es
  induction es with
  | nil =>
    intro es' i hl _
    have : es' = [] := by cases es' <;> simp_all
    subst this
    simp [Instr.findNow]
  | cons e es ih =>
    intro es' i hl hr
    cases es' with
    | nil => simp at hl
    | cons e' es' =>
      obtain ⟨e0, h0, h1, h2, h3, h4⟩ := hr 0 e (by simp)
      simp only [List.getElem?_cons_zero, Option.some.injEq] at h0
      subst h0
      simp only [Instr.findNow, h2]
      cases hs : Instr.sameNow kd k e.key with
      | none => simp
      | some b =>
        cases b with
        | true => exact ⟨_, rfl, h3⟩
        | false => exact ih es' (i + 1) (by simpa using hl) fun j e hj => hr (j + 1) e (by simpa using hj)

theorem checkKey_plain {t : TypeId} {kd : TypeDesc} {k : Value} {b : Bool} (hu : P.underlying t = some kd) (hk : plainKey kd = true) (w : World) :
    (Instr.checkKey b 10000 t k).run P w = .ok () w := by
  rw [show (10000 : Nat) = 9999 + 1 from rfl]
  generalize 9999 = d
  cases kd <;> simp [plainKey] at hk <;> simp [Instr.checkKey, Sem.run_bind, rUnd hu w, Result.andThen]

theorem HRel.map (H : HRel P base w0 ρ h w) {r ck : Nat} {es : List MapEntry} {m' : Value} (hr : r % 2 ≠ 1) (hes : h.new[r / 2]? = some (.map es ck)) (hm : R ρ (.map (some r)) m') :
    ∃ b x es', ρ.at_ (r / 2) = some (b, x) ∧ m' = .map (some b) ∧ w.heap[b]? = some (.map es' ck) ∧ es'.toList.length = es.length ∧ ∀ (j : Nat) e, es[j]? = some e → ∃ e', es'.toList[j]? = some e' ∧ ERel ρ e e' := by
  simp only [R] at hm
  obtain ⟨_, b, hb', rfl⟩ := hm
  obtain ⟨x, hρ⟩ := RM.block_at (by omega) hb'
  obtain ⟨_, _, es', h1, h2, h3⟩ := H.blk _ _ _ _ hes hρ
  exact ⟨b, x, es', hρ, rfl, h1, by simpa using h2, fun j e hj => by obtain ⟨e', a, b⟩ := h3 j e hj; exact ⟨e', by rw [Array.getElem?_toList]; exact a, b⟩⟩

theorem lookup_sound (H : HRel P base w0 ρ h w) {t : TypeId} {m k m' v : Value} {ok : Bool} (hl : ilookup P h t m k ok = some v) (hm : R ρ m m') :
    flat k = true ∧ ∃ v', R ρ v v' ∧ (Instr.lookup t m' k ok).run P w = .ok v' w := by
  unfold ilookup at hl
  split at hl
  · rename_i kt et r hu
    split at hl
    · cases hl
    · rename_i hr
      split at hl
      · rename_i es ck kd hes hkd
        split at hl
        case isFalse => cases hl
        rename_i hpf
        simp only [Bool.and_eq_true] at hpf
        obtain ⟨hplain, hflat⟩ := hpf
        refine ⟨hflat, ?_⟩
        obtain ⟨b, x, es', hρ, rfl, hw, hlen, hrel⟩ := H.map hr hes hm
        have hget : (getObj b).run P w = .ok (.map es' ck) w := by simp [getObj, Sem.run, hw]
        have hfn := findNow_rel (ρ := ρ) (kd := kd) (k := k) es es'.toList 0 hlen hrel
        split at hl
        · rename_i i u hf
          cases hl
          rw [hf] at hfn
          obtain ⟨v', hf', hv'⟩ := hfn
          refine ⟨if ok then .tuple #[v', .bool true] else v', ?_, ?_⟩
          · cases ok
            · exact hv'
            · simp only [if_true]; rw [R_tuple]
              refine ⟨_, rfl, RA_mk rfl fun i u hu => ?_⟩
              match i with
              | 0 => simp at hu; subst hu; exact ⟨v', by simp, hv'⟩
              | 1 => simp at hu; subst hu; exact ⟨.bool true, by simp, by simp only [R]⟩
              | i + 2 => simp at hu
          · cases ok <;> simp only [Instr.lookup, Sem.run_bind, rUnd hu w, Result.andThen, hget, checkKey_plain hkd hplain w, Instr.findKey, rUnd hkd w, hf', Sem.run_pure, if_true, if_false, Bool.false_eq_true]
        · rename_i hf
          simp only [Option.map_eq_some_iff] at hl
          obtain ⟨z, hz, rfl⟩ := hl
          rw [hf] at hfn
          simp only at hfn
          have hzz := rZero hz w
          refine ⟨if ok then .tuple #[z, .bool false] else z, ?_, ?_⟩
          · cases ok
            · exact flat_R hzz.2
            · simp only [if_true]; rw [R_tuple]
              refine ⟨_, rfl, RA_mk rfl fun i u hu => ?_⟩
              match i with
              | 0 => simp at hu; subst hu; exact ⟨_, by simp, flat_R hzz.2⟩
              | 1 => simp at hu; subst hu; exact ⟨.bool false, by simp, by simp only [R]⟩
              | i + 2 => simp at hu
          · cases ok <;> simp only [Instr.lookup, Sem.run_bind, rUnd hu w, Result.andThen, hget, checkKey_plain hkd hplain w, Instr.findKey, rUnd hkd w, hfn, Sem.run_pure, hzz.1, if_true, if_false, Bool.false_eq_true]
        · cases hl
      · cases hl
  · cases hl

theorem insert_sound (H : HRel P base w0 ρ h w) {t : TypeId} {m k v m' v' : Value} {h' : IHp} (hi : iinsert P h t m k v = some h') (hm : R ρ m m') (hv : R ρ v v') :
    ∃ w', (Instr.mapUpdate t m' k v').run P w = .ok () w' ∧ HRel P base w0 ρ h' w' ∧ flat k = true := by
  unfold iinsert at hi
  split at hi
  · rename_i kt et r hu
    split at hi
    · cases hi
    · rename_i hr
      split at hi
      · rename_i es ck kd hes hkd
        split at hi
        · rename_i hpf
          simp only [Bool.and_eq_true] at hpf
          obtain ⟨hplain, hflat⟩ := hpf
          obtain ⟨b, x, es', hρ, rfl, hw, hlen, hrel⟩ := H.map hr hes hm
          have hget : (getObj b).run P w = .ok (.map es' ck) w := by simp [getObj, Sem.run, hw]
          have hfn := findNow_rel (ρ := ρ) (kd := kd) (k := k) es es'.toList 0 hlen hrel
          split at hi
          · rename_i hf
            cases hi
            rw [hf] at hfn
            simp only at hfn
            refine ⟨{ w with heap := w.heap.setIfInBounds b (.map (es'.push { key := k, val := v', born := ck }) (ck + 1)) }, ?_, ?_, hflat⟩
            · have hset : ∀ o, (setObj b o).run P w = .ok () { w with heap := w.heap.setIfInBounds b o } := by intro o; simp [setObj, Sem.run, hw]
              simp only [Instr.mapUpdate, Sem.run_bind, rUnd hu w, Result.andThen, hget, checkKey_plain hkd hplain w, Instr.findKey, rUnd hkd w, hfn, Sem.run_pure, hset]
            · have hbs : b < w.heap.size := by
                exact (H.blk _ _ _ _ hes hρ).2.1
              refine H.turn hes rfl hρ ⟨es'.push { key := k, val := v', born := ck }, by simp [hbs], ?_, ?_⟩ (fun j hj => by simp [Array.getElem?_setIfInBounds_ne (Ne.symm hj)]) (by simp) rfl rfl rfl
              · have : es'.size = es.length := by simpa using hlen
                simp [this]
              · intro j e hj
                have hsz : es'.size = es.length := by simpa using hlen
                rw [List.getElem?_append] at hj
                split at hj
                · rename_i hlt
                  obtain ⟨e', h1, h2⟩ := hrel j e hj
                  rw [Array.getElem?_toList] at h1
                  refine ⟨e', ?_, h2⟩
                  rw [Array.getElem?_push, if_neg (by omega)]; exact h1
                · rename_i hge
                  have hj0 : j - es.length = 0 := by
                    by_cases hz : j - es.length = 0
                    · exact hz
                    · rw [List.getElem?_eq_none (by simp; omega)] at hj; cases hj
                  rw [hj0] at hj
                  simp at hj; subst hj
                  have hje : j = es'.size := by omega
                  exact ⟨{ key := k, val := v', born := ck }, by rw [hje]; simp, hflat, rfl, hv, rfl⟩
          · cases hi
        · cases hi
      · cases hi
  · cases hi
end
end Go.Ideal

-- IdealJ
set_option linter.unusedSimpArgs false
set_option linter.unusedVariables false
namespace Go.Ideal
open Go Go.RowKit

/-- cells are stored in a block of which nothing is frozen but what lies behind it -/
theorem storeCells_out (P : Program) (g o : Nat) (t : TypeId) (fz : Nat × Nat) : ∀ (vs : List Value) (i : Nat) (cur : Array Value) (w : World), w.heap[g]? = some (.cells cur t fz) → (fz.1 = fz.2 ∨ cur.size ≤ fz.1) → o + i + vs.length ≤ cur.size → (∀ v ∈ vs, v.oneCell' = true) →
    (storeCells ⟨g, o, none⟩ vs i).run P w = .ok () (w.setRow g (cur.toList.take (o + i) ++ vs ++ cur.toList.drop (o + i + vs.length)).toArray) := by
  intro vs
  induction vs with
  | nil =>
    intro i cur w hg _ _ _
    simp only [storeCells, List.append_nil, List.length_nil, Nat.add_zero, List.take_append_drop, Array.toArray_toList]
    rw [setRow_self w g cur t fz hg]
    rfl
  | cons v rest ih =>
    intro i cur w hg hfz hl h1
    have hi : o + i < cur.size := by simp at hl; omega
    have hadd : (⟨g, o, none⟩ : Addr).add i = ⟨g, o + i, none⟩ := by unfold Addr.add; split <;> simp_all
    have hcell : w.cell? ⟨g, o + i, none⟩ = some cur[o + i] := by simp [World.cell?, hg, hi]
    have hfro : w.frozen? ⟨g, o + i, none⟩ = false := by
      simp only [World.frozen?, hg]
      rcases hfz with h0 | h0
      · simp; omega
      · simp; omega
    have hst : (store ((⟨g, o, none⟩ : Addr).add i) v).run P w = .ok () (w.setRow g (cur.setIfInBounds (o + i) v)) := by
      rw [hadd, run_store P w _ v _ (h1 v (by simp)), hcell]
      simp [hfro, setCell_eq_setRow w g (o + i) cur t fz v hg]
    have ih := ih (i + 1) (cur.setIfInBounds (o + i) v) (w.setRow g (cur.setIfInBounds (o + i) v)) (setRow_heap w g cur _ t _ hg) (by simpa using hfz) (by simp at hl ⊢; omega) (fun x hx => h1 x (by simp [hx]))
    simp only [storeCells, Sem.run_bind, hst, Result.andThen_ok, ih, setRow_setRow]
    congr 3
    have e := list_seg_step cur.toList (o + i) v rest (by simp at hl ⊢; omega)
    simpa [Array.toList_setIfInBounds, Nat.add_assoc] using e

theorem growBy_le2 {need : Nat} (hn : 256 ≤ need) : ∀ (rounds c : Nat), c ≤ 2 * need → Builtin.growBy need rounds c ≤ 2 * need := by
  intro rounds
  induction rounds with
  | zero => intro c h; exact h
  | succ r ih =>
    intro c h
    unfold Builtin.growBy
    split
    · exact h
    · exact ih _ (by omega)
theorem nextcap_le (need old : Nat) (h : old < need) : Builtin.nextslicecap need old ≤ 2 * need := by
  unfold Builtin.nextslicecap
  split
  · omega
  · split
    · omega
    · exact growBy_le2 (by omega) 4 old (by omega)

theorem growBy_le3 {need : Nat} : ∀ (rounds c : Nat), 256 ≤ c → c ≤ 2 * (need - 1) → 4 * c ≤ 5 * need + 2048 → Builtin.growBy need rounds c ≤ 2 * (need - 1) ∧ 4 * Builtin.growBy need rounds c ≤ 5 * need + 2048 := by
  intro rounds
  induction rounds with
  | zero => intro c _ h1 h2; exact ⟨h1, h2⟩
  | succ r ih =>
    intro c h0 h1 h2
    unfold Builtin.growBy
    split
    · exact ⟨h1, h2⟩
    · exact ih _ (by omega) (by omega) (by omega)
theorem nextcap_le3 {need old : Nat} (h : old < need) : Builtin.nextslicecap need old = need ∨ (Builtin.nextslicecap need old ≤ 2 * (need - 1) ∧ 4 * Builtin.nextslicecap need old ≤ 5 * need + 2048) := by
  unfold Builtin.nextslicecap
  split
  · exact .inl rfl
  · split
    · exact .inr ⟨by omega, by omega⟩
    · exact .inr (growBy_le3 4 old (by omega) (by omega) (by omega))
theorem nextcap_room {need old b : Nat} (h : old < need) (hr : need * b ≤ 2 ^ 47 + 2 ^ 20) : Builtin.nextslicecap need old * b ≤ 2 ^ 48 := by
  rcases nextcap_le3 h with e | ⟨h1, h2⟩
  · rw [e]; omega
  · generalize Builtin.nextslicecap need old = B at h1 h2
    obtain ⟨n, rfl⟩ : ∃ n, need = n + 1 := ⟨need - 1, by omega⟩
    rw [Nat.add_mul, Nat.one_mul] at hr
    have h3 := Nat.mul_le_mul_right b h1
    have h4 := Nat.mul_le_mul_right b h2
    rw [Nat.add_sub_cancel, Nat.mul_assoc] at h3
    rw [Nat.mul_assoc, Nat.add_mul, Nat.mul_assoc, Nat.add_mul, Nat.one_mul] at h4
    rcases Nat.lt_or_ge b (2 ^ 20) with hb | hb
    · omega
    · omega
section
variable {P : Program} {base : Nat} {w0 w : World} {ρ : RM} {h : IHp} {ev ev' : Operand → Value}

/-- the cells of a slice, read -/
theorem firstCells_sound (H : HRel P base w0 ρ h w) {s n l c : Nat} {xb : Option Addr} {x' : Value} {vs : List Value} (hx : R ρ (.slice xb l c) x') (hnl : n ≤ l)
    (hr : h.rowAt xb n s = some vs) :
    (∀ v ∈ vs, isCellV v = true) ∧ vs.length = n * s ∧ ∃ vs' : List Value, vs'.length = n * s ∧ (∀ (j : Nat) v, vs[j]? = some v → ∃ v', vs'[j]? = some v' ∧ R ρ v v') ∧ (Builtin.firstCells s n x').run P w = .ok vs'.toArray w := by
  cases xb with
  | none =>
    have := R_slice0 hx; subst this
    simp only [IHp.rowAt] at hr
    split at hr
    · rename_i h0; cases hr; subst h0
      exact ⟨by simp, by simp, [], by simp, by simp, by simp [Builtin.firstCells]⟩
    · cases hr
  | some a =>
    by_cases hsp : a.spot = none
    case neg =>
      obtain ⟨rfl, a', c', rfl⟩ := R_spotted hx hsp
      have hn0 : n = 0 := by omega
      subst hn0
      simp only [IHp.rowAt, Nat.zero_mul, IHp.row, Option.some.injEq] at hr
      subst hr
      exact ⟨by simp, by simp, [], by simp, by simp, by simp [Builtin.firstCells, loadCells, loadCellsFrom]⟩
    obtain ⟨hs, b, hb, rfl⟩ := R_slice hx hsp
    simp only [IHp.rowAt] at hr
    obtain ⟨h1, h2, vs', h3, h4, h5⟩ := H.row hb _ _ _ hr
    refine ⟨h2, h1, vs', h3, h5, ?_⟩
    have := run_loadCells_row (P := P) (w := w) b a.off vs' 0 #[] (by simpa using h4)
    rw [h3] at this
    simp only [Builtin.firstCells, loadCells, this]
    simp

theorem zeroCells_size {z : Array Value} (hz : 0 < z.size) (n : Nat) : (Builtin.zeroCells z n).size = n * z.size := by simp [Builtin.zeroCells]

theorem run_typeInfo' {e : TypeId} {ei : TypeInfo} (hi : P.info? e = some ei) (w : World) : (typeInfo e).run P w = .ok ei w := by simp [typeInfo, Sem.run_bind, Result.andThen, hi]
theorem run_zero' {e : TypeId} {ei : TypeInfo} {z : Value} (hi : P.info? e = some ei) (hz : ei.zero = some z) (w : World) : (zeroValue e).run P w = .ok z w := by
  simp [zeroValue, run_typeInfo' hi w, Sem.run_bind, Result.andThen, hz]

/-- append that stays where it is -/
theorem append_stay {t t1 e e1 : TypeId} {s len n cap : Nat} {base' : Option Addr} {x' : Value} {ats : Array TypeId} {ty : TypeId} {new : List Value} {w w' : World}
    (h0 : ats[0]? = some t) (h1 : ats[1]? = some t1) (hu : P.underlying t = some (.slice e)) (hu1 : P.underlying t1 = some (.slice e1)) (hs : isz P e = some s)
    (hx : (Builtin.lenOf x').run P w = .ok n w) (hfit : len + n ≤ cap) (hnew : (Builtin.firstCells s n x').run P w = .ok new.toArray w)
    (hstore : ∀ a, base' = some a → (storeCells (a.add (len * s)) new).run P w = .ok () w') (hnone : base' = none → w' = w) :
    (Builtin.append_ ats ty #[.slice base' len cap, x']).run P w = .ok (.slice base' (len + n) cap) w' := by
  unfold Builtin.append_
  simp only [h0, h1, List.getElem?_toArray, List.getElem?_cons_zero, List.getElem?_cons_succ, Sem.run_bind, rUnd hu w, Result.andThen, rSize hs w, rUnd hu1 w, Sem.run_pure, Bool.false_eq_true, if_false, hx, if_pos hfit, Bool.not_false, if_true, hnew]
  cases base' with
  | none => rw [hnone rfl]; simp
  | some a => simp only [Sem.run_bind, hstore a rfl, Result.andThen, Sem.run_pure]

/-- append that makes new memory -/
theorem append_grow {t t1 e e1 : TypeId} {len n cap : Nat} {ei : TypeInfo} {z : Value} {base' : Option Addr} {x' : Value} {ats : Array TypeId} {ty : TypeId} {old new : List Value} {w : World}
    (h0 : ats[0]? = some t) (h1 : ats[1]? = some t1) (hu : P.underlying t = some (.slice e)) (hu1 : P.underlying t1 = some (.slice e1)) (hi : P.info? e = some ei) (hz : ei.zero = some z)
    (hzs : z.cells.size = ei.size) (hs0 : ei.size ≠ 0) (hb0 : ei.bytes ≠ 0) (hroom : (len + n) * ei.bytes ≤ 2 ^ 47 + 2 ^ 20)
    (hx : ∀ w, (Builtin.lenOf x').run P w = .ok n w) (hfit : cap < len + n) (hnew : (Builtin.firstCells ei.size n x').run P { w with drawn := w.drawn + 1 } = .ok new.toArray { w with drawn := w.drawn + 1 })
    (hold : (Builtin.firstCells ei.size len (.slice base' len cap)).run P { w with drawn := w.drawn + 1 } = .ok old.toArray { w with drawn := w.drawn + 1 }) :
    ∃ more : Nat, (Builtin.append_ ats ty #[.slice base' len cap, x']).run P w =
      .ok (.slice (some ⟨w.heap.size, 0, none⟩) (len + n) (len + n + more)) (World.alloc { w with drawn := w.drawn + 1 } (.cells (old.toArray ++ new.toArray ++ Builtin.zeroCells z.cells more) e)) := by
  refine ⟨(Question.cut (.appendCap (len + n) cap e) (w.tape w.drawn (.appendCap (len + n) cap e))) - (len + n), ?_⟩
  have hsize : isz P e = some ei.size := by simp [isz, hi]
  have hcut : ∀ t, len + n ≤ Question.cut (.appendCap (len + n) cap e) t := by intro t; simp [Question.cut]
  have hneed : len + n ≤ 2 ^ 47 + 2 ^ 20 := Nat.le_trans (Nat.le_mul_of_pos_right _ (by omega)) hroom
  have hcap : ¬ Builtin.nextslicecap (len + n) cap * ei.bytes > 2 ^ 48 := by
    exact Nat.not_lt.2 (nextcap_room hfit hroom)
  have hmax : ¬ (((len + n : Nat) : Int) > IntKind.i64.max ∧ ((false : Bool) = true ∨ ei.bytes = 0)) := by
    rintro ⟨_, h | h⟩
    · cases h
    · exact hb0 h
  unfold Builtin.append_
  simp only [h0, h1, List.getElem?_toArray, List.getElem?_cons_zero, List.getElem?_cons_succ, Sem.run_bind, rUnd hu w, Result.andThen, rSize hsize w, rUnd hu1 w, Sem.run_pure, Bool.false_eq_true, if_false, hx, if_neg (show ¬ len + n ≤ cap by omega), Bool.not_false, if_true, run_typeInfo' hi]
  rw [if_neg (by simpa using hmax)]
  simp only [Sem.run_bind, run_typeInfo' hi, Result.andThen]
  rw [if_neg hcap]
  have hch : (choose (.appendCap (len + n) cap e)).run P w = .ok (Question.cut (.appendCap (len + n) cap e) (w.tape w.drawn (.appendCap (len + n) cap e))) { w with drawn := w.drawn + 1 } := by
    simp [choose, Sem.run, Question.forced]
  simp only [Sem.run_bind, hch, run_typeInfo' hi, Result.andThen, run_askRoom', hold, hnew, run_zero' hi hz, run_newRow', Sem.run_pure]
  have := hcut (w.tape w.drawn (.appendCap (len + n) cap e))
  rw [show len + n + (Question.cut (.appendCap (len + n) cap e) (w.tape w.drawn (.appendCap (len + n) cap e)) - (len + n)) = Question.cut (.appendCap (len + n) cap e) (w.tape w.drawn (.appendCap (len + n) cap e)) by omega]
theorem lenOf_slice {a : Option Addr} {n c : Nat} (w : World) : (Builtin.lenOf (.slice a n c)).run P w = .ok n w := by simp [Builtin.lenOf]

/-- a block is given up, and a new one stands for what it stood for -/
theorem HRel.regrow (H : HRel P base w0 ρ h w) {i r x y : Nat} {o o' : IObj} {w' : World} (hi : h.new[i]? = some o) (hl : o.live = true) (hρ : ρ.at_ i = some (r, x))
    (hO : ∀ ρ', ρ.le ρ' → ORel P ρ' y o' (w'.heap[r]?)) (hsame : ∀ k, k ≠ r → w'.heap[k]? = w.heap[k]?) (hsize : w'.heap.size = w.heap.size)
    (hos : w'.os = w.os) (htape : w'.tape = w.tape) (hout : w'.output = w.output) :
    HRel P base w0 (ρ.add h.new.length (r, y)) { h with new := (h.new.set i .dead) ++ [o'] } w' := by
  obtain ⟨hbr, hrw, _⟩ := H.blk _ _ _ _ hi hρ
  have hilt : i < h.new.length := (List.getElem?_eq_some_iff.1 hi).1
  have hle : ρ.le (ρ.add h.new.length (r, y)) := RM.le_push H _
  have look : ∀ (j : Nat) oj, ((h.new.set i .dead) ++ [o'])[j]? = some oj → (j = h.new.length ∧ oj = o') ∨ (j = i ∧ oj = .dead) ∨ (j ≠ i ∧ j < h.new.length ∧ h.new[j]? = some oj) := by
    intro j oj hj
    rw [List.getElem?_append] at hj
    split at hj
    · rename_i hlt
      simp only [List.length_set] at hlt
      rw [List.getElem?_set] at hj
      split at hj
      · rename_i e; subst e
        simp only [hilt, if_true, Option.some.injEq] at hj
        exact .inr (.inl ⟨rfl, hj.symm⟩)
      · rename_i hne
        exact .inr (.inr ⟨fun e => hne e.symm, hlt, hj⟩)
    · rename_i hge
      simp only [List.length_set] at hge hj
      have hj0 : j - h.new.length = 0 := by
        by_cases hz : j - h.new.length = 0
        · exact hz
        · rw [List.getElem?_eq_none (by simp; omega)] at hj; cases hj
      rw [hj0] at hj
      simp at hj
      exact .inl ⟨by omega, hj.symm⟩
  refine ⟨⟨hos.trans H.below.os, htape.trans H.below.tape, hout.trans H.below.output, by rw [hsize]; exact H.below.size, fun k hk => ?_⟩, by rw [hsize]; exact H.size, H.old, ?_, ?_, ?_⟩
  · rw [hsame k (by omega)]; exact H.below.block k hk
  · intro j oj rj xj hj hρj
    rcases look j oj hj with ⟨rfl, rfl⟩ | ⟨rfl, rfl⟩ | ⟨hne, hlt, hj⟩
    · rw [RM.add_at] at hρj; cases hρj
      exact ⟨hbr, by rw [hsize]; exact hrw, hO _ hle⟩
    · rw [RM.add_ne (by omega), hρ] at hρj; cases hρj
      exact ⟨hbr, by rw [hsize]; exact hrw, trivial⟩
    · rw [RM.add_ne (by omega)] at hρj
      obtain ⟨hbj, hrj, hOj⟩ := H.blk _ _ _ _ hj hρj
      refine ⟨hbj, by rw [hsize]; exact hrj, ?_⟩
      by_cases hlj : oj.live = true
      · have : rj ≠ r := fun e => hne (H.inj j i oj o r xj x hj hlj hi hl (e ▸ hρj) hρ)
        rw [hsame _ this]
        exact hOj.mono hle
      · cases oj <;> simp [IObj.live] at hlj
        trivial
  · intro a b oa ob ra xa xb ha hla hb hlb hρa hρb
    rcases look a oa ha with ⟨rfl, rfl⟩ | ⟨rfl, rfl⟩ | ⟨hnea, hlta, ha'⟩
    · rw [RM.add_at] at hρa
      cases hρa
      rcases look b ob hb with ⟨rfl, rfl⟩ | ⟨rfl, rfl⟩ | ⟨hneb, hltb, hb'⟩
      · rfl
      · simp [IObj.live] at hlb
      · rw [RM.add_ne (by omega)] at hρb
        exact absurd (H.inj b i ob o r xb x hb' hlb hi hl hρb hρ) hneb
    · simp [IObj.live] at hla
    · rw [RM.add_ne (by omega)] at hρa
      rcases look b ob hb with ⟨rfl, rfl⟩ | ⟨rfl, rfl⟩ | ⟨hneb, hltb, hb'⟩
      · rw [RM.add_at] at hρb
        cases hρb
        exact absurd (H.inj a i oa o r xa x ha' hla hi hl hρa hρ) hnea
      · simp [IObj.live] at hlb
      · rw [RM.add_ne (by omega)] at hρb
        exact H.inj a b oa ob ra xa xb ha' hla hb' hlb hρa hρb
  · refine ⟨by simp [RM.add], fun j hj => ?_⟩
    simp only [List.length_append, List.length_set, List.length_cons, List.length_nil] at hj
    rw [RM.add_ne (by omega)]
    exact H.dom.2 j (by omega)

/-- the block of a slice that may have room is given up; what is appended lies in its block, or in a new one -/
theorem appmake_nil {e : TypeId} {base' : Option Addr} {len cap n : Nat} {v : Value} {h' : IHp} (ha : iappmake P h e base' len cap n = some (v, h')) : base' = none ∧ len = 0 ∧ cap = 0 := by
  unfold iappmake at ha
  simp only [Option.bind_eq_some_iff] at ha
  obtain ⟨ei, hi, z, hz, ha⟩ := ha
  split at ha
  · cases ha
  · split at ha
    · rename_i hc; exact ⟨hc.1, hc.2.1, hc.2.2.1⟩
    · cases ha
theorem appmake_sound (H : HRel P base w0 ρ h w) {ats : Array TypeId} {ty t t1 e : TypeId} {base' : Option Addr} {len cap : Nat} {n : Int} {k : IntKind} {v : Value} {h' : IHp} (ha : iappmake P h e base' len cap n.toNat = some (v, h'))
    (h0 : ats[0]? = some t) (h1 : ats[1]? = some t1) (hu : P.underlying t = some (.slice e)) (hu1 : P.underlying t1 = some (.int k)) (hn0 : 0 ≤ n) :
    ∃ ρ' v' w', ρ.le ρ' ∧ HRel P base w0 ρ' h' w' ∧ R ρ' v v' ∧ (Builtin.append_ ats ty #[.slice none 0 0, .int .i64 n]).run P w = .ok v' w' := by
  unfold iappmake at ha
  simp only [Option.bind_eq_some_iff] at ha
  obtain ⟨ei, hi, z, hz, ha⟩ := ha
  split at ha
  · cases ha
  · rename_i hzs
    split at ha
    · rename_i hc
      obtain ⟨rfl, rfl, rfl, hnn, hb0, hroom⟩ := hc
      cases ha
      simp only [Bool.or_eq_true, decide_eq_true_eq, not_or, ne_eq, Decidable.not_not, Bool.not_eq_true', Bool.not_eq_false] at hzs
      obtain ⟨⟨hz1, hz2⟩, hz3⟩ := hzs
      have hflat := (rZero hz w).2
      have hsize : isz P e = some ei.size := by simp [isz, hi]
      have hsize' : P.cellsOf e = ei.size := by simp [Program.cellsOf, hi]
      have hneed : n.toNat ≤ 2 ^ 40 := Nat.le_trans (Nat.le_mul_of_pos_right _ (by omega)) hroom
      have hwn : IntKind.i64.wrap n = n := by
        have : n ≤ 2 ^ 40 := by omega
        unfold IntKind.wrap
        have hb : IntKind.i64.bits = 64 := rfl
        have hb' : IntKind.i64.signed = true := rfl
        simp only [hb, hb']
        rw [Int.emod_eq_of_lt hn0 (by omega)]
        rw [if_neg]
        simp only [Bool.and_eq_true, decide_eq_true_eq, not_and]
        omega
      have hcap : ¬ Builtin.nextslicecap (0 + n.toNat) 0 * ei.bytes > 2 ^ 48 := by
        have h1 := Nat.mul_le_mul_right ei.bytes (nextcap_le (0 + n.toNat) 0 (by omega))
        rw [Nat.mul_assoc, Nat.zero_add] at h1
        have h3 : (2 : Nat) ^ 40 = 1099511627776 := by rfl
        have h4 : (2 : Nat) ^ 48 = 281474976710656 := by rfl
        rw [h3] at hroom
        rw [h4, Nat.zero_add]
        omega
      have hbig : ¬ n * (ei.bytes : Int) > 2 ^ 48 := by
        have : n = (n.toNat : Int) := by omega
        have h4 : (2 : Int) ^ 48 = 281474976710656 := by rfl
        have h3 : (2 : Nat) ^ 40 = 1099511627776 := by rfl
        rw [this, h4, ← Int.natCast_mul]
        rw [h3] at hroom
        omega
      obtain ⟨more, hmore⟩ : ∃ more, Question.cut (.appendCap (0 + n.toNat) 0 e) (w.tape w.drawn (.appendCap (0 + n.toNat) 0 e)) = 0 + n.toNat + more := by
        refine ⟨Question.cut (.appendCap (0 + n.toNat) 0 e) (w.tape w.drawn (.appendCap (0 + n.toNat) 0 e)) - (0 + n.toNat), ?_⟩
        have : 0 + n.toNat ≤ Question.cut (.appendCap (0 + n.toNat) 0 e) (w.tape w.drawn (.appendCap (0 + n.toNat) 0 e)) := by simp [Question.cut]
        omega
      have hzr := rZero hz
      have Hd := H.drew
      have hch : (choose (.appendCap (0 + n.toNat) 0 e)).run P w = .ok (0 + n.toNat + more) { w with drawn := w.drawn + 1 } := by
        rw [← hmore]; simp [choose, Sem.run, Question.forced]
      have hti : ∀ w : World, (typeInfo e).run P w = .ok ei w := fun w => run_typeInfo' hi w
      have hmax : ¬ (((0 + n.toNat : Nat) : Int) > IntKind.i64.max ∧ ((true : Bool) = true ∨ ei.bytes = 0)) := by
        rintro ⟨h, _⟩
        have : IntKind.i64.max = 9223372036854775807 := by rfl
        rw [this] at h
        omega
      refine ⟨ρ.add h.new.length ({ w with drawn := w.drawn + 1 }.heap.size, more), .slice (some ⟨w.heap.size, 0, none⟩) (0 + n.toNat) (0 + n.toNat + more), World.alloc { w with drawn := w.drawn + 1 } (.cells (#[] ++ Builtin.zeroCells z.cells n.toNat ++ Builtin.zeroCells z.cells more) e), RM.le_push Hd _, push_cells Hd (x := more) (ex := false) ?_ (by simp) ?_ e, ?_, ?_⟩
      · have : 0 < z.cells.size := by omega
        simp [zeroCells_size this, hsize', izeros, hz1]
      · intro j v hj
        have hpos : n.toNat * ei.size ≠ 0 → 0 < z.cells.size := by omega
        refine ⟨izeros_cell hz3 hpos v (List.mem_of_getElem? hj), ?_⟩
        obtain ⟨v', h5, h6⟩ := RA_get (izeros_RA (ρ := ρ) (n := n.toNat * ei.size) hflat hpos) (i := j) (v := v) (by simpa using hj)
        refine ⟨v', ?_, h6⟩
        have hlt := (Array.getElem?_eq_some_iff.1 h5).1
        have h7 : (Builtin.zeroCells z.cells n.toNat)[j]? = some v' := by
          unfold Builtin.zeroCells; rw [← hz1] at h5; exact h5
        have hlt2 := (Array.getElem?_eq_some_iff.1 h7).1
        rw [Array.empty_append, Array.getElem?_append, if_pos hlt2]
        exact h7
      · have := fresh_slice Hd ({ w with drawn := w.drawn + 1 }.heap.size, more) n.toNat n.toNat
        simpa using this
      · unfold Builtin.append_
        simp only [h0, h1, List.getElem?_toArray, List.getElem?_cons_zero, List.getElem?_cons_succ, Sem.run_bind, rUnd hu w, Result.andThen, rSize hsize w, rUnd hu1 w, Sem.run_pure, if_true, asInt, asIntOf, hwn, if_neg (show ¬ n < 0 by omega), hti, if_neg hbig, if_neg (show ¬ 0 + n.toNat ≤ 0 by omega), if_neg hmax, if_neg hcap, hch, run_askRoom', Builtin.firstCells, Bool.not_true, Bool.false_eq_true, if_false]
        have hmul : ¬ n.toNat * ei.size = 0 := by
          intro h; rcases Nat.mul_eq_zero.1 h with h | h <;> omega
        rw [if_neg (by simpa using hmax)]
        simp only [Sem.run_bind, hti, Result.andThen]
        rw [if_neg hcap]
        have hz2 : ∀ w : World, (zeroValue e).run P w = .ok z w := fun w => (rZero hz w).1
        simp only [Sem.run_bind, hch, hti, Result.andThen, run_askRoom', Sem.run_pure, if_neg hmul, hz2, run_newRow']
        rw [show 0 + n.toNat + more - (0 + n.toNat) = more by omega]
    · cases ha
theorem copy_sound (H : HRel P base w0 ρ h w) {ats : Array TypeId} {ty : TypeId} {args args' : Array Value} {v : Value} {h' : IHp} (ha : icopy P h ats args = some (v, h')) (hr : RA ρ args args') (hsz : args.size = 2) :
    ∃ ρ' v' w', ρ.le ρ' ∧ HRel P base w0 ρ' h' w' ∧ R ρ' v v' ∧ (Builtin.copy_ ats ty args').run P w = .ok v' w' := by
  unfold icopy at ha
  split at ha
  · rename_i t a dl cap xb n c h0 hs hx
    obtain ⟨s', hs', hRs⟩ := RA_get hr hs
    obtain ⟨x', hx', hRx⟩ := RA_get hr hx
    have hargs : args' = #[s', x'] := by
      have hsz' : args'.size = 2 := by rw [← hr.1]; exact hsz
      refine Array.ext (by simp [hsz']) fun i h1 h2 => ?_
      have : i = 0 ∨ i = 1 := by omega
      rcases this with rfl | rfl
      · rw [Array.getElem?_eq_some_iff] at hs'; obtain ⟨_, h⟩ := hs'; simpa using h
      · rw [Array.getElem?_eq_some_iff] at hx'; obtain ⟨_, h⟩ := hx'; simpa using h
    subst hargs
    split at ha
    · rename_i e hu
      split at ha
      · cases ha
      · rename_i hspot
        simp only [Option.bind_eq_some_iff] at ha
        obtain ⟨sz, hsize, new, hnew, ha⟩ := ha
        simp only [Option.map_eq_some_iff, Prod.mk.injEq] at ha
        obtain ⟨h2, hset, rfl, rfl⟩ := ha
        have hmin : Nat.min n dl ≤ n := Nat.min_le_left n dl
        obtain ⟨hcell, hnl, new', hnl', hnR, hnrun⟩ := firstCells_sound H hRx hmin hnew
        have hlenx : (Builtin.lenOf x').run P w = .ok n w := by
          cases xb with
          | none => have := R_slice0 hRx; subst this; exact lenOf_slice w
          | some a => obtain ⟨a', c', rfl⟩ := R_anySlice hRx; exact lenOf_slice w
        obtain ⟨hsp, b, hb, rfl⟩ := R_slice hRs (by simpa [spotted] using hspot)
        obtain ⟨w', hw', H'⟩ := HRel.setRow (P := P) (off0 := a.off) hb new new' 0 h _ w H (by simpa using hset) hcell (by omega) hnR
        refine ⟨ρ, .int .i64 (Nat.min n dl : Nat), w', RM.le_refl _, H', by simp only [R], ?_⟩
        unfold Builtin.copy_
        simp only [h0, List.getElem?_toArray, List.getElem?_cons_zero, List.getElem?_cons_succ, Sem.run_bind, rUnd hu w, Result.andThen, hlenx, rSize hsize w, hnrun]
        simp only [Sem.run_bind, hw', Sem.run_pure, Result.andThen, goInt]
    · cases ha
  · cases ha
theorem append_sound (H : HRel P base w0 ρ h w) {ats : Array TypeId} {ty : TypeId} {args args' : Array Value} {v : Value} {h' : IHp} (ha : iappend P h ats args = some (v, h')) (hr : RA ρ args args') (hsz : args.size = 2) :
    ∃ ρ' v' w', ρ.le ρ' ∧ HRel P base w0 ρ' h' w' ∧ R ρ' v v' ∧ (Builtin.append_ ats ty args').run P w = .ok v' w' := by
  unfold iappend at ha
  split at ha
  · rename_i t t1 base' len cap x h0 h1 hs hx
    obtain ⟨s', hs', hRs⟩ := RA_get hr hs
    obtain ⟨x', hx', hRx⟩ := RA_get hr hx
    have hargs : args' = #[s', x'] := by
      have hsz' : args'.size = 2 := by rw [← hr.1]; exact hsz
      refine Array.ext (by simp [hsz']) fun i h1 h2 => ?_
      have : i = 0 ∨ i = 1 := by omega
      rcases this with rfl | rfl
      · rw [Array.getElem?_eq_some_iff] at hs'; obtain ⟨_, h⟩ := hs'; simpa using h
      · rw [Array.getElem?_eq_some_iff] at hx'; obtain ⟨_, h⟩ := hx'; simpa using h
    subst hargs
    split at ha
    · rename_i e e1 xb n c hu hu1
      simp only [Option.bind_eq_some_iff] at ha
      obtain ⟨ei, hi, z, hz, ha⟩ := ha
      split at ha
      · cases ha
      · rename_i hok
        simp only [Bool.or_eq_true, decide_eq_true_eq, not_or, ne_eq, Decidable.not_not] at hok
        obtain ⟨⟨hs0, hb0⟩, hzs⟩ := hok
        split at ha
        · rename_i hroom
          simp only [Bool.and_eq_true, Bool.not_eq_true'] at hroom
          obtain ⟨hroom, hspot⟩ := hroom
          have hroom : (len + n) * ei.bytes ≤ 2 ^ 47 + 2 ^ 20 := by simpa [roomOk] using hroom
          simp only [Option.bind_eq_some_iff] at ha
          obtain ⟨new, hnew, ha⟩ := ha
          have hsize : isz P e = some ei.size := by simp [isz, hi]
          have hsize' : P.cellsOf e = ei.size := by simp [Program.cellsOf, hi]
          obtain ⟨hcell, hnl, new', hnl', hnR, hnrun⟩ := firstCells_sound H hRx (Nat.le_refl _) hnew
          have hnrunk : ∃ new'' : List Value, new''.length = n * ei.size ∧ (∀ (j : Nat) v, new[j]? = some v → ∃ v', new''[j]? = some v' ∧ R ρ v v') ∧ (Builtin.firstCells ei.size n x').run P { w with drawn := w.drawn + 1 } = .ok new''.toArray { w with drawn := w.drawn + 1 } := by
            obtain ⟨_, _, a, b, c, d⟩ := firstCells_sound H.drew hRx (Nat.le_refl _) hnew
            exact ⟨a, b, c, d⟩
          have hlenx : ∀ w, (Builtin.lenOf x').run P w = .ok n w := by
            intro w
            cases xb with
            | none => have := R_slice0 hRx; subst this; exact lenOf_slice w
            | some a => obtain ⟨a', c', rfl⟩ := R_anySlice hRx; exact lenOf_slice w
          split at ha
          · -- it fits
            rename_i hfit
            split at ha
            · -- a nil slice
              split at ha
              · rename_i hn0
                cases ha
                subst hn0
                have := R_slice0 hRs; subst this
                have : new' = [] := by cases new' <;> simp_all
                subst this
                refine ⟨ρ, .slice none (len + 0) cap, w, RM.le_refl _, H, by simp only [R], ?_⟩
                exact append_stay h0 h1 hu hu1 hsize (hlenx w) hfit hnrun (fun a h => by cases h) (fun _ => rfl)
              · cases ha
            · rename_i a
              simp only [Option.map_eq_some_iff] at ha
              obtain ⟨h2, hset, ha⟩ := ha
              simp only [Prod.mk.injEq] at ha
              obtain ⟨rfl, rfl⟩ := ha
              obtain ⟨hsp, b, hb, rfl⟩ := R_slice hRs (by simpa [spotted] using hspot)
              obtain ⟨w', hw', H'⟩ := HRel.setRow (P := P) (off0 := a.off + len * ei.size) hb new new' 0 h _ w H (by simpa using hset) hcell (by omega) hnR
              refine ⟨ρ, .slice (some ⟨b, a.off, none⟩) (len + n) (cap + ρ.extra a.block), w', RM.le_refl _, H', mkR_slice hsp hb, ?_⟩
              refine append_stay h0 h1 hu hu1 hsize (hlenx w) (by omega) hnrun (fun a' h => ?_) (fun h => by cases h)
              cases h
              rw [Addr.add_row]
              exact hw'
          · rename_i hnofit
            have fresh : ∀ (old : List Value) (h2 : IHp), HRel P base w0 ρ h2 w → h.rowAt base' len ei.size = some old → ∀ cap' base'', s' = .slice base'' len cap' → cap' < len + n →
                ∃ ρ' v' w', ρ.le ρ' ∧ HRel P base w0 ρ' (h2.push (.cells (old ++ new) e false)) w' ∧ R ρ' (.slice (some { block := h2.fresh, off := 0 }) (len + n) (len + n)) v' ∧ (Builtin.append_ ats ty #[s', x']).run P w = .ok v' w' := by
              intro old h2 H2 hold cap' base'' hs'' hcap'
              obtain ⟨hoc, hol, old', hol', hoR, horun⟩ := firstCells_sound H.drew hRs (Nat.le_refl _) hold
              subst hs''
              obtain ⟨new'', hnl'', hnR'', hnrun''⟩ := hnrunk
              obtain ⟨more, hrun⟩ := append_grow (P := P) (ty := ty) (old := old') (new := new'') h0 h1 hu hu1 hi hz hzs hs0 hb0 hroom hlenx hcap' hnrun'' horun (w := w)
              have Hd := H2.drew
              refine ⟨ρ.add h2.new.length ({ w with drawn := w.drawn + 1 }.heap.size, more), _, _, RM.le_push Hd _, push_cells Hd (x := more) (c := old ++ new) (ex := false) (e := e) (c' := old'.toArray ++ new''.toArray ++ Builtin.zeroCells z.cells more) ?_ (by simp) ?_ e, ?_, hrun⟩
              · rw [hsize', ← hzs]
                simp [zeroCells_size (show 0 < z.cells.size by omega), hol', hnl, hnl'', hol, hzs]
              · intro k v hk
                rw [List.getElem?_append] at hk
                rw [Array.getElem?_append, Array.getElem?_append]
                split at hk
                · rename_i hlt
                  obtain ⟨v', h3, h4⟩ := hoR k v hk
                  refine ⟨hoc v (List.mem_of_getElem? hk), v', ?_, h4⟩
                  rw [if_pos (by simp; omega), if_pos (by simp; omega)]
                  simpa using h3
                · rename_i hge
                  obtain ⟨v', h3, h4⟩ := hnR'' _ v hk
                  have hlt := (List.getElem?_eq_some_iff.1 h3).1
                  refine ⟨hcell v (List.mem_of_getElem? hk), v', ?_, h4⟩
                  rw [if_pos (by simp; omega), if_neg (by simp; omega)]
                  simp only [List.size_toArray, hol']
                  rw [← hol]
                  simpa using h3
              · exact fresh_slice Hd ({ w with drawn := w.drawn + 1 }.heap.size, more) (len + n) (len + n)
            split at ha
            · -- nil
              split at ha
              · rename_i hl0
                obtain ⟨rfl, rfl⟩ := hl0
                simp only [Option.some.injEq, Prod.mk.injEq] at ha
                obtain ⟨rfl, rfl⟩ := ha
                have := fresh [] h H (by simp [IHp.rowAt]) 0 none (R_slice0 hRs) (by omega)
                simpa using this
              · cases ha
            · rename_i a
              simp only [Option.bind_eq_some_iff] at ha
              obtain ⟨old, hold, ha⟩ := ha
              obtain ⟨hsp, b, hb, hs''⟩ := R_slice hRs (by simpa [spotted] using hspot)
              split at ha
              · rename_i hex
                simp only [Option.some.injEq, Prod.mk.injEq] at ha
                obtain ⟨rfl, rfl⟩ := ha
                exact fresh old h H hold _ _ hs'' (by rw [H.exact hex]; omega)
              · rename_i hnex
                split at ha
                · rename_i c elem ex hblk
                  split at ha
                  · rename_i hoc
                    obtain ⟨hoff, hclen, hel⟩ := hoc
                    simp only [Option.some.injEq, Prod.mk.injEq] at ha
                    obtain ⟨rfl, rfl⟩ := ha
                    -- the old block is dead
                    have Hdead : HRel P base w0 ρ { h with new := h.new.set (a.block / 2) .dead } w := by
                      obtain ⟨x, hρ⟩ := RM.block_at (by intro ho; apply hnex; simp [iexact, ho]) hb
                      exact H.turn hblk rfl hρ trivial (fun _ _ => rfl) rfl rfl rfl rfl
                    by_cases hgrow : cap + ρ.extra a.block < len + n
                    · have := fresh old _ Hdead hold _ _ hs'' hgrow
                      simpa [IHp.fresh, IHp.push] using this
                    · -- it had room
                      subst hel
                      have hodd : a.block % 2 ≠ 1 := by
                        intro ho; apply hnex; simp [iexact, ho]
                      obtain ⟨x, hρ⟩ := RM.block_at hodd hb
                      obtain ⟨hbr, hrw, c', e', ⟨fz, hw, hfz⟩, hsz', hexx, hall⟩ := H.blk _ _ _ _ hblk hρ
                      have hxe : ρ.extra a.block = x := by simp [RM.extra, hodd, hρ]
                      rw [hxe] at hgrow
                      rw [hsize'] at hsz'
                      obtain ⟨hocell, hol, _⟩ := firstCells_sound H hRs (Nat.le_refl _) hold
                      have hcap1 : len * ei.size + n * ei.size ≤ c'.size := by
                        rw [hsz', hclen, ← Nat.add_mul, ← Nat.add_mul]
                        exact Nat.mul_le_mul_right _ (by omega)
                      have hrow := storeCells_out P b (len * ei.size) e' fz new' 0 c' w hw hfz (by omega) (fun u hu => by
                        obtain ⟨k, hk⟩ := List.mem_iff_getElem?.1 hu
                        have hlt : k < new.length := by
                          have := (List.getElem?_eq_some_iff.1 hk).1; omega
                        obtain ⟨u', hu', hR⟩ := hnR k new[k] (by simp [hlt])
                        rw [hk] at hu'; cases hu'
                        have h5 := R_cell hR
                        rw [hcell new[k] (List.getElem_mem _)] at h5
                        cases u <;> simp [isCellV] at h5 <;> rfl)
                      simp only [Nat.add_zero] at hrow
                      have holdc : ∀ (k : Nat) v, old[k]? = some v → c[k]? = some v := by
                        have hrowold : h.row a.block 0 (len * ei.size) = some old := by
                          simp only [IHp.rowAt] at hold; rw [hoff] at hold; exact hold
                        have gen : ∀ (m o : Nat) (l : List Value), h.row a.block o m = some l → ∀ (k : Nat) v, l[k]? = some v → c[o + k]? = some v := by
                          intro m
                          induction m with
                          | zero => intro o l hl k v hk; simp [IHp.row] at hl; subst hl; simp at hk
                          | succ m ih =>
                            intro o l hl k v hk
                            simp only [IHp.row, Option.bind_eq_some_iff] at hl
                            obtain ⟨u, hu, us, hus, hl⟩ := hl
                            cases hl
                            cases k with
                            | zero =>
                              simp at hk; subst hk
                              simp only [IHp.cell?, hodd, if_false, hblk] at hu
                              exact hu
                            | succ k =>
                              have := ih (o + 1) us hus k v (by simpa using hk)
                              rw [show o + (k + 1) = o + 1 + k by omega]; exact this
                        intro k v hk
                        simpa using gen _ _ _ hrowold k v hk
                      refine ⟨ρ.add h.new.length (b, cap + x - (len + n)), .slice (some ⟨b, a.off, none⟩) (len + n) (cap + ρ.extra a.block), _, RM.le_push H _,
                        H.regrow (o' := .cells (old ++ new) _ false) hblk rfl hρ (w' := w.setRow b (c'.toList.take (len * ei.size) ++ new' ++ c'.toList.drop (len * ei.size + new'.length)).toArray) ?_ (fun k hk => setRow_other w b k _ hk) (by simp) rfl rfl rfl, ?_, ?_⟩
                      · intro ρ' hle
                        refine ⟨_, e', ⟨fz, setRow_heap w b c' _ e' _ hw, ?_⟩, ?_, by simp, ?_⟩
                        · rcases hfz with h0 | h0
                          · exact .inl h0
                          · right; simp; omega
                        · have e1 : (c'.toList.take (len * ei.size)).length = len * ei.size := by simp; omega
                          simp only [List.size_toArray, List.length_append, e1, List.length_drop, Array.length_toList, hnl', hol, hnl, hsize', hsz', hclen]
                          have e2 : cap * ei.size + x * ei.size = len * ei.size + n * ei.size + (cap + x - (len + n)) * ei.size := by
                            rw [← Nat.add_mul, ← Nat.add_mul, ← Nat.add_mul]; congr 1; omega
                          omega
                        · intro k v hk
                          rw [List.getElem?_append] at hk
                          have e1 : (c'.toList.take (len * ei.size)).length = len * ei.size := by simp; omega
                          split at hk
                          · rename_i hlt
                            obtain ⟨h6, v', h7, h8⟩ := hall k v (holdc k v hk)
                            refine ⟨h6, v', ?_, R_mono hle _ _ h8⟩
                            rw [List.getElem?_toArray, List.append_assoc, List.getElem?_append, if_pos (by rw [e1]; omega), List.getElem?_take, if_pos (by omega), Array.getElem?_toList]
                            exact h7
                          · rename_i hge
                            obtain ⟨v', h7, h8⟩ := hnR _ v hk
                            have hlt := (List.getElem?_eq_some_iff.1 h7).1
                            refine ⟨hcell v (List.mem_of_getElem? hk), v', ?_, R_mono hle _ _ h8⟩
                            rw [List.getElem?_toArray, List.append_assoc, List.getElem?_append, if_neg (by rw [e1]; omega), List.getElem?_append, e1, ← hol, if_pos hlt]
                            exact h7
                      · have := fresh_slice H (b, cap + x - (len + n)) (len + n) (len + n)
                        rw [hxe, hoff]
                        simp only at this
                        rw [show len + n + (cap + x - (len + n)) = cap + x by omega] at this
                        exact this
                      · rw [hs'']
                        refine append_stay h0 h1 hu hu1 hsize (hlenx w) (by omega) hnrun (fun a' h => ?_) (fun h => by cases h)
                        cases h
                        rw [Addr.add_row, hoff, Nat.zero_add]
                        exact hrow
                  · cases ha
                · cases ha
        · cases ha
    · -- of a made slice
      rename_i e k n hu hu1
      split at ha
      · rename_i hn0
        obtain ⟨ρ', v', w', h1', h2', h3', h4'⟩ := appmake_sound H (ats := ats) (ty := ty) (k := k) ha h0 h1 hu hu1 hn0
        refine ⟨ρ', v', w', h1', h2', h3', ?_⟩
        have : s' = .slice none 0 0 := by
          obtain ⟨rfl, rfl, rfl⟩ := appmake_nil ha
          exact R_slice0 hRs
        rw [this, R_int hRx]
        exact h4'
      · cases ha
    · cases ha
  · cases ha
end
end Go.Ideal

-- IdealK
set_option linter.unusedSimpArgs false
set_option linter.unusedVariables false
namespace Go.Ideal
open Go Go.RowKit

section
variable {P : Program} {base : Nat} {w0 w : World} {ρ : RM} {h : IHp} {ev ev' : Operand → Value}

theorem okrun_value {s : Sem Value} {w w' : World} {v : Value} (h : s.run P w = .ok v w') : OkRun P (do pure (.value (← s))) w v w' := by
  left; simp only [Sem.run_bind, h, Result.andThen, Sem.run_pure]
theorem okrun_unit {s : Sem Unit} {w w' : World} (h : s.run P w = .ok () w') : OkRun P (do s; pure .skip) w undef w' := by
  right; exact ⟨rfl, by simp only [Sem.run_bind, h, Result.andThen, Sem.run_pure]⟩

def frzO (n : Nat) : Obj → Obj
  | .cells c elem (lo, hi) => .cells c elem (if lo == hi then (n, n + 1) else (min lo n, max hi (n + 1)))
  | o => o
/-- bytes taken for bytes: no cell is changed -/
theorem freeze_sound (H : HRel P base w0 ρ h w) {i b x : Nat} {c : List Value} {e : TypeId} {ex : Bool} {c' : Array Value} {e' : TypeId} {fz : Nat × Nat} (hi : h.new[i]? = some (.cells c e ex)) (hρ : ρ.at_ i = some (b, x))
    (hw : w.heap[b]? = some (.cells c' e' fz)) : HRel P base w0 ρ h (w.freeze ⟨b, c'.size, none⟩ 1) := by
  obtain ⟨hbr, hrw, c2, e2, ⟨fz2, hw2, hfz⟩, hsz, hex, hall⟩ := H.blk _ _ _ _ hi hρ
  rw [hw] at hw2
  obtain ⟨rfl, rfl, rfl⟩ : c' = c2 ∧ e' = e2 ∧ fz = fz2 := by cases hw2; exact ⟨rfl, rfl, rfl⟩
  have hs : h.new.set i (.cells c e ex) = h.new := by
    refine List.ext_getElem? fun k => ?_
    by_cases hk : i = k
    · subst hk
      rw [List.getElem?_set_self (List.getElem?_eq_some_iff.1 hi).1, hi]
    · rw [List.getElem?_set_ne hk]
  have hh : ({ h with new := h.new.set i (.cells c e ex) } : IHp) = h := by rw [hs]
  rw [← hh]
  have hheap : (w.freeze ⟨b, c'.size, none⟩ 1).heap = w.heap.modify b (frzO c'.size) := by
    unfold World.freeze
    rw [if_neg (by decide)]
    dsimp only
    congr 1
  refine H.turn hi rfl hρ ?_ (fun k hk => ?_) ?_ rfl rfl rfl
  · refine ⟨c', e', ?_, hsz, hex, hall⟩
    refine ⟨(if fz.1 == fz.2 then (c'.size, c'.size + 1) else (min fz.1 c'.size, max fz.2 (c'.size + 1))), ?_, ?_⟩
    · rw [hheap, Array.getElem?_modify, if_pos rfl, hw]
      obtain ⟨lo, hi⟩ := fz
      rfl
    · split
      · exact .inr (Nat.le_refl _)
      · rename_i hne
        have : c'.size ≤ fz.1 := by
          rcases hfz with h0 | h0
          · simp [h0] at hne
          · exact h0
        right
        simp only
        omega
  · rw [hheap, Array.getElem?_modify, if_neg (Ne.symm hk)]
  · rw [hheap, Array.size_modify]
theorem conv_sound (H : HRel P base w0 ρ h w) {src dst : TypeId} {v u v' : Value} (hc : iconv P h src dst v = some u) (hv : R ρ v v') : u = v ∧ ∃ w', (convert src dst v').run P w = .ok v' w' ∧ HRel P base w0 ρ h w' := by
  unfold iconv at hc
  split at hc
  · rename_i a n c
    split at hc
    · rename_i hcond
      simp only [Bool.and_eq_true, beq_iff_eq, Option.isNone_iff_eq_none] at hcond
      obtain ⟨⟨rfl, hsp⟩, heven⟩ := hcond
      split at hc
      · rename_i e hu
        split at hc
        · rename_i hu2
          split at hc
          · rename_i cc ce cx hblk
            cases hc
            obtain ⟨_, b, hb, rfl⟩ := R_slice hv hsp
            obtain ⟨x, hρ⟩ := RM.block_at (by omega) hb
            obtain ⟨_, _, c', e', ⟨fz, hw, hfz⟩, _⟩ := H.blk _ _ _ _ hblk hρ
            refine ⟨rfl, _, ?_, freeze_sound H hblk hρ hw⟩
            have hsh : w.shape? b = some (e', c'.size) := by simp [World.shape?, hw]
            simp only [convert, underlying, program, markStringish, shape, freeze, Sem.run_bind, Sem.run, Result.andThen, Sem.run_pure, hu, hu2, beq_self_eq_true, hsh]
          · cases hc
        · cases hc
      · cases hc
    · cases hc
  · cases hc
def madeR (l : Option Nat) (b : Nat) : Value :=
  match l with
  | none => .pointer (some ⟨b, 0, none⟩)
  | some n => .slice (some ⟨b, 0, none⟩) n n
/-- what makes new memory -/
theorem made_sound {o : Oper} {t : TypeId} {cs : List Value} {l : Option Nat} (hp : imade P ev o = some (t, cs, l)) (hev : EvR ρ ev ev' o) :
    (∀ v ∈ cs, isCellV v = true) ∧ ∃ cs' : Array Value, RA ρ cs.toArray cs' ∧ (execOp ev' o).run P w = .ok (.value (madeR l w.heap.size)) (w.alloc (.cells cs' t)) := by
  obtain ⟨dst, op, type, pos, after, guard⟩ := o
  simp only [EvR] at hev
  unfold imade at hp
  split at hp
  · rename_i t0 hop
    simp only at hop
    subst hop
    simp only [Option.bind_eq_some_iff] at hp
    obtain ⟨z, hz, hp⟩ := hp
    split at hp
    · rename_i hr
      simp only [Option.some.injEq, Prod.mk.injEq] at hp
      obtain ⟨rfl, rfl, rfl⟩ := hp
      have hf := rZero hz w
      refine ⟨row_cells hr, z.cells, by simpa using R_cells (flat_R hf.2), ?_⟩
      simp only [execOp, Instr.alloc, Sem.run_bind, hf.1, Result.andThen, run_newVar, Sem.run_pure, madeR]
    · cases hp
  · rename_i t0 len parts hop
    simp only at hop
    subst hop
    split at hp
    · rename_i e hu
      simp only [Option.bind_eq_some_iff] at hp
      obtain ⟨s, hs, hp⟩ := hp
      split at hp
      · cases hp
      · rename_i hsz
        simp only [Option.bind_eq_some_iff] at hp
        obtain ⟨z, hz, hp⟩ := hp
        split at hp
        · cases hp
        · rename_i hzs
          simp only [Option.bind_eq_some_iff] at hp
          obtain ⟨cells, hf, hp⟩ := hp
          split at hp
          · rename_i hc
            simp only [Option.some.injEq, Prod.mk.injEq] at hp
            obtain ⟨rfl, rfl, rfl⟩ := hp
            obtain ⟨cells', h1, h2⟩ := buildSlice_run (w := w) hu hs hsz hz (by simpa using hzs) hf (PRel_map (ev := ev) (ev' := ev') (ps := parts) fun p hp => hev p.2 (by
              simp only [Op.operands, List.mem_toArray, List.mem_map]; exact ⟨p, Array.mem_toList_iff.2 hp, rfl⟩))
            rw [List.all_eq_true] at hc
            refine ⟨hc, cells', by simpa using h2, ?_⟩
            simp only [execOp, Sem.run_bind, h1, Result.andThen, Sem.run_pure, madeR]
          · cases hp
    · cases hp
  · cases hp
theorem ibtsRow_inv {src dst : TypeId} {v : Value} {b off : Nat} {vs : List Value} (hc : ibtsRow P h src dst v = some (b, off, vs)) :
    ∃ a c e, v = .slice (some a) vs.length c ∧ a.spot = none ∧ a.block = b ∧ a.off = off ∧ P.underlying src = some (.slice e) ∧ P.underlying dst = some .string ∧ P.underlying e = some (.int .u8) ∧ h.row b off vs.length = some vs := by
  unfold ibtsRow at hc
  split at hc
  · rename_i a n c
    split at hc
    · rename_i hsp
      split at hc
      · rename_i e hu hd
        split at hc
        · rename_i he
          simp only [Option.map_eq_some_iff, Prod.mk.injEq] at hc
          obtain ⟨us, h1, rfl, rfl, rfl⟩ := hc
          have hl : us.length = n := by
            have : ∀ (n off : Nat) (us : List Value), h.row a.block off n = some us → us.length = n := by
              intro n
              induction n with
              | zero => intro off us h; simp [IHp.row] at h; subst h; rfl
              | succ n ih =>
                intro off us h
                simp only [IHp.row, Option.bind_eq_some_iff] at h
                obtain ⟨v, _, l, h2, h⟩ := h
                cases h
                simp [ih _ _ h2]
            exact this _ _ _ h1
          subst hl
          exact ⟨a, c, e, rfl, Option.isNone_iff_eq_none.1 hsp, rfl, rfl, hu, hd, he, h1⟩
        · cases hc
      · cases hc
    · cases hc
  · cases hc
theorem bytes_run (f : Value → ByteArray → Sem (ForInStep ByteArray)) (hf : ∀ n s w, (f (.int .u8 n) s).run P w = .ok (.yield (s.push (UInt8.ofNat n.toNat))) w) : ∀ (vs vs' : List Value) (s r : ByteArray) (w : World), vs'.length = vs.length → (∀ (j : Nat) v, vs[j]? = some v → ∃ v', vs'[j]? = some v' ∧ R ρ v v') → bytesStr vs s = some r →
    (forIn vs' s f).run P w = .ok r w := by
  intro vs
  induction vs with
  | nil =>
    intro vs' s r w hl _ hb
    have : vs' = [] := List.eq_nil_of_length_eq_zero hl
    subst this
    simp only [bytesStr, Option.some.injEq] at hb
    subst hb
    simp [Sem.run]
  | cons v vs ih =>
    intro vs' s r w hl hR hb
    match vs', hl with
    | v' :: vs', hl =>
      obtain ⟨v2, h1, h2⟩ := hR 0 v rfl
      simp only [List.getElem?_cons_zero, Option.some.injEq] at h1
      subst h1
      cases v with
      | int k n =>
        cases k <;> simp only [bytesStr, reduceCtorEq] at hb
        have := R_int h2
        subst this
        rw [List.forIn_cons]
        simp only [Sem.run_bind, hf, Result.andThen]
        exact ih vs' _ r w (by simpa using hl) (fun j v hj => by simpa using hR (j + 1) v (by simpa using hj)) hb
      | _ => simp [bytesStr] at hb
/-- a string made of bytes -/
theorem bts_run {src dst e : TypeId} {rb off c : Nat} {vs vs' : List Value} {r : ByteArray} (hu : P.underlying src = some (.slice e)) (hd : P.underlying dst = some .string) (he : P.underlying e = some (.int .u8)) (hl : vs'.length = vs.length)
    (hc : ∀ (j : Nat) v', vs'[j]? = some v' → w.cell? ⟨rb, off + j, none⟩ = some v') (hR : ∀ (j : Nat) v, vs[j]? = some v → ∃ v', vs'[j]? = some v' ∧ R ρ v v') (hb : bytesStr vs .empty = some r) :
    (convert src dst (.slice (some ⟨rb, off, none⟩) vs.length c)).run P w = .ok (.string r) w := by
  have h1 := run_loadCells_row (P := P) (w := w) rb off vs' 0 #[] (by simpa using hc)
  rw [hl] at h1
  simp only [convert, Sem.run_bind, rUnd hu w, rUnd hd w, rUnd he w, Result.andThen, Conv.bytesToString, loadCells, h1, Array.empty_append]
  rw [← Array.forIn_toList]
  simp only [List.toList_toArray]
  rw [bytes_run (ρ := ρ) _ (fun n s w => ?_) vs vs' .empty r w hl hR hb]
  · simp [Sem.run]
  · simp [Sem.run]
theorem bts_sound (H : HRel P base w0 ρ h w) {src dst : TypeId} {v v' : Value} {b off : Nat} {vs : List Value} {r : ByteArray} (h1 : ibtsRow P h src dst v = some (b, off, vs)) (h2 : bytesStr vs .empty = some r) (hv : R ρ v v') : (convert src dst v').run P w = .ok (.string r) w := by
  obtain ⟨a, c, e, rfl, hsp, rfl, rfl, hu, hd, he, hrow⟩ := ibtsRow_inv h1
  obtain ⟨_, rb, hb, rfl⟩ := R_slice hv hsp
  obtain ⟨_, _, vs', h3, h4, h5⟩ := H.row hb _ _ _ hrow
  exact bts_run hu hd he h3 h4 h5 h2
theorem iheap_sound (H : HRel P base w0 ρ h w) {o : Oper} {v : Value} {h' : IHp} (hp : iheap P h ev o = some (v, h')) (hev : EvR ρ ev ev' o) :
    ∃ ρ' v' w', ρ.le ρ' ∧ HRel P base w0 ρ' h' w' ∧ R ρ' v v' ∧ OkRun P (execOp ev' o) w v' w' := by
  have pure_case : ∀ {v h'}, (ipure P h ev o).map (·, h) = some (v, h') → ∃ ρ' v' w', ρ.le ρ' ∧ HRel P base w0 ρ' h' w' ∧ R ρ' v v' ∧ OkRun P (execOp ev' o) w v' w' := by
    intro v h' hp
    simp only [Option.map_eq_some_iff, Prod.mk.injEq] at hp
    obtain ⟨u, hu, rfl, rfl⟩ := hp
    obtain ⟨v', h1, h2⟩ := ipure_sound H hu hev
    exact ⟨ρ, v', w, RM.le_refl _, H, h1, .inl (h2 w)⟩
  obtain ⟨dst, op, type, pos, after, guard⟩ := o
  simp only [EvR] at hev
  cases op with
  | load t a =>
    simp only [iheap, Option.map_eq_some_iff, Prod.mk.injEq] at hp
    obtain ⟨u, hu, rfl, rfl⟩ := hp
    obtain ⟨u', h1, h2⟩ := load_sound H hu (hev a (by simp [Op.operands]))
    exact ⟨ρ, u', w, RM.le_refl _, H, h1, okrun_value h2⟩
  | store t a x =>
    simp only [iheap] at hp
    split at hp
    · rename_i hrow
      simp only [Option.map_eq_some_iff, Prod.mk.injEq] at hp
      obtain ⟨h1, hs, rfl, rfl⟩ := hp
      obtain ⟨w', h2, h3⟩ := store_sound H hs hrow (hev a (by simp [Op.operands])) (hev x (by simp [Op.operands]))
      exact ⟨ρ, undef, w', RM.le_refl _, h3, R_undef, okrun_unit h2⟩
    · cases hp
  | alloc t =>
    simp only [iheap, Option.bind_eq_some_iff] at hp
    obtain ⟨z, hz, hp⟩ := hp
    split at hp
    · rename_i hr
      simp only [Option.some.injEq, Prod.mk.injEq] at hp
      obtain ⟨rfl, rfl⟩ := hp
      obtain ⟨h1, h2⟩ := alloc_sound H hz hr
      exact ⟨_, _, _, RM.le_push H _, h2, fresh_ptr H _, okrun_value h1⟩
    · cases hp
  | box t x =>
    simp only [iheap] at hp
    split at hp
    · rename_i hr
      simp only [Option.some.injEq, Prod.mk.injEq] at hp
      obtain ⟨rfl, rfl⟩ := hp
      obtain ⟨h1, h2⟩ := box_sound H (t := t) hr (hev x (by simp [Op.operands]))
      exact ⟨_, _, _, RM.le_push H _, h2, fresh_ptr H _, okrun_value h1⟩
    · cases hp
  | buildSlice t len parts =>
    simp only [iheap] at hp
    split at hp
    · rename_i e hu
      simp only [Option.bind_eq_some_iff] at hp
      obtain ⟨s, hs, hp⟩ := hp
      split at hp
      · cases hp
      · rename_i hsz
        simp only [Option.bind_eq_some_iff] at hp
        obtain ⟨z, hz, hp⟩ := hp
        split at hp
        · cases hp
        · rename_i hzs
          simp only [Option.bind_eq_some_iff] at hp
          obtain ⟨cells, hf, hp⟩ := hp
          split at hp
          · rename_i hc
            simp only [Option.some.injEq, Prod.mk.injEq] at hp
            obtain ⟨rfl, rfl⟩ := hp
            obtain ⟨cells', h1, h2⟩ := buildSlice_sound H hu hs hsz hz (by simpa using hzs) hf (PRel_map (ev := ev) (ev' := ev') (ps := parts) fun p hp => hev p.2 (by
              simp only [Op.operands, List.mem_toArray, List.mem_map]; exact ⟨p, Array.mem_toList_iff.2 hp, rfl⟩)) hc
            exact ⟨_, _, _, RM.le_push H _, h2, fresh_slice H (w.heap.size, 0) len len, okrun_value h1⟩
          · cases hp
    · cases hp
  | makeSlice t l c =>
    simp only [iheap] at hp
    have hl := hev l (by simp [Op.operands])
    have hc := hev c (by simp [Op.operands])
    split at hp
    · rename_i e k li k' ci hu hel hec
      rw [hel] at hl; rw [hec] at hc
      simp only [Option.bind_eq_some_iff] at hp
      obtain ⟨ei, hi, z, hz, hp⟩ := hp
      split at hp
      · cases hp
      · rename_i hzs
        split at hp
        · rename_i hb
          simp only [Option.some.injEq, Prod.mk.injEq] at hp
          obtain ⟨rfl, rfl⟩ := hp
          obtain ⟨cells', h1, h2⟩ := makeSlice_sound H (k := k) (k' := k') hu hi hz hzs hb
          refine ⟨_, _, _, RM.le_push H _, h2, fresh_slice H (w.heap.size, 0) _ _, ?_⟩
          refine okrun_value ?_
          rw [R_int hl, R_int hc]
          exact h1
        · cases hp
    · cases hp
  | makeMap t r =>
    cases r with
    | none =>
      simp only [iheap, Option.some.injEq, Prod.mk.injEq] at hp
      obtain ⟨rfl, rfl⟩ := hp
      refine ⟨_, .map (some w.heap.size), _, RM.le_push H (w.heap.size, 0), H.push (O := .map #[] 0) (o := .map [] 0) fun ρ' hle => ⟨#[], rfl, rfl, by simp⟩, ?_, ?_⟩
      · simp only [R]
        exact ⟨by simp [IHp.fresh], _, block_fresh H (w.heap.size, 0), rfl⟩
      · refine okrun_value ?_
        simp [Instr.makeMap, Sem.run_bind, Result.andThen]
    | some r => simp [iheap, ipure] at hp
  | mapUpdate t m k x =>
    simp only [iheap, Option.map_eq_some_iff, Prod.mk.injEq] at hp
    obtain ⟨h1, hi, rfl, rfl⟩ := hp
    obtain ⟨w', h2, h3, hk⟩ := insert_sound H hi (hev m (by simp [Op.operands])) (hev x (by simp [Op.operands]))
    rw [← flat_eq hk (hev k (by simp [Op.operands]))] at h2
    exact ⟨ρ, undef, w', RM.le_refl _, h3, R_undef, okrun_unit h2⟩
  | insert t m k x =>
    simp only [iheap, Option.map_eq_some_iff, Prod.mk.injEq] at hp
    obtain ⟨h1, hi, rfl, rfl⟩ := hp
    obtain ⟨w', h2, h3, hk⟩ := insert_sound H hi (hev m (by simp [Op.operands])) (hev x (by simp [Op.operands]))
    rw [← flat_eq hk (hev k (by simp [Op.operands]))] at h2
    exact ⟨ρ, undef, w', RM.le_refl _, h3, R_undef, okrun_unit h2⟩
  | lookup t m k ok =>
    simp only [iheap, Option.map_eq_some_iff, Prod.mk.injEq] at hp
    obtain ⟨u, hl, rfl, rfl⟩ := hp
    obtain ⟨hk, v', h1, h2⟩ := lookup_sound H hl (hev m (by simp [Op.operands]))
    rw [← flat_eq hk (hev k (by simp [Op.operands]))] at h2
    exact ⟨ρ, v', w, RM.le_refl _, H, h1, okrun_value h2⟩
  | call c =>
    obtain ⟨callee, args, argTypes⟩ := c
    by_cases ha : callee = .builtin .append
    · subst ha
      simp only [iheap] at hp
      split at hp
      · rename_i hsz
        obtain ⟨ρ', v', w', h1, h2, h3, h4⟩ := append_sound (ty := type) H hp (RA_map (ev := ev) (ev' := ev') (xs := args) fun x hx => hev x (by simp [Op.operands, Call.operands, hx])) (by simpa using hsz)
        refine ⟨ρ', v', w', h1, h2, h3, .inl ?_⟩
        simp only [execOp, resolve, Sem.run_bind, Sem.run_pure, Result.andThen, invoke, builtin, h4]
      · cases hp
    · by_cases hcp : callee = .builtin .copy
      · subst hcp
        simp only [iheap] at hp
        split at hp
        · rename_i hsz
          obtain ⟨ρ', v', w', h1, h2, h3, h4⟩ := copy_sound (ty := type) H hp (RA_map (ev := ev) (ev' := ev') (xs := args) fun x hx => hev x (by simp [Op.operands, Call.operands, hx])) (by simpa using hsz)
          refine ⟨ρ', v', w', h1, h2, h3, .inl ?_⟩
          simp only [execOp, resolve, Sem.run_bind, Sem.run_pure, Result.andThen, invoke, builtin, h4]
        · cases hp
      · refine pure_case ?_
        cases callee with
        | builtin b => cases b <;> first | (exact absurd rfl ha) | (exact absurd rfl hcp) | (simpa only [iheap] using hp)
        | _ => simpa only [iheap] using hp
  | convert src dst x =>
    simp only [iheap] at hp
    split at hp
    · rename_i u hc
      simp only [Option.some.injEq, Prod.mk.injEq] at hp
      obtain ⟨rfl, rfl⟩ := hp
      have hx := hev x (by simp [Op.operands])
      obtain ⟨rfl, w', h1, h2⟩ := conv_sound H hc hx
      exact ⟨ρ, _, w', RM.le_refl _, h2, hx, okrun_value h1⟩
    · split at hp
      · rename_i u hc
        obtain ⟨b, off, vs⟩ := u
        simp only [Option.map_eq_some_iff, Prod.mk.injEq] at hp
        obtain ⟨r, hr, rfl, rfl⟩ := hp
        exact ⟨ρ, _, w, RM.le_refl _, H, flat_R rfl, okrun_value (bts_sound H hc hr (hev x (by simp [Op.operands])))⟩
      · exact pure_case hp
  | _ => exact pure_case (by simpa only [iheap] using hp)
end
end Go.Ideal
