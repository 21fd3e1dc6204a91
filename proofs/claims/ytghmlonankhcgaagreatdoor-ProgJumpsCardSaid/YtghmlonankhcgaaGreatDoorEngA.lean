import GoSem.Core.Layout
import GoSem.Core.Region
import GoSem.Op.Equal
import GoSem.Op.String
import GoSem.Core.Sem
/- The engine, part A: abstract values, resolved code, the compiler from the model's code. -/
namespace Go.Eng

inductive AV where
  | bool (b : Bool)
  | int (k : IntKind) (n : Int)
  | str (s : List UInt8)
  | nilp | nils | nilm | nilf | nili
  | agg (cs : List AV)
  | tup (vs : List AV)
  | lst (xs : List AV)
  | cref (cs : List AV)
  | ptr (n ver i o : Nat)
  | slc (n ver sz i o len : Nat) (cap : Option Nat)
  | mapr (n : Nat)
  | clo (f : Nat) (caps : List AV)
  deriving Inhabited, Repr

def AV.cells : AV → List AV
  | .agg cs => cs
  | v => [v]

def AV.isAgg : AV → Bool
  | .agg _ => true
  | _ => false

inductive Blk where
  | cells (ver esz : Nat) (grow : Bool) (es : List AV)
  | map (es : List (AV × AV))
  | repl (ps : List (List UInt8 × List UInt8))
  | dead
  deriving Inhabited, Repr

abbrev Heap := List Blk

inductive Opd where
  | tmp (t : Nat)
  | const (v : AV)
  deriving Inhabited, Repr

inductive SlK where
  | str
  | sl (sz : Nat)
  | arr (len sz : Nat)
  deriving Inhabited, Repr

/-- the leaves of a type whose values are compared cell by cell -/
inductive Leaf where
  | b | i | s
  deriving Inhabited, Repr, DecidableEq

inductive AOp where
  | mv (x : Opd)
  | pick (c a b : Opd)
  | alloc (esz : Nat) (zero : AV)
  | box (esz : Nat) (x : Opd)
  | build (zero : List AV) (parts : List (Nat × Nat × Opd))
  | lit (live : Bool) (esz len : Nat) (zero : AV) (parts : List (Nat × Opd))
  | load (sz : Nat) (ag : Bool) (x : Opd)
  | store (sz : Nat) (x v : Opd)
  | nilck (x : Opd)
  | bin (op : BinOp) (x y : Opd)
  | eq (neg ag : Bool) (sh : List Leaf) (x y : Opd)
  | eqNil (neg : Bool) (k : Nat) (x y : Opd)
  | un (op : UnOp) (x : Opd)
  | convInt (k : IntKind) (x : Opd)
  | convStr (x : Opd)
  | s2b (x : Opd)
  | b2s (x : Opd)
  | faddr (off : Nat) (x : Opd)
  | field (off sz : Nat) (ag : Bool) (x : Opd)
  | iaddr (sz : Nat) (arr : Option Nat) (x i : Opd)
  | indexS (x i : Opd)
  | indexA (len sz : Nat) (ag : Bool) (x i : Opd)
  | slice (k : SlK) (x : Opd) (lo hi mx : Option Opd)
  | extract (x : Opd) (i : Nat)
  | call (f : Nat) (args : List Opd)
  | callv (x : Opd) (args : List Opd)
  | len (str : Bool) (x : Opd)
  | append (sz bytes : Nat) (x y : Opd)
  | copy (sz : Nat) (x y : Opd)
  | minmax (mx : Bool) (xs : List Opd)
  | mkmap
  | lookup (ag : Bool) (sh : List Leaf) (zero : AV) (ok : Bool) (m k : Opd)
  | mapset (ag : Bool) (sh : List Leaf) (m k v : Opd)
  | mkslice (sz bytes : Nat) (zero : AV) (l c : Opd)
  | mkfunc (f : Nat) (caps : List Opd)
  | bad (why : String)
  deriving Inhabited, Repr

structure AOper where
  dst : Option Nat
  op : AOp
  guard : Option (Nat × Bool) := none
  bef : Nat := 0      -- in a region with an open order: the places of the operations that come before
  deriving Inhabited, Repr

inductive ACode where
  | skip
  | region (draw : Bool) (ops : List AOper)
  | seq (a b : ACode)
  | cond (c : Opd) (thn els : ACode)
  | block (id : Nat) (body : ACode)
  | loop (body : ACode)
  | exit (id : Nat)
  | ret
  | bad (why : String)
  deriving Inhabited, Repr

/-- how a call's end is treated -/
inductive Pol where
  | pure | leak
  deriving DecidableEq, Inhabited, Repr

structure AFunc where
  ntmps : Nat
  results : List (Nat × Option (Nat × Bool))     -- a slot; or a slot that holds the address of a variable: its size, is it an aggregate
  body : ACode
  pol : Pol := .pure
  borrow : Bool := true
  deriving Inhabited, Repr

/-! the compiler -/
structure Cfg where
  glob : Nat → Option AV
  live : Nat → Nat → Bool      -- slice literals that are live: the function, the slot
  pol : Nat → Pol
  borrow : Nat → Bool

mutual
def ofValue : Value → Option AV
  | .bool b => some (.bool b)
  | .int k n => some (.int k n)
  | .string s => some (.str s.data.toList)
  | .pointer none => some .nilp
  | .slice none 0 0 => some .nils
  | .map none => some .nilm
  | .nilFunc => some .nilf
  | .nilIface => some .nili
  | .agg cs => (ofValues cs.toList).map .agg
  | .tuple vs => (ofValues vs.toList).map .tup
  | .func (.func f) a b => if a.isEmpty && b.isEmpty then some (.clo f []) else none
  | _ => none
def ofValues : List Value → Option (List AV)
  | [] => some []
  | v :: l => do pure ((← ofValue v) :: (← ofValues l))
end

section
variable (P : Program) (C : Cfg)

def opd : Operand → Option Opd
  | .tmp t => some (.tmp t)
  | .const v => (ofValue v).map .const
  | .global g => (C.glob g).map .const
  | .func f => some (.const (.clo f []))

def und (t : TypeId) : Option TypeDesc := P.underlying t
def szOf (t : TypeId) : Option Nat := (P.info? t).map (·.size)
def aggT (t : TypeId) : Bool := match P.underlying t with | some (.struct _) | some (.array _ _) => true | _ => false
def zeroOf (t : TypeId) : Option AV := if t < P.types.size then (do ofValue (← (← P.info? t).zero)) else none      -- a type of the program's table

/-- the fields' leaves, one behind the other, where they lie -/
def shapeFs (f : TypeId → Option (List Leaf)) : List Field → List Leaf → Option (List Leaf)
  | [], acc => some acc
  | fl :: fs, acc =>
    if fl.name = "_" ∨ fl.offset ≠ acc.length then none else
    match f fl.type with
    | some s => if szOf P fl.type = some s.length then shapeFs f fs (acc ++ s) else none
    | none => none

def shapeT : Nat → TypeId → Option (List Leaf)
  | 0, _ => none
  | d + 1, t => match P.underlying t with
    | some .bool => some [.b]
    | some (.int _) => some [.i]
    | some .string => some [.s]
    | some (.struct fs) => if P.stoodInHeld t then none else shapeFs P (shapeT d) fs.toList []
    | some (.array n e) => match shapeT d e with
      | some s => if szOf P e = some s.length then some (List.replicate n s).flatten else none
      | none => none
    | _ => none

def plainT (t : TypeId) : Option (List Leaf) := if P.eqGuardType P.depth t then none else shapeT P 20 t

/-- types at which a value is held against nil alone: pointers 0, maps 1, functions 2 -/
def nilK (t : TypeId) : Option Nat := match P.underlying t with
  | some (.pointer _) => some 0
  | some (.map _ _) => some 1
  | some (.func _ _ _) => some 2
  | _ => none

def opds (l : List Operand) : Option (List Opd) := l.mapM (opd C)

def ceq (neg : Bool) (t : TypeId) (x y : Operand) : Option AOp :=
  match plainT P t with
  | some sh => do pure (.eq neg (aggT P t) sh (← opd C x) (← opd C y))
  | none => do pure (.eqNil neg (← nilK P t) (← opd C x) (← opd C y))

def numT (t : TypeId) : Bool := match P.underlying t with
  | some (.int _) | some .string => true
  | _ => false

def cbin (op : BinOp) (t : TypeId) (x y : Operand) : Option AOp :=
  match op with
  | .eql => ceq P C false t x y
  | .neq => ceq P C true t x y
  | op => if numT P t then (do pure (.bin op (← opd C x) (← opd C y))) else none

def isU8 (t : TypeId) : Bool := match P.underlying t with
  | some (.int .u8) => true
  | _ => false

def cconv (s d : TypeId) (x : Operand) : Option AOp :=
  match P.underlying s, P.underlying d with
  | some (.int _), some (.int k) => (opd C x).map (.convInt k)
  | some .string, some .string => (opd C x).map .convStr
  | some .string, some (.slice e) => if isU8 P e then (opd C x).map .s2b else none
  | some (.slice e), some .string => if isU8 P e then (opd C x).map .b2s else none
  | _, _ => none

def cmkf (fn : Fn) (first captured : Array Operand) : Option AOp :=
  match fn with
  | .func g => if first.isEmpty then (opds C captured.toList).map (.mkfunc g) else none
  | _ => none

/-- the element type of a slice type, its cells and bytes -/
def sliceOf (t : Option TypeId) : Option (TypeId × Nat) :=
  match t with
  | some t => match P.underlying t with
    | some (.slice e) => (szOf P e).map fun s => (e, s)
    | _ => none
  | none => none

/-- is something else than a slice or a string appended? -/
def intTy (t : Option TypeId) : Bool := match t with
  | some t => match P.underlying t with
    | some (.slice _) | some .string => false
    | _ => true
  | none => true

def cbuiltin (b : Builtin) (ts : Array TypeId) (as : List Opd) : Option AOp :=
  match b, as with
  | .len, [x] => match (ts[0]?).bind P.underlying with
    | some .string => some (.len true x)
    | some (.slice _) => some (.len false x)
    | _ => none
  | .append, [x, y] => match sliceOf P ts[0]? with
    | some (e, s) => if intTy P ts[1]? || s == 0 || P.bytesOf e == 0 || (zeroOf P e).isNone then none else some (.append s (P.bytesOf e) x y)
    | none => none
  | .copy, [x, y] => match sliceOf P ts[0]? with
    | some (_, s) => some (.copy s x y)
    | none => none
  | .min, as => some (.minmax false as)
  | .max, as => some (.minmax true as)
  | _, _ => none

def ccall (c : Call) : Option AOp :=
  match opds C c.args.toList with
  | none => none
  | some as => match c.callee with
    | .value (.func g) => some (.call g as)
    | .value (.tmp t) => some (.callv (.tmp t) as)
    | .builtin b => cbuiltin P b c.argTypes as
    | _ => none

def cop (f : Nat) (o : Oper) : AOp :=
  let r : Option AOp := match o.op with
    | .move x | .assign x => do pure (.mv (← opd C x))
    | .pick c a b => do pure (.pick (← opd C c) (← opd C a) (← opd C b))
    | .alloc t => do pure (.alloc (← szOf P t) (← zeroOf P t))
    | .box t x => do pure (.box (← szOf P t) (← opd C x))
    | .build t parts => do
      let .agg z ← zeroOf P t | none
      match ← und P t with
      | .struct fs => do
        let ps ← parts.toList.mapM fun (i, x) => do
          let fl ← fs[i]?
          pure (fl.offset, ← szOf P fl.type, ← opd C x)
        pure (.build z ps)
      | .array _ e => do
        let s ← szOf P e
        let ps ← parts.toList.mapM fun (i, x) => do pure (i * s, s, ← opd C x)
        pure (.build z ps)
      | _ => none
    | .buildSlice t len parts => do
      let .slice e ← und P t | none
      let ps ← parts.toList.mapM fun (i, x) => do pure (i, ← opd C x)
      let s ← szOf P e
      if s = 0 ∨ len * s > 2 ^ 24 then none
      pure (.lit (C.live f (o.dst.getD 0)) s len (← zeroOf P e) ps)
    | .load t x => do pure (.load (← szOf P t) (aggT P t) (← opd C x))
    | .store t x v => do pure (.store (← szOf P t) (← opd C x) (← opd C v))
    | .nilCheck x => do pure (.nilck (← opd C x))
    | .binOp op t x y _ => cbin P C op t x y
    | .unOp op _ x => do pure (.un op (← opd C x))
    | .convert s d x => cconv P C s d x
    | .fieldAddr s x i => do
      let .struct fs ← und P s | none
      let fl ← fs[i]?
      if (← szOf P fl.type) = 0 then none
      pure (.faddr fl.offset (← opd C x))
    | .field s x i => do
      let .struct fs ← und P s | none
      let fl ← fs[i]?
      pure (.field fl.offset (← szOf P fl.type) (aggT P fl.type) (← opd C x))
    | .indexAddr t x i => do
      match ← und P t with
      | .array n e => pure (.iaddr (← szOf P e) (some n) (← opd C x) (← opd C i))
      | .slice e => pure (.iaddr (← szOf P e) none (← opd C x) (← opd C i))
      | _ => none
    | .index t x i => do
      match ← und P t with
      | .array n e => pure (.indexA n (← szOf P e) (aggT P e) (← opd C x) (← opd C i))
      | .string => pure (.indexS (← opd C x) (← opd C i))
      | _ => none
    | .slice t x lo hi mx => do
      let lo ← lo.elim (some none) fun o => (opd C o).map some
      let hi ← hi.elim (some none) fun o => (opd C o).map some
      let mx ← mx.elim (some none) fun o => (opd C o).map some
      match ← und P t with
      | .string => pure (.slice .str (← opd C x) lo hi mx)
      | .slice e => pure (.slice (.sl (← szOf P e)) (← opd C x) lo hi mx)
      | .array n e => pure (.slice (.arr n (← szOf P e)) (← opd C x) lo hi mx)
      | _ => none
    | .extract x i => do pure (.extract (← opd C x) i)
    | .makeSlice t l c => do
      let .slice e ← und P t | none
      let s ← szOf P e
      if s = 0 then none
      pure (.mkslice s (P.bytesOf e) (← zeroOf P e) (← opd C l) (← opd C c))
    | .makeMap t none => do
      let .map k _ ← und P t | none
      if (plainT P k).isSome then pure .mkmap else none
    | .lookup t x k ok => do
      let .map kt e ← und P t | none
      pure (.lookup (aggT P kt) (← plainT P kt) (← zeroOf P e) ok (← opd C x) (← opd C k))
    | .mapUpdate t m k v | .insert t m k v => do
      let .map kt _ ← und P t | none
      pure (.mapset (aggT P kt) (← plainT P kt) (← opd C m) (← opd C k) (← opd C v))
    | .makeFunc fn first captured => cmkf C fn first captured
    | .call c => ccall P C c
    | _ => none
  r.getD (.bad o.pos)

def coper (f : Nat) (ops : Array Oper) (o : Oper) : AOper := match o.guard with
  | none => { dst := o.dst, op := cop P C f o }
  | some (j, w) => match (ops[j]?).bind (·.dst) with
    | some t => { dst := o.dst, op := cop P C f o, guard := some (t, w) }
    | none => { dst := o.dst, op := .bad "guard" }

def cregion (f : Nat) (ops : Array Oper) : List AOper := ops.toList.map (coper P C f ops)

/-- does an operation act (a call, a store, an append, memory made of operands ..)? -/
def AOp.acts : AOp → Bool
  | .store .. | .append .. | .copy .. | .mapset .. | .call .. | .callv .. | .box .. | .s2b .. | .mkslice .. | .lit true .. => true
  | _ => false

/-- operations that a region with an open order may hold -/
def AOp.calm : AOp → Bool
  | .bad _ => false
  | _ => true

/-- an operation's operands -/
def AOp.opds : AOp → List Opd
  | .mv x | .box _ x | .load _ _ x | .nilck x | .un _ x | .convInt _ x | .convStr x | .s2b x | .b2s x | .faddr _ x | .field _ _ _ x | .extract x _ | .len _ x => [x]
  | .pick a b c => [a, b, c]
  | .alloc .. | .mkmap | .bad _ => []
  | .build _ ps => ps.map fun p => p.2.2
  | .lit _ _ _ _ ps => ps.map fun p => p.2
  | .store _ x y | .bin _ x y | .eq _ _ _ x y | .eqNil _ _ x y | .iaddr _ _ x y | .indexS x y | .indexA _ _ _ x y | .append _ _ x y | .copy _ x y | .lookup _ _ _ _ x y | .mkslice _ _ _ x y => [x, y]
  | .slice _ x lo hi mx => x :: (lo.toList ++ hi.toList ++ mx.toList)
  | .call _ as | .minmax _ as | .mkfunc _ as => as
  | .callv x as => x :: as
  | .mapset _ _ m k v => [m, k, v]

def tmpsOf (l : List Opd) : List Nat := l.filterMap fun | .tmp t => some t | _ => none
def AOper.reads (o : AOper) : List Nat := tmpsOf o.op.opds ++ (o.guard.map (·.1)).toList

/-- what an operation reads is written by one that stands before it, or behind it; nothing is written twice -/
def wired (os : List AOper) : Bool :=
  (List.range os.length).all fun j => match os[j]? with
    | none => true
    | some o => decide (o.bef < 2 ^ j) && o.reads.all (fun t => (List.range os.length).all fun i => match os[i]? with
        | some o' => o'.dst != some t || i == j || o.bef.testBit i || o'.bef.testBit j
        | none => true) &&
      (List.range os.length).all fun i => i == j || match os[i]?, o.dst with
        | some o', some d => o'.dst != some d
        | _, _ => true

def withB (b : Array Nat) : Nat → List AOper → List AOper
  | _, [] => []
  | i, o :: os => { o with bef := b.getD i 0 } :: withB b (i + 1) os

/-- all that acts stands in one order -/
def chained : Nat → List AOper → List Nat → Bool
  | _, [], _ => true
  | i, o :: os, es => o.op.calm && (if o.op.acts then es.all (fun e => o.bef.testBit e) && chained (i + 1) os (i :: es) else chained (i + 1) os es)

def orderOK (os : List AOper) : Bool := chained 0 os [] && wired os

def ccode (f : Nat) : Code → ACode
  | .skip => .skip
  | .region _ ops draw =>
    if draw then
      let os := withB (Region.before ops) 0 (cregion P C f ops)
      if orderOK os then .region true os else .bad "order"
    else .region false (cregion P C f ops)
  | .seq a b => .seq (ccode f a) (ccode f b)
  | .cond c a b => match opd C c with | some c => .cond c (ccode f a) (ccode f b) | none => .bad "cond"
  | .block id b => .block id (ccode f b)
  | .loop b => .loop (ccode f b)
  | .exit id => .exit id
  | .ret => .ret
  | .scope _ => .bad "scope"
  | .label _ => .bad "label"
  | .goto _ => .bad "goto"
  | .rangeFunc .. => .bad "rangeFunc"
  | .refuse w => .bad w

def cfunc (f : Nat) : Option AFunc := do
  let fn ← P.funcs[f]?
  let c ← fn.body
  let rs ← fn.results.toList.mapM fun
    | .tmp t => some (t, none)
    | .cell a t => do pure (a, some (← szOf P t, aggT P t))
  pure { ntmps := fn.ntmps, results := rs, body := ccode P C f c, pol := C.pol f, borrow := C.borrow f }
end
end Go.Eng

/- The engine, part B: the evaluator. -/
namespace Go.Eng

def undefA : AV := .tup []

abbrev Tm := List AV
def evo (tm : Tm) : Opd → AV
  | .tmp t => tm.getD t undefA
  | .const v => v

/-! what lies in the heap -/
def look (h : Heap) (n ver : Nat) : Option (Nat × Bool × List AV) :=
  match h[n]? with
  | some (.cells v e g es) => if v = ver then some (e, g, es) else none
  | _ => none

mutual
/-- no reference into the heap at or beyond m -/
def AV.lt (m : Nat) : AV → Bool
  | .agg cs | .tup cs | .lst cs | .cref cs | .clo _ cs => AV.lts m cs
  | .ptr n _ _ _ | .slc n _ _ _ _ _ _ | .mapr n => decide (n < m)
  | _ => true
def AV.lts (m : Nat) : List AV → Bool
  | [] => true
  | v :: l => v.lt m && AV.lts m l
end

mutual
/-- plain data: no reference, no list, no pointer to anything -/
def AV.flat : AV → Bool
  | .agg cs | .tup cs => AV.flats cs
  | .bool _ | .int _ _ | .str _ | .nilp | .nils | .nilm | .nilf | .nili => true
  | _ => false
def AV.flats : List AV → Bool
  | [] => true
  | v :: l => v.flat && AV.flats l
end

mutual
/-- 'nil' slices as empty lists -/
def AV.nrm : AV → AV
  | .nils => .lst []
  | .agg cs => .agg (AV.nrms cs)
  | .tup cs => .tup (AV.nrms cs)
  | .lst cs => .lst (AV.nrms cs)
  | .cref cs => .cref (AV.nrms cs)
  | v => v
def AV.nrms : List AV → List AV
  | [] => []
  | v :: l => v.nrm :: AV.nrms l
end

mutual
/-- does a live slice stand in it? -/
def AV.hasSlc : AV → Bool
  | .slc .. => true
  | .agg cs | .tup cs | .lst cs | .cref cs => AV.hasSlcs cs
  | _ => false
def AV.hasSlcs : List AV → Bool
  | [] => false
  | v :: l => v.hasSlc || AV.hasSlcs l
end

def mkv (ag : Bool) (cs : List AV) : Option AV :=
  if ag then some (.agg cs) else match cs with | [c] => some c | _ => none

/-- the elements of a slice -/
def elems (h : Heap) (sz : Nat) : AV → Option (List AV)
  | .nils => some []
  | .lst xs => if xs.all (fun x => x.cells.length == sz) then some xs else none
  | .slc n ver s i o len _ =>
    if s ≠ sz then none else
    match look h n ver with
    | some (e, _, es) =>
      if e = sz then (if o = 0 ∧ i + len ≤ es.length then some ((es.drop i).take len) else none)
      else if sz = 1 then
        match es[i]? with
        | some x => if o + len ≤ e ∧ ((x.cells.drop o).take len).all (fun y => !y.isAgg) = true then some ((x.cells.drop o).take len) else none
        | none => none
      else none
    | none => none
  | _ => none

mutual
/-- frozen: what stands in blocks from m on is copied into the value; 'ptrs': pointers, too -/
def frz (h : Heap) (m : Nat) (ptrs : Bool) : Nat → AV → Option AV
  | 0, _ => none
  | k + 1, .slc n ver sz i o len cap =>
    if n < m then some (.slc n ver sz i o len cap) else
    match elems h sz (.slc n ver sz i o len cap) with
    | some xs => (frzs h m ptrs k xs).map .lst
    | none => none
  | k + 1, .ptr n ver i o =>
    if n < m || !ptrs then some (.ptr n ver i o) else
    match look h n ver with
    | some (_, _, es) => match es[i]? with
      | some x => (frzs h m ptrs k (x.cells.drop o)).map .cref
      | none => none
    | none => none
  | _ + 1, .nils => some (.lst [])
  | k + 1, .agg cs => (frzs h m ptrs k cs).map .agg
  | k + 1, .tup cs => (frzs h m ptrs k cs).map .tup
  | k + 1, .lst cs => (frzs h m ptrs k cs).map .lst
  | k + 1, .cref cs => (frzs h m ptrs k cs).map .cref
  | _ + 1, v => some v
def frzs (h : Heap) (m : Nat) (ptrs : Bool) : Nat → List AV → Option (List AV)
  | _, [] => some []
  | 0, _ :: _ => none
  | k + 1, v :: l => match frz h m ptrs k v with
    | some v' => match frzs h m ptrs k l with
      | some l' => some (v' :: l')
      | none => none
    | none => none
end

/-- equality of plain values, cell by cell -/
def eqL : List Leaf → List AV → List AV → Option Bool
  | [], [], [] => some true
  | .b :: l, .bool a :: xs, .bool b :: ys => (eqL l xs ys).map (a == b && ·)
  | .i :: l, .int k a :: xs, .int k' b :: ys => if k = k' then (eqL l xs ys).map (a == b && ·) else none
  | .s :: l, .str a :: xs, .str b :: ys => (eqL l xs ys).map (a == b && ·)
  | _, _, _ => none

def eqT (ag : Bool) (sh : List Leaf) (x y : AV) : Option Bool := if x.isAgg = ag ∧ y.isAgg = ag then eqL sh x.cells y.cells else none

/-- held against nil -/
def eqN : Nat → AV → AV → Option Bool
  | 0, .nilp, .nilp | 1, .nilm, .nilm | 2, .nilf, .nilf => some true
  | 0, .nilp, .ptr .. | 0, .nilp, .cref _ | 0, .ptr .., .nilp | 0, .cref _, .nilp => some false
  | 2, .nilf, .clo _ _ | 2, .clo _ _, .nilf | 1, .nilm, .mapr _ | 1, .mapr _, .nilm => some false
  | _, _, _ => none

mutual
/-- structural equality -/
def AV.beq : AV → AV → Bool
  | .bool a, .bool b => a == b
  | .int k a, .int k' b => decide (k = k') && a == b
  | .str a, .str b => a == b
  | .nilp, .nilp | .nils, .nils | .nilm, .nilm | .nilf, .nilf | .nili, .nili => true
  | .agg xs, .agg ys | .tup xs, .tup ys | .lst xs, .lst ys | .cref xs, .cref ys => AV.beqs xs ys
  | .ptr n v i o, .ptr n' v' i' o' => n == n' && v == v' && i == i' && o == o'
  | .slc n v s i o l c, .slc n' v' s' i' o' l' c' => n == n' && v == v' && s == s' && i == i' && o == o' && l == l' && c == c'
  | .mapr n, .mapr n' => n == n'
  | .clo f xs, .clo g ys => f == g && AV.beqs xs ys
  | _, _ => false
def AV.beqs : List AV → List AV → Bool
  | [], [] => true
  | x :: xs, y :: ys => x.beq y && AV.beqs xs ys
  | _, _ => false
end

/-- a value of one cell -/
def AV.one : AV → Bool
  | .agg _ | .tup _ => false
  | _ => true

def splice (cs : List AV) (o : Nat) (vs : List AV) : List AV := cs.take o ++ vs ++ cs.drop (o + vs.length)

def loadA (h : Heap) (sz : Nat) (ag : Bool) : AV → Option AV
  | .cref cs => if sz ≤ cs.length then mkv ag (cs.take sz) else none
  | .ptr n ver i o =>
    match look h n ver with
    | some (e, _, es) => match es[i]? with
      | some x => if o = 0 ∧ sz = e ∧ x.isAgg = ag then some x else if o + sz ≤ e then mkv ag ((x.cells.drop o).take sz) else none
      | none => none
    | none => none
  | _ => none

def storeA (h : Heap) (sz : Nat) (a v : AV) : Option (Nat × Heap) :=
  match a with
  | .ptr n ver i o =>
    match look h n ver with
    | some (e, g, es) => match es[i]? with
      | some x =>
        if v.cells.length ≠ sz ∨ v.cells.all AV.one = false then none
        else if o = 0 ∧ sz = e then some (n, h.set n (.cells ver e g (es.set i v)))
        else if o + sz ≤ e then some (n, h.set n (.cells ver e g (es.set i (.agg (splice x.cells o v.cells))))) else none
      | none => none
    | none => none
  | _ => none

/-- a place k elements of sz cells behind (i, o) in a block of elements of e cells -/
def adv (e sz i o k : Nat) : Nat × Nat := if sz = e then (i + k, o) else (i, o + k * sz)

inductive ORes where
  | val (v : AV)
  | eff (v : AV) (h : Heap) (wr : Option Nat)     -- the heap turned; a block of elder times that was written
  | call (f : Nat) (args : List AV)

def asN : AV → Option Int
  | .int _ n => some n
  | _ => none

def binA (op : BinOp) : AV → AV → Option AV
  | .int k a, .int k' b =>
    match op with
    | .shl => if b < 0 then none else some (.int k (k.wrap (a * 2 ^ (min b.toNat k.bits))))
    | .shr => if b < 0 then none else some (.int k (a.fdiv (2 ^ (min b.toNat k.bits))))
    | _ =>
      if k ≠ k' then none else
      match op with
      | .add => some (.int k (k.wrap (a + b)))
      | .sub => some (.int k (k.wrap (a - b)))
      | .mul => some (.int k (k.wrap (a * b)))
      | .quo => if b = 0 then none else some (.int k (k.wrap (a.tdiv b)))
      | .rem => if b = 0 then none else some (.int k (a.tmod b))
      | .and => some (.int k (k.wrap (BitVec.ofInt k.bits a &&& BitVec.ofInt k.bits b).toNat))
      | .or => some (.int k (k.wrap (BitVec.ofInt k.bits a ||| BitVec.ofInt k.bits b).toNat))
      | .xor => some (.int k (k.wrap (BitVec.ofInt k.bits a ^^^ BitVec.ofInt k.bits b).toNat))
      | .andNot => some (.int k (k.wrap (BitVec.ofInt k.bits a &&& ~~~ BitVec.ofInt k.bits b).toNat))
      | .eql => some (.bool (a == b))
      | .neq => some (.bool (a != b))
      | .lss => some (.bool (decide (a < b)))
      | .leq => some (.bool (decide (a ≤ b)))
      | .gtr => some (.bool (decide (a > b)))
      | .geq => some (.bool (decide (a ≥ b)))
      | _ => none
  | .str a, .str b =>
    match op with
    | .add => if a.length + b.length ≤ 2 ^ 62 then some (.str (a ++ b)) else none
    | .eql => some (.bool (a == b))
    | .neq => some (.bool (!(a == b)))
    | .lss => some (.bool (Op.bytesLess a b))
    | .leq => some (.bool (Op.bytesLess a b || a == b))
    | .gtr => some (.bool (!(Op.bytesLess a b || a == b)))
    | .geq => some (.bool (!(Op.bytesLess a b)))
    | _ => none
  | _, _ => none

def unA (op : UnOp) : AV → Option AV
  | .int k n => match op with
    | .neg => some (.int k (k.wrap (0 - n)))
    | .xor => some (.int k (k.wrap (BitVec.ofInt k.bits (if k.signed then -1 else k.max) ^^^ BitVec.ofInt k.bits n).toNat))
    | _ => none
  | .bool b => match op with
    | .not => some (.bool !b)
    | _ => none
  | _ => none

def fillA : List AV → List (Nat × Nat × AV) → Option (List AV)
  | cs, [] => some cs
  | cs, (off, size, v) :: rest => if v.cells.length ≠ size ∨ off + size > cs.length then none else fillA (splice cs off v.cells) rest

def fillE : List AV → Nat → List (Nat × AV) → Option (List AV)
  | es, _, [] => some es
  | es, sz, (i, v) :: rest => if v.cells.length ≠ sz ∨ i ≥ es.length then none else fillE (es.set i v) sz rest

def bound (x : Option AV) (dflt most : Nat) : Option Nat :=
  match x with
  | none => some dflt
  | some v => match asN v with
    | some i => if 0 ≤ i ∧ i ≤ most then some i.toNat else none
    | none => none

/-- the three bounds of a slice expression: of a row of 'len', cut at 'most' -/
def bounds3 (len most : Nat) (lo hi mx : Option AV) : Option (Nat × Nat × Nat) :=
  if mx.isSome && hi.isNone then none else
  match bound mx most most with
  | some m => match bound hi len m with
    | some b => match bound lo 0 b with
      | some a => some (a, b, m)
      | none => none
    | none => none
  | none => none

def sliceA (h : Heap) (k : SlK) (x : AV) (lo hi mx : Option AV) : Option AV :=
  match k, x with
  | .str, .str s =>
    if mx.isSome then none else
    match bounds3 s.length s.length lo hi mx with
    | some (a, b, _) => some (.str ((s.take b).drop a))
    | none => none
  | .sl _, .nils =>
    match bounds3 0 0 lo hi mx with
    | some _ => some .nils
    | none => none
  | .sl sz, .lst xs =>
    match bounds3 xs.length xs.length lo hi mx with
    | some (a, b, m) => if mx.isSome ∧ m = a then some .nils else if xs.all (fun x => x.cells.length == sz) then some (.lst ((xs.take b).drop a)) else none
    | none => none
  | .sl sz, .slc n ver s i o len cap =>
    if s ≠ sz then none else
    match look h n ver with
    | some (e, _, es) =>
      match bounds3 len (cap.getD len) lo hi mx with
      | some (a, b, m) =>
        let p := adv e sz i o a
        if mx.isSome ∨ cap.isSome then
          (if m - a = 0 then some .nils
          else if i * e + o + (cap.getD len) * sz ≤ es.length * e then some (.slc n ver sz p.1 p.2 (b - a) (some (m - a))) else none)
        else some (.slc n ver sz p.1 p.2 (b - a) none)
      | none => none
    | none => none
  | .arr len sz, .ptr n ver i o =>
    match look h n ver with
    | some (e, _, es) =>
      match bounds3 len len lo hi mx with
      | some (a, b, m) => if m - a = 0 then some .nils else if i < es.length ∧ o + len * sz ≤ e then some (.slc n ver sz i (o + a * sz) (b - a) (some (m - a))) else none
      | none => none
    | none => none
  | _, _ => none

/-- the elements that are appended or copied -/
def srcA (h : Heap) (sz : Nat) : AV → Option (List AV)
  | .str s => if sz = 1 then some (s.map fun b => .int .u8 b.toNat) else none
  | y => elems h sz y

def ones (ys : List AV) : Bool := ys.all fun y => y.cells.all AV.one

def appendL (h : Heap) (sz bytes : Nat) (x : AV) (ys : List AV) : Option ORes :=
  match x with
  | .nils => if ys.isEmpty then some (.val .nils) else if (2 * ys.length + 256) * bytes > 2 ^ 48 then none else
    some (.eff (.slc h.length 0 sz 0 0 ys.length none) (h ++ [.cells 0 sz true ys]) none)
  | .lst xs => if ys.isEmpty then some (.val (.lst xs)) else none
  | .slc n ver s i o len cap =>
    if s ≠ sz then none else
    match look h n ver with
    | none => none
    | some (e, g, es) =>
      if e ≠ sz ∨ o ≠ 0 ∨ (2 * (len + ys.length) + 256) * bytes > 2 ^ 48 ∨ ones ys = false then none else
      match cap with
      | none =>
        if g = false ∨ i ≠ 0 then none
        else if len = es.length then some (.eff (.slc n (ver + 1) sz 0 0 (len + ys.length) none) (h.set n (.cells (ver + 1) sz true (es ++ ys))) (some n))
        else if len + ys.length ≤ es.length then some (.eff (.slc n ver sz 0 0 (len + ys.length) none) (h.set n (.cells ver sz g (splice es len ys))) (some n))
        else none
      | some c =>
        if len + ys.length ≤ c then some (.eff (.slc n ver sz i 0 (len + ys.length) (some c)) (h.set n (.cells ver sz g (splice es (i + len) ys))) (some n))
        else if i + len ≤ es.length then some (.eff (.slc h.length 0 sz 0 0 (len + ys.length) none) (h ++ [.cells 0 sz true ((es.drop i).take len ++ ys)]) none)
        else none
  | _ => none

def appendA (h : Heap) (sz bytes : Nat) (x y : AV) : Option ORes := (srcA h sz y).bind fun ys => appendL h sz bytes x ys

def copyA (h : Heap) (sz : Nat) (x y : AV) : Option ORes := (srcA h sz y).bind fun ys =>
  match x with
  | .nils => some (.val (.int .i64 0))
  | .slc n ver s i o len _ =>
    if s ≠ sz then none else
    match look h n ver with
    | none => none
    | some (e, g, es) =>
      if e ≠ sz ∨ o ≠ 0 ∨ i + len > es.length ∨ ones ys = false then none else
      let k := min ys.length len
      some (.eff (.int .i64 k) (h.set n (.cells ver sz g (splice es i (ys.take k)))) (some n))
  | _ => none

def findA (ag : Bool) (sh : List Leaf) (k : AV) : List (AV × AV) → Option (Option AV)
  | [] => some none
  | (k', v) :: l => match eqT ag sh k k' with
    | some true => some (some v)
    | some false => findA ag sh k l
    | none => none

def putA (ag : Bool) (sh : List Leaf) (k v : AV) : List (AV × AV) → Option (List (AV × AV))
  | [] => some [(k, v)]
  | (k', v') :: l => match eqT ag sh k k' with
    | some true => some ((k, v) :: l)
    | some false => match putA ag sh k v l with
      | some l' => some ((k', v') :: l')
      | none => none
    | none => none

def faddrA (off : Nat) : AV → Option AV
  | .ptr n ver i o => some (.ptr n ver i (o + off))
  | .cref cs => if off < cs.length then some (.cref (cs.drop off)) else none
  | _ => none

def fieldA (off sz : Nat) (ag : Bool) : AV → Option AV
  | .agg cs => if off + sz ≤ cs.length then mkv ag ((cs.drop off).take sz) else none
  | _ => none

def iaddrL (h : Heap) (sz : Nat) (j : Int) : AV → Option AV
  | .lst xs => if 0 ≤ j then match xs[j.toNat]? with
    | some x => if x.cells.length = sz then some (.cref x.cells) else none
    | none => none else none
  | .slc n ver s bi bo len _ =>
    if s = sz ∧ 0 ≤ j ∧ j < len then match look h n ver with
      | some (e, _, _) => some (.ptr n ver (adv e sz bi bo j.toNat).1 (adv e sz bi bo j.toNat).2)
      | none => none
    else none
  | _ => none

def iaddrR (len sz : Nat) (j : Int) : AV → Option AV
  | .ptr n ver pi po => if 0 ≤ j ∧ j < len then some (.ptr n ver pi (po + j.toNat * sz)) else none
  | .cref cs => if 0 ≤ j ∧ j < len ∧ j.toNat * sz < cs.length then some (.cref (cs.drop (j.toNat * sz))) else none
  | _ => none

def indexSA (j : Int) : AV → Option AV
  | .str s => if 0 ≤ j then (s[j.toNat]?).map fun b => .int .u8 b.toNat else none
  | _ => none

def indexAA (len sz : Nat) (ag : Bool) (j : Int) : AV → Option AV
  | .agg cs => if 0 ≤ j ∧ j < len ∧ j.toNat * sz + sz ≤ cs.length then mkv ag ((cs.drop (j.toNat * sz)).take sz) else none
  | _ => none

def extractA (i : Nat) : AV → Option AV
  | .tup vs => vs[i]?
  | _ => none

def lenSA : AV → Option Nat
  | .str s => some s.length
  | _ => none

def lenLA : AV → Option Nat
  | .nils => some 0
  | .lst xs => some xs.length
  | .slc _ _ _ _ _ len _ => some len
  | _ => none

def aop (h : Heap) (ρ : Opd → AV) : AOp → Option ORes
  | .mv x => some (.val (ρ x))
  | .pick c a b => match ρ c with
    | .bool t => some (.val (if t then ρ a else ρ b))
    | _ => none
  | .alloc e z => some (.eff (.ptr h.length 0 0 0) (h ++ [.cells 0 e false [z]]) none)
  | .box e x => if (ρ x).cells.length = e then some (.eff (.ptr h.length 0 0 0) (h ++ [.cells 0 e false [ρ x]]) none) else none
  | .build z ps => (fillA z (ps.map fun (o, s, x) => (o, s, ρ x))).map fun cs => .val (.agg cs)
  | .lit live e len z ps =>
    if len = 0 then (if ps.isEmpty then some (.val .nils) else none) else
    match fillE (List.replicate len z) e (ps.map fun (i, x) => (i, ρ x)) with
    | some es => if live then some (.eff (.slc h.length 0 e 0 0 len (some len)) (h ++ [.cells 0 e false es]) none) else some (.val (.lst es))
    | none => none
  | .load sz ag x => (loadA h sz ag (ρ x)).map .val
  | .store sz x v => (storeA h sz (ρ x) (ρ v)).map fun (n, h') => .eff undefA h' (some n)
  | .nilck x => match ρ x with
    | .nilp | .nili | .nilf => none
    | v => some (.val v)
  | .bin op x y => (binA op (ρ x) (ρ y)).map .val
  | .eq neg ag sh x y => (eqT ag sh (ρ x) (ρ y)).map fun b => .val (.bool (if neg then !b else b))
  | .eqNil neg k x y => (eqN k (ρ x) (ρ y)).map fun b => .val (.bool (if neg then !b else b))
  | .un op x => (unA op (ρ x)).map .val
  | .convInt k x => match ρ x with
    | .int _ n => some (.val (.int k (k.wrap n)))
    | _ => none
  | .convStr x => match ρ x with
    | .str s => some (.val (.str s))
    | _ => none
  | .s2b x => match ρ x with
    | .str s => some (.eff (.slc h.length 0 1 0 0 s.length none) (h ++ [.cells 0 1 true (s.map fun b => .int .u8 b.toNat)]) none)
    | _ => none
  | .b2s x => match elems h 1 (ρ x) with
    | some xs => (xs.mapM fun | AV.int .u8 n => some (UInt8.ofNat n.toNat) | _ => none).map fun s => .val (.str s)
    | none => none
  | .faddr off x => (faddrA off (ρ x)).map .val
  | .field off sz ag x => (fieldA off sz ag (ρ x)).map .val
  | .iaddr sz none x i => (asN (ρ i)).bind fun j => (iaddrL h sz j (ρ x)).map .val
  | .iaddr sz (some len) x i => (asN (ρ i)).bind fun j => (iaddrR len sz j (ρ x)).map .val
  | .indexS x i => (asN (ρ i)).bind fun j => (indexSA j (ρ x)).map .val
  | .indexA len sz ag x i => (asN (ρ i)).bind fun j => (indexAA len sz ag j (ρ x)).map .val
  | .slice k x lo hi mx => (sliceA h k (ρ x) (lo.map ρ) (hi.map ρ) (mx.map ρ)).map .val
  | .extract x i => (extractA i (ρ x)).map .val
  | .call f as => some (.call f (as.map ρ))
  | .callv x as => match ρ x with
    | .clo f caps => some (.call f (as.map ρ ++ caps))
    | _ => none
  | .len true x => (lenSA (ρ x)).map fun (n : Nat) => .val (.int .i64 (n : Int))
  | .len false x => (lenLA (ρ x)).map fun (n : Nat) => .val (.int .i64 (n : Int))
  | .append sz bytes x y => appendA h sz bytes (ρ x) (ρ y)
  | .copy sz x y => copyA h sz (ρ x) (ρ y)
  | .minmax mx xs => match xs.map ρ with
    | .int k a :: l => (l.foldlM (fun (acc : Int) v => match v with | AV.int _ b => some (if mx then (if b > acc then b else acc) else (if b < acc then b else acc)) | _ => none) a).map fun n => .val (.int k n)
    | _ => none
  | .mkmap => some (.eff (.mapr h.length) (h ++ [.map []]) none)
  | .lookup ag sh z ok m k => match eqT ag sh (ρ k) (ρ k) with
   | none => none
   | some _ => match ρ m with
    | .nilm => some (.val (if ok then .tup [z, .bool false] else z))
    | .mapr n => match h[n]? with
      | some (.map es) => match findA ag sh (ρ k) es with
        | some (some v) => some (.val (if ok then .tup [v, .bool true] else v))
        | some none => some (.val (if ok then .tup [z, .bool false] else z))
        | none => none
      | _ => none
    | _ => none
  | .mapset ag sh m k v => match eqT ag sh (ρ k) (ρ k) with
   | none => none
   | some _ => match ρ m with
    | .mapr n => match h[n]? with
      | some (.map es) => match putA ag sh (ρ k) (ρ v) es with
        | some es' => some (.eff undefA (h.set n (.map es')) (some n))
        | none => none
      | _ => none
    | _ => none
  | .mkslice sz bytes z l c => match asN (ρ l), asN (ρ c) with
    | some a, some b => if 0 ≤ a ∧ a ≤ b ∧ b * bytes ≤ 2 ^ 47 ∧ b ≤ 2 ^ 62 then
        (if b = 0 then some (.val .nils) else some (.eff (.slc h.length 0 sz 0 0 a.toNat (some b.toNat)) (h ++ [.cells 0 sz false (List.replicate b.toNat z)]) none)) else none
    | _, _ => none
  | .mkfunc f caps => some (.val (.clo f (caps.map ρ)))
  | .bad _ => none

inductive AItem where
  | code (c : ACode)
  | ops (os : List AOper)
  | inBlock (id : Nat)
  | inLoop (c : ACode)
  deriving Inhabited

def exitA (id : Nat) : List AItem → Option (List AItem)
  | .inBlock id' :: k => if id' == id then some k else exitA id k
  | _ :: k => exitA id k
  | [] => none

def putT (tm : Tm) (d : Option Nat) (v : AV) : Tm := match d with
  | some d => tm.set d v
  | none => tm

def wants (tm : Tm) : Option (Nat × Bool) → Bool
  | none => true
  | some (t, w) => match tm.getD t undefA with
    | .bool b => b == w
    | _ => false

/-- operations that look into the heap -/
def AOp.looks : AOp → Bool
  | .load .. | .lookup .. | .b2s _ | .iaddr .. | .slice .. => true
  | _ => false

def cst (tm : Tm) (x : Opd) : Opd := .const (evo tm x)
/-- the same, its operands written out -/
def AOp.fixed (tm : Tm) : AOp → AOp
  | .load sz ag x => .load sz ag (cst tm x)
  | .lookup ag sh z ok m k => .lookup ag sh z ok (cst tm m) (cst tm k)
  | .b2s x => .b2s (cst tm x)
  | .iaddr sz a x i => .iaddr sz a (cst tm x) (cst tm i)
  | .slice k x lo hi mx => .slice k (cst tm x) (lo.map (cst tm)) (hi.map (cst tm)) (mx.map (cst tm))
  | o => o

def AOp.ltC (m : Nat) : AOp → Bool
  | .load _ _ (.const x) | .b2s (.const x) | .slice _ (.const x) _ _ _ | .lookup _ _ _ _ (.const x) _ | .iaddr _ _ (.const x) _ => x.lt m
  | _ => false

/-- in another heap: the same -/
def again (h : Heap) (o : AOp) (v : AV) : Bool :=
  !o.ltC h.length || (match aop h (evo []) o with | some (.val v') => v.beq v' | _ => false)

def wrA (m : Nat) (wr : List Nat) (n : Option Nat) : List Nat :=
  match n with
  | some n => if n < m then (if wr.contains n then wr else n :: wr) else wr
  | none => wr

def addW (m : Nat) (wr : List Nat) (ws : List Nat) : List Nat := ws.foldl (fun acc x => wrA m acc (some x)) wr

/-- the variables that a region with an open order makes: laid ahead -/
def laid : List AOper → Heap
  | [] => []
  | o :: os => match o.op with
    | .alloc e z => .cells 0 e false [z] :: laid os
    | .mkmap => .map [] :: laid os
    | _ => laid os

/-- a region with an open order, in the text's; what it reads must stay as it is wherever it may be read -/
def dgo (r : Nat → List AV → Heap → Option (AV × Heap × List Nat)) (m : Nat) : List AOper → Nat → Nat → List (Nat × Heap) → List (Nat × AOp × AV) → Tm → Heap → List Nat → Option (Tm × Heap × List Nat)
  | [], _, _, _, _, tm, h, wr => some (tm, h, wr)
  | o :: os, i, na, sn, wt, tm, h, wr =>
    if wants tm o.guard then
      match o.op with
      | .alloc _ _ => dgo r m os (i + 1) (na + 1) sn wt (putT tm o.dst (.ptr na 0 0 0)) h wr
      | .mkmap => dgo r m os (i + 1) (na + 1) sn wt (putT tm o.dst (.mapr na)) h wr
      | op => match aop h (evo tm) op with
        | some (.val v) =>
          if op.looks then
            (if sn.all (fun (k, h0) => o.bef.testBit k || again h0 (op.fixed tm) v) then dgo r m os (i + 1) na sn ((i, op.fixed tm, v) :: wt) (putT tm o.dst v) h wr else none)
          else dgo r m os (i + 1) na sn wt (putT tm o.dst v) h wr
        | some (.eff v h' w) =>
          if op.acts && wt.all (fun (k, o', v) => o.bef.testBit k || again h' o' v) then dgo r m os (i + 1) na ((i, h) :: sn) wt (putT tm o.dst v) h' (wrA m wr w) else none
        | some (.call f args) => match r f args h with
          | some (v, h', ws) =>
            if h'.length = h.length ∧ ws = [] then dgo r m os (i + 1) na sn wt (putT tm o.dst v) h wr
            else if wt.all (fun (k, o', v) => o.bef.testBit k || again h' o' v) then dgo r m os (i + 1) na ((i, h) :: sn) wt (putT tm o.dst v) h' (addW m wr ws) else none
          | none => none
        | none => none
    else dgo r m os (i + 1) (match o.op with | .alloc _ _ | .mkmap => na + 1 | _ => na) sn wt (putT tm o.dst undefA) h wr

structure Env where
  fn : Nat → Option AFunc
  ext : Nat → Option (List AV → Heap → Option (AV × Heap × List Nat))

mutual
/-- what a call is lent: the elements of live slices, as lists -/
def lendV (h : Heap) : AV → Option AV
  | .slc n ver sz i o len cap => (elems h sz (.slc n ver sz i o len cap)).map fun xs => .lst (AV.nrms xs)
  | .agg cs => (lendVs h cs).map .agg
  | v => some v.nrm
def lendVs (h : Heap) : List AV → Option (List AV)
  | [] => some []
  | v :: l => match lendV h v with
    | some v' => match lendVs h l with
      | some l' => some (v' :: l')
      | none => none
    | none => none
end

mutual
/-- the blocks of the slices in it -/
def AV.blks : AV → List Nat
  | .slc n .. => [n]
  | .agg cs => AV.blksL cs
  | _ => []
def AV.blksL : List AV → List Nat
  | [] => []
  | v :: l => v.blks ++ AV.blksL l
end

def lend (h : Heap) (ns : List Nat) : Heap := ns.foldl (fun h n => h.set n .dead) h      -- the blocks of live slices that are lent are hidden

def oneOr : List AV → AV
  | [v] => v
  | rs => .tup rs

/-- what a call hands back, and what of the heap stays -/
def finish (af : AFunc) (h0 : Heap) : Option (Tm × Heap × List Nat) → Option (AV × Heap × List Nat)
  | none => none
  | some (tm, h, wr) =>
    let rs : Option (List AV) := af.results.mapM fun (t, a) => match a with
      | none => some (tm.getD t undefA)
      | some (sz, ag) => loadA h sz ag (tm.getD t undefA)
    match rs with
    | none => none
    | some rs =>
      let v := oneOr rs
      match af.pol with
      | .leak => some (v, h, wr)
      | .pure =>
        match frz h h0.length true 1000 v with
        | none => none
        | some v =>
          if v.lt h0.length && wr.all (fun n => match h[n]? with
            | some (.cells _ _ _ es) => AV.lts h0.length es
            | some (.map es) => es.all fun e => e.1.lt h0.length && e.2.lt h0.length
            | _ => false) then some (v, h.take h0.length, wr) else none

variable (E : Env)
mutual
def run : Nat → Nat → List AV → Heap → Option (AV × Heap × List Nat)
  | 0, _, _, _ => none
  | n + 1, f, args, h =>
    match E.ext f with
    | some g => g args h
    | none =>
      match E.fn f with
      | none => none
      | some af =>
        match af.pol with
        | .leak => finish af h (go h.length n [.code af.body] (args ++ List.replicate (af.ntmps - args.length) undefA) h [])
        | .pure =>
          if AV.hasSlcs args && af.borrow then
            match lendVs h args with
            | none => none
            | some as =>
              let h' := lend h (AV.blksL args)
              match finish af h' (go h'.length n [.code af.body] (as ++ List.replicate (af.ntmps - as.length) undefA) h' []) with
              | some (v, _, []) => if v.flat then some (v, h, []) else none
              | _ => none
          else finish af h (go h.length n [.code af.body] (AV.nrms args ++ List.replicate (af.ntmps - args.length) undefA) h [])
def go (m : Nat) : Nat → List AItem → Tm → Heap → List Nat → Option (Tm × Heap × List Nat)
  | 0, _, _, _, _ => none
  | _ + 1, [], tm, h, wr => some (tm, h, wr)
  | n + 1, it :: k, tm, h, wr =>
    match it with
    | .inBlock _ => go m n k tm h wr
    | .inLoop c => go m n (.code c :: .inLoop c :: k) tm h wr
    | .code c => match c with
      | .skip => go m n k tm h wr
      | .region false ops => go m n (.ops ops :: k) tm h wr
      | .region true ops => match dgo (run n) m ops 0 h.length [] [] tm (h ++ laid ops) wr with
        | some (tm', h', wr') => go m n k tm' h' wr'
        | none => none
      | .seq a b => go m n (.code a :: .code b :: k) tm h wr
      | .cond c a b => match evo tm c with
        | .bool true => go m n (.code a :: k) tm h wr
        | .bool false => go m n (.code b :: k) tm h wr
        | _ => none
      | .block id b => go m n (.code b :: .inBlock id :: k) tm h wr
      | .loop b => go m n (.code b :: .inLoop b :: k) tm h wr
      | .exit id => match exitA id k with
        | some k' => go m n k' tm h wr
        | none => none
      | .ret => some (tm, h, wr)
      | .bad _ => none
    | .ops [] => go m n k tm h wr
    | .ops (o :: os) =>
      if wants tm o.guard then
        match aop h (evo tm) o.op with
        | some (.val v) => go m n (.ops os :: k) (putT tm o.dst v) h wr
        | some (.eff v h' w) => go m n (.ops os :: k) (putT tm o.dst v) h' (wrA m wr w)
        | some (.call f args) => match run n f args h with
          | some (v, h', ws) => go m n (.ops os :: k) (putT tm o.dst v) h' (addW m wr ws)
          | none => none
        | none => none
      else go m n (.ops os :: k) (putT tm o.dst undefA) h wr
end
end Go.Eng

/- The engine, part C: what abstract values and heaps say of a world. -/
namespace Go.Eng

abbrev Beta := Nat → Option Nat
abbrev Frz := Nat → Nat → Prop

def flatC (xs : List AV) : List AV := (xs.map AV.cells).flatten

/-- a reference whose block is gone, or has grown since -/
def Stale (h : Heap) (n ver : Nat) : Prop :=
  h[n]? = some .dead ∨ ∃ v e g es, h[n]? = some (.cells v e g es) ∧ ver < v

inductive V (β : Beta) (h : Heap) (F : Frz) (w : World) : AV → Value → Prop
  | bool (b : Bool) : V β h F w (.bool b) (.bool b)
  | int (k : IntKind) (n : Int) : V β h F w (.int k n) (.int k n)
  | str (s : List UInt8) : V β h F w (.str s) (.string ⟨s.toArray⟩)
  | nilp : V β h F w .nilp (.pointer none)
  | nils (a : Option Addr) : V β h F w .nils (.slice a 0 0)
  | nilm : V β h F w .nilm (.map none)
  | nilf : V β h F w .nilf .nilFunc
  | nili : V β h F w .nili .nilIface
  | agg (cs : List AV) (us : Array Value) (hl : cs.length = us.size) (hv : ∀ (j : Nat) (c : AV) (u : Value), cs[j]? = some c → us[j]? = some u → V β h F w c u) : V β h F w (.agg cs) (.agg us)
  | tup (cs : List AV) (us : Array Value) (hl : cs.length = us.size) (hv : ∀ (j : Nat) (c : AV) (u : Value), cs[j]? = some c → us[j]? = some u → V β h F w c u) : V β h F w (.tup cs) (.tuple us)
  | lst0 (a : Option Addr) (cap : Nat) : V β h F w (.lst []) (.slice a 0 cap)
  | lst (xs : List AV) (a : Addr) (cap sz : Nat) (hc : xs.length ≤ cap) (hs : a.spot = none) (hz : ∀ x ∈ xs, x.cells.length = sz) (us : Nat → Value)
      (hu : ∀ (j : Nat) (c : AV), (flatC xs)[j]? = some c → w.cell? ⟨a.block, a.off + j, none⟩ = some (us j) ∧ F a.block (a.off + j))
      (hv : ∀ (j : Nat) (c : AV), (flatC xs)[j]? = some c → V β h F w c (us j)) : V β h F w (.lst xs) (.slice (some a) xs.length cap)
  | cref (cs : List AV) (a : Addr) (hs : a.spot = none) (us : Nat → Value)
      (hu : ∀ (j : Nat) (c : AV), cs[j]? = some c → w.cell? ⟨a.block, a.off + j, none⟩ = some (us j) ∧ F a.block (a.off + j))
      (hv : ∀ (j : Nat) (c : AV), cs[j]? = some c → V β h F w c (us j)) : V β h F w (.cref cs) (.pointer (some a))
  | ptr (n ver i o b e : Nat) (g : Bool) (es : List AV) (hb : β n = some b) (hh : h[n]? = some (.cells ver e g es)) :
      V β h F w (.ptr n ver i o) (.pointer (some ⟨b, i * e + o, none⟩))
  | repl (n o b : Nat) (ps : List (List UInt8 × List UInt8)) (hb : β n = some b) (hh : h[n]? = some (.repl ps)) :
      V β h F w (.ptr n 0 0 o) (.pointer (some ⟨b, o, none⟩))
  | ptrS (n ver i o : Nat) (a : Addr) (hs : Stale h n ver) : V β h F w (.ptr n ver i o) (.pointer (some a))
  | slcX (n ver sz i o len c b e : Nat) (g : Bool) (es : List AV) (hb : β n = some b) (hh : h[n]? = some (.cells ver e g es)) (hl : len ≤ c)
      (hf : i * e + o + c * sz ≤ es.length * e) : V β h F w (.slc n ver sz i o len (some c)) (.slice (some ⟨b, i * e + o, none⟩) len c)
  | slcG (n ver sz i len c b : Nat) (a : Option Addr) (es : List AV) (us : Array Value) (el : TypeId) (fr : Nat × Nat) (hb : β n = some b) (hh : h[n]? = some (.cells ver sz true es)) (hl : len ≤ c)
      (hw : w.heap[b]? = some (.cells us el fr)) (hf : i * sz + c * sz ≤ us.size) (hk : es.length ≤ i + c) (ha : c ≠ 0 ∨ i = 0 → a = some ⟨b, i * sz, none⟩) : V β h F w (.slc n ver sz i 0 len none) (.slice a len c)
  | slcS (n ver sz i o len : Nat) (cap : Option Nat) (a : Option Addr) (c : Nat) (hs : Stale h n ver) : V β h F w (.slc n ver sz i o len cap) (.slice a len c)
  | mapr (n b : Nat) (es : List (AV × AV)) (hb : β n = some b) (hh : h[n]? = some (.map es)) : V β h F w (.mapr n) (.map (some b))
  | mapS (n b : Nat) (hs : h[n]? = some .dead) : V β h F w (.mapr n) (.map (some b))
  | clo (f : Nat) (cs : List AV) (us : Array Value) (hl : cs.length = us.size) (hv : ∀ (j : Nat) (c : AV) (u : Value), cs[j]? = some c → us[j]? = some u → V β h F w c u) :
      V β h F w (.clo f cs) (.func (.func f) #[] us)

/-- no cell of the block is frozen -/
def Free (us : Array Value) (fr : Nat × Nat) : Prop := ∀ o, o < us.size → ¬ (fr.1 ≤ o ∧ o < fr.2)

/-- what a Replacer's block says: it hangs on frozen memory and on that block alone -/
structure RPred where
  p : Frz → World → Nat → List (List UInt8 × List UInt8) → Prop
  mono : ∀ {F F' : Frz} {w w' : World} {b : Nat} {ps : List (List UInt8 × List UInt8)}, p F w b ps → (∀ b o, F b o → F' b o) → (∀ b o, F b o → w'.heap[b]? = w.heap[b]?) → w'.heap[b]? = w.heap[b]? → p F' w' b ps

/-- what a block of the abstract heap says of a block of the world; 'RP': of a Replacer -/
def BlkRel (RP : RPred) (β : Beta) (h : Heap) (F : Frz) (w : World) (b : Nat) : Blk → Prop
  | .cells _ e g es => ∃ us el fr, w.heap[b]? = some (.cells us el fr) ∧ Free us fr ∧ (∀ x ∈ es, x.cells.length = e) ∧ (g = false → us.size = es.length * e) ∧ es.length * e ≤ us.size ∧
      ∀ (j : Nat) (c : AV), (flatC es)[j]? = some c → ∃ u, us[j]? = some u ∧ V β h F w c u
  | .map es => ∃ ms clock, w.heap[b]? = some (.map ms clock) ∧ ms.size = es.length ∧ ∀ (j : Nat) (k v : AV) (m : MapEntry), es[j]? = some (k, v) → ms[j]? = some m → V β h F w k m.key ∧ V β h F w v m.val
  | .repl ps => RP.p F w b ps
  | .dead => True

structure Rel (RP : RPred) (β : Beta) (F : Frz) (h : Heap) (w : World) : Prop where
  lt : ∀ n b, β n = some b → b < w.heap.size
  blk : ∀ n b B, β n = some b → h[n]? = some B → BlkRel RP β h F w b B
  inj : ∀ n n' b, β n = some b → β n' = some b → n = n'
  out : ∀ n b, β n = some b → n < h.length
  apart : ∀ n b o, β n = some b → ¬ F b o
  cell : ∀ b o, F b o → b < w.heap.size

/-- is a block still what it was (its kind, its version), so that what leads to it leads to it still? -/
def Kept : Blk → Blk → Prop
  | .cells v e g es, .cells v' e' g' es' => v' = v ∧ e' = e ∧ g' = g ∧ es'.length = es.length
  | .map _, .map _ => True
  | .repl ps, .repl ps' => ps' = ps
  | .dead, .dead => True
  | _, _ => False

/-- has it turned so that what led to it leads nowhere? -/
def Turned : Blk → Blk → Prop
  | .cells v _ _ _, .cells v' _ _ _ => v < v'
  | .cells .., .dead => True
  | .map _, .dead => True
  | .dead, .dead => True
  | _, _ => False

def sizeAt (w : World) (b : Nat) : Option Nat := match w.heap[b]? with
  | some (.cells us _ _) => some us.size
  | _ => none

/-- from one state to a later one; 'W': the blocks that were written -/
structure Ext (W : Nat → Prop) (β : Beta) (F : Frz) (h : Heap) (w : World) (β' : Beta) (F' : Frz) (h' : Heap) (w' : World) : Prop where
  len : h.length ≤ h'.length
  blk : ∀ n B, h[n]? = some B → ∃ B', h'[n]? = some B' ∧ ((Kept B B' ∧ β' n = β n ∧ ∀ b, β n = some b → sizeAt w' b = sizeAt w b) ∨ Turned B B')
  frz : ∀ b o, F b o → F' b o
  old : ∀ b, b < w.heap.size → (∀ n, W n → β n ≠ some b) → w'.heap[b]? = w.heap[b]?
  size : w.heap.size ≤ w'.heap.size
  news : ∀ n b, β' n = some b → (β n = some b ∧ n < h.length) ∨ w.heap.size ≤ b
  newF : ∀ b o, F' b o → F b o ∨ w.heap.size ≤ b
  none_ : ∀ n, n < h.length → β n = none → β' n = none ∧ h'[n]? = h[n]?
  os : w'.os = w.os
  output : w'.output = w.output
  tape : w'.tape = w.tape

theorem Kept.refl (B : Blk) : Kept B B := by cases B <;> simp [Kept]

theorem Ext.refl (W : Nat → Prop) (β : Beta) (F : Frz) (h : Heap) (w : World) (hb : ∀ n b, β n = some b → n < h.length) : Ext W β F h w β F h w where
  len := Nat.le_refl _
  blk := fun _ B hB => ⟨B, hB, .inl ⟨Kept.refl B, rfl, fun _ _ => rfl⟩⟩
  frz := fun _ _ hf => hf
  old := fun _ _ _ => rfl
  size := Nat.le_refl _
  news := fun n b hn => .inl ⟨hn, hb n b hn⟩
  newF := fun _ _ hf => .inl hf
  none_ := fun _ _ hn => ⟨hn, rfl⟩
  os := rfl
  output := rfl
  tape := rfl

theorem stale_ext {W β F h w β' F' h' w'} (hE : Ext W β F h w β' F' h' w') {n ver : Nat} (hs : Stale h n ver) : Stale h' n ver := by
  rcases hs with hd | ⟨v, e, g, es, hv, hlt⟩
  · obtain ⟨B', hB', hk⟩ := hE.blk n _ hd
    rcases hk with ⟨hk, _⟩ | hk <;> cases B' <;> simp [Kept, Turned] at hk <;> exact .inl hB'
  · obtain ⟨B', hB', hk⟩ := hE.blk n _ hv
    rcases hk with ⟨hk, _⟩ | hk <;> cases B' <;> simp [Kept, Turned] at hk
    · exact .inr ⟨_, _, _, _, hB', by omega⟩
    · exact .inr ⟨_, _, _, _, hB', by omega⟩
    · exact .inl hB'

theorem cell_ext {W β F h w β' F' h' w'} (hE : Ext W β F h w β' F' h' w') (hW : ∀ n b o, W n → β n = some b → ¬ F b o) (hc : ∀ b o, F b o → b < w.heap.size)
    {b o : Nat} {u : Value} (hF : F b o) (hu : w.cell? ⟨b, o, none⟩ = some u) : w'.cell? ⟨b, o, none⟩ = some u := by
  have := hE.old b (hc b o hF) (fun n hn hb => hW n b o hn hb hF)
  simpa [World.cell?, this] using hu

theorem V.ext {RP : RPred} {W β F h w β' F' h' w'} (hE : Ext W β F h w β' F' h' w') (hR : Rel RP β F h w) {v : AV} {u : Value} (hv : V β h F w v u) : V β' h' F' w' v u := by
  have hW : ∀ n b o, W n → β n = some b → ¬ F b o := fun n b o _ hb => hR.apart n b o hb
  induction hv with
  | bool b => exact .bool b
  | int k n => exact .int k n
  | str s => exact .str s
  | nilp => exact .nilp
  | nils a => exact .nils a
  | nilm => exact .nilm
  | nilf => exact .nilf
  | nili => exact .nili
  | agg cs us hl hv ih => exact .agg cs us hl ih
  | tup cs us hl hv ih => exact .tup cs us hl ih
  | lst0 a cap => exact .lst0 a cap
  | lst xs a cap sz hc hs hz us hu hv ih =>
    exact .lst xs a cap sz hc hs hz us (fun j c hj => ⟨cell_ext hE hW hR.cell (hu j c hj).2 (hu j c hj).1, hE.frz _ _ (hu j c hj).2⟩) ih
  | cref cs a hs us hu hv ih =>
    exact .cref cs a hs us (fun j c hj => ⟨cell_ext hE hW hR.cell (hu j c hj).2 (hu j c hj).1, hE.frz _ _ (hu j c hj).2⟩) ih
  | ptr n ver i o b e g es hb hh =>
    obtain ⟨B', hB', hk⟩ := hE.blk n _ hh
    rcases hk with ⟨hk, hβ, _⟩ | hk <;> cases B' <;> simp [Kept, Turned] at hk
    · obtain ⟨rfl, rfl, rfl, _⟩ := hk; exact .ptr n _ i o b _ _ _ (hβ ▸ hb) hB'
    · exact .ptrS n ver i o _ (.inr ⟨_, _, _, _, hB', hk⟩)
    · exact .ptrS n ver i o _ (.inl hB')
  | repl n o b ps hb hh =>
    obtain ⟨B', hB', hk⟩ := hE.blk n _ hh
    rcases hk with ⟨hk, hβ, _⟩ | hk <;> cases B' <;> simp [Kept, Turned] at hk
    · subst hk; exact .repl n o b _ (hβ ▸ hb) hB'
  | ptrS n ver i o a hs => exact .ptrS n ver i o a (stale_ext hE hs)
  | slcX n ver sz i o len c b e g es hb hh hl hf =>
    obtain ⟨B', hB', hk⟩ := hE.blk n _ hh
    rcases hk with ⟨hk, hβ, _⟩ | hk <;> cases B' <;> simp [Kept, Turned] at hk
    · obtain ⟨rfl, rfl, rfl, hle⟩ := hk
      exact .slcX n _ sz i o len c b _ _ _ (hβ ▸ hb) hB' hl (by rw [hle]; exact hf)
    · exact .slcS n ver sz i o len _ _ _ (.inr ⟨_, _, _, _, hB', hk⟩)
    · exact .slcS n ver sz i o len _ _ _ (.inl hB')
  | slcG n ver sz i len c b a es us el fr hb hh hl hw hf hk0 ha =>
    obtain ⟨B', hB', hk⟩ := hE.blk n _ hh
    rcases hk with ⟨hk, hβ, hsz⟩ | hk <;> cases B' <;> simp [Kept, Turned] at hk
    · obtain ⟨rfl, rfl, rfl, hle⟩ := hk
      have hs := hsz b hb
      simp only [sizeAt, hw] at hs
      split at hs
      · rename_i us' el' fr' hw'
        simp at hs
        exact .slcG n _ _ i len c b a _ us' el' fr' (hβ ▸ hb) hB' hl hw' (by omega) (by omega) ha
      · cases hs
    · exact .slcS n ver sz i 0 len _ _ _ (.inr ⟨_, _, _, _, hB', hk⟩)
    · exact .slcS n ver sz i 0 len _ _ _ (.inl hB')
  | slcS n ver sz i o len cap a c hs => exact .slcS n ver sz i o len cap a c (stale_ext hE hs)
  | mapr n b es hb hh =>
    obtain ⟨B', hB', hk⟩ := hE.blk n _ hh
    rcases hk with ⟨hk, hβ, _⟩ | hk <;> cases B' <;> simp [Kept, Turned] at hk
    · exact .mapr n b _ (hβ ▸ hb) hB'
    · exact .mapS n _ hB'
  | mapS n b hs =>
    obtain ⟨B', hB', hk⟩ := hE.blk n _ hs
    rcases hk with ⟨hk, _⟩ | hk <;> cases B' <;> simp [Kept, Turned] at hk <;> exact .mapS n b hB'
  | clo f cs us hl hv ih => exact .clo f cs us hl ih

theorem Kept.trans {A B C : Blk} (h : Kept A B) (h' : Kept B C) : Kept A C := by
  cases A <;> cases B <;> simp [Kept] at h <;> cases C <;> simp [Kept] at h' ⊢
  · obtain ⟨rfl, rfl, rfl, h1⟩ := h; obtain ⟨rfl, rfl, rfl, h2⟩ := h'; exact ⟨rfl, rfl, rfl, h2.trans h1⟩
  · subst h; exact h'

theorem Ext.trans {W W₂ β F h w β₁ F₁ h₁ w₁ β₂ F₂ h₂ w₂} (hA : Ext W β F h w β₁ F₁ h₁ w₁) (hB : Ext W₂ β₁ F₁ h₁ w₁ β₂ F₂ h₂ w₂)
    (W₃ : Nat → Prop) (h1 : ∀ n, W n → β n ≠ none → W₃ n) (h2 : ∀ n, W₂ n → n < h.length → W₃ n) : Ext W₃ β F h w β₂ F₂ h₂ w₂ where
  len := Nat.le_trans hA.len hB.len
  blk := fun n B hn => by
    obtain ⟨B₁, hB₁, hk₁⟩ := hA.blk n B hn
    obtain ⟨B₂, hB₂, hk₂⟩ := hB.blk n B₁ hB₁
    refine ⟨B₂, hB₂, ?_⟩
    rcases hk₁ with ⟨k1, b1, s1⟩ | t1
    · rcases hk₂ with ⟨k2, b2, s2⟩ | t2
      · exact .inl ⟨k1.trans k2, b2.trans b1, fun b hb => (s2 b (b1 ▸ hb)).trans (s1 b hb)⟩
      · right
        cases B <;> cases B₁ <;> simp [Kept] at k1 <;> cases B₂ <;> simp [Turned] at t2 ⊢
        obtain ⟨rfl, _⟩ := k1; exact t2
    · right
      rcases hk₂ with ⟨k2, _⟩ | t2
      · cases B <;> cases B₁ <;> simp [Turned] at t1 <;> cases B₂ <;> simp [Kept] at k2 <;> simp [Turned]
        obtain ⟨rfl, _⟩ := k2; exact t1
      · cases B <;> cases B₁ <;> simp [Turned] at t1 <;> cases B₂ <;> simp [Turned] at t2 <;> simp [Turned]
        omega
  frz := fun b o hf => hB.frz b o (hA.frz b o hf)
  old := fun b hb hW => by
    rw [hB.old b (Nat.lt_of_lt_of_le hb hA.size) ?_, hA.old b hb fun n hn hc => ?_]
    · exact hW n (h1 n hn (by simp [hc])) hc
    · intro n hn hc
      rcases hA.news n b hc with ⟨h0, hl⟩ | h0
      · exact hW n (h2 n hn hl) h0
      · omega
  size := Nat.le_trans hA.size hB.size
  news := fun n b hn => by
    rcases hB.news n b hn with ⟨h0, _⟩ | h0
    · exact hA.news n b h0
    · have := hA.size; right; omega
  newF := fun b o hf => by
    rcases hB.newF b o hf with h0 | h0
    · exact hA.newF b o h0
    · have := hA.size; right; omega
  none_ := fun n hl hn => by
    obtain ⟨h1, h2⟩ := hA.none_ n hl hn
    obtain ⟨h3, h4⟩ := hB.none_ n (Nat.lt_of_lt_of_le hl hA.len) h1
    exact ⟨h3, h4.trans h2⟩
  os := hB.os.trans hA.os
  output := hB.output.trans hA.output
  tape := hB.tape.trans hA.tape

/-- a block that was not written says what it said -/
theorem BlkRel.ext {RP : RPred} {W β F h w β' F' h' w'} (hE : Ext W β F h w β' F' h' w') (hR : Rel RP β F h w) {b : Nat} {B : Blk} (hB : BlkRel RP β h F w b B) (hw : w'.heap[b]? = w.heap[b]?) :
    BlkRel RP β' h' F' w' b B := by
  cases B with
  | cells v e g es =>
    obtain ⟨us, el, fr, h1, h2, h3, h4, h5, h6⟩ := hB
    exact ⟨us, el, fr, hw.trans h1, h2, h3, h4, h5, fun j c hj => let ⟨u, hu, hv⟩ := h6 j c hj; ⟨u, hu, hv.ext hE hR⟩⟩
  | map es =>
    obtain ⟨ms, clock, h1, h2, h3⟩ := hB
    exact ⟨ms, clock, hw.trans h1, h2, fun j k v m hj hm => let ⟨a, b⟩ := h3 j k v m hj hm; ⟨a.ext hE hR, b.ext hE hR⟩⟩
  | repl ps =>
    refine RP.mono hB hE.frz (fun b o hF => ?_) hw
    exact hE.old b (hR.cell b o hF) (fun n _ hb => hR.apart n b o hb hF)
  | dead => trivial

/-- the relation behind a step: what was written or is new is shown; all else stays -/
theorem Rel.step {RP : RPred} {W β F h w β' F' h' w'} (hE : Ext W β F h w β' F' h' w') (hR : Rel RP β F h w)
    (hnew : ∀ n b B, β' n = some b → h'[n]? = some B → ¬ (β n = some b ∧ h[n]? = some B ∧ ¬ W n) → BlkRel RP β' h' F' w' b B)
    (hlt : ∀ n b, β' n = some b → b < w'.heap.size) (hout : ∀ n b, β' n = some b → n < h'.length) (hinj : ∀ n n' b, β' n = some b → β' n' = some b → n = n') (hap : ∀ n b o, β' n = some b → ¬ F' b o)
    (hcell : ∀ b o, F' b o → ¬ F b o → b < w'.heap.size) : Rel RP β' F' h' w' where
  lt := hlt
  blk := fun n b B hb hB => by
    by_cases hc : β n = some b ∧ h[n]? = some B ∧ ¬ W n
    · obtain ⟨h1, h2, h3⟩ := hc
      refine (hR.blk n b B h1 h2).ext hE hR (hE.old b (hR.lt n b h1) fun n' hn' hb' => ?_)
      have := hR.inj n' n b hb' h1
      subst this
      exact h3 hn'
    · exact hnew n b B hb hB hc
  inj := hinj
  out := hout
  apart := hap
  cell := fun b o hF => by
    by_cases h0 : F b o
    · exact Nat.lt_of_lt_of_le (hR.cell b o h0) hE.size
    · exact hcell b o hF h0
end Go.Eng

