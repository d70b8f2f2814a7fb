/-
  Ax, part 3: from the model's code of a function to the abstract machine's. What is not understood is refused ('none'). The lists of slots that are wanted behind a join, and the order in which a region that draws is gone through, come from outside ('hints'): nothing hangs on how they were found.
-/
import Derived.Test.YtoflegfbpjbedaaGreatAx2
namespace Go.Ax

def compArg : Operand → Option Arg
  | .tmp t => some (.s t)
  | .const v => (V.ofConst v).map .c
  | .func f => some (.c (.fn f []))
  | .global _ => none

def compArgs : List Operand → Option (List Arg)
  | [] => some []
  | x :: xs => (compArg x).bind fun a => (compArgs xs).map (a :: ·)

def compOpt : Option Operand → Option (Option Arg)
  | none => some none
  | some x => (compArg x).map some

def szOf (P : Program) (t : TypeId) : Option Nat := (P.info? t).map (·.size)

/-- none: a value of one cell; some n: a struct or an array of n cells. -/
def ldn (P : Program) (t : TypeId) : Option (Option Nat) :=
  match P.underlying t with
  | some (.struct _) => (szOf P t).map some
  | some (.array _ _) => (szOf P t).map some
  | some _ => some none
  | none => none

def zeroOf (P : Program) (t : TypeId) : Option (List V) := ((P.info? t).bind (·.zero)).bind fun z => V.ofCells z.cells.toList

def elemOf (P : Program) (t : TypeId) : Option TypeId :=
  match P.underlying t with
  | some (.slice e) => some e
  | _ => none

/-- Offset and size of each part: of a struct's fields. -/
def compFields (P : Program) (fs : Array Field) : List (Nat × Operand) → Option (List (Nat × Nat × Arg))
  | [] => some []
  | (i, x) :: xs => (fs[i]?).bind fun f => (szOf P f.type).bind fun s => (compArg x).bind fun a => (compFields P fs xs).map ((f.offset, s, a) :: ·)

/-- Of elements. -/
def compElems (s : Nat) : List (Nat × Operand) → Option (List (Nat × Nat × Arg))
  | [] => some []
  | (i, x) :: xs => (compArg x).bind fun a => (compElems s xs).map ((i * s, s, a) :: ·)

/-- The size of each field's type is known. -/
def sizesKnown (P : Program) (fs : Array Field) : Bool := fs.toList.all fun f => (szOf P f.type).isSome

/-- A slice's type, or a string's. -/
def isApp (P : Program) (u : TypeId) : Bool :=
  match P.underlying u with
  | some (.slice _) => true
  | some .string => true
  | _ => false

/-- append(x, make([]T, n)..). -/
def compAppz (P : Program) (e : TypeId) (i : TypeInfo) (u : TypeId) (x y : Operand) : Option I :=
  match P.underlying u with
  | some (.int _) => (zeroOf P e).bind fun zz => if zz.length = i.size ∧ 0 < i.size then (compArg x).bind fun x => (compArg y).map fun y => .appendz e i.bytes zz x y else none
  | _ => none

def compBuiltin (P : Program) (b : Builtin) (args : List Operand) (ts : List TypeId) : Option I :=
  match b, args, ts with
  | .len, [x], [t] =>
    match P.underlying t with
    | some .string => (compArg x).map .slen
    | some (.slice _) => (compArg x).map .len
    | some (.array n _) => some (.mv (.c (.int .i64 (n : Int))))
    | _ => none
  | .append, [x, y], [t, u] => (elemOf P t).bind fun e => (P.info? e).bind fun i => (i.zero).bind fun z =>
    if isApp P u = true ∧ 0 < i.size ∧ z.cells.size = i.size then (compArg x).bind fun x => (compArg y).map fun y => .append e i.size i.bytes x y else compAppz P e i u x y
  | .copy, [x, y], [t, _] => (elemOf P t).bind fun e => (szOf P e).bind fun s => (compArg x).bind fun x => (compArg y).map fun y => .copy s x y
  | .clear, [x], [t] => (elemOf P t).bind fun e => (zeroOf P e).bind fun z => if szOf P e = some z.length ∧ 0 < z.length then (compArg x).map fun x => .clear z x else none
  | .max, x :: xs, _ => (compArg x).bind fun x => (compArgs xs).map fun xs => .minmax true x xs
  | .min, x :: xs, _ => (compArg x).bind fun x => (compArgs xs).map fun xs => .minmax false x xs
  | _, _, _ => none

/-- What '==' (neg: '!=') is of. -/
def compEq (P : Program) (neg : Bool) (t : TypeId) (x y : Arg) : Option I :=
  match P.underlying t with
  | some .bool => some (.eq .bool neg x y)
  | some (.pointer _) => some (.eq .ptr neg x y)
  | some (.slice _) => some (.eq .sl neg x y)
  | some (.array n e) => match P.underlying e with
    | some (.int _) => if szOf P e = some 1 ∧ P.cellsOf e = 1 ∧ P.eqGuardType P.depth t = false then some (.eq (.arr n) neg x y) else none
    | _ => none
  | _ => none

def compBin (P : Program) (op : BinOp) (t : TypeId) (x y : Arg) : Option I :=
  match P.underlying t with
  | some (.int _) => some (.bin op x y)
  | some (.float _) => some (.bin op x y)
  | some .string => some (.bin op x y)
  | some _ => match op with
    | .eql => compEq P false t x y
    | .neq => compEq P true t x y
    | _ => none
  | none => none

/-- What the model has in place of a function that has no body. -/
inductive Xk where
  | fbits
  | ffrom
  | mknz (e : TypeId)

def extOf (P : Program) (fn : Func) : Option Xk :=
  if fn.name = "math.Float64bits" then some .fbits
  else if fn.name = "math.Float64frombits" then some .ffrom
  else if fn.name = "internal/bytealg.MakeNoZero" then (fn.resultTypes[0]?).bind fun t => if fn.resultTypes.size = 1 then (elemOf P t).map .mknz else none
  else none

def compExt : Xk → List Arg → Option I
  | .fbits, [x] => some (.op1 .fbits x)
  | .ffrom, [x] => some (.op1 .ffrom x)
  | .mknz e, [x] => some (.mknz e x)
  | _, _ => none

/-- A call of a function by its name. -/
def compCall (P : Program) (f : FuncId) (args : List Arg) : Option I :=
  match P.funcs[f]? with
  | some fn => if fn.body.isNone = true then (if (fn.name == "runtime.NumGoroutine") = false ∧ (Extern.findNext fn).isNone = true then (extOf P fn).bind fun k => compExt k args else none) else some (.call f args)
  | none => none

def compOp (P : Program) : Op → Option I
  | .move x => (compArg x).map .mv
  | .assign x => (compArg x).map .mv
  | .pick c a b => (compArg c).bind fun c => (compArg a).bind fun a => (compArg b).map fun b => .pick c a b
  | .alloc t => (zeroOf P t).map fun z => .box t (.c (.agg z))
  | .box t x => (compArg x).map (.box t)
  | .build t parts => (zeroOf P t).bind fun z =>
    match P.underlying t with
    | some (.struct fs) => if sizesKnown P fs then (compFields P fs parts.toList).map (.build z) else none
    | some (.array _ e) => (szOf P e).bind fun s => (compElems s parts.toList).map (.build z)
    | _ => none
  | .buildSlice t len parts => (elemOf P t).bind fun e => (szOf P e).bind fun s => (zeroOf P e).bind fun z =>
    if len * s ≤ 16777216 ∧ z.length = s then (compElems s parts.toList).map (.slit e len z) else none
  | .load t a => (ldn P t).bind fun n => (compArg a).map (.load n)
  | .store t a x => (szOf P t).bind fun s => (compArg a).bind fun a => (compArg x).map (.store s a)
  | .nilCheck x => (compArg x).map .nilck
  | .binOp op t x y _ => (compArg x).bind fun x => (compArg y).bind fun y => compBin P op t x y
  | .unOp op _ x => (compArg x).map (.un op)
  | .convert src dst x =>
    match P.underlying src, P.underlying dst with
    | some _, some (.int k) => (compArg x).map (.cint k)
    | some (.int _), some (.float k) => (compArg x).map (.op1 (.itof k))
    | some (.slice e), some .string => match P.underlying e with
      | some (.int .u8) => (compArg x).map .tostr
      | _ => none
    | some .string, some (.slice e) => match P.underlying e with
      | some (.int .u8) => (compArg x).map (.tobytes e)
      | _ => none
    | some (.slice _), some (.slice e) => match P.underlying e with
      | some (.int .u8) => if src == dst then (compArg x).map (.remark e) else (compArg x).map (.tobytes e)
      | _ => none
    | _, _ => none
  | .fieldAddr s x f =>
    match P.underlying s with
    | some (.struct fs) => (fs[f]?).bind fun fd => (szOf P fd.type).bind fun n => if 0 < n then (compArg x).map (.faddr fd.offset) else none
    | _ => none
  | .indexAddr t x i =>
    match P.underlying t with
    | some (.slice e) => (szOf P e).bind fun s => (compArg x).bind fun x => (compArg i).map (.iaddr none s x)
    | some (.array n e) => (szOf P e).bind fun s => (compArg x).bind fun x => (compArg i).map (.iaddr (some n) s x)
    | _ => none
  | .index t x i =>
    match P.underlying t with
    | some (.array n e) => (szOf P e).bind fun s => (ldn P e).bind fun l => (compArg x).bind fun x => (compArg i).map (.index n s l x)
    | some .string => (compArg x).bind fun x => (compArg i).map (.sindex x)
    | _ => none
  | .field t x f =>
    match P.underlying t with
    | some (.struct fs) => (fs[f]?).bind fun fd => (ldn P fd.type).bind fun l => (compArg x).map (.field fd.offset l)
    | _ => none
  | .extract x i => (compArg x).map (.ext i)
  | .sliceToArrayPointer t x =>
    match P.underlying t with
    | some (.array n _) => (compArg x).map (.op1 (.s2a n))
    | _ => none
  | .slice t x lo hi mx => (compArg x).bind fun x => (compOpt lo).bind fun lo => (compOpt hi).bind fun hi => (compOpt mx).bind fun mx =>
    match P.underlying t with
    | some (.slice e) => (szOf P e).bind fun s => match P.underlying e, lo, hi, mx with
      | some (.struct _), some lo, some hi, none => if 0 < s then some (.slice2 s x lo hi) else none
      | _, lo, hi, mx => some (.slice .sl s x lo hi mx)
    | some (.array n e) => (szOf P e).map fun s => .slice (.arr n) s x lo hi mx
    | some .string => some (.slice .str 1 x lo hi mx)
    | _ => none
  | .makeSlice t l c => (elemOf P t).bind fun e => (P.info? e).bind fun i => (zeroOf P e).bind fun z =>
    if z.length = i.size ∧ 0 < i.size then (compArg l).bind fun l => (compArg c).map (.mkslice e i.bytes z l) else none
  | .makeFunc (.func f) first caps => if first.size = 0 then (compArgs caps.toList).map (.mkfn f) else none
  | .call { callee := .value (.func f), args, .. } => (compArgs args.toList).bind (compCall P f)
  | .call { callee := .value x, args, .. } => (compArg x).bind fun x => (compArgs args.toList).map (.callv x)
  | .call { callee := .builtin b, args, argTypes } => compBuiltin P b args.toList argTypes.toList
  | _ => none

def compAO (P : Program) (ops : Array Oper) (o : Oper) : Option AO :=
  (compOp P o.op).bind fun i =>
    match o.guard with
    | none => some ⟨o.dst, none, i⟩
    | some (j, want) => ((ops[j]?).bind (·.dst)).map fun s => ⟨o.dst, some (s, want), i⟩

def compOps (P : Program) (ops : Array Oper) : List Oper → Option (List AO)
  | [] => some []
  | o :: os => (compAO P ops o).bind fun a => (compOps P ops os).map (a :: ·)

/-! A region that draws its order: 'ord': its operations' numbers in the order in which it is gone through. -/

/-- i is bound to come ahead of j. -/
def ahead (B : Array Nat) (i j : Nat) : Bool := (B.getD j 0).testBit i

/-- The masks say no more than the edges do. -/
def masksOk (ops : Array Oper) (B : Array Nat) (ord : List Nat) : Bool :=
  ord.all fun j => ord.all fun i => !ahead B i j || ((ops[j]?).map fun o => o.after.toList.any fun e => Region.binds .any e && (e.on == i || ahead B i e.on)).getD false

/-- Each operation behind all that it waits for; 'seen': what came ahead. -/
def ordOk (ops : Array Oper) : List Nat → List Nat → Bool
  | _, [] => true
  | seen, j :: js => ((ops[j]?).map fun o => o.after.toList.all fun e => !Region.binds .any e || seen.contains e.on).getD false && !seen.contains j && ordOk ops (j :: seen) js

/-- Of two operations (i ahead of j in the order): what they may not be to each other unless they are bound. -/
def pairOk (B : Array Nat) (i j : Nat) (ai aj : AO) : Bool :=
  let bound := ahead B i j
  (match ai.dst with
   | some d => (bound || !aj.slots.contains d) && aj.dst != some d
   | none => true) &&
  (match aj.dst with
   | some d => bound || !ai.slots.contains d
   | none => true) &&
  -- acts in one order; what makes memory comes ahead of an act or a read only if that waits for it
  (match ai.ins.kind, aj.ins.kind with
   | .act, .act => bound
   | .new, .act => bound
   | .new, .read _ => bound
   | _, _ => true)

def pairsOk (B : Array Nat) : List (Nat × AO) → Bool
  | [] => true
  | (i, ai) :: l => (l.all fun x => pairOk B i x.1 ai x.2) && pairsOk B l

/-- The pairs (read, act), by their places in the order, that are not bound. -/
def unbound (B : Array Nat) (l : List (Nat × AO)) : List (Nat × Nat) :=
  l.zipIdx.flatMap fun (x, p) =>
    match x.2.ins.kind with
    | .read _ => l.zipIdx.filterMap fun (y, q) =>
      match y.2.ins.kind with
      | .act => if (if p < q then ahead B x.1 y.1 else ahead B y.1 x.1) then none else some (p, q)
      | _ => none
    | _ => []

def compAll (P : Program) (ops : Array Oper) : List Nat → Option (List (Nat × AO))
  | [] => some []
  | j :: js => (ops[j]?).bind fun o => (compAO P ops o).bind fun a => (compAll P ops js).map ((j, a) :: ·)

def compDraw (P : Program) (ops : Array Oper) (ord : List Nat) : Option (List AO × List (Nat × Nat)) :=
  let B := Region.before ops
  (compAll P ops ord).bind fun l =>
    if ordOk ops [] ord = true ∧ masksOk ops B ord = true ∧ pairsOk B l = true ∧ ((List.range ops.size).all fun i => ord.contains i) = true then
      some (l.map (·.2), unbound B l)
    else none

def writes : Code → List Nat
  | .region _ ops _ => ops.toList.filterMap (·.dst)
  | .seq a b => writes a ++ writes b
  | .cond _ a b => writes a ++ writes b
  | .block _ a => writes a
  | .loop a => writes a
  | _ => []

/-- Code that does not come to its end. -/
def noEnd : Code → Bool
  | .ret => true
  | .exit _ => true
  | .seq a b => noEnd a || noEnd b
  | .cond _ a b => noEnd a && noEnd b
  | .loop _ => true
  | _ => false

/-- A region that panics (or makes what is panicked with): not gone into. -/
def stops (ops : Array Oper) : Bool := ops.toList.any fun o => match o.op with
  | .panic _ => true
  | .makeInterface .. => true
  | _ => false

def comp (P : Program) : Code → C → List (List Nat) → Option (C × List (List Nat))
  | .skip, k, h => some (k, h)
  | .region _ ops d, k, h =>
    if stops ops = true then some (.bad, if d = true then h.drop 1 else h)
    else if d = false then (compOps P ops ops.toList).map fun l => (.ops l k, h)
    else match h with
      | ord :: h => if P.follows .mixedOrders then (compDraw P ops ord).map fun r => (.draw r.1 r.2 k, h) else none
      | [] => none
  | .seq a b, k, h => (comp P b k h).bind fun r => comp P a r.1 r.2
  | .cond x a b, k, h => (compArg x).bind fun x =>
    if noEnd a then (comp P a .bad h).bind fun r => (comp P b k r.2).map fun s => (.cond x r.1 s.1, s.2)
    else if noEnd b then (comp P a k h).bind fun r => (comp P b .bad r.2).map fun s => (.cond x r.1 s.1, s.2)
    else match h with
      | J :: h => (comp P a .done h).bind fun r => (comp P b .done r.2).map fun s => (.condJ x r.1 s.1 J (writes a ++ writes b) k, s.2)
      | [] => none
  | .block id a, k, h =>
    match h with
    | J :: h => (comp P a .done h).map fun r => (.blk id r.1 J (writes a) k, r.2)
    | [] => none
  | .loop a, _, h =>
    match h with
    | K :: h => (comp P a .done h).map fun r => (.loop r.1 K (writes a), r.2)
    | [] => none
  | .exit id, _, h => some (.exit id, h)
  | .ret, _, h => some (.ret, h)
  | _, _, _ => none

def compRV (P : Program) : List ResultVar → Option (List RV)
  | [] => some []
  | .tmp t :: rs => (compRV P rs).map (.tmp t :: ·)
  | .cell a t :: rs => (ldn P t).bind fun n => (compRV P rs).map (.cell a n :: ·)

def compFn (P : Program) (fn : Func) (h : List (List Nat)) : Option Fn' :=
  fn.body.bind fun b => (comp P b .ret h).bind fun r => (compRV P fn.results.toList).bind fun rv =>
    if (writes b).all (fun d => decide (d < fn.ntmps)) = true ∧ (fn.name == "runtime.NumGoroutine") = false then some ⟨fn.ntmps, rv, r.1⟩ else none

/-- The same, but for sync.Once's Do. -/
def compFnX (P : Program) (fn : Func) (h : List (List Nat)) : Option Fn' := if fn.name == "(*sync.Once).Do" then some onceFn else compFn P fn h

def tableX (P : Program) (h : FuncId → List (List Nat)) : FuncId → Option Fn' := fun f => (P.funcs[f]?).bind fun fn => compFnX P fn (h f)

/-- The table of a program's functions, 'hints' beside it. -/
def table (P : Program) (h : FuncId → List (List Nat)) : FuncId → Option Fn' := fun f => (P.funcs[f]?).bind fun fn => compFn P fn (h f)

end Go.Ax
