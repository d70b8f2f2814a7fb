/-
  Ax, part 2: the abstract machine: instructions, frames, a function's code, calls; and that what it answers does not hang on how much fuel it is given.
-/
import Derived.Test.YtoflegfbpjbedaaGreatAx1
namespace Go.Ax

/-- An operand: a slot, or a constant. -/
inductive Arg where
  | s (t : Nat)
  | c (v : V)

/-- An instruction. -/
inductive I where
  | mv (x : Arg)
  | pick (c a b : Arg)
  | box (ty : TypeId) (x : Arg)
  | build (zero : List V) (parts : List (Nat × Nat × Arg))
  | slit (ty : TypeId) (len : Nat) (zero : List V) (parts : List (Nat × Nat × Arg))
  | load (n : Option Nat) (x : Arg)
  | store (size : Nat) (p x : Arg)
  | nilck (x : Arg)
  | bin (op : BinOp) (x y : Arg)
  | eq (k : EK) (neg : Bool) (x y : Arg)
  | un (op : UnOp) (x : Arg)
  | cint (k : IntKind) (x : Arg)
  | tostr (x : Arg)
  | tobytes (ty : TypeId) (x : Arg)
  | faddr (o : Nat) (x : Arg)
  | iaddr (alen : Option Nat) (esz : Nat) (x i : Arg)
  | index (len esz : Nat) (n : Option Nat) (x i : Arg)
  | sindex (x i : Arg)
  | field (off : Nat) (n : Option Nat) (x : Arg)
  | ext (i : Nat) (x : Arg)
  | len (x : Arg)
  | slen (x : Arg)
  | slice (ck : CK) (esz : Nat) (x : Arg) (lo hi mx : Option Arg)
  | append (ty esz bytes : Nat) (x y : Arg)
  | appendz (ty bytes : Nat) (zero : List V) (x y : Arg)
  | copy (esz : Nat) (x y : Arg)
  | mkslice (ty bytes : Nat) (zero : List V) (len cap : Arg)
  | slice2 (esz : Nat) (x lo hi : Arg)
  | remark (ty : TypeId) (x : Arg)
  | clear (zero : List V) (x : Arg)
  | op1 (k : U1) (x : Arg)
  | mknz (ty : TypeId) (x : Arg)
  | minmax (mx : Bool) (x : Arg) (xs : List Arg)
  | call (f : FuncId) (args : List Arg)
  | callv (x : Arg) (args : List Arg)
  | mkfn (f : FuncId) (caps : List Arg)

abbrev Fr : Type := List (Nat × V)

def Fr.get : Fr → Nat → Option V
  | [], _ => none
  | (k, v) :: A, t => if k = t then some v else Fr.get A t

def Fr.put (A : Fr) (d : Option Nat) (v : V) : Fr :=
  match d with
  | none => A
  | some d => (d, v) :: A

/-- Without the slots of W. -/
def Fr.drop (W : List Nat) : Fr → Fr
  | [] => []
  | (k, v) :: A => if W.contains k then Fr.drop W A else (k, v) :: Fr.drop W A

def Arg.ev (A : Fr) : Arg → Option V
  | .s t => A.get t
  | .c v => some v

def evs (A : Fr) : List Arg → Option (List V)
  | [] => some []
  | x :: xs => (x.ev A).bind fun v => (evs A xs).map (v :: ·)

def evParts (A : Fr) : List (Nat × Nat × Arg) → Option (List (Nat × Nat × V))
  | [] => some []
  | (o, s, x) :: xs => (x.ev A).bind fun v => (evParts A xs).map ((o, s, v) :: ·)

def evOpt (A : Fr) : Option Arg → Option (Option V)
  | none => some none
  | some x => (x.ev A).map some

/-- What functions answer. -/
abbrev Sem' : Type := FuncId → List V → M V

def callv (G : Sem') (x : V) (args : List V) : M V :=
  match x with
  | .fn f caps => G f (args ++ caps)
  | _ => M.fail

/-- Operands first: an operand that is not known ends all. -/
def with1 (A : Fr) (x : Arg) (k : V → M V) : M V := match x.ev A with | some v => k v | none => M.fail
def withs (A : Fr) (xs : List Arg) (k : List V → M V) : M V := match evs A xs with | some v => k v | none => M.fail

/-- What an instruction does. -/
def I.run (G : Sem') (A : Fr) : I → M V
  | .mv x => with1 A x M.pure
  | .pick c a b => with1 A c fun c => with1 A a fun a => with1 A b fun b => M.lift (Ax.pick c a b)
  | .box ty x => with1 A x fun x => mbox ty x
  | .build zero parts => match evParts A parts with | some ps => M.lift (Ax.build zero ps) | none => M.fail
  | .slit ty l zero parts => match evParts A parts with | some ps => mslit ty l zero ps | none => M.fail
  | .load n x => with1 A x fun x => mload n x
  | .store size p x => with1 A p fun p => with1 A x fun x => mstore size p x
  | .nilck x => with1 A x fun x => M.lift (Ax.nilck x)
  | .bin op x y => with1 A x fun x => with1 A y fun y => M.lift (Ax.bin op x y)
  | .eq k neg x y => with1 A x fun x => with1 A y fun y => M.lift (eqr k neg x y)
  | .un op x => with1 A x fun x => M.lift (Ax.un op x)
  | .cint k x => with1 A x fun x => M.lift (Ax.cint k x)
  | .tostr x => with1 A x fun x => mtostr x
  | .tobytes ty x => with1 A x fun x => mtobytes ty x
  | .faddr o x => with1 A x fun x => M.lift (Ax.faddr o x)
  | .iaddr alen esz x i => with1 A x fun x => with1 A i fun i => M.lift (Ax.iaddr alen esz x i)
  | .index l esz n x i => with1 A x fun x => with1 A i fun i => M.lift (Ax.index l esz n x i)
  | .sindex x i => with1 A x fun x => with1 A i fun i => M.lift (Ax.sindex x i)
  | .field off n x => with1 A x fun x => M.lift (Ax.field off n x)
  | .ext i x => with1 A x fun x => M.lift (Ax.ext i x)
  | .len x => with1 A x fun x => M.lift (vlen x)
  | .slen x => with1 A x fun x => M.lift (Ax.slen x)
  | .slice ck esz x lo hi mx => with1 A x fun x =>
    match evOpt A lo, evOpt A hi, evOpt A mx with | some lo, some hi, some mx => M.lift (vslice ck esz x lo hi mx) | _, _, _ => M.fail
  | .append ty esz bytes x y => with1 A x fun x => with1 A y fun y => mappend ty esz bytes x y
  | .appendz ty bytes zero x y => with1 A x fun x => with1 A y fun y => mappendz ty bytes zero x y
  | .copy esz x y => with1 A x fun x => with1 A y fun y => mcopy esz x y
  | .mkslice ty bytes zero l c => with1 A l fun l => with1 A c fun c => mmkslice ty bytes zero l c
  | .slice2 esz x lo hi => with1 A x fun x => with1 A lo fun lo => with1 A hi fun hi => mslice2 esz x lo hi
  | .clear zero x => with1 A x fun x => mclear zero x
  | .op1 k x => with1 A x fun x => M.lift (Ax.op1 k x)
  | .mknz ty x => with1 A x fun x => mmknz ty x
  | .remark ty x => with1 A x fun x => mremark ty x
  | .minmax mx x xs => with1 A x fun x => withs A xs fun xs => M.lift (Ax.minmax mx x xs)
  | .call f args => withs A args fun args => G f args
  | .callv x args => with1 A x fun x => withs A args fun args => Ax.callv G x args
  | .mkfn f caps => withs A caps fun caps => M.pure (.fn f caps)

/-- An operation: where its answer goes, whether it is carried out at all (slot, wanted), what it does. -/
structure AO where
  dst : Option Nat
  gd : Option (Nat × Bool)
  ins : I

def guarded (A : Fr) (gd : Option (Nat × Bool)) (x : M V) : M V :=
  match gd with
  | none => x
  | some (s, want) => match A.get s with
    | some (.bool b) => if b = want then x else M.pure .undef
    | some (.tup []) => M.pure .undef
    | _ => M.fail

def AO.run (G : Sem') (A : Fr) (o : AO) : M V := guarded A o.gd (o.ins.run G A)

/-- A region in the order of its text. -/
def runOps (G : Sem') : List AO → Fr → M Fr
  | [], A => M.pure A
  | o :: os, A => (o.run G A).bind fun v => runOps G os (A.put o.dst v)

/-- How an operation lies to the others of its region: it looks at no memory; it reads what is at a place; it makes memory; it does anything else (in one order with all others of its kind). -/
inductive Kind where
  | pure
  | read (x : Arg)
  | new
  | act

def I.kind : I → Kind
  | .load _ x => .read x
  | .tostr x => .read x
  | .box .. | .slit .. | .tobytes .. => .new
  | .store .. | .append .. | .appendz .. | .copy .. | .mkslice .. | .slice2 .. | .clear .. | .mknz .. | .remark .. | .call .. | .callv .. => .act
  | _ => .pure

/-- The slots that an operation looks at. -/
def Arg.slots : Arg → List Nat
  | .s t => [t]
  | .c _ => []

def oslots : Option Arg → List Nat
  | none => []
  | some x => x.slots

def I.slots : I → List Nat
  | .mv x | .box _ x | .load _ x | .nilck x | .un _ x | .cint _ x | .tostr x | .tobytes _ x | .faddr _ x | .field _ _ x | .ext _ x | .len x | .slen x | .clear _ x | .op1 _ x | .mknz _ x | .remark _ x => x.slots
  | .pick c a b | .slice2 _ c a b => c.slots ++ a.slots ++ b.slots
  | .build _ ps | .slit _ _ _ ps => ps.flatMap fun p => p.2.2.slots
  | .store _ p x => p.slots ++ x.slots
  | .bin _ x y | .eq _ _ x y | .iaddr _ _ x y | .index _ _ _ x y | .sindex x y | .append _ _ _ x y | .appendz _ _ _ x y | .copy _ x y | .mkslice _ _ _ x y => x.slots ++ y.slots
  | .slice _ _ x lo hi mx => x.slots ++ oslots lo ++ oslots hi ++ oslots mx
  | .minmax _ x xs => x.slots ++ xs.flatMap Arg.slots
  | .call _ xs | .mkfn _ xs => xs.flatMap Arg.slots
  | .callv x xs => x.slots ++ xs.flatMap Arg.slots

def AO.slots (o : AO) : List Nat := o.ins.slots ++ (match o.gd with | some (s, _) => [s] | none => [])

/-- All reads so far that are not ordered against the act that led from h to h'. -/
noncomputable def chkReads (un : List (Nat × Nat)) (j : Nat) (h h' : Heap) : List (Nat × V) → M Unit
  | [] => M.pure ()
  | (i, a) :: rs => if un.contains (i, j) then (M.unch a h h').bind fun _ => chkReads un j h h' rs else chkReads un j h h' rs

/-- All acts so far that are not ordered against a read at a. -/
noncomputable def chkActs (un : List (Nat × Nat)) (i : Nat) (a : V) : List (Nat × Heap × Heap) → M Unit
  | [] => M.pure ()
  | (j, h, h') :: js => if un.contains (i, j) then (M.unch a h h').bind fun _ => chkActs un i a js else chkActs un i a js

/-- A region that draws its order: 'un': the pairs (read, act) that are not ordered; 'p': the place; 'rs', 'js': the reads and the acts so far. What a read sees must be the same on either side of an act that is not ordered against it. -/
noncomputable def runDraw (G : Sem') (un : List (Nat × Nat)) : Nat → List (Nat × V) → List (Nat × Heap × Heap) → List AO → Fr → M Fr
  | _, _, _, [], A => M.pure A
  | p, rs, js, o :: os, A =>
    match o.ins.kind with
    | .read x => with1' A x fun a => (o.run G A).bind fun v => (chkActs un p a js).bind fun _ => runDraw G un (p + 1) ((p, a) :: rs) js os (A.put o.dst v)
    | .act => M.getH.bind fun h => (o.run G A).bind fun v => M.getH.bind fun h' => (chkReads un p h h' rs).bind fun _ => runDraw G un (p + 1) rs ((p, h, h') :: js) os (A.put o.dst v)
    | _ => (o.run G A).bind fun v => runDraw G un (p + 1) rs js os (A.put o.dst v)
where
  with1' {α : Type} (A : Fr) (x : Arg) (k : V → M α) : M α := match x.ev A with | some v => k v | none => k .undef

/-- How a piece of code ends: at its end, by leaving a block, by returning: with what is still wanted. -/
inductive Res where
  | nrm (L : List V)
  | ex (id : Nat) (L : List V)
  | ret (L : List V)

inductive C where
  | done
  | bad
  | ops (l : List AO) (k : C)
  | draw (l : List AO) (un : List (Nat × Nat)) (k : C)
  | cond (x : Arg) (a b : C)
  | condJ (x : Arg) (a b : C) (J W : List Nat) (k : C)
  | blk (id : Nat) (a : C) (J W : List Nat) (k : C)
  | loop (a : C) (K W : List Nat)
  | exit (id : Nat)
  | ret

def getAll (A : Fr) : List Nat → Option (List V)
  | [] => some []
  | t :: ts => (A.get t).bind fun v => (getAll A ts).map (v :: ·)

/-- The slots J with the values L. -/
def bindJ (L : List V) : Nat → List Nat → Fr
  | _, [] => []
  | i, t :: ts => (t, L.getD i .undef) :: bindJ L (i + 1) ts

def Fr.join (A : Fr) (J W : List Nat) (L : List V) : Fr := bindJ L 0 J ++ A.drop W

def M.join (x : M Res) (k : List V → M Res) : M Res := x.bind fun r =>
  match r with
  | .nrm L => k L
  | .ex id L => M.pure (.ex id L)
  | .ret L => M.pure (.ret L)

def M.blk (id : Nat) (x : M Res) (k : List V → M Res) : M Res := x.bind fun r =>
  match r with
  | .nrm L => k L
  | .ex i L => if i = id then k L else M.pure (.ex i L)
  | .ret L => M.pure (.ret L)

def iterN (body : List V → M Res) : Nat → List V → M Res
  | 0, _ => M.fail
  | n + 1, L => M.join (body L) (iterN body n)

open Classical in
/-- body again and again till it leaves. -/
noncomputable def M.iter (body : List V → M Res) (L : List V) : M Res := fun H =>
  if h : ∃ n, (iterN body n L H).isSome = true then iterN body (Classical.choose h) L H else none

/-- A result variable: a slot, or the place that a slot names. -/
inductive RV where
  | tmp (t : Nat)
  | cell (t : Nat) (n : Option Nat)

def results (A : Fr) : List RV → M (List V)
  | [] => M.pure []
  | .tmp t :: rs => (M.lift (A.get t)).bind fun v => (results A rs).bind fun vs => M.pure (v :: vs)
  | .cell t n :: rs => (M.lift (A.get t)).bind fun a => (mload n a).bind fun v => (results A rs).bind fun vs => M.pure (v :: vs)

def cxGet : List (Nat × List Nat) → Nat → Option (List Nat)
  | [], _ => none
  | (i, J) :: cx, id => if i = id then some J else cxGet cx id

noncomputable def exec (G : Sem') (rv : List RV) : C → List (Nat × List Nat) → List Nat → Fr → M Res
  | .done, _, J, A => (M.lift (getAll A J)).bind fun L => M.pure (.nrm L)
  | .bad, _, _, _ => M.fail
  | .ops l k, cx, J, A => (runOps G l A).bind fun A' => exec G rv k cx J A'
  | .draw l un k, cx, J, A => (runDraw G un 0 [] [] l A).bind fun A' => exec G rv k cx J A'
  | .cond x a b, cx, J, A => match x.ev A with | some c => M.ite c (exec G rv a cx J A) (exec G rv b cx J A) | none => M.fail
  | .condJ x a b J' W k, cx, J, A => match x.ev A with
    | some c => M.join (M.ite c (exec G rv a cx J' A) (exec G rv b cx J' A)) fun L => exec G rv k cx J (A.join J' W L)
    | none => M.fail
  | .blk id a J' W k, cx, J, A => M.blk id (exec G rv a ((id, J') :: cx) J' A) fun L => exec G rv k cx J (A.join J' W L)
  | .loop a K W, cx, _, A => (M.lift (getAll A K)).bind fun L => M.iter (fun L => exec G rv a cx K (A.join K W L)) L
  | .exit id, cx, _, A => match cxGet cx id with | some J => (M.lift (getAll A J)).bind fun L => M.pure (.ex id L) | none => M.fail
  | .ret, _, _, A => (results A rv).bind fun L => M.pure (.ret L)

/-- A function: how many slots it has, how many parameters, its results, its code. -/
structure Fn' where
  ntmps : Nat
  rv : List RV
  body : C

/-- sync.Once's Do: its word; its lock's; the function, if the word is 0: as no other goroutine is there. -/
def onceFn : Fn' where
  ntmps := 2
  rv := []
  body := .ops [⟨some 12, none, .mv (.s 1)⟩, ⟨some 2, none, .load none (.s 0)⟩, ⟨some 3, none, .bin .eql (.s 2) (.c (.int .u32 0))⟩]
    (.cond (.s 3)
      (.ops [⟨some 4, none, .faddr 1 (.s 0)⟩, ⟨some 5, none, .load none (.s 4)⟩, ⟨some 6, none, .bin .eql (.s 5) (.c (.int .i32 0))⟩]
        (.cond (.s 6)
          (.ops [⟨none, none, .store 1 (.s 4) (.c (.int .i32 1))⟩, ⟨none, none, .callv (.s 1) []⟩, ⟨some 7, none, .load none (.s 4)⟩, ⟨some 8, none, .bin .eql (.s 7) (.c (.int .i32 1))⟩,
              ⟨some 9, none, .load none (.s 0)⟩, ⟨some 10, none, .bin .eql (.s 9) (.c (.int .u32 0))⟩]
            (.cond (.s 8)
              (.cond (.s 10)
                (.ops [⟨none, none, .store 1 (.s 0) (.c (.int .u32 1))⟩, ⟨none, none, .store 1 (.s 4) (.c (.int .i32 0))⟩] .ret)
                .bad)
              .bad))
          .bad))
      .ret)

def params : Nat → List V → Fr
  | _, [] => []
  | i, v :: vs => (i, v) :: params (i + 1) vs

def tupled : List V → V
  | [v] => v
  | vs => .tup vs

/-- What a function answers, where its body ends. -/
noncomputable def Fn'.run (G : Sem') (f : Fn') (args : List V) : M V :=
  (exec G f.rv f.body [] [] (params 0 args)).bind fun r =>
    match r with
    | .ret L => M.pure (tupled L)
    | _ => M.fail

/-- The functions, so many calls deep. -/
noncomputable def deep (T : FuncId → Option Fn') : Nat → Sem'
  | 0 => fun _ _ => M.fail
  | n + 1 => fun f args => match T f with | some ir => if args.length ≤ ir.ntmps then ir.run (deep T n) args else M.fail | none => M.fail

open Classical in
/-- The functions. -/
noncomputable def sem (T : FuncId → Option Fn') : Sem' := fun f args H =>
  if h : ∃ n, (deep T n f args H).isSome = true then deep T (Classical.choose h) f args H else none

end Go.Ax
