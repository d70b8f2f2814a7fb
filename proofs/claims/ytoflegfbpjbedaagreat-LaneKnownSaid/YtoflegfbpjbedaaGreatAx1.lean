/-
  Ax, part 1: abstract values, the abstract heap, the abstract machine that runs a function's code step by step. Plain definitions; nothing of the model's run is used here but its types.
-/
import Derived.WalkKit
import Derived.WalkSpells
import Derived.WalkLawsBesides
namespace Go.Ax

/-- What a slice may grow to: 'fix c': c elements; 'opn e': what is not known, of elements of e cells. -/
inductive Cap where
  | fix (c : Nat)
  | opn (e : Nat)
  deriving Inhabited

/-- An abstract value: what a slot or a cell of memory holds. 'ptr', 'sl' name a block of the abstract heap; 'rs', 'rp' are slices and pointers into memory that nobody writes, with what it holds. -/
inductive V where
  | bool (b : Bool)
  | int (k : IntKind) (n : Int)
  | str (s : ByteArray)
  | nilp
  | nils
  | lit (x : Value)
  | ptr (id off : Nat)
  | sl (id off len : Nat) (cap : Cap)
  | rs (cells : List V) (len : Nat)
  | rp (cells : List V) (off : Nat)
  | fn (f : FuncId) (caps : List V)
  | agg (cells : List V)
  | tup (vs : List V)
  | any
  deriving Inhabited

/-- What a slot holds that no operation has filled. -/
def V.undef : V := .tup []

/-- Does it take one cell? -/
def V.one : V → Bool
  | .agg _ | .tup _ => false
  | .lit x => x.oneCell'
  | _ => true

def V.cells : V → List V
  | .agg cs => cs
  | v => [v]

/-- May it lie in memory? -/
def V.okc : V → Bool
  | .tup _ => false
  | .lit x => x.oneCell'
  | _ => true

/-- A constant of the program as an abstract value. -/
def V.ofValue : Value → Option V
  | .bool b => some (.bool b)
  | .int k n => some (.int k n)
  | .string s => some (.str s)
  | .pointer none => some .nilp
  | .slice none 0 0 => some .nils
  | .float k b => some (.lit (.float k b))
  | .map none => some (.lit (.map none))
  | .nilFunc => some (.lit .nilFunc)
  | .nilIface => some (.lit .nilIface)
  | _ => none

def V.ofCells : List Value → Option (List V)
  | [] => some []
  | x :: xs => (V.ofValue x).bind fun v => (V.ofCells xs).map (v :: ·)

/-- A constant that may be a struct or an array. -/
def V.ofConst : Value → Option V
  | .agg cs => (V.ofCells cs.toList).map .agg
  | x => V.ofValue x

/-- A block of the abstract heap; 'opn = some e': behind its cells (elements of e cells each) the concrete block may have room that nobody else sees. -/
structure Blk where
  ty : TypeId
  cells : List V
  opn : Option Nat

structure Heap where
  get : Nat → Option Blk
  next : Nat

def Heap.set (H : Heap) (id : Nat) (b : Option Blk) : Heap := { H with get := fun i => if i = id then b else H.get i }
def Heap.new (H : Heap) (b : Blk) : Heap := { get := fun i => if i = H.next then some b else H.get i, next := H.next + 1 }

abbrev M (α : Type) : Type := Heap → Option (α × Heap)

namespace M
def pure {α : Type} (a : α) : M α := fun H => some (a, H)
def fail {α : Type} : M α := fun _ => none
def bind {α β : Type} (x : M α) (f : α → M β) : M β := fun H => (x H).bind fun r => f r.1 r.2
def lift {α : Type} (o : Option α) : M α := fun H => o.map fun a => (a, H)
def getH : M Heap := fun H => some (H, H)
def ite {α : Type} (c : V) (x y : M α) : M α := match c with
  | .bool b => if b then x else y
  | _ => fail
end M

/-- xs with ys written over it from place o on. -/
def splice (xs : List V) (o : Nat) (ys : List V) : List V := xs.take o ++ ys ++ xs.drop (o + ys.length)

def ldc (n : Option Nat) (cells : List V) (off : Nat) : Option V :=
  match n with
  | none => cells[off]?
  | some n => if off + n ≤ cells.length then some (.agg ((cells.drop off).take n)) else none

/-! What each operation answers. -/

def intBin (op : BinOp) (k : IntKind) (a b : Int) : Option V :=
  match op with
  | .add => some (.int k (k.wrap (a + b)))
  | .sub => some (.int k (k.wrap (a - b)))
  | .mul => some (.int k (k.wrap (a * b)))
  | .quo => if b = 0 then none else some (.int k (k.wrap (a.tdiv b)))
  | .rem => if b = 0 then none else some (.int k (a.tmod b))
  | .and => some (.int k (Go.bits .and k a b))
  | .or => some (.int k (Go.bits .or k a b))
  | .xor => some (.int k (Go.bits .xor k a b))
  | .andNot => some (.int k (Go.bits .andNot k a b))
  | .eql => some (.bool (a == b))
  | .neq => some (.bool (a != b))
  | .lss => some (.bool (decide (a < b)))
  | .leq => some (.bool (decide (a ≤ b)))
  | .gtr => some (.bool (decide (a > b)))
  | .geq => some (.bool (decide (a ≥ b)))
  | _ => none

def strBin (op : BinOp) (a b : ByteArray) : Option V :=
  match op with
  | .eql => some (.bool (a.toList == b.toList))
  | .neq => some (.bool (!(a.toList == b.toList)))
  | .add => if a.size + b.size ≤ 9223372036854775807 then some (.str (a ++ b)) else none
  | _ => none

/-- Of two floating-point numbers, by their bits. -/
def fltBin (op : BinOp) (k : FloatKind) (a b : Nat) : Option V :=
  match op with
  | .add => (k.format.add a b).map fun r => .lit (.float k r)
  | .sub => (k.format.sub a b).map fun r => .lit (.float k r)
  | .mul => (k.format.mul a b).map fun r => .lit (.float k r)
  | .quo => (k.format.div a b).map fun r => .lit (.float k r)
  | .eql => some (.bool (k.format.order a b == some .eq))
  | .neq => some (.bool (k.format.order a b != some .eq))
  | .lss => some (.bool (k.format.order a b == some .lt))
  | .leq => some (.bool (k.format.order a b == some .lt || k.format.order a b == some .eq))
  | .gtr => some (.bool (k.format.order a b == some .gt))
  | .geq => some (.bool (k.format.order a b == some .gt || k.format.order a b == some .eq))
  | _ => none

def bin (op : BinOp) (x y : V) : Option V :=
  match x, y with
  | .int k a, .int k' b =>
    match op with
    | .shl => if b < 0 then none else some (.int k (k.wrap (a * 2 ^ min b.toNat k.bits)))
    | .shr => if b < 0 then none else some (.int k (a.fdiv (2 ^ min b.toNat k.bits)))
    | op => if k = k' then intBin op k a b else none
  | .str a, .str b => strBin op a b
  | .lit (.float k a), .lit (.float k' b) => if k = k' then fltBin op k a b else none
  | _, _ => none

/-- '==' of two arrays of numbers. -/
def eqInts : List V → List V → Option Bool
  | [], [] => some true
  | .int k a :: xs, .int k' b :: ys => if k = k' then (eqInts xs ys).map fun r => a == b && r else none
  | _, _ => none

/-- What is held against each other where not numbers or strings. -/
inductive EK where
  | bool
  | ptr
  | sl
  | arr (n : Nat)

def eqv (k : EK) (x y : V) : Option Bool :=
  match k, x, y with
  | .bool, .bool a, .bool b => some (a == b)
  | .ptr, .nilp, .nilp => some true
  | .ptr, .ptr _ _, .nilp => some false
  | .ptr, .rp _ _, .nilp => some false
  | .sl, .nils, .nils => some true
  | .sl, .sl _ _ _ _, .nils => some false
  | .sl, .rs _ _, .nils => some false
  | .arr n, .agg xs, .agg ys => if xs.length = n ∧ ys.length = n then eqInts xs ys else none
  | _, _, _ => none

def eqr (k : EK) (neg : Bool) (x y : V) : Option V := (eqv k x y).map fun b => .bool (if neg then !b else b)

def un (op : UnOp) (x : V) : Option V :=
  match op, x with
  | .not, .bool b => some (.bool !b)
  | .neg, .int k n => some (.int k (k.wrap (0 - n)))
  | .xor, .int k n => some (.int k (Go.bits .xor k (if k.signed then -1 else k.max) n))
  | _, _ => none

def cint (k : IntKind) : V → Option V
  | .int _ n => some (.int k (k.wrap n))
  | .lit (.float s b) => match (s.decode b).toInt .zero with
    | some n => if k.min ≤ n ∧ n ≤ k.max then some (.int k n) else none
    | none => none
  | _ => none

/-- Operations on one value that look at no memory: to a floating-point number; a floating-point number's bits, and back; a slice's beginning as an array. -/
inductive U1 where
  | itof (k : FloatKind)
  | fbits
  | ffrom
  | s2a (n : Nat)

def op1 : U1 → V → Option V
  | .itof k, .int _ n => some (.lit (.float k (k.nearest n)))
  | .fbits, .lit (.float .f64 b) => some (.int .u64 b)
  | .ffrom, .int .u64 n => some (.lit (.float .f64 n.toNat))
  | .s2a n, .sl id off len _ => if n ≤ len ∧ 0 < n then some (.ptr id off) else none
  | .s2a n, .rs cells len => if n ≤ len ∧ 0 < n then some (.rp cells 0) else none
  | _, _ => none

def pick (c a b : V) : Option V :=
  match c with
  | .bool t => some (if t then a else b)
  | _ => none

def nilck : V → Option V
  | .ptr id off => some (.ptr id off)
  | .rp cells off => some (.rp cells off)
  | .fn f caps => some (.fn f caps)
  | .sl id off len cap => some (.sl id off len cap)
  | _ => none

def faddr (o : Nat) : V → Option V
  | .ptr id off => some (.ptr id (off + o))
  | .rp cells off => some (.rp cells (off + o))
  | _ => none

/-- '&x[i]': 'alen': x is an array's address, of so many elements. -/
def iaddr (alen : Option Nat) (esz : Nat) (x i : V) : Option V :=
  match i with
  | .int _ i =>
    match alen, x with
    | none, .sl id off len _ => if 0 ≤ i ∧ i < len then some (.ptr id (off + i.toNat * esz)) else none
    | none, .rs cells len => if 0 ≤ i ∧ i < len then some (.rp cells (i.toNat * esz)) else none
    | some n, .ptr id off => if 0 ≤ i ∧ i < n then some (.ptr id (off + i.toNat * esz)) else none
    | some n, .rp cells off => if 0 ≤ i ∧ i < n then some (.rp cells (off + i.toNat * esz)) else none
    | _, _ => none
  | _ => none

/-- An element of an array by value. -/
def index (len esz : Nat) (n : Option Nat) (x i : V) : Option V :=
  match i, x with
  | .int _ i, .agg cs => if 0 ≤ i ∧ i < len then ldc n cs (i.toNat * esz) else none
  | _, _ => none

/-- A byte of a string. -/
def sindex (x i : V) : Option V :=
  match i, x with
  | .int _ i, .str s => if 0 ≤ i then (s[i.toNat]?).map fun b => .int .u8 (b.toNat : Int) else none
  | _, _ => none

def field (off : Nat) (n : Option Nat) : V → Option V
  | .agg cs => ldc n cs off
  | _ => none

def ext (i : Nat) : V → Option V
  | .tup vs => vs[i]?
  | _ => none

def slen : V → Option V
  | .str s => some (.int .i64 (s.size : Int))
  | _ => none

def vlen : V → Option V
  | .nils => some (.int .i64 0)
  | .sl _ _ len _ => some (.int .i64 (len : Int))
  | .rs _ len => some (.int .i64 (len : Int))
  | _ => none

/-- The values of a struct or an array: 'parts' over 'cells'. -/
def fill (cells : List V) : List (Nat × Nat × V) → Option (List V)
  | [] => some cells
  | (off, size, v) :: rest => if v.cells.length = size ∧ off + size ≤ cells.length ∧ v.okc = true then fill (splice cells off v.cells) rest else none

def build (zero : List V) (parts : List (Nat × Nat × V)) : Option V := (fill zero parts).map .agg

/-- n times zero, one behind the other. -/
def zeros (zero : List V) : Nat → List V
  | 0 => []
  | n + 1 => zero ++ zeros zero n

def mload (n : Option Nat) (p : V) : M V := fun H =>
  match p with
  | .ptr id off => (H.get id).bind fun b => (ldc n b.cells off).map fun v => (v, H)
  | .rp cells off => (ldc n cells off).map fun v => (v, H)
  | _ => none

def mstore (size : Nat) (p x : V) : M V := fun H =>
  match p with
  | .ptr id off => (H.get id).bind fun b =>
    if x.cells.length = size ∧ off + size ≤ b.cells.length ∧ x.okc = true then some (.undef, H.set id (some { b with cells := splice b.cells off x.cells })) else none
  | _ => none

def mbox (ty : TypeId) (x : V) : M V := fun H => if x.okc = true then some (.ptr H.next 0, H.new ⟨ty, x.cells, none⟩) else none

def mslit (ty : TypeId) (len : Nat) (zero : List V) (parts : List (Nat × Nat × V)) : M V := fun H =>
  (fill (zeros zero len) parts).map fun cs => (.sl H.next 0 len (.fix len), H.new ⟨ty, cs, none⟩)

/-- The cells of a slice of elements of size esz (of a string: its bytes). -/
def rcells (esz : Nat) (H : Heap) : V → Option (List V × Nat)
  | .nils => some ([], 0)
  | .sl id off len _ => (H.get id).bind fun b => if off + len * esz ≤ b.cells.length then some ((b.cells.drop off).take (len * esz), len) else none
  | .rs cells len => if len * esz ≤ cells.length then some (cells.take (len * esz), len) else none
  | _ => none

def strCells (s : ByteArray) : List V := s.data.toList.map fun b => .int .u8 (b.toNat : Int)

/-- What may be appended: a slice, or a string's bytes. -/
def acells (esz : Nat) (H : Heap) : V → Option (List V × Nat)
  | .str s => if esz = 1 then some (strCells s, s.size) else none
  | v => rcells esz H v

/-- append: 'q': what is appended: its cells, how many elements they are. -/
def mappendq (ty esz bytes : Nat) (q : List V × Nat) (x : V) : M V := fun H =>
    match x with
    | .nils => if q.2 = 0 then some (.nils, H) else if q.2 * bytes ≤ 140737488355328 ∧ q.2 ≤ maxLen then some (.sl H.next 0 q.2 (.opn esz), H.new ⟨ty, q.1, some esz⟩) else none
    | .sl id off len cap => (H.get id).bind fun b =>
      if off + len * esz ≤ b.cells.length ∧ b.ty = ty then
        match cap with
        | .fix c =>
          if len + q.2 ≤ c then
            if off + (len + q.2) * esz ≤ b.cells.length then some (.sl id off (len + q.2) (.fix c), H.set id (some { b with cells := splice b.cells (off + len * esz) q.1 })) else none
          else if (len + q.2) * bytes ≤ 140737488355328 ∧ len + q.2 ≤ maxLen then
            some (.sl H.next 0 (len + q.2) (.opn esz), H.new ⟨ty, (b.cells.drop off).take (len * esz) ++ q.1, some esz⟩)
          else none
        | .opn e =>
          if e = esz ∧ off = 0 ∧ b.opn = some esz ∧ b.cells.length = len * esz then
            if q.2 = 0 then some (.sl id off len (.opn e), H)
            else if (len + q.2) * bytes ≤ 140737488355328 ∧ len + q.2 ≤ maxLen then
              some (.sl H.next 0 (len + q.2) (.opn esz), (H.set id none).new ⟨ty, b.cells ++ q.1, some esz⟩)
            else none
          else if e = esz ∧ q.2 = 0 then some (.sl id off len (.opn e), H)
          else if e = esz ∧ b.opn = some esz ∧ off + (len + q.2) * esz ≤ b.cells.length then
            some (.sl id off (len + q.2) (.opn e), H.set id (some { b with cells := splice b.cells (off + len * esz) q.1 }))
          else none
      else none
    | .rs cells len => if q.2 = 0 then some (.rs cells len, H) else none
    | _ => none

def mappend (ty esz bytes : Nat) (x y : V) : M V := fun H => (acells esz H y).bind fun q => mappendq ty esz bytes q x H

/-- append(x, make([]T, n)..): n times zero. -/
def mappendz (ty bytes : Nat) (zero : List V) (x n : V) : M V := fun H =>
  match n with
  | .int _ l =>
    if 0 ≤ IntKind.i64.wrap l ∧ IntKind.i64.wrap l * bytes ≤ 281474976710656 then mappendq ty zero.length bytes (zeros zero (IntKind.i64.wrap l).toNat, (IntKind.i64.wrap l).toNat) x H else none
  | _ => none

def mcopy (esz : Nat) (d s : V) : M V := fun H =>
  (acells esz H s).bind fun q =>
    match d with
    | .nils => some (.int .i64 0, H)
    | .sl id off len _ => (H.get id).bind fun b =>
      if off + len * esz ≤ b.cells.length then
        some (.int .i64 ((min q.2 len : Nat) : Int), H.set id (some { b with cells := splice b.cells off (q.1.take (min q.2 len * esz)) }))
      else none
    | _ => none

def vbytes : List V → Option (List UInt8)
  | [] => some []
  | .int .u8 n :: xs => (vbytes xs).map (UInt8.ofNat n.toNat :: ·)
  | _ => none

/-- string(b). -/
def mtostr (x : V) : M V := fun H => (rcells 1 H x).bind fun q => (vbytes q.1).map fun l => (.str ⟨l.toArray⟩, H)

/-- []byte(s). -/
def mtobytes (ty : TypeId) (x : V) : M V := fun H =>
  match x with
  | .str s => if s.size ≤ maxLen then some (.sl H.next 0 s.size (.opn 1), H.new ⟨ty, strCells s, some 1⟩) else none
  | _ => none

/-- []byte(x) where x is a []byte already (or a string): the same. -/
def mremark (ty : TypeId) (x : V) : M V := fun H =>
  match x with
  | .str s => mtobytes ty (.str s) H
  | .sl id off len cap => (H.get id).bind fun _ => if len = 0 then none else some (.sl id off len cap, H)
  | _ => none

def mmkslice (ty bytes : Nat) (zero : List V) (len cap : V) : M V := fun H =>
  match len, cap with
  | .int .i64 l, .int .i64 c =>
    if 0 ≤ l ∧ l ≤ c ∧ c * bytes ≤ 281474976710656 ∧ c ≤ 281474976710656 then
      some (.sl H.next 0 l.toNat (.fix c.toNat), H.new ⟨ty, zeros zero c.toNat, none⟩)
    else none
  | _, _ => none

/-- bytealg.MakeNoZero: n bytes of which nothing is known. -/
def mmknz (ty : TypeId) (n : V) : M V := fun H =>
  match n with
  | .int .i64 n => if 0 ≤ n ∧ n ≤ 281474976710656 then some (.sl H.next 0 n.toNat (.opn 1), H.new ⟨ty, List.replicate n.toNat .any, some 1⟩) else none
  | _ => none

/-- The bounds of x[lo:hi:mx]. -/
def vint : V → Option Int
  | .int _ n => some n
  | _ => none

def optInt : Option V → Option (Option Int)
  | none => some none
  | some v => (vint v).map some

/-- What is cut: an array behind a pointer, a slice, a string. -/
inductive CK where
  | arr (n : Nat)
  | sl
  | str

/-- x[lo:hi:mx]. -/
def vslice (ck : CK) (esz : Nat) (x : V) (lo hi mx : Option V) : Option V :=
  (optInt lo).bind fun lo => (optInt hi).bind fun hi => (optInt mx).bind fun mx =>
  let l := lo.getD 0
  if mx.isSome = true ∧ hi.isNone = true then none else
  match ck, x with
  | .str, .str s =>
    let h := hi.getD s.size
    if mx = none ∧ 0 ≤ l ∧ l ≤ h ∧ h ≤ s.size then some (.str (s.extract l.toNat h.toNat)) else none
  | .sl, .nils =>
    let h := hi.getD 0
    let m := mx.getD 0
    if l = 0 ∧ h = 0 ∧ m = 0 then some .nils else none
  | .sl, .rs cells len =>
    let h := hi.getD len
    if mx = none ∧ 0 ≤ l ∧ l ≤ h ∧ h ≤ len then some (.rs (cells.drop (l.toNat * esz)) (h.toNat - l.toNat)) else none
  | .sl, .sl id off len (.fix c) =>
    let h := hi.getD len
    let m := mx.getD c
    if 0 ≤ l ∧ l ≤ h ∧ h ≤ m ∧ m ≤ c then some (.sl id (off + l.toNat * esz) (h.toNat - l.toNat) (.fix (m.toNat - l.toNat))) else none
  | .sl, .sl id off len (.opn e) =>
    let h := hi.getD len
    match mx with
    | none => if e = esz ∧ 0 ≤ l ∧ l ≤ h ∧ h ≤ len then some (.sl id (off + l.toNat * esz) (h.toNat - l.toNat) (.opn e)) else none
    | some m => if 0 ≤ l ∧ l ≤ h ∧ h ≤ m ∧ m ≤ len then some (.sl id (off + l.toNat * esz) (h.toNat - l.toNat) (.fix (m.toNat - l.toNat))) else none
  | .arr n, .ptr id off =>
    let h := hi.getD n
    if mx = none ∧ 0 ≤ l ∧ l ≤ h ∧ h ≤ n then some (.sl id (off + l.toNat * esz) (h.toNat - l.toNat) (.fix (n - l.toNat))) else none
  | _, _ => none

/-- x[lo:hi] where hi may lie behind x's end: as far as what is known of the block. -/
def mslice2 (esz : Nat) (x lo hi : V) : M V := fun H =>
  match x, lo, hi with
  | .sl id off len (.opn e), .int _ l, .int _ h => (H.get id).bind fun b =>
    if e = esz ∧ b.opn = some esz ∧ 0 ≤ l ∧ l ≤ h ∧ off + h.toNat * esz ≤ b.cells.length then some (.sl id (off + l.toNat * esz) (h.toNat - l.toNat) (.opn e), H) else none
  | _, _, _ => none

/-- clear(x). -/
def mclear (zero : List V) (x : V) : M V := fun H =>
  match x with
  | .sl id off len _ => if len = 0 then some (.undef, H) else (H.get id).bind fun b =>
    if off + len * zero.length ≤ b.cells.length then some (.undef, H.set id (some { b with cells := splice b.cells off (zeros zero len) })) else none
  | _ => none

def min2 (mx : Bool) : V → V → Option V
  | .int k a, .int _ b => some (.int k (if mx then (if a < b then b else a) else (if b < a then b else a)))
  | _, _ => none

def minmax (mx : Bool) : V → List V → Option V
  | v, [] => some v
  | v, x :: xs => (min2 mx v x).bind fun v => minmax mx v xs

/-- What is loaded at v was not changed from one heap to the other. -/
def V.pid : V → Option Nat
  | .ptr id _ => some id
  | .sl id _ _ _ => some id
  | _ => none

open Classical in
noncomputable def M.unch (v : V) (h h' : Heap) : M Unit := fun H => if ∀ id, v.pid = some id → h'.get id = h.get id then some ((), H) else none

end Go.Ax
