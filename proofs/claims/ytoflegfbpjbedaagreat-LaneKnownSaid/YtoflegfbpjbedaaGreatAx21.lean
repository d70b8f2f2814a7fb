/-
  Ax, part 21: the abstract machine once more, over a heap that can be computed with: for closed calls.
-/
import Derived.Test.YtoflegfbpjbedaaGreatAx20
namespace Go.Ax.Cc

/-- Blocks by number. -/
inductive Tr where
  | e
  | n (v : Option Blk) (l r : Tr)

def Tr.get : Tr → Nat → Option Blk
  | .e, _ => none
  | .n v l r, k => if k = 0 then v else if (k - 1) % 2 = 0 then l.get ((k - 1) / 2) else r.get ((k - 1) / 2)

def Tr.val : Tr → Option Blk
  | .e => none
  | .n v _ _ => v
def Tr.left : Tr → Tr
  | .e => .e
  | .n _ l _ => l
def Tr.right : Tr → Tr
  | .e => .e
  | .n _ _ r => r

def Tr.put : Nat → Tr → Nat → Option Blk → Tr
  | 0, t, _, _ => t
  | f + 1, t, k, b => if k = 0 then .n b t.left t.right else if (k - 1) % 2 = 0 then .n t.val (Tr.put f t.left ((k - 1) / 2) b) t.right else .n t.val t.left (Tr.put f t.right ((k - 1) / 2) b)

theorem Tr.get_node (t : Tr) (k : Nat) : t.get k = if k = 0 then t.val else if (k - 1) % 2 = 0 then t.left.get ((k - 1) / 2) else t.right.get ((k - 1) / 2) := by
  cases t with
  | e => simp [Tr.get, Tr.val, Tr.left, Tr.right]
  | n v l r => simp [Tr.get, Tr.val, Tr.left, Tr.right]

theorem Tr.get_put : ∀ (f : Nat) (t : Tr) (k : Nat) (b : Option Blk), k < f → ∀ j, (Tr.put f t k b).get j = if j = k then b else t.get j := by
  intro f
  induction f with
  | zero => intro t k b h; omega
  | succ f ih =>
    intro t k b h j
    simp only [Tr.put]
    by_cases hk : k = 0
    · subst hk
      rw [if_pos rfl]
      simp only [Tr.get]
      by_cases hj : j = 0
      · rw [if_pos hj, if_pos hj]
      · rw [if_neg hj, if_neg hj, Tr.get_node t j, if_neg hj]
    · rw [if_neg hk]
      by_cases hp : (k - 1) % 2 = 0
      · rw [if_pos hp]
        simp only [Tr.get]
        rw [Tr.get_node t j]
        by_cases hj : j = 0
        · rw [if_pos hj, if_pos hj, if_neg (by omega)]
        · rw [if_neg hj, if_neg hj]
          by_cases hq : (j - 1) % 2 = 0
          · rw [if_pos hq, if_pos hq, ih _ _ _ (by omega)]
            by_cases e : j = k
            · subst e; rw [if_pos rfl, if_pos rfl]
            · rw [if_neg (by omega), if_neg e]
          · rw [if_neg hq, if_neg hq, if_neg (by rintro rfl; exact hq hp)]
      · rw [if_neg hp]
        simp only [Tr.get]
        rw [Tr.get_node t j]
        by_cases hj : j = 0
        · rw [if_pos hj, if_pos hj, if_neg (by omega)]
        · rw [if_neg hj, if_neg hj]
          by_cases hq : (j - 1) % 2 = 0
          · rw [if_pos hq, if_pos hq, if_neg (by rintro rfl; exact hp hq)]
          · rw [if_neg hq, if_neg hq, ih _ _ _ (by omega)]
            by_cases e : j = k
            · subst e; rw [if_pos rfl, if_pos rfl]
            · rw [if_neg (by omega), if_neg e]

structure Heap where
  t : Tr
  next : Nat

def Heap.get (H : Heap) (id : Nat) : Option Blk := H.t.get id
def Heap.set (H : Heap) (id : Nat) (b : Option Blk) : Heap := { H with t := Tr.put (id + 1) H.t id b }
def Heap.new (H : Heap) (b : Blk) : Heap := { t := Tr.put (H.next + 1) H.t H.next (some b), next := H.next + 1 }

/-- What it stands for. -/
def Heap.abs (H : Heap) : Ax.Heap := ⟨H.get, H.next⟩

theorem abs_get (H : Heap) (id : Nat) : H.abs.get id = H.get id := rfl
theorem abs_next (H : Heap) : H.abs.next = H.next := rfl
theorem abs_set (H : Heap) (id : Nat) (b : Option Blk) : (H.set id b).abs = H.abs.set id b := by
  simp only [Heap.abs, Heap.set, Ax.Heap.set, Ax.Heap.mk.injEq, and_true]
  funext i
  exact Tr.get_put _ _ _ _ (Nat.lt_succ_self _) i
theorem abs_new (H : Heap) (b : Blk) : (H.new b).abs = H.abs.new b := by
  simp only [Heap.abs, Heap.new, Ax.Heap.new, Ax.Heap.mk.injEq, and_true]
  funext i
  exact Tr.get_put _ _ _ _ (Nat.lt_succ_self _) i

abbrev M (α : Type) : Type := Heap → Option (α × Heap)
abbrev Sem' : Type := FuncId → List V → M V

/-- The number first, then the rest. -/
def forceN {α : Type} (n : Nat) (k : Nat → α) : α := Nat.rec (k 0) (fun m _ => k (Nat.succ m)) n

theorem forceN_eq {α : Type} (n : Nat) (k : Nat → α) : forceN n k = k n := by cases n <;> rfl

def forceV {α : Type} (v : V) (k : V → α) : α :=
  match v with
  | .int kk (.ofNat n) => forceN n fun n => k (.int kk (.ofNat n))
  | .int kk (.negSucc n) => forceN n fun n => k (.int kk (.negSucc n))
  | .lit (.float kk b) => forceN b fun b => k (.lit (.float kk b))
  | .bool true => k (.bool true)
  | .bool false => k (.bool false)
  | v => k v

theorem forceV_eq {α : Type} (v : V) (k : V → α) : forceV v k = k v := by
  unfold forceV
  split <;> first | rfl | exact forceN_eq ..

namespace M
def pure {α : Type} (a : α) : M α := fun H => some (a, H)
def fail {α : Type} : M α := fun _ => none
def bind {α β : Type} (x : M α) (f : α → M β) : M β := fun H => match x H with | some r => f r.1 r.2 | none => none
def lift (o : Option V) : M V := fun H => match o with | some a => forceV a fun a => some (a, H) | none => none
def getH : M Heap := fun H => some (H, H)
def ite {α : Type} (c : V) (x y : M α) : M α := match c with
  | .bool b => if b then x else y
  | _ => fail
end M

def mload (n : Option Nat) (p : V) : M V := fun H =>
  match p with
  | .ptr id off => (H.get id).bind fun b => (ldc n b.cells off).map fun v => (v, H)
  | .rp cells off => (ldc n cells off).map fun v => (v, H)
  | _ => none

def mstore (size : Nat) (p x : V) : M V := fun H =>
  match p with
  | .ptr id off => (H.get id).bind fun b =>
    if x.cells.length = size ∧ off + size ≤ b.cells.length ∧ x.okc = true then some (.undef, H.set id (some { b with cells := splice b.cells off x.cells })) else none
  | _ => none

def mbox (ty : TypeId) (x : V) : M V := fun H => if x.okc = true then some (.ptr H.next 0, H.new ⟨ty, x.cells, none⟩) else none

def mslit (ty : TypeId) (len : Nat) (zero : List V) (parts : List (Nat × Nat × V)) : M V := fun H =>
  (fill (zeros zero len) parts).map fun cs => (.sl H.next 0 len (.fix len), H.new ⟨ty, cs, none⟩)

def rcells (esz : Nat) (H : Heap) : V → Option (List V × Nat)
  | .nils => some ([], 0)
  | .sl id off len _ => (H.get id).bind fun b => if off + len * esz ≤ b.cells.length then some ((b.cells.drop off).take (len * esz), len) else none
  | .rs cells len => if len * esz ≤ cells.length then some (cells.take (len * esz), len) else none
  | _ => none

def acells (esz : Nat) (H : Heap) : V → Option (List V × Nat)
  | .str s => if esz = 1 then some (strCells s, s.size) else none
  | v => rcells esz H v

/-- append: 'q': what is appended: its cells, how many elements they are. -/
def mappendq (ty esz bytes : Nat) (q : List V × Nat) (x : V) : M V := fun H =>
    match x with
    | .nils => if q.2 = 0 then some (.nils, H) else if q.2 * bytes ≤ 140737488355328 ∧ q.2 ≤ maxLen then some (.sl H.next 0 q.2 (.opn esz), H.new ⟨ty, q.1, some esz⟩) else none
    | .sl id off len cap => (H.get id).bind fun b =>
      if off + len * esz ≤ b.cells.length ∧ b.ty = ty then
        match cap with
        | .fix c =>
          if len + q.2 ≤ c then
            if off + (len + q.2) * esz ≤ b.cells.length then some (.sl id off (len + q.2) (.fix c), H.set id (some { b with cells := splice b.cells (off + len * esz) q.1 })) else none
          else if (len + q.2) * bytes ≤ 140737488355328 ∧ len + q.2 ≤ maxLen then
            some (.sl H.next 0 (len + q.2) (.opn esz), H.new ⟨ty, (b.cells.drop off).take (len * esz) ++ q.1, some esz⟩)
          else none
        | .opn e =>
          if e = esz ∧ off = 0 ∧ b.opn = some esz ∧ b.cells.length = len * esz then
            if q.2 = 0 then some (.sl id off len (.opn e), H)
            else if (len + q.2) * bytes ≤ 140737488355328 ∧ len + q.2 ≤ maxLen then
              some (.sl H.next 0 (len + q.2) (.opn esz), (H.set id none).new ⟨ty, b.cells ++ q.1, some esz⟩)
            else none
          else if e = esz ∧ q.2 = 0 then some (.sl id off len (.opn e), H)
          else if e = esz ∧ b.opn = some esz ∧ off + (len + q.2) * esz ≤ b.cells.length then
            some (.sl id off (len + q.2) (.opn e), H.set id (some { b with cells := splice b.cells (off + len * esz) q.1 }))
          else none
      else none
    | .rs cells len => if q.2 = 0 then some (.rs cells len, H) else none
    | _ => none

def mappend (ty esz bytes : Nat) (x y : V) : M V := fun H => (acells esz H y).bind fun q => mappendq ty esz bytes q x H

/-- append(x, make([]T, n)..): n times zero. -/
def mappendz (ty bytes : Nat) (zero : List V) (x n : V) : M V := fun H =>
  match n with
  | .int _ l =>
    if 0 ≤ IntKind.i64.wrap l ∧ IntKind.i64.wrap l * bytes ≤ 281474976710656 then mappendq ty zero.length bytes (zeros zero (IntKind.i64.wrap l).toNat, (IntKind.i64.wrap l).toNat) x H else none
  | _ => none

def mcopy (esz : Nat) (d s : V) : M V := fun H =>
  (acells esz H s).bind fun q =>
    match d with
    | .nils => some (.int .i64 0, H)
    | .sl id off len _ => (H.get id).bind fun b =>
      if off + len * esz ≤ b.cells.length then
        some (.int .i64 ((min q.2 len : Nat) : Int), H.set id (some { b with cells := splice b.cells off (q.1.take (min q.2 len * esz)) }))
      else none
    | _ => none

def mslice2 (esz : Nat) (x lo hi : V) : M V := fun H =>
  match x, lo, hi with
  | .sl id off len (.opn e), .int _ l, .int _ h => (H.get id).bind fun b =>
    if e = esz ∧ b.opn = some esz ∧ 0 ≤ l ∧ l ≤ h ∧ off + h.toNat * esz ≤ b.cells.length then some (.sl id (off + l.toNat * esz) (h.toNat - l.toNat) (.opn e), H) else none
  | _, _, _ => none

def mclear (zero : List V) (x : V) : M V := fun H =>
  match x with
  | .sl id off len _ => if len = 0 then some (.undef, H) else (H.get id).bind fun b =>
    if off + len * zero.length ≤ b.cells.length then some (.undef, H.set id (some { b with cells := splice b.cells off (zeros zero len) })) else none
  | _ => none

def mmknz (ty : TypeId) (n : V) : M V := fun H =>
  match n with
  | .int .i64 n => if 0 ≤ n ∧ n ≤ 281474976710656 then some (.sl H.next 0 n.toNat (.opn 1), H.new ⟨ty, List.replicate n.toNat .any, some 1⟩) else none
  | _ => none

def mtostr (x : V) : M V := fun H => (rcells 1 H x).bind fun q => (vbytes q.1).map fun l => (.str ⟨l.toArray⟩, H)

def mtobytes (ty : TypeId) (x : V) : M V := fun H =>
  match x with
  | .str s => if s.size ≤ maxLen then some (.sl H.next 0 s.size (.opn 1), H.new ⟨ty, strCells s, some 1⟩) else none
  | _ => none

def mremark (ty : TypeId) (x : V) : M V := fun H =>
  match x with
  | .str s => mtobytes ty (.str s) H
  | .sl id off len cap => (H.get id).bind fun _ => if len = 0 then none else some (.sl id off len cap, H)
  | _ => none

def mmkslice (ty bytes : Nat) (zero : List V) (len cap : V) : M V := fun H =>
  match len, cap with
  | .int .i64 l, .int .i64 c =>
    if 0 ≤ l ∧ l ≤ c ∧ c * bytes ≤ 281474976710656 ∧ c ≤ 281474976710656 then
      some (.sl H.next 0 l.toNat (.fix c.toNat), H.new ⟨ty, zeros zero c.toNat, none⟩)
    else none
  | _, _ => none

/-- Are two values alike? (No answer but 'yes' counts.) -/
def same1 : V → V → Bool
  | .bool a, .bool b => a == b
  | .int k a, .int k' b => decide (k = k') && decide (a = b)
  | .nilp, .nilp => true
  | .nils, .nils => true
  | .ptr a b, .ptr c d => decide (a = c) && decide (b = d)
  | .sl a b c (.fix d), .sl a' b' c' (.fix d') => decide (a = a') && decide (b = b') && decide (c = c') && decide (d = d')
  | .sl a b c (.opn d), .sl a' b' c' (.opn d') => decide (a = a') && decide (b = b') && decide (c = c') && decide (d = d')
  | _, _ => false

def sames : List V → List V → Bool
  | [], [] => true
  | v :: vs, u :: us => same1 v u && sames vs us
  | _, _ => false

def sameB : Option Blk → Option Blk → Bool
  | none, none => true
  | some a, some b => decide (a.ty = b.ty) && decide (a.opn = b.opn) && sames a.cells b.cells
  | _, _ => false

theorem same1_eq {a b : V} (h : same1 a b = true) : a = b := by
  unfold same1 at h
  split at h <;> simp_all

theorem sames_eq : ∀ {a b : List V}, sames a b = true → a = b := by
  intro a
  induction a with
  | nil => intro b h; cases b <;> simp_all [sames]
  | cons v a ih =>
    intro b h
    cases b with
    | nil => simp [sames] at h
    | cons u b =>
      simp only [sames, Bool.and_eq_true] at h
      rw [same1_eq h.1, ih h.2]

theorem sameB_eq {a b : Option Blk} (h : sameB a b = true) : a = b := by
  cases a with
  | none => cases b <;> simp_all [sameB]
  | some a =>
    cases b with
    | none => simp [sameB] at h
    | some b =>
      obtain ⟨t, c, o⟩ := a
      obtain ⟨t', c', o'⟩ := b
      simp only [sameB, Bool.and_eq_true, decide_eq_true_eq] at h
      obtain ⟨⟨rfl, rfl⟩, h⟩ := h
      rw [sames_eq h]

def M.unch (v : V) (h h' : Heap) : M Unit := fun H =>
  match v.pid with
  | none => some ((), H)
  | some id => if sameB (h'.get id) (h.get id) then some ((), H) else none

def callv (G : Sem') (x : V) (args : List V) : M V :=
  match x with
  | .fn f caps => G f (args ++ caps)
  | _ => M.fail

def with1 {α : Type} (A : Fr) (x : Arg) (k : V → M α) : M α := match x.ev A with | some v => k v | none => M.fail
def withs {α : Type} (A : Fr) (xs : List Arg) (k : List V → M α) : M α := match evs A xs with | some v => k v | none => M.fail

def I.run (G : Sem') (A : Fr) : I → M V
  | .mv x => with1 A x M.pure
  | .pick c a b => with1 A c fun c => with1 A a fun a => with1 A b fun b => M.lift (Ax.pick c a b)
  | .box ty x => with1 A x fun x => mbox ty x
  | .build zero parts => match evParts A parts with | some ps => M.lift (Ax.build zero ps) | none => M.fail
  | .slit ty l zero parts => match evParts A parts with | some ps => mslit ty l zero ps | none => M.fail
  | .load n x => with1 A x fun x => mload n x
  | .store size p x => with1 A p fun p => with1 A x fun x => mstore size p x
  | .nilck x => with1 A x fun x => M.lift (Ax.nilck x)
  | .bin op x y => with1 A x fun x => with1 A y fun y => M.lift (Ax.bin op x y)
  | .eq k neg x y => with1 A x fun x => with1 A y fun y => M.lift (eqr k neg x y)
  | .un op x => with1 A x fun x => M.lift (Ax.un op x)
  | .cint k x => with1 A x fun x => M.lift (Ax.cint k x)
  | .tostr x => with1 A x fun x => mtostr x
  | .tobytes ty x => with1 A x fun x => mtobytes ty x
  | .faddr o x => with1 A x fun x => M.lift (Ax.faddr o x)
  | .iaddr alen esz x i => with1 A x fun x => with1 A i fun i => M.lift (Ax.iaddr alen esz x i)
  | .index l esz n x i => with1 A x fun x => with1 A i fun i => M.lift (Ax.index l esz n x i)
  | .sindex x i => with1 A x fun x => with1 A i fun i => M.lift (Ax.sindex x i)
  | .field off n x => with1 A x fun x => M.lift (Ax.field off n x)
  | .ext i x => with1 A x fun x => M.lift (Ax.ext i x)
  | .len x => with1 A x fun x => M.lift (vlen x)
  | .slen x => with1 A x fun x => M.lift (Ax.slen x)
  | .slice ck esz x lo hi mx => with1 A x fun x =>
    match evOpt A lo, evOpt A hi, evOpt A mx with | some lo, some hi, some mx => M.lift (vslice ck esz x lo hi mx) | _, _, _ => M.fail
  | .append ty esz bytes x y => with1 A x fun x => with1 A y fun y => mappend ty esz bytes x y
  | .appendz ty bytes zero x y => with1 A x fun x => with1 A y fun y => mappendz ty bytes zero x y
  | .slice2 esz x lo hi => with1 A x fun x => with1 A lo fun lo => with1 A hi fun hi => mslice2 esz x lo hi
  | .clear zero x => with1 A x fun x => mclear zero x
  | .op1 k x => with1 A x fun x => M.lift (Ax.op1 k x)
  | .mknz ty x => with1 A x fun x => mmknz ty x
  | .remark ty x => with1 A x fun x => mremark ty x
  | .copy esz x y => with1 A x fun x => with1 A y fun y => mcopy esz x y
  | .mkslice ty bytes zero l c => with1 A l fun l => with1 A c fun c => mmkslice ty bytes zero l c
  | .minmax mx x xs => with1 A x fun x => withs A xs fun xs => M.lift (Ax.minmax mx x xs)
  | .call f args => withs A args fun args => G f args
  | .callv x args => with1 A x fun x => withs A args fun args => callv G x args
  | .mkfn f caps => withs A caps fun caps => M.pure (.fn f caps)

def guarded (A : Fr) (gd : Option (Nat × Bool)) (x : M V) : M V :=
  match gd with
  | none => x
  | some (s, want) => match A.get s with
    | some (.bool b) => if b = want then x else M.pure .undef
    | some (.tup []) => M.pure .undef
    | _ => M.fail

def AO.run (G : Sem') (A : Fr) (o : AO) : M V := guarded A o.gd (I.run G A o.ins)

def step {α : Type} (G : Sem') (o : AO) (A : Fr) (k : V → M α) : M α :=
  match o.gd, o.ins with
  | none, .mv x => (match x.ev A with | some v => k v | none => M.fail)
  | _, _ => M.bind (AO.run G A o) k

def opsK {α : Type} (G : Sem') : List AO → Fr → (Fr → M α) → M α
  | [], A, k => k A
  | o :: os, A, k => step G o A fun v => opsK G os (A.put o.dst v) k

def actsK {α : Type} (un : List (Nat × Nat)) (i : Nat) (a : V) : List (Nat × Heap × Heap) → M α → M α
  | [], k => k
  | (j, h, h') :: js, k => if un.contains (i, j) then M.bind (M.unch a h h') fun _ => actsK un i a js k else actsK un i a js k

def readsK {α : Type} (un : List (Nat × Nat)) (j : Nat) (h h' : Heap) : List (Nat × V) → M α → M α
  | [], k => k
  | (i, a) :: rs, k => if un.contains (i, j) then M.bind (M.unch a h h') fun _ => readsK un j h h' rs k else readsK un j h h' rs k

def with1' {α : Type} (A : Fr) (x : Arg) (k : V → M α) : M α := match x.ev A with | some v => k v | none => k .undef

def drawK {α : Type} (G : Sem') (un : List (Nat × Nat)) : Nat → List (Nat × V) → List (Nat × Heap × Heap) → List AO → Fr → (Fr → M α) → M α
  | _, _, _, [], A, k => k A
  | p, rs, js, o :: os, A, k =>
    match o.ins.kind with
    | .read x =>
      if un.any (fun q => q.1 == p) then
        with1' A x fun a => step G o A fun v => actsK un p a js (drawK G un (p + 1) ((p, a) :: rs) js os (A.put o.dst v) k)
      else step G o A fun v => drawK G un (p + 1) rs js os (A.put o.dst v) k
    | .act =>
      if un.any (fun q => q.2 == p) then
        M.bind M.getH fun h => step G o A fun v => M.bind M.getH fun h' => readsK un p h h' rs (drawK G un (p + 1) rs ((p, h, h') :: js) os (A.put o.dst v) k)
      else step G o A fun v => drawK G un (p + 1) rs js os (A.put o.dst v) k
    | _ => step G o A fun v => drawK G un (p + 1) rs js os (A.put o.dst v) k

def M.join (x : M Res) (k : List V → M Res) : M Res := M.bind x fun r =>
  match r with
  | .nrm L => k L
  | .ex id L => M.pure (.ex id L)
  | .ret L => M.pure (.ret L)

def M.blk (id : Nat) (x : M Res) (k : List V → M Res) : M Res := M.bind x fun r =>
  match r with
  | .nrm L => k L
  | .ex i L => if i = id then k L else M.pure (.ex i L)
  | .ret L => M.pure (.ret L)

def iterN (body : List V → M Res) : Nat → List V → M Res
  | 0, _ => M.fail
  | n + 1, L => M.join (body L) (iterN body n)

def M.iter (body : List V → M Res) (L : List V) : M Res := iterN body 1000000000 L

def resK {α : Type} (A : Fr) : List RV → (List V → M α) → M α
  | [], k => k []
  | .tmp t :: rs, k => match A.get t with | some v => resK A rs fun vs => k (v :: vs) | none => M.fail
  | .cell t n :: rs, k => match A.get t with | some a => M.bind (mload n a) fun v => resK A rs fun vs => k (v :: vs) | none => M.fail

def execK (G : Sem') (rv : List RV) : C → List (Nat × List Nat) → List Nat → Fr → M Res
  | .done, _, J, A => match getAll A J with | some L => M.pure (.nrm L) | none => M.fail
  | .bad, _, _, _ => M.fail
  | .ops l k, cx, J, A => opsK G l A fun A' => execK G rv k cx J A'
  | .draw l un k, cx, J, A => drawK G un 0 [] [] l A fun A' => execK G rv k cx J A'
  | .cond x a b, cx, J, A => match x.ev A with | some c => M.ite c (execK G rv a cx J A) (execK G rv b cx J A) | none => M.fail
  | .condJ x a b J' W k, cx, J, A => match x.ev A with
    | some c => M.join (M.ite c (execK G rv a cx J' A) (execK G rv b cx J' A)) fun L => execK G rv k cx J (A.join J' W L)
    | none => M.fail
  | .blk id a J' W k, cx, J, A => M.blk id (execK G rv a ((id, J') :: cx) J' A) fun L => execK G rv k cx J (A.join J' W L)
  | .loop a K W, cx, _, A => match getAll A K with | some L => M.iter (fun L => execK G rv a cx K (A.join K W L)) L | none => M.fail
  | .exit id, cx, _, A => match cxGet cx id with | some J => (match getAll A J with | some L => M.pure (.ex id L) | none => M.fail) | none => M.fail
  | .ret, _, _, A => resK A rv fun L => M.pure (.ret L)

def fin (x : M Res) : M V := M.bind x fun r =>
  match r with
  | .ret L => M.pure (tupled L)
  | _ => M.fail

/-! It does what the abstract machine does. -/

def Sim {α : Type} (x : M α) (y : Ax.M α) : Prop := ∀ c v c', x c = some (v, c') → y c.abs = some (v, c'.abs)

def Sims (g : Sem') (G : Ax.Sem') : Prop := ∀ f args, Sim (g f args) (G f args)

section
variable {α β : Type}

theorem sim_pure (v : α) : Sim (M.pure v) (Ax.M.pure v) := by
  intro c u c' h
  simp only [M.pure, Option.some.injEq, Prod.mk.injEq] at h
  obtain ⟨rfl, rfl⟩ := h
  rfl

theorem sim_fail {y : Ax.M α} : Sim M.fail y := by intro c v c' h; cases h

theorem sim_lift (o : Option V) : Sim (M.lift o) (Ax.M.lift o) := by
  intro c u c' h
  cases o with
  | none => cases h
  | some a =>
    simp only [M.lift, forceV_eq, Option.some.injEq, Prod.mk.injEq] at h
    obtain ⟨rfl, rfl⟩ := h
    rfl

theorem cbind_some {x : M α} {f : α → M β} {c : Heap} {r : β × Heap} (h : M.bind x f c = some r) : ∃ v c1, x c = some (v, c1) ∧ f v c1 = some r := by
  simp only [M.bind] at h
  cases hx : x c with
  | none => rw [hx] at h; cases h
  | some q => rw [hx] at h; exact ⟨q.1, q.2, rfl, h⟩

theorem sim_bind {x : M α} {y : Ax.M α} {f : α → M β} {g : α → Ax.M β} (h : Sim x y) (k : ∀ v, Sim (f v) (g v)) : Sim (M.bind x f) (y.bind g) := by
  intro c v c' e
  obtain ⟨u, c1, h1, h2⟩ := cbind_some e
  rw [bind_ok (h c u c1 h1)]
  exact k u c1 v c' h2

theorem sim_ite (c : V) {x x' : M α} {y y' : Ax.M α} (h : Sim x y) (k : Sim x' y') : Sim (M.ite c x x') (Ax.M.ite c y y') := by
  cases c <;> first | exact sim_fail | skip
  rename_i b
  cases b
  · exact k
  · exact h

theorem sim_load (n : Option Nat) (p : V) : Sim (mload n p) (Ax.mload n p) := by
  intro c v c' h
  cases p <;> simp only [mload, Ax.mload, Option.bind_eq_some_iff, Option.map_eq_some_iff, Prod.mk.injEq, reduceCtorEq, abs_get] at h ⊢
  · obtain ⟨b, hb, u, hu, rfl, rfl⟩ := h; exact ⟨b, hb, u, hu, rfl, rfl⟩
  · obtain ⟨u, hu, rfl, rfl⟩ := h; exact ⟨u, hu, rfl, rfl⟩

theorem sim_store (n : Nat) (p x : V) : Sim (mstore n p x) (Ax.mstore n p x) := by
  intro c v c' h
  cases p <;> simp only [mstore, Ax.mstore, Option.bind_eq_some_iff, reduceCtorEq, abs_get] at h ⊢
  obtain ⟨b, hb, h⟩ := h
  refine ⟨b, hb, ?_⟩
  split at h
  · rename_i hc
    rw [if_pos hc]
    simp only [Option.some.injEq, Prod.mk.injEq] at h ⊢
    obtain ⟨rfl, rfl⟩ := h
    exact ⟨rfl, (abs_set ..).symm⟩
  · cases h

theorem sim_box (ty : TypeId) (x : V) : Sim (mbox ty x) (Ax.mbox ty x) := by
  intro c v c' h
  simp only [mbox, Ax.mbox, abs_next] at h ⊢
  split at h
  · rename_i hc
    rw [if_pos hc]
    simp only [Option.some.injEq, Prod.mk.injEq] at h ⊢
    obtain ⟨rfl, rfl⟩ := h
    exact ⟨rfl, (abs_new ..).symm⟩
  · cases h

theorem sim_slit (ty : TypeId) (l : Nat) (z : List V) (ps : List (Nat × Nat × V)) : Sim (mslit ty l z ps) (Ax.mslit ty l z ps) := by
  intro c v c' h
  simp only [mslit, Ax.mslit, Option.map_eq_some_iff, Prod.mk.injEq, abs_next] at h ⊢
  obtain ⟨cs, hcs, rfl, rfl⟩ := h
  exact ⟨cs, hcs, rfl, (abs_new ..).symm⟩

theorem rcells_abs (e : Nat) (c : Heap) (v : V) : Ax.rcells e c.abs v = rcells e c v := by cases v <;> rfl
theorem acells_abs (e : Nat) (c : Heap) (v : V) : Ax.acells e c.abs v = acells e c v := by cases v <;> first | rfl | exact rcells_abs ..

theorem sim_appendq (ty e b : Nat) (q : List V × Nat) (x : V) : Sim (mappendq ty e b q x) (Ax.mappendq ty e b q x) := by
  intro c v c' h
  simp only [mappendq, Ax.mappendq] at h ⊢
  cases x with
  | nils =>
    dsimp only at h ⊢
    split at h
    · rename_i h0
      rw [if_pos h0]
      simp only [Option.some.injEq, Prod.mk.injEq] at h ⊢
      exact ⟨h.1, by rw [h.2]⟩
    · rename_i h0
      rw [if_neg h0]
      split at h
      · rename_i h1
        rw [if_pos h1]
        simp only [Option.some.injEq, Prod.mk.injEq] at h ⊢
        obtain ⟨rfl, rfl⟩ := h
        exact ⟨rfl, (abs_new ..).symm⟩
      · cases h
  | rs cells len =>
    dsimp only at h ⊢
    split at h
    · rename_i h0
      rw [if_pos h0]
      simp only [Option.some.injEq, Prod.mk.injEq] at h ⊢
      exact ⟨h.1, by rw [h.2]⟩
    · cases h
  | sl id off len cap =>
    simp only [Option.bind_eq_some_iff, abs_get] at h ⊢
    obtain ⟨bl, hb, h⟩ := h
    refine ⟨bl, hb, ?_⟩
    split at h
    · rename_i h0
      rw [if_pos h0]
      cases cap with
      | fix cc =>
        dsimp only at h ⊢
        split at h
        · rename_i h1
          rw [if_pos h1]
          split at h
          · rename_i h2
            rw [if_pos h2]
            simp only [Option.some.injEq, Prod.mk.injEq] at h ⊢
            obtain ⟨rfl, rfl⟩ := h
            exact ⟨rfl, (abs_set ..).symm⟩
          · cases h
        · rename_i h1
          rw [if_neg h1]
          split at h
          · rename_i h2
            rw [if_pos h2]
            simp only [Option.some.injEq, Prod.mk.injEq] at h ⊢
            obtain ⟨rfl, rfl⟩ := h
            exact ⟨rfl, (abs_new ..).symm⟩
          · cases h
      | opn ee =>
        dsimp only at h ⊢
        split at h
        · rename_i h1
          rw [if_pos h1]
          split at h
          · rename_i h2
            rw [if_pos h2]
            simp only [Option.some.injEq, Prod.mk.injEq] at h ⊢
            exact ⟨h.1, by rw [h.2]⟩
          · rename_i h2
            rw [if_neg h2]
            split at h
            · rename_i h3
              rw [if_pos h3]
              simp only [Option.some.injEq, Prod.mk.injEq] at h ⊢
              obtain ⟨rfl, rfl⟩ := h
              exact ⟨rfl, by rw [abs_new, abs_set]⟩
            · cases h
        · rename_i h1
          rw [if_neg h1]
          split at h
          · rename_i h2
            rw [if_pos h2]
            simp only [Option.some.injEq, Prod.mk.injEq] at h ⊢
            exact ⟨h.1, by rw [h.2]⟩
          · rename_i h2
            rw [if_neg h2]
            split at h
            · rename_i h3
              rw [if_pos h3]
              simp only [Option.some.injEq, Prod.mk.injEq] at h ⊢
              obtain ⟨rfl, rfl⟩ := h
              exact ⟨rfl, (abs_set ..).symm⟩
            · cases h
    · cases h
  | _ => cases h

theorem sim_append (ty e b : Nat) (x y : V) : Sim (mappend ty e b x y) (Ax.mappend ty e b x y) := by
  intro c v c' h
  simp only [mappend, Ax.mappend, Option.bind_eq_some_iff, acells_abs] at h ⊢
  obtain ⟨q, hq, h⟩ := h
  exact ⟨q, hq, sim_appendq _ _ _ _ _ _ _ _ h⟩

theorem sim_appendz (ty b : Nat) (z : List V) (x y : V) : Sim (mappendz ty b z x y) (Ax.mappendz ty b z x y) := by
  intro c v c' h
  unfold mappendz at h
  unfold Ax.mappendz
  split at h
  · dsimp only at h ⊢
    split at h
    · rename_i h0
      rw [if_pos h0]
      exact sim_appendq _ _ _ _ _ _ _ _ h
    · cases h
  · cases h

theorem sim_slice2 (e : Nat) (x lo hi : V) : Sim (mslice2 e x lo hi) (Ax.mslice2 e x lo hi) := by
  intro c v c' h
  unfold mslice2 at h
  unfold Ax.mslice2
  split at h
  · simp only [Option.bind_eq_some_iff, abs_get] at h ⊢
    obtain ⟨bl, hb, h⟩ := h
    refine ⟨bl, hb, ?_⟩
    split at h
    · rename_i h0
      rw [if_pos h0]
      simp only [Option.some.injEq, Prod.mk.injEq] at h ⊢
      exact ⟨h.1, by rw [h.2]⟩
    · cases h
  · cases h

theorem sim_clear (z : List V) (x : V) : Sim (mclear z x) (Ax.mclear z x) := by
  intro c v c' h
  unfold mclear at h
  unfold Ax.mclear
  split at h
  · dsimp only at h ⊢
    split at h
    · rename_i h0
      rw [if_pos h0]
      simp only [Option.some.injEq, Prod.mk.injEq] at h ⊢
      exact ⟨h.1, by rw [h.2]⟩
    · rename_i h0
      rw [if_neg h0]
      simp only [Option.bind_eq_some_iff, abs_get] at h ⊢
      obtain ⟨bl, hb, h⟩ := h
      refine ⟨bl, hb, ?_⟩
      split at h
      · rename_i h1
        rw [if_pos h1]
        simp only [Option.some.injEq, Prod.mk.injEq] at h ⊢
        obtain ⟨rfl, rfl⟩ := h
        exact ⟨rfl, (abs_set ..).symm⟩
      · cases h
  · cases h

theorem sim_mknz (ty : TypeId) (x : V) : Sim (mmknz ty x) (Ax.mmknz ty x) := by
  intro c v c' h
  unfold mmknz at h
  unfold Ax.mmknz
  split at h
  · split at h
    · rename_i hc
      simp only [Option.some.injEq, Prod.mk.injEq] at h
      obtain ⟨rfl, rfl⟩ := h
      simp only [if_pos hc, abs_new, abs_next]
    · cases h
  · cases h

theorem sim_copy (e : Nat) (x y : V) : Sim (mcopy e x y) (Ax.mcopy e x y) := by
  intro c v c' h
  simp only [mcopy, Ax.mcopy, Option.bind_eq_some_iff, acells_abs] at h ⊢
  obtain ⟨q, hq, h⟩ := h
  refine ⟨q, hq, ?_⟩
  cases x with
  | nils =>
    simp only [Option.some.injEq, Prod.mk.injEq] at h ⊢
    exact ⟨h.1, by rw [h.2]⟩
  | sl id off len cap =>
    simp only [Option.bind_eq_some_iff, abs_get] at h ⊢
    obtain ⟨bl, hb, h⟩ := h
    refine ⟨bl, hb, ?_⟩
    split at h
    · rename_i h0
      rw [if_pos h0]
      simp only [Option.some.injEq, Prod.mk.injEq] at h ⊢
      obtain ⟨rfl, rfl⟩ := h
      exact ⟨rfl, (abs_set ..).symm⟩
    · cases h
  | _ => cases h

theorem sim_tostr (x : V) : Sim (mtostr x) (Ax.mtostr x) := by
  intro c v c' h
  simp only [mtostr, Ax.mtostr, Option.bind_eq_some_iff, Option.map_eq_some_iff, Prod.mk.injEq, rcells_abs] at h ⊢
  obtain ⟨q, hq, l, hl, rfl, rfl⟩ := h
  exact ⟨q, hq, l, hl, rfl, rfl⟩

theorem sim_tobytes (ty : TypeId) (x : V) : Sim (mtobytes ty x) (Ax.mtobytes ty x) := by
  intro c v c' h
  unfold mtobytes at h
  unfold Ax.mtobytes
  split at h
  · dsimp only at h ⊢
    split at h
    · rename_i h0
      rw [if_pos h0]
      simp only [Option.some.injEq, Prod.mk.injEq] at h ⊢
      obtain ⟨rfl, rfl⟩ := h
      exact ⟨rfl, (abs_new _ _).symm⟩
    · cases h
  · cases h

theorem sim_mkslice (ty b : Nat) (z : List V) (l k : V) : Sim (mmkslice ty b z l k) (Ax.mmkslice ty b z l k) := by
  intro c v c' h
  unfold mmkslice at h
  unfold Ax.mmkslice
  split at h
  · rename_i a b'
    dsimp only at h ⊢
    split at h
    · rename_i h0
      rw [if_pos h0]
      simp only [Option.some.injEq, Prod.mk.injEq] at h ⊢
      obtain ⟨rfl, rfl⟩ := h
      exact ⟨rfl, (abs_new ..).symm⟩
    · cases h
  · cases h

theorem sim_unch (v : V) (h h' : Heap) : Sim (M.unch v h h') (Ax.M.unch v h.abs h'.abs) := by
  intro c u c' e
  unfold M.unch at e
  unfold Ax.M.unch
  cases hp : v.pid with
  | none =>
    rw [hp] at e
    simp only [Option.some.injEq, Prod.mk.injEq] at e
    obtain ⟨_, rfl⟩ := e
    rw [if_pos (by intro id h; cases h)]
  | some id =>
    rw [hp] at e
    dsimp only at e
    split at e
    · rename_i hs
      simp only [Option.some.injEq, Prod.mk.injEq] at e
      obtain ⟨_, rfl⟩ := e
      rw [if_pos]
      intro i hi
      simp only [Option.some.injEq] at hi
      subst hi
      exact sameB_eq hs
    · cases e

theorem sim_remark (ty : TypeId) (x : V) : Sim (mremark ty x) (Ax.mremark ty x) := by
  intro c v c' h
  unfold mremark at h
  unfold Ax.mremark
  split at h
  · exact sim_tobytes _ _ _ _ _ h
  · simp only [Option.bind_eq_some_iff, abs_get] at h ⊢
    obtain ⟨bl, hb, h⟩ := h
    refine ⟨bl, hb, ?_⟩
    split at h
    · cases h
    · rename_i h0
      rw [if_neg h0]
      simp only [Option.some.injEq, Prod.mk.injEq] at h ⊢
      exact ⟨h.1, by rw [h.2]⟩
  · cases h

theorem sim_run {g : Sem'} {G : Ax.Sem'} (hg : Sims g G) (A : Fr) (ins : I) : Sim (I.run g A ins) (ins.run G A) := by
  have w1 : ∀ (x : Arg) {k : V → M V} {k' : V → Ax.M V}, (∀ v, Sim (k v) (k' v)) → Sim (with1 A x k) (Ax.with1 A x k') := by
    intro x k k' h
    unfold with1 Ax.with1
    cases x.ev A with
    | none => exact sim_fail
    | some v => exact h v
  have ws : ∀ (x : List Arg) {k : List V → M V} {k' : List V → Ax.M V}, (∀ v, Sim (k v) (k' v)) → Sim (withs A x k) (Ax.withs A x k') := by
    intro x k k' h
    unfold withs Ax.withs
    cases evs A x with
    | none => exact sim_fail
    | some v => exact h v
  cases ins <;> simp only [I.run, Ax.I.run]
  case mv x => exact w1 x sim_pure
  case pick c a b => exact w1 _ fun _ => w1 _ fun _ => w1 _ fun _ => sim_lift _
  case box => exact w1 _ fun _ => sim_box _ _
  case build z ps => cases evParts A ps <;> first | exact sim_fail | exact sim_lift _
  case slit z ps => cases evParts A ps <;> first | exact sim_fail | exact sim_slit _ _ _ _
  case load => exact w1 _ fun _ => sim_load _ _
  case store => exact w1 _ fun _ => w1 _ fun _ => sim_store _ _ _
  case nilck => exact w1 _ fun _ => sim_lift _
  case bin => exact w1 _ fun _ => w1 _ fun _ => sim_lift _
  case eq => exact w1 _ fun _ => w1 _ fun _ => sim_lift _
  case un => exact w1 _ fun _ => sim_lift _
  case cint => exact w1 _ fun _ => sim_lift _
  case tostr => exact w1 _ fun _ => sim_tostr _
  case tobytes => exact w1 _ fun _ => sim_tobytes _ _
  case faddr => exact w1 _ fun _ => sim_lift _
  case iaddr => exact w1 _ fun _ => w1 _ fun _ => sim_lift _
  case index => exact w1 _ fun _ => w1 _ fun _ => sim_lift _
  case sindex => exact w1 _ fun _ => w1 _ fun _ => sim_lift _
  case field => exact w1 _ fun _ => sim_lift _
  case ext => exact w1 _ fun _ => sim_lift _
  case len => exact w1 _ fun _ => sim_lift _
  case slen => exact w1 _ fun _ => sim_lift _
  case slice ck e x lo hi mx =>
    refine w1 _ fun _ => ?_
    cases evOpt A lo <;> cases evOpt A hi <;> cases evOpt A mx <;> first | exact sim_fail | exact sim_lift _
  case append => exact w1 _ fun _ => w1 _ fun _ => sim_append _ _ _ _ _
  case appendz => exact w1 _ fun _ => w1 _ fun _ => sim_appendz _ _ _ _ _
  case copy => exact w1 _ fun _ => w1 _ fun _ => sim_copy _ _ _
  case mkslice => exact w1 _ fun _ => w1 _ fun _ => sim_mkslice _ _ _ _ _
  case slice2 => exact w1 _ fun _ => w1 _ fun _ => w1 _ fun _ => sim_slice2 _ _ _ _
  case clear => exact w1 _ fun _ => sim_clear _ _
  case op1 => exact w1 _ fun _ => sim_lift _
  case mknz => exact w1 _ fun _ => sim_mknz _ _
  case remark => exact w1 _ fun _ => sim_remark _ _
  case minmax => exact w1 _ fun _ => ws _ fun _ => sim_lift _
  case call => exact ws _ fun _ => hg _ _
  case callv =>
    refine w1 _ fun v => ws _ fun _ => ?_
    cases v <;> first | exact sim_fail | exact hg _ _
  case mkfn => exact ws _ fun _ => sim_pure _

theorem sim_ao {g : Sem'} {G : Ax.Sem'} (hg : Sims g G) (A : Fr) (o : AO) : Sim (AO.run g A o) (o.run G A) := by
  unfold AO.run Ax.AO.run guarded Ax.guarded
  cases o.gd with
  | none => exact sim_run hg A o.ins
  | some p =>
    obtain ⟨s, want⟩ := p
    dsimp only
    cases A.get s with
    | none => exact sim_fail
    | some v =>
      cases v with
      | bool b =>
        dsimp only
        by_cases hb : b = want
        · simp only [if_pos hb]; exact sim_run hg A o.ins
        · simp only [if_neg hb]; exact sim_pure _
      | tup vs =>
        cases vs with
        | nil => exact sim_pure _
        | cons _ _ => exact sim_fail
      | _ => exact sim_fail

theorem sim_step {g : Sem'} {G : Ax.Sem'} (hg : Sims g G) (A : Fr) (o : AO) {k : V → M α} {k' : V → Ax.M α} (h : ∀ v, Sim (k v) (k' v)) : Sim (step g o A k) (Ax.step G o A k') := by
  have hr := sim_bind (sim_ao hg A o) h
  obtain ⟨d, gd, ins⟩ := o
  cases gd with
  | some _ => exact hr
  | none =>
    cases ins <;> first | exact hr | skip
    rename_i x
    show Sim (match x.ev A with | some v => k v | none => M.fail) (match x.ev A with | some v => k' v | none => Ax.M.fail)
    cases x.ev A with
    | none => exact sim_fail
    | some v => exact h v

theorem sim_ops {g : Sem'} {G : Ax.Sem'} (hg : Sims g G) {k : Fr → M α} {k' : Fr → Ax.M α} (h : ∀ A, Sim (k A) (k' A)) : ∀ (l : List AO) (A : Fr), Sim (opsK g l A k) (Ax.opsK G l A k') := by
  intro l
  induction l with
  | nil => intro A; exact h A
  | cons o l ih => intro A; exact sim_step hg A o fun v => ih _

def absJ (js : List (Nat × Heap × Heap)) : List (Nat × Ax.Heap × Ax.Heap) := js.map fun q => (q.1, q.2.1.abs, q.2.2.abs)

theorem sim_acts {un : List (Nat × Nat)} {i : Nat} {a : V} {k : M α} {k' : Ax.M α} (h : Sim k k') : ∀ js, Sim (actsK un i a js k) (Ax.actsK un i a (absJ js) k') := by
  intro js
  induction js with
  | nil => exact h
  | cons q js ih =>
    obtain ⟨j, h1, h2⟩ := q
    show Sim (if un.contains (i, j) then M.bind (M.unch a h1 h2) fun _ => actsK un i a js k else actsK un i a js k)
      (if un.contains (i, j) then (Ax.M.unch a h1.abs h2.abs).bind fun _ => Ax.actsK un i a (absJ js) k' else Ax.actsK un i a (absJ js) k')
    split
    · exact sim_bind (sim_unch _ _ _) fun _ => ih
    · exact ih

theorem sim_reads {un : List (Nat × Nat)} {j : Nat} {h1 h2 : Heap} {k : M α} {k' : Ax.M α} (h : Sim k k') : ∀ rs, Sim (readsK un j h1 h2 rs k) (Ax.readsK un j h1.abs h2.abs rs k') := by
  intro rs
  induction rs with
  | nil => exact h
  | cons q rs ih =>
    obtain ⟨i, a⟩ := q
    show Sim (if un.contains (i, j) then M.bind (M.unch a h1 h2) fun _ => readsK un j h1 h2 rs k else readsK un j h1 h2 rs k)
      (if un.contains (i, j) then (Ax.M.unch a h1.abs h2.abs).bind fun _ => Ax.readsK un j h1.abs h2.abs rs k' else Ax.readsK un j h1.abs h2.abs rs k')
    split
    · exact sim_bind (sim_unch _ _ _) fun _ => ih
    · exact ih

theorem sim_getH {f : Heap → M α} {f' : Ax.Heap → Ax.M α} (h : ∀ c, Sim (f c) (f' c.abs)) : Sim (M.bind M.getH f) (Ax.M.getH.bind f') := by
  intro c v c' e
  exact h c c v c' e

theorem sim_draw {g : Sem'} {G : Ax.Sem'} (hg : Sims g G) {un : List (Nat × Nat)} {k : Fr → M α} {k' : Fr → Ax.M α} (h : ∀ A, Sim (k A) (k' A)) : ∀ (l : List AO) (p : Nat) (rs : List (Nat × V)) (js : List (Nat × Heap × Heap)) (A : Fr),
    Sim (drawK g un p rs js l A k) (Ax.drawK G un p rs (absJ js) l A k') := by
  intro l
  induction l with
  | nil => intro p rs js A; exact h A
  | cons o l ih =>
    intro p rs js A
    unfold drawK Ax.drawK
    cases hk : o.ins.kind with
    | read x =>
      dsimp only
      split
      · unfold with1' runDraw.with1'
        cases x.ev A with
        | none => exact sim_step hg A o fun v => sim_acts (ih _ _ _ _) js
        | some a => exact sim_step hg A o fun v => sim_acts (ih _ _ _ _) js
      · exact sim_step hg A o fun v => ih _ _ _ _
    | act =>
      dsimp only
      split
      · exact sim_getH fun h1 => sim_step hg A o fun v => sim_getH fun h2 => sim_reads (ih _ _ ((p, h1, h2) :: js) _) rs
      · exact sim_step hg A o fun v => ih _ _ _ _
    | pure => exact sim_step hg A o fun v => ih _ _ _ _
    | new => exact sim_step hg A o fun v => ih _ _ _ _

theorem sim_join {x : M Res} {y : Ax.M Res} {k : List V → M Res} {k' : List V → Ax.M Res} (h : Sim x y) (hk : ∀ L, Sim (k L) (k' L)) : Sim (M.join x k) (Ax.M.join y k') := by
  refine sim_bind h fun r => ?_
  cases r with
  | nrm L => exact hk L
  | ex id L => exact sim_pure _
  | ret L => exact sim_pure _

theorem sim_blk {id : Nat} {x : M Res} {y : Ax.M Res} {k : List V → M Res} {k' : List V → Ax.M Res} (h : Sim x y) (hk : ∀ L, Sim (k L) (k' L)) : Sim (M.blk id x k) (Ax.M.blk id y k') := by
  refine sim_bind h fun r => ?_
  cases r with
  | nrm L => exact hk L
  | ex i L =>
    dsimp only
    by_cases e : i = id
    · simp only [if_pos e]; exact hk L
    · simp only [if_neg e]; exact sim_pure _
  | ret L => exact sim_pure _

theorem sim_iter {body : List V → M Res} {b : List V → Ax.M Res} (h : ∀ L, Sim (body L) (b L)) (L : List V) : Sim (M.iter body L) (Ax.M.iter b L) := by
  have key : ∀ (n : Nat) (L : List V), Sim (iterN body n L) (Ax.iterN b n L) := by
    intro n
    induction n with
    | zero => intro L; exact sim_fail
    | succ n ih => intro L; exact sim_join (h L) ih
  intro c v c' e
  exact iter_eq (key _ L c v c' e)

theorem sim_res {A : Fr} : ∀ (rv : List RV) {k : List V → M α} {k' : List V → Ax.M α}, (∀ L, Sim (k L) (k' L)) → Sim (resK A rv k) (Ax.resK A rv k') := by
  intro rv
  induction rv with
  | nil => intro k k' h; exact h []
  | cons x rv ih =>
    intro k k' h
    cases x with
    | tmp t =>
      simp only [resK, Ax.resK]
      cases A.get t with
      | none => exact sim_fail
      | some v => exact ih fun vs => h _
    | cell t n =>
      simp only [resK, Ax.resK]
      cases A.get t with
      | none => exact sim_fail
      | some v => exact sim_bind (sim_load _ _) fun u => ih fun vs => h _

theorem sim_exec {g : Sem'} {G : Ax.Sem'} (hg : Sims g G) (rv : List RV) : ∀ (c : C) (cx : List (Nat × List Nat)) (J : List Nat) (A : Fr), Sim (execK g rv c cx J A) (Ax.execK G rv c cx J A) := by
  intro c
  induction c with
  | done => intro cx J A; simp only [execK, Ax.execK]; cases getAll A J <;> first | exact sim_fail | exact sim_pure _
  | bad => intro cx J A; exact sim_fail
  | ops l k ih => intro cx J A; exact sim_ops hg (fun A' => ih _ _ _) l A
  | draw l un k ih => intro cx J A; exact sim_draw hg (fun A' => ih _ _ _) l 0 [] [] A
  | cond x a b iha ihb =>
    intro cx J A
    simp only [execK, Ax.execK]
    cases x.ev A with
    | none => exact sim_fail
    | some c => exact sim_ite c (iha _ _ _) (ihb _ _ _)
  | condJ x a b J' W k iha ihb ihk =>
    intro cx J A
    simp only [execK, Ax.execK]
    cases x.ev A with
    | none => exact sim_fail
    | some c => exact sim_join (sim_ite c (iha _ _ _) (ihb _ _ _)) fun L => ihk _ _ _
  | blk id a J' W k iha ihk => intro cx J A; exact sim_blk (iha _ _ _) fun L => ihk _ _ _
  | loop a K W iha =>
    intro cx J A
    simp only [execK, Ax.execK]
    cases getAll A K with
    | none => exact sim_fail
    | some L => exact sim_iter (fun L => iha _ _ _) L
  | exit id =>
    intro cx J A
    simp only [execK, Ax.execK]
    cases cxGet cx id with
    | none => exact sim_fail
    | some J => dsimp only; cases getAll A J <;> first | exact sim_fail | exact sim_pure _
  | ret => intro cx J A; exact sim_res rv fun L => sim_pure _

theorem sim_fin {x : M Res} {y : Ax.M Res} (h : Sim x y) : Sim (fin x) (Ax.fin y) := by
  refine sim_bind h fun r => ?_
  cases r with
  | ret L => exact sim_pure _
  | _ => exact sim_fail

end

/-- A function's plain text over the heap to compute with. -/
theorem sim_fn {T : FuncId → Option Fn'} {f : FuncId} {ir : Fn'} (hT : T f = some ir) {args : List V} (hl : args.length ≤ ir.ntmps) {g : Sem'} (hg : Sims g (sem T)) {x : M Res} (hx : execK g ir.rv ir.body [] [] (params 0 args) = x) : Sim (fin x) (sem T f args) := by
  intro c v c' h
  refine sem_step hT hl rfl ?_
  exact sim_fin (hx ▸ sim_exec hg ir.rv ir.body [] [] (params 0 args)) c v c' h

theorem sim_if {α : Type} {p : Prop} [Decidable p] {x x' : M α} {y : Ax.M α} (h : p → Sim x y) (k : Sim x' y) : Sim (if p then x else x') y := by
  by_cases hp : p
  · rw [if_pos hp]; exact h hp
  · rw [if_neg hp]; exact k

/-- Does it answer true? -/
def yes (x : M V) : Bool := match x ⟨.e, 0⟩ with | some (.bool b, _) => b | _ => false

theorem yes_ok {x : M V} {y : Ax.M V} (h : Sim x y) (hy : yes x = true) : ∃ H', y H0 = some (.bool true, H') := by
  unfold yes at hy
  split at hy
  · rename_i b c he
    subst hy
    refine ⟨c.abs, ?_⟩
    have := h _ _ _ he
    have e0 : (⟨.e, 0⟩ : Heap).abs = H0 := rfl
    rw [e0] at this
    exact this
  · cases hy

end Go.Ax.Cc
