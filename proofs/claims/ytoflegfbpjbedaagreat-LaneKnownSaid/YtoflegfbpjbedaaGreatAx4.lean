/-
  Ax, part 4: how an abstract state lies to a state of the model.
-/
import Derived.Test.YtoflegfbpjbedaaGreatAx3
namespace Go.Ax

/-- Where a block of the abstract heap lies: in which block of the model's; of an open one its room, in elements, and an element's size. -/
structure Loc where
  blk : Nat
  cap : Nat
  esz : Nat

abbrev Map := Nat → Option Loc

/-- The value x of the model is what v says: 'm': where the blocks lie; 'Z': the blocks that nobody writes any more. -/
inductive Rep (m : Map) (Z : Nat → Prop) (w : World) : V → Value → Prop
  | bool (b : Bool) : Rep m Z w (.bool b) (.bool b)
  | int (k : IntKind) (n : Int) : Rep m Z w (.int k n) (.int k n)
  | str (s : ByteArray) : Rep m Z w (.str s) (.string s)
  | nilp : Rep m Z w .nilp (.pointer none)
  | nils : Rep m Z w .nils (.slice none 0 0)
  | lit (x : Value) : Rep m Z w (.lit x) x
  | ptr {id off : Nat} {l : Loc} (h : m id = some l) : Rep m Z w (.ptr id off) (.pointer (some ⟨l.blk, off, none⟩))
  | slc {id off len c : Nat} {l : Loc} {a : Addr} (h : m id = some l) (hl : len ≤ c) (ha : c = 0 ∨ a = ⟨l.blk, off, none⟩) : Rep m Z w (.sl id off len (.fix c)) (.slice (some a) len c)
  | slo {id off len i c : Nat} {l : Loc} {a : Addr} (h : m id = some l) (hi : off = i * l.esz) (hc : i + c = l.cap) (hl : len ≤ c) (ha : c = 0 ∨ a = ⟨l.blk, off, none⟩) :
      Rep m Z w (.sl id off len (.opn l.esz)) (.slice (some a) len c)
  | rs (b o : Nat) {cells : List V} {len c : Nat} {a : Addr} (x : Nat → Value) (hl : len ≤ c)
      (h0 : len = 0 ∨ (a = ⟨b, o, none⟩ ∧ Z b ∧ ∀ j v, cells[j]? = some v → w.cell? ⟨b, o + j, none⟩ = some (x j)))
      (h1 : ∀ (j : Nat) (v : V), cells[j]? = some v → v.one = true) (h2 : ∀ (j : Nat) (v : V), cells[j]? = some v → Rep m Z w v (x j)) : Rep m Z w (.rs cells len) (.slice (some a) len c)
  | rp {cells : List V} {off b o : Nat} (x : Nat → Value) (hz : Z b) (h0 : ∀ j v, cells[j]? = some v → w.cell? ⟨b, o + j, none⟩ = some (x j))
      (h1 : ∀ (j : Nat) (v : V), cells[j]? = some v → v.one = true) (h2 : ∀ (j : Nat) (v : V), cells[j]? = some v → Rep m Z w v (x j)) : Rep m Z w (.rp cells off) (.pointer (some ⟨b, o + off, none⟩))
  | fn {f : FuncId} {caps : List V} {xs : Array Value} (hl : xs.size = caps.length) (h : ∀ (j : Nat) (v : V) (x : Value), caps[j]? = some v → xs[j]? = some x → Rep m Z w v x) :
      Rep m Z w (.fn f caps) (.func (.func f) #[] xs)
  | agg {cs : List V} {xs : Array Value} (hl : xs.size = cs.length) (h1 : ∀ v ∈ cs, v.one = true) (h : ∀ (j : Nat) (v : V) (x : Value), cs[j]? = some v → xs[j]? = some x → Rep m Z w v x) :
      Rep m Z w (.agg cs) (.agg xs)
  | tup {cs : List V} {xs : Array Value} (hl : xs.size = cs.length) (h : ∀ (j : Nat) (v : V) (x : Value), cs[j]? = some v → xs[j]? = some x → Rep m Z w v x) :
      Rep m Z w (.tup cs) (.tuple xs)
  | any (x : Value) (h : x.oneCell' = true) : Rep m Z w .any x

/-- Value by value. -/
def Reps (m : Map) (Z : Nat → Prop) (w : World) (vs : List V) (xs : List Value) : Prop :=
  xs.length = vs.length ∧ ∀ (j : Nat) (v : V) (x : Value), vs[j]? = some v → xs[j]? = some x → Rep m Z w v x

/-- A live block, in the model's memory. -/
structure Lies (m : Map) (Z : Nat → Prop) (w : World) (b : Blk) (l : Loc) (cur : Array Value) (fz : Nat × Nat) : Prop where
  heap : w.heap[l.blk]? = some (.cells cur b.ty fz)
  free : ∀ j, j < cur.size → ¬ (fz.1 ≤ j ∧ (j < fz.2 ∨ fz.1 ≠ fz.2))
  out : ¬ Z l.blk
  len : b.cells.length ≤ cur.size
  opn : ∀ e, b.opn = some e → l.esz = e ∧ 0 < e ∧ cur.size = l.cap * e ∧ l.cap ≤ 9223372036854775807
  one : ∀ v ∈ b.cells, v.one = true
  reps : ∀ (j : Nat) (v : V) (x : Value), b.cells[j]? = some v → cur[j]? = some x → Rep m Z w v x

structure RelH (m : Map) (Z : Nat → Prop) (H : Heap) (w : World) : Prop where
  live : ∀ id b, H.get id = some b → ∃ l cur fz, m id = some l ∧ Lies m Z w b l cur fz
  inj : ∀ id id' b b' l l', H.get id = some b → H.get id' = some b' → m id = some l → m id' = some l' → l.blk = l'.blk → id = id'
  dead : ∀ id, H.next ≤ id → H.get id = none
  zlt : ∀ b, Z b → b < w.heap.size

/-- The names that are given on the way from H to H' are not given yet. -/
def Free (m : Map) (H H' : Heap) : Prop := ∀ id, H.next ≤ id → id < H'.next → m id = none

/-- From one state to a later one. -/
structure Ext (m : Map) (Z : Nat → Prop) (H : Heap) (w : World) (m' : Map) (Z' : Nat → Prop) (H' : Heap) (w' : World) : Prop where
  map : ∀ id l, m id = some l → m' id = some l
  next : H.next ≤ H'.next
  keep : ∀ id, id < H.next ∨ H'.next ≤ id → m' id = m id
  zone : ∀ b, Z b → Z' b
  size : w.heap.size ≤ w'.heap.size
  os : w'.os = w.os
  tape : w'.tape = w.tape
  output : w'.output = w.output
  same : ∀ k, k < w.heap.size → (∀ id b l, H.get id = some b → m id = some l → l.blk ≠ k) → w'.heap[k]? = w.heap[k]?
  src : ∀ id b l, H'.get id = some b → m' id = some l → w.heap.size ≤ l.blk ∨ ∃ id0 b0 l0, H.get id0 = some b0 ∧ m id0 = some l0 ∧ l0.blk = l.blk
  zsrc : ∀ k, Z' k → Z k ∨ w.heap.size ≤ k ∨ ∃ id0 b0 l0, H.get id0 = some b0 ∧ m id0 = some l0 ∧ l0.blk = k

section
variable {m m' m2 : Map} {Z Z' Z2 : Nat → Prop} {H H' H2 : Heap} {w w' w2 : World}

theorem Ext.refl (m : Map) (Z : Nat → Prop) (H : Heap) (w : World) : Ext m Z H w m Z H w :=
  ⟨fun _ _ h => h, Nat.le_refl _, fun _ _ => rfl, fun _ h => h, Nat.le_refl _, rfl, rfl, rfl, fun _ _ _ => rfl, fun id b l h hm => .inr ⟨id, b, l, h, hm, rfl⟩, fun _ h => .inl h⟩

theorem Ext.trans (h : Ext m Z H w m' Z' H' w') (k : Ext m' Z' H' w' m2 Z2 H2 w2) : Ext m Z H w m2 Z2 H2 w2 := by
  refine ⟨fun id l e => k.map id l (h.map id l e), Nat.le_trans h.next k.next, fun i e => (k.keep i (e.imp (fun e => Nat.lt_of_lt_of_le e h.next) fun e => e)).trans (h.keep i (e.imp (fun e => e) fun e => Nat.le_trans k.next e)), fun b e => k.zone b (h.zone b e), Nat.le_trans h.size k.size, k.os.trans h.os, k.tape.trans h.tape, k.output.trans h.output, ?_, ?_, ?_⟩
  · intro i hi hn
    refine (k.same i (Nat.lt_of_lt_of_le hi h.size) fun id b l hb hm => ?_).trans (h.same i hi hn)
    rcases h.src id b l hb hm with hs | ⟨id0, b0, l0, h0, hm0, e⟩
    · omega
    · exact fun e' => hn id0 b0 l0 h0 hm0 (e.trans e')
  · intro id b l hb hm
    rcases k.src id b l hb hm with hs | ⟨id0, b0, l0, h0, hm0, e⟩
    · exact .inl (Nat.le_trans h.size hs)
    · rcases h.src id0 b0 l0 h0 hm0 with hs | ⟨id1, b1, l1, h1, hm1, e1⟩
      · exact .inl (e ▸ hs)
      · exact .inr ⟨id1, b1, l1, h1, hm1, e1.trans e⟩
  · intro i hz
    rcases k.zsrc i hz with hs | hs | ⟨id0, b0, l0, h0, hm0, e⟩
    · exact h.zsrc i hs
    · exact .inr (.inl (Nat.le_trans h.size hs))
    · rcases h.src id0 b0 l0 h0 hm0 with hs | ⟨id1, b1, l1, h1, hm1, e1⟩
      · exact .inr (.inl (e ▸ hs))
      · exact .inr (.inr ⟨id1, b1, l1, h1, hm1, e1.trans e⟩)

theorem cell?_of_heap {a : Addr} (h : w'.heap[a.block]? = w.heap[a.block]?) : w'.cell? a = w.cell? a := by simp [World.cell?, h]

theorem Rep.mono {v : V} {x : Value} (h : Rep m Z w v x) (hm : ∀ id l, m id = some l → m' id = some l) (hz : ∀ b, Z b → Z' b) (hw : ∀ b, Z b → w'.heap[b]? = w.heap[b]?) : Rep m' Z' w' v x := by
  induction h with
  | bool b => exact .bool b
  | int k n => exact .int k n
  | str s => exact .str s
  | nilp => exact .nilp
  | nils => exact .nils
  | lit x => exact .lit x
  | ptr h => exact .ptr (hm _ _ h)
  | slc h hl ha => exact .slc (hm _ _ h) hl ha
  | slo h hi hc hl ha => exact .slo (hm _ _ h) hi hc hl ha
  | rs b o x hl h0 h1 _ ih =>
    refine .rs b o x hl ?_ h1 ih
    rcases h0 with h0 | ⟨ha, hb, hc⟩
    · exact .inl h0
    · exact .inr ⟨ha, hz _ hb, fun j v hj => (cell?_of_heap (hw _ hb)).trans (hc j v hj)⟩
  | rp x hb h0 h1 _ ih => exact .rp x (hz _ hb) (fun j v hj => (cell?_of_heap (hw _ hb)).trans (h0 j v hj)) h1 ih
  | fn hl _ ih => exact .fn hl ih
  | agg hl h1 _ ih => exact .agg hl h1 ih
  | tup hl _ ih => exact .tup hl ih
  | any x h => exact .any x h

theorem Reps.mono {vs : List V} {xs : List Value} (h : Reps m Z w vs xs) (hm : ∀ id l, m id = some l → m' id = some l) (hz : ∀ b, Z b → Z' b) (hw : ∀ b, Z b → w'.heap[b]? = w.heap[b]?) : Reps m' Z' w' vs xs :=
  ⟨h.1, fun j v x hv hx => (h.2 j v x hv hx).mono hm hz hw⟩

theorem Free.le (h : Free m H H2) (hn : H'.next ≤ H2.next) : Free m H H' := fun id h1 h2 => h id h1 (Nat.lt_of_lt_of_le h2 hn)

/-- What was free behind the step is free yet. -/
theorem Free.later (h : Free m H H2) (e : Ext m Z H w m' Z' H' w') : Free m' H' H2 := fun id h1 h2 => (e.keep id (.inr h1)).trans (h id (Nat.le_trans e.next h1) h2)

/-- What nobody writes is not written. -/
theorem Ext.quiet (h : Ext m Z H w m' Z' H' w') (r : RelH m Z H w) : ∀ b, Z b → w'.heap[b]? = w.heap[b]? := fun b hb =>
  h.same b (r.zlt b hb) fun id bl l hg hm e => by
    obtain ⟨l', cur, fz, hm', hl⟩ := r.live id bl hg
    rw [hm] at hm'
    injection hm' with hm'
    subst hm'
    exact hl.out (e ▸ hb)

theorem Rep.ext {v : V} {x : Value} (h : Rep m Z w v x) (r : RelH m Z H w) (e : Ext m Z H w m' Z' H' w') : Rep m' Z' w' v x := h.mono e.map e.zone (e.quiet r)
theorem Reps.ext {vs : List V} {xs : List Value} (h : Reps m Z w vs xs) (r : RelH m Z H w) (e : Ext m Z H w m' Z' H' w') : Reps m' Z' w' vs xs := h.mono e.map e.zone (e.quiet r)

theorem Rep.oneCell {v : V} {x : Value} (h : Rep m Z w v x) (h1 : v.one = true) : x.oneCell' = true := by
  cases h <;> first | rfl | exact h1 | assumption | (simp [V.one] at h1)

/-- A draw turns nothing. -/
theorem RelH.drew (r : RelH m Z H w) : RelH m Z H w.drew := by
  have e : ∀ {v x}, Rep m Z w v x → Rep m Z w.drew v x := fun h => h.mono (fun _ _ h => h) (fun _ h => h) (fun _ _ => rfl)
  refine ⟨fun id b hb => ?_, r.inj, r.dead, r.zlt⟩
  obtain ⟨l, cur, fz, hm, h⟩ := r.live id b hb
  exact ⟨l, cur, fz, hm, h.heap, h.free, h.out, h.len, h.opn, h.one, fun j v x hv hx => e (h.reps j v x hv hx)⟩

theorem Ext.drew (m : Map) (Z : Nat → Prop) (H : Heap) (w : World) : Ext m Z H w m Z H w.drew :=
  ⟨fun _ _ h => h, Nat.le_refl _, fun _ _ => rfl, fun _ h => h, Nat.le_refl _, rfl, rfl, rfl, fun _ _ _ => rfl, fun id b l h hm => .inr ⟨id, b, l, h, hm, rfl⟩, fun _ h => .inl h⟩

end

/-- WHAT A CALL DOES: in whatever memory that lies to H, called with what args say, it returns what v says, in a memory that lies to H'. -/
def CallsOk (P : Program) (f : FuncId) (args : List V) (H : Heap) (v : V) (H' : Heap) : Prop :=
  ∀ (m : Map) (Z : Nat → Prop) (w : World) (xs : List Value), RelH m Z H w → Free m H H' → Reps m Z w args xs →
    Calls P f xs.toArray w fun e w' => ∃ m' Z' x, e = .returned x ∧ Rep m' Z' w' v x ∧ RelH m' Z' H' w' ∧ Ext m Z H w m' Z' H' w'

/-- No block beyond the names that are given. -/
def Heap.wf (H : Heap) : Prop := ∀ id, H.next ≤ id → H.get id = none

def Heap.le (H H' : Heap) : Prop := H.next ≤ H'.next ∧ (H.wf → H'.wf)

def SemOk (P : Program) (G : Sem') : Prop :=
  ∀ f args H v H', G f args H = some (v, H') → H.le H' ∧ CallsOk P f args H v H' ∧ ∃ fn, P.funcs[f]? = some fn ∧ fn.body.isSome = true ∧ (fn.name == "runtime.NumGoroutine") = false

/-- The slots that are known hold what is known. -/
def RelF (m : Map) (Z : Nat → Prop) (w : World) (A : Fr) (tmps : Array Value) : Prop :=
  ∀ t v, A.get t = some v → ∃ x, tmps[t]? = some x ∧ Rep m Z w v x

structure Rel (N : Nat) (m : Map) (Z : Nat → Prop) (A : Fr) (H : Heap) (a : Act) (w : World) : Prop where
  size : a.tmps.size = N
  defers : a.defers = []
  fr : RelF m Z w A a.tmps
  hp : RelH m Z H w

section
variable {m m' : Map} {Z Z' : Nat → Prop} {H H' : Heap} {w w' : World} {A : Fr}

theorem RelF.mono {tmps : Array Value} (h : RelF m Z w A tmps) (r : RelH m Z H w) (e : Ext m Z H w m' Z' H' w') : RelF m' Z' w' A tmps := fun t v hv =>
  let ⟨x, hx, hr⟩ := h t v hv
  ⟨x, hx, hr.ext r e⟩

theorem RelF.put {tmps : Array Value} {d : Option Nat} {v : V} {x : Value} (h : RelF m Z w A tmps) (hd : ∀ t, d = some t → t < tmps.size) (hv : Rep m Z w v x) (ds : List Deferred) :
    RelF m Z w (A.put d v) (Act.put ⟨tmps, ds⟩ d x).tmps := by
  cases d with
  | none => exact h
  | some d =>
    intro t u hu
    simp only [Fr.put, Fr.get] at hu
    simp only [Act.put]
    by_cases e : d = t
    · subst e
      rw [if_pos rfl] at hu
      injection hu with hu
      subst hu
      exact ⟨x, by simp [hd d rfl], hv⟩
    · rw [if_neg e] at hu
      obtain ⟨y, hy, hr⟩ := h t u hu
      exact ⟨y, by rw [Array.getElem?_setIfInBounds_ne e]; exact hy, hr⟩

theorem RelF.drop {tmps : Array Value} (h : RelF m Z w A tmps) (W : List Nat) : RelF m Z w (A.drop W) tmps := by
  have key : ∀ (A : Fr) t, ∀ v, (Fr.drop W A).get t = some v → A.get t = some v ∧ W.contains t = false := by
    intro A
    induction A with
    | nil => intro t v hv; simp [Fr.drop, Fr.get] at hv
    | cons p A ih =>
      intro t v hv
      obtain ⟨k, u⟩ := p
      simp only [Fr.drop] at hv
      by_cases hk : W.contains k = true
      · rw [if_pos hk] at hv
        obtain ⟨h1, h2⟩ := ih t v hv
        refine ⟨?_, h2⟩
        simp only [Fr.get]
        rw [if_neg (by rintro rfl; rw [hk] at h2; cases h2)]
        exact h1
      · rw [if_neg hk] at hv
        simp only [Fr.get] at hv ⊢
        by_cases e : k = t
        · subst e
          rw [if_pos rfl] at hv ⊢
          exact ⟨hv, by simpa using hk⟩
        · rw [if_neg e] at hv ⊢
          exact ih t v hv
  intro t v hv
  exact h t v (key A t v hv).1

end

end Go.Ax
