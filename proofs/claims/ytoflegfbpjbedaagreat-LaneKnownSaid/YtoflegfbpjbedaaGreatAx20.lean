/-
  Ax, part 20: rules for proofs over the plain texts: 'Ok x H Q': x comes through from H, and what it answers is as Q says.
-/
import Derived.Test.YtoflegfbpjbedaaGreatAx19
namespace Go.Ax

def Ok {α : Type} (x : M α) (H : Heap) (Q : α → Heap → Prop) : Prop := ∃ v H', x H = some (v, H') ∧ Q v H'

section
variable {α β : Type} {H : Heap}

theorem ok_mono {x : M α} {Q Q' : α → Heap → Prop} (h : Ok x H Q) (hq : ∀ v H', Q v H' → Q' v H') : Ok x H Q' := by
  obtain ⟨v, H', h1, h2⟩ := h
  exact ⟨v, H', h1, hq _ _ h2⟩

theorem ok_bind {x : M α} {f : α → M β} {Q : β → Heap → Prop} (h : Ok x H fun v H1 => Ok (f v) H1 Q) : Ok (x.bind f) H Q := by
  obtain ⟨v, H1, h1, w, H2, h2, hq⟩ := h
  exact ⟨w, H2, by rw [bind_ok h1, h2], hq⟩

/-- First what is known of x, then the rest. -/
theorem ok_bind' {x : M α} {f : α → M β} {P : α → Heap → Prop} {Q : β → Heap → Prop} (h : Ok x H P) (k : ∀ v H1, P v H1 → Ok (f v) H1 Q) : Ok (x.bind f) H Q := ok_bind (ok_mono h k)

theorem ok_pure {v : α} {Q : α → Heap → Prop} (h : Q v H) : Ok (M.pure v) H Q := ⟨v, H, rfl, h⟩

theorem ok_pureb {v : α} {f : α → M β} {Q : β → Heap → Prop} (h : Ok (f v) H Q) : Ok ((M.pure v).bind f) H Q := h

theorem ok_lift {o : Option α} {v : α} {Q : α → Heap → Prop} (ho : o = some v) (h : Q v H) : Ok (M.lift o) H Q := ⟨v, H, by subst ho; rfl, h⟩

theorem ok_liftb {o : Option α} {v : α} {f : α → M β} {Q : β → Heap → Prop} (ho : o = some v) (h : Ok (f v) H Q) : Ok ((M.lift o).bind f) H Q := ok_bind (ok_lift ho h)

theorem ok_ite {b : Bool} {x y : M α} {Q : α → Heap → Prop} (h1 : b = true → Ok x H Q) (h2 : b = false → Ok y H Q) : Ok (M.ite (.bool b) x y) H Q := by
  cases b
  · exact h2 rfl
  · exact h1 rfl

theorem ok_itet {x y : M α} {Q : α → Heap → Prop} (h : Ok x H Q) : Ok (M.ite (.bool true) x y) H Q := h

theorem ok_itef {x y : M α} {Q : α → Heap → Prop} (h : Ok y H Q) : Ok (M.ite (.bool false) x y) H Q := h

theorem ok_itep {p : Prop} [Decidable p] {x y : M α} {Q : α → Heap → Prop} (h1 : p → Ok x H Q) (h2 : ¬ p → Ok y H Q) : Ok (M.ite (.bool (decide p)) x y) H Q :=
  ok_ite (fun h => h1 (of_decide_eq_true h)) fun h => h2 (of_decide_eq_false h)

theorem ok_guard {b w : Bool} {x : M V} {Q : V → Heap → Prop} (h1 : b = w → Ok x H Q) (h2 : b ≠ w → Q .undef H) : Ok (guarded [(0, .bool b)] (some (0, w)) x) H Q := by
  show Ok (if b = w then x else M.pure .undef) H Q
  by_cases hb : b = w
  · rw [if_pos hb]; exact h1 hb
  · rw [if_neg hb]; exact ok_pure (h2 hb)

theorem ok_guardu {w : Bool} {x : M V} {Q : V → Heap → Prop} (h : Q .undef H) : Ok (guarded [(0, .undef)] (some (0, w)) x) H Q := ok_pure h

theorem ok_guardb {b w : Bool} {x : M V} {f : V → M β} {Q : β → Heap → Prop} (h1 : b = w → Ok (x.bind f) H Q) (h2 : b ≠ w → Ok (f .undef) H Q) : Ok ((guarded [(0, .bool b)] (some (0, w)) x).bind f) H Q := by
  show Ok ((if b = w then x else M.pure .undef).bind f) H Q
  by_cases hb : b = w
  · rw [if_pos hb]; exact h1 hb
  · rw [if_neg hb]; exact h2 hb

theorem ok_guardy {w : Bool} {x : M V} {f : V → M β} {Q : β → Heap → Prop} (h : Ok (x.bind f) H Q) : Ok ((guarded [(0, .bool w)] (some (0, w)) x).bind f) H Q := ok_guardb (fun _ => h) fun h => absurd rfl h

theorem ok_guardn1 {x : M V} {f : V → M β} {Q : β → Heap → Prop} (h : Ok (f .undef) H Q) : Ok ((guarded [(0, .bool true)] (some (0, false)) x).bind f) H Q := h
theorem ok_guardn2 {x : M V} {f : V → M β} {Q : β → Heap → Prop} (h : Ok (f .undef) H Q) : Ok ((guarded [(0, .bool false)] (some (0, true)) x).bind f) H Q := h

/-- Behind a join. -/
def Then (k : List V → M Res) (Q : Res → Heap → Prop) : Res → Heap → Prop
  | .nrm L, H => Ok (k L) H Q
  | r, H => Q r H

theorem ok_join {x : M Res} {k : List V → M Res} {Q : Res → Heap → Prop} (h : Ok x H (Then k Q)) : Ok (M.join x k) H Q := by
  obtain ⟨r, H1, h1, h2⟩ := h
  refine ok_bind ⟨r, H1, h1, ?_⟩
  cases r with
  | nrm L => exact h2
  | ex id L => exact ok_pure h2
  | ret L => exact ok_pure h2

/-- Behind a block. -/
def Out (id : Nat) (k : List V → M Res) (Q : Res → Heap → Prop) : Res → Heap → Prop
  | .nrm L, H => Ok (k L) H Q
  | .ex i L, H => if i = id then Ok (k L) H Q else Q (.ex i L) H
  | .ret L, H => Q (.ret L) H

theorem ok_blk {id : Nat} {x : M Res} {k : List V → M Res} {Q : Res → Heap → Prop} (h : Ok x H (Out id k Q)) : Ok (M.blk id x k) H Q := by
  obtain ⟨r, H1, h1, h2⟩ := h
  refine ok_bind ⟨r, H1, h1, ?_⟩
  cases r with
  | nrm L => exact h2
  | ex i L =>
    simp only [Out] at h2
    dsimp only
    by_cases e : i = id
    · rw [if_pos e] at h2 ⊢; exact h2
    · rw [if_neg e] at h2 ⊢; exact ok_pure h2
  | ret L => exact ok_pure h2

theorem out_ex {id : Nat} {k : List V → M Res} {Q : Res → Heap → Prop} {L : List V} (h : Ok (k L) H Q) : Out id k Q (.ex id L) H := by
  simp only [Out, if_true]; exact h

theorem out_other {id i : Nat} {k : List V → M Res} {Q : Res → Heap → Prop} {L : List V} (hi : i ≠ id) (h : Q (.ex i L) H) : Out id k Q (.ex i L) H := by
  simp only [Out, if_neg hi]; exact h

theorem ok_fin {x : M Res} {Q : V → Heap → Prop} (h : Ok x H fun r H' => ∃ L, r = .ret L ∧ Q (tupled L) H') : Ok (fin x) H Q := by
  obtain ⟨r, H1, h1, L, rfl, hq⟩ := h
  exact ok_bind ⟨_, H1, h1, ok_pure hq⟩

/-- A loop: what holds ahead of each round, and what falls. -/
theorem ok_iter {body : List V → M Res} {L : List V} {Q : Res → Heap → Prop} (I : List V → Heap → Nat → Prop) (n : Nat) (h0 : I L H n)
    (hb : ∀ L H n, I L H n → Ok (body L) H fun r H' => match r with | .nrm L' => ∃ n', n' < n ∧ I L' H' n' | r => Q r H') : Ok (M.iter body L) H Q := by
  induction n using Nat.strongRecOn generalizing L H with
  | ind n ih =>
    obtain ⟨r, H1, h1, h2⟩ := hb L H n h0
    cases r with
    | nrm L' =>
      obtain ⟨n', hlt, hI⟩ := h2
      obtain ⟨r', H2, h3, h4⟩ := ih n' hlt hI
      exact ⟨r', H2, iter_next h1 h3, h4⟩
    | ex id L' => exact ⟨_, H1, iter_exit h1, h2⟩
    | ret L' => exact ⟨_, H1, iter_ret h1, h2⟩

/-! Memory. -/

theorem ok_load {id off : Nat} {n : Option Nat} {b : Blk} {v : V} {Q : V → Heap → Prop} (hb : H.get id = some b) (hv : ldc n b.cells off = some v) (h : Q v H) : Ok (mload n (.ptr id off)) H Q :=
  ⟨v, H, by simp only [mload, hb, Option.bind_some, hv, Option.map_some], h⟩

theorem ok_loadr {cells : List V} {off : Nat} {n : Option Nat} {v : V} {Q : V → Heap → Prop} (hv : ldc n cells off = some v) (h : Q v H) : Ok (mload n (.rp cells off)) H Q :=
  ⟨v, H, by simp only [mload, hv, Option.map_some], h⟩

theorem ok_store {id off size : Nat} {b : Blk} {x : V} {Q : V → Heap → Prop} (hb : H.get id = some b) (h1 : x.cells.length = size) (h2 : off + size ≤ b.cells.length) (h3 : x.okc = true)
    (h : Q .undef (H.set id (some { b with cells := splice b.cells off x.cells }))) : Ok (mstore size (.ptr id off) x) H Q :=
  ⟨_, _, by simp only [mstore, hb, Option.bind_some]; rw [if_pos ⟨h1, h2, h3⟩], h⟩

theorem ok_box {ty : TypeId} {x : V} {Q : V → Heap → Prop} (h3 : x.okc = true) (h : Q (.ptr H.next 0) (H.new ⟨ty, x.cells, none⟩)) : Ok (mbox ty x) H Q :=
  ⟨_, _, by simp only [mbox]; rw [if_pos h3], h⟩

theorem ok_slit {ty : TypeId} {len : Nat} {zero : List V} {parts : List (Nat × Nat × V)} {cs : List V} {Q : V → Heap → Prop} (hf : fill (zeros zero len) parts = some cs) (h : Q (.sl H.next 0 len (.fix len)) (H.new ⟨ty, cs, none⟩)) : Ok (mslit ty len zero parts) H Q :=
  ⟨_, _, by simp only [mslit, hf, Option.map_some], h⟩

theorem ok_mkslice {ty bytes : Nat} {zero : List V} {l c : Int} {Q : V → Heap → Prop} (h1 : 0 ≤ l ∧ l ≤ c ∧ c * bytes ≤ 281474976710656 ∧ c ≤ 281474976710656) (h : Q (.sl H.next 0 l.toNat (.fix c.toNat)) (H.new ⟨ty, zeros zero c.toNat, none⟩)) :
    Ok (mmkslice ty bytes zero (.int .i64 l) (.int .i64 c)) H Q :=
  ⟨_, _, by simp only [mmkslice]; rw [if_pos h1], h⟩

/-- append(nil, y..). -/
theorem ok_appendn {ty esz bytes : Nat} {y : V} {q : List V × Nat} {Q : V → Heap → Prop} (hy : acells esz H y = some q) (h0 : q.2 = 0 → Q .nils H) (h1 : q.2 ≠ 0 → q.2 * bytes ≤ 140737488355328 ∧ q.2 ≤ maxLen ∧ Q (.sl H.next 0 q.2 (.opn esz)) (H.new ⟨ty, q.1, some esz⟩)) :
    Ok (mappend ty esz bytes .nils y) H Q := by
  by_cases h : q.2 = 0
  · exact ⟨_, _, by simp only [mappend, mappendq, hy, Option.bind_some]; rw [if_pos h], h0 h⟩
  · obtain ⟨a, b, c⟩ := h1 h
    exact ⟨_, _, by simp only [mappend, mappendq, hy, Option.bind_some]; rw [if_neg h, if_pos ⟨a, b⟩], c⟩

/-- append(x, y..), x a slice that was made by appending, used once. -/
theorem ok_append {ty esz bytes id len : Nat} {y : V} {b : Blk} {q : List V × Nat} {Q : V → Heap → Prop} (hy : acells esz H y = some q) (hb : H.get id = some b) (ht : b.ty = ty) (ho : b.opn = some esz) (hl : b.cells.length = len * esz)
    (h0 : q.2 = 0 → Q (.sl id 0 len (.opn esz)) H) (h1 : q.2 ≠ 0 → (len + q.2) * bytes ≤ 140737488355328 ∧ len + q.2 ≤ maxLen ∧ Q (.sl H.next 0 (len + q.2) (.opn esz)) ((H.set id none).new ⟨ty, b.cells ++ q.1, some esz⟩)) :
    Ok (mappend ty esz bytes (.sl id 0 len (.opn esz)) y) H Q := by
  have hc : 0 + len * esz ≤ b.cells.length ∧ b.ty = ty := ⟨by omega, ht⟩
  by_cases h : q.2 = 0
  · exact ⟨_, _, by simp only [mappend, mappendq, hy, Option.bind_some, hb]; rw [if_pos hc, if_pos ⟨trivial, trivial, ho, hl⟩, if_pos h], h0 h⟩
  · obtain ⟨a, c, d⟩ := h1 h
    exact ⟨_, _, by simp only [mappend, mappendq, hy, Option.bind_some, hb]; rw [if_pos hc, if_pos ⟨trivial, trivial, ho, hl⟩, if_neg h, if_pos ⟨a, c⟩], d⟩

theorem ok_tostr {x : V} {q : List V × Nat} {l : List UInt8} {Q : V → Heap → Prop} (hq : rcells 1 H x = some q) (hl : vbytes q.1 = some l) (h : Q (.str ⟨l.toArray⟩) H) : Ok (mtostr x) H Q :=
  ⟨_, _, by simp only [mtostr, hq, Option.bind_some, hl, Option.map_some], h⟩

theorem ok_unch {v : V} {h h' : Heap} {Q : Unit → Heap → Prop} (hp : ∀ id, v.pid = some id → h'.get id = h.get id) (hq : Q () H) : Ok (M.unch v h h') H Q :=
  ⟨(), H, by unfold M.unch; rw [if_pos hp], hq⟩

theorem ok_getH {Q : Heap → Heap → Prop} (h : Q H H) : Ok M.getH H Q := ⟨H, H, rfl, h⟩

end

/-- A function of the table. -/
theorem ok_sem {T : FuncId → Option Fn'} {f : FuncId} {ir : Fn'} (hT : T f = some ir) {args : List V} (hl : args.length ≤ ir.ntmps) {x : M Res} (hx : execK (sem T) ir.rv ir.body [] [] (params 0 args) = x) {H : Heap} {Q : V → Heap → Prop}
    (h : Ok x H fun r H' => ∃ L, r = .ret L ∧ Q (tupled L) H') : Ok (sem T f args) H Q := by
  obtain ⟨v, H', h1, h2⟩ := ok_fin h
  exact ⟨v, H', sem_step hT hl (congrArg fin hx) h1, h2⟩

/-! Heaps. -/

theorem get_set_self (H : Heap) (id : Nat) (b : Option Blk) : (H.set id b).get id = b := by simp [Heap.set]
theorem get_set_ne (H : Heap) {id i : Nat} (b : Option Blk) (h : i ≠ id) : (H.set id b).get i = H.get i := by simp [Heap.set, h]
theorem next_set (H : Heap) (id : Nat) (b : Option Blk) : (H.set id b).next = H.next := rfl
theorem get_new_self (H : Heap) (b : Blk) : (H.new b).get H.next = some b := by simp [Heap.new]
theorem get_new_ne (H : Heap) {i : Nat} (b : Blk) (h : i ≠ H.next) : (H.new b).get i = H.get i := by simp [Heap.new, h]
theorem next_new (H : Heap) (b : Blk) : (H.new b).next = H.next + 1 := rfl

/-- From H to H' nothing but the blocks F was touched (and new ones made); of what is owned afterwards ('F'') all was owned or is new. -/
structure Step (H H' : Heap) (F F' : List Nat) : Prop where
  next : H.next ≤ H'.next
  same : ∀ i, i < H.next → i ∉ F → H'.get i = H.get i
  own : ∀ i, i ∈ F' → i ∈ F ∨ (H.next ≤ i ∧ i < H'.next)

theorem Step.refl (H : Heap) (F : List Nat) : Step H H F F := ⟨Nat.le_refl _, fun _ _ _ => rfl, fun _ h => .inl h⟩

theorem Step.trans {H H1 H2 : Heap} {F F1 F2 : List Nat} (h : Step H H1 F F1) (k : Step H1 H2 F1 F2) : Step H H2 F F2 := by
  refine ⟨Nat.le_trans h.next k.next, fun i hi hF => ?_, fun i hi => ?_⟩
  · rw [k.same i (Nat.lt_of_lt_of_le hi h.next) fun h1 => ?_, h.same i hi hF]
    rcases h.own i h1 with h2 | h2
    · exact hF h2
    · omega
  · rcases k.own i hi with h1 | h1
    · rcases h.own i h1 with h2 | h2
      · exact .inl h2
      · exact .inr ⟨h2.1, Nat.lt_of_lt_of_le h2.2 k.next⟩
    · exact .inr ⟨Nat.le_trans h.next h1.1, h1.2⟩

/-- What is owned lies below the next name. -/
def Below (F : List Nat) (H : Heap) : Prop := ∀ i ∈ F, i < H.next

theorem Step.below {H H' : Heap} {F F' : List Nat} (h : Step H H' F F') (hb : Below F H) : Below F' H' := fun i hi => by
  rcases h.own i hi with h1 | h1
  · exact Nat.lt_of_lt_of_le (hb i h1) h.next
  · exact h1.2

/-- Another's blocks are as they were. -/
theorem Step.apart {H H' : Heap} {F F' E : List Nat} (h : Step H H' F F') (hE : Below E H) (hd : ∀ i ∈ E, i ∉ F) : (∀ i ∈ E, H'.get i = H.get i) ∧ (∀ i ∈ E, i ∉ F') := by
  refine ⟨fun i hi => h.same i (hE i hi) (hd i hi), fun i hi hi' => ?_⟩
  rcases h.own i hi' with h1 | h1
  · exact hd i hi h1
  · have := hE i hi; omega

end Go.Ax
