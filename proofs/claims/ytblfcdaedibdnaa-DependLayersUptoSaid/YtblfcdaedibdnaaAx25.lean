/-
  Ax, part 25: slices wherever they lie: what they hold, places, pieces, copies.
-/
import Derived.Test.YtblfcdaedibdnaaAx24
set_option linter.unusedVariables false
set_option linter.unusedSimpArgs false
namespace Go.Ax

/-- Nothing that was there is turned. -/
structure Grow (H H' : Heap) : Prop where
  next : H.next ≤ H'.next
  same : ∀ i, i < H.next → H'.get i = H.get i

theorem Grow.refl (H : Heap) : Grow H H := ⟨Nat.le_refl _, fun _ _ => rfl⟩
theorem Grow.trans {H H1 H2 : Heap} (h : Grow H H1) (k : Grow H1 H2) : Grow H H2 := ⟨Nat.le_trans h.next k.next, fun i hi => by rw [k.same i (Nat.lt_of_lt_of_le hi h.next), h.same i hi]⟩
theorem Grow.new (H : Heap) (b : Blk) : Grow H (H.new b) := ⟨by rw [next_new]; omega, fun i hi => get_new_ne _ _ (by omega)⟩
theorem Grow.set {H H1 : Heap} (h : Grow H H1) {w : Nat} (hw : H.next ≤ w) (b : Option Blk) : Grow H (H1.set w b) := ⟨by rw [next_set]; exact h.next, fun i hi => by rw [get_set_ne _ _ (by omega), h.same i hi]⟩
theorem Step.ext {H H' : Heap} {F : List Nat} (h : Step H H' [] F) : Grow H H' := ⟨h.next, fun i hi => h.same i hi (by simp)⟩
theorem Grow.step {H H' : Heap} (h : Grow H H') (F : List Nat) : Step H H' F F := ⟨h.next, fun i hi _ => h.same i hi, fun i hi => .inl hi⟩

/-- From lo on nothing that was there is turned. -/
structure Keep (lo : Nat) (H H' : Heap) : Prop where
  next : H.next ≤ H'.next
  same : ∀ i, lo ≤ i → i < H.next → H'.get i = H.get i

theorem Grow.keep {H H' : Heap} (h : Grow H H') (lo : Nat) : Keep lo H H' := ⟨h.next, fun i _ hi => h.same i hi⟩
theorem Keep.refl (lo : Nat) (H : Heap) : Keep lo H H := ⟨Nat.le_refl _, fun _ _ _ => rfl⟩
theorem Keep.trans {lo : Nat} {H H1 H2 : Heap} (h : Keep lo H H1) (k : Keep lo H1 H2) : Keep lo H H2 := ⟨Nat.le_trans h.next k.next, fun i hl hi => by rw [k.same i hl (Nat.lt_of_lt_of_le hi h.next), h.same i hl hi]⟩
theorem Keep.set {lo : Nat} (H : Heap) {w : Nat} (hw : w < lo) (b : Option Blk) : Keep lo H (H.set w b) := ⟨Nat.le_refl _, fun i hl _ => get_set_ne _ _ (by omega)⟩

def V.capOk (e : Nat) : V → Prop
  | .sl _ _ len (.fix c) => len ≤ c
  | .sl _ _ _ (.opn e') => e' = e
  | _ => True

/-- v is a slice of n elements of e cells each; its memory has a name from lo on. -/
structure Lc (e lo : Nat) (H : Heap) (v : V) (cells : List V) (n : Nat) : Prop where
  rc : rcells e H v = some (cells, n)
  own : ∀ id, v.pid = some id → lo ≤ id ∧ id < H.next
  cap : V.capOk e v

section
variable {e lo n : Nat} {H H' : Heap} {v : V} {cells : List V}

theorem Lc.nil : Lc e lo H .nils [] 0 := ⟨rfl, fun _ h => (by cases h), trivial⟩

theorem Lc.keep (h : Lc e lo H v cells n) (k : Keep lo H H') : Lc e lo H' v cells n :=
  ⟨by rw [rcells_to fun i hi => k.same i (h.own i hi).1 (h.own i hi).2]; exact h.rc, fun i hi => ⟨(h.own i hi).1, Nat.lt_of_lt_of_le (h.own i hi).2 k.next⟩, h.cap⟩
theorem Lc.ext (h : Lc e lo H v cells n) (k : Grow H H') : Lc e lo H' v cells n := h.keep (k.keep lo)
theorem Lc.low {lo' : Nat} (h : Lc e lo H v cells n) (hl : lo' ≤ lo) : Lc e lo' H v cells n := ⟨h.rc, fun i hi => ⟨Nat.le_trans hl (h.own i hi).1, (h.own i hi).2⟩, h.cap⟩

theorem Lc.cases (h : Lc e lo H v cells n) : (v = .nils ∧ cells = [] ∧ n = 0) ∨ (∃ id off cap b, v = .sl id off n cap ∧ H.get id = some b ∧ off + n * e ≤ b.cells.length ∧ cells = (b.cells.drop off).take (n * e)) ∨ (∃ cs, v = .rs cs n ∧ n * e ≤ cs.length ∧ cells = cs.take (n * e)) := by
  have hr := h.rc
  cases v <;> simp only [rcells, reduceCtorEq, Option.some.injEq, Prod.mk.injEq, Option.bind_eq_some_iff] at hr
  · obtain ⟨rfl, rfl⟩ := hr; exact .inl ⟨rfl, rfl, rfl⟩
  · rename_i id off len cap
    obtain ⟨b, hb, hr⟩ := hr
    split at hr
    · rename_i hle
      simp only [Option.some.injEq, Prod.mk.injEq] at hr
      obtain ⟨rfl, rfl⟩ := hr
      exact .inr (.inl ⟨id, off, cap, b, rfl, hb, hle, rfl⟩)
    · cases hr
  · rename_i cs len
    split at hr
    · rename_i hle
      simp only [Option.some.injEq, Prod.mk.injEq] at hr
      obtain ⟨rfl, rfl⟩ := hr
      exact .inr (.inr ⟨cs, rfl, hle, rfl⟩)
    · cases hr

theorem Lc.len (h : Lc e lo H v cells n) : cells.length = n * e := by
  rcases h.cases with ⟨_, rfl, rfl⟩ | ⟨_, _, _, _, _, _, hl, rfl⟩ | ⟨_, _, hl, rfl⟩
  · simp
  · rw [List.length_take, List.length_drop]; omega
  · rw [List.length_take]; omega
theorem Lc.vlen (h : Lc e lo H v cells n) : Ax.vlen v = some (.int .i64 (n : Int)) := by
  rcases h.cases with ⟨rfl, _, rfl⟩ | ⟨_, _, _, _, rfl, _⟩ | ⟨_, rfl, _⟩ <;> rfl
theorem Lc.cells1 (h : Lc e lo H v cells n) : v.cells = [v] := by
  rcases h.cases with ⟨rfl, _, rfl⟩ | ⟨_, _, _, _, rfl, _⟩ | ⟨_, rfl, _⟩ <;> rfl
theorem Lc.okc (h : Lc e lo H v cells n) : v.okc = true := by
  rcases h.cases with ⟨rfl, _, rfl⟩ | ⟨_, _, _, _, rfl, _⟩ | ⟨_, rfl, _⟩ <;> rfl
theorem Lc.ac (h : Lc e lo H v cells n) : acells e H v = some (cells, n) := acells_rc h.rc

/-- A place's neighbour. -/
def fa (p : V) (o : Nat) : V := match p with
  | .ptr id off => .ptr id (off + o)
  | .rp cs off => .rp cs (off + o)
  | v => v

/-- What is loaded at p. -/
abbrev LdR (n : Option Nat) (H : Heap) (p c : V) : Prop := ∀ (f : V → M Res) (Q : Res → Heap → Prop), @OkB V Res (mload n p) H ⟨f⟩ ⟨Q⟩ ↔ Ok (f c) H Q

/-- p is the place of the cells cs. -/
structure Pl (H : Heap) (p : V) (cs : List V) (own : Option Nat) : Prop where
  fa : ∀ {o : Nat}, Ax.faddr o p = some (Ax.fa p o)
  ld : ∀ {o : Nat}, o < cs.length → ∀ {f : V → M Res} {Q : Res → Heap → Prop}, @OkB V Res (mload none (Ax.fa p o)) H ⟨f⟩ ⟨Q⟩ ↔ @OkB V Res (M.lift cs[o]?) H ⟨f⟩ ⟨Q⟩
  ld0 : 0 < cs.length → ∀ {f : V → M Res} {Q : Res → Heap → Prop}, @OkB V Res (mload none p) H ⟨f⟩ ⟨Q⟩ ↔ @OkB V Res (M.lift cs[0]?) H ⟨f⟩ ⟨Q⟩
  all : LdR (some cs.length) H p (.agg cs)
  pid : p.pid = own ∧ ∀ o, (Ax.fa p o).pid = own

theorem okB_lift {α : Type} {x : M α} {o : Option α} {H : Heap} (h : x H = o.map fun v => (v, H)) {f : α → M Res} {Q : Res → Heap → Prop} : @OkB α Res x H ⟨f⟩ ⟨Q⟩ ↔ @OkB α Res (M.lift o) H ⟨f⟩ ⟨Q⟩ := by
  show Ok (x.bind f) H Q ↔ Ok ((M.lift o).bind f) H Q
  have e : (x.bind f) H = ((M.lift o).bind f) H := by simp only [M.bind, M.lift, h]
  unfold Ok
  rw [e]

theorem pl_ptr {id off m : Nat} {b : Blk} (hb : H.get id = some b) (hm : off + m ≤ b.cells.length) : Pl H (.ptr id off) ((b.cells.drop off).take m) (some id) := by
  have hlen : ((b.cells.drop off).take m).length = m := by rw [List.length_take, List.length_drop]; omega
  refine ⟨rfl, fun {o} ho f Q => okB_lift ?_, fun h0 f Q => okB_lift ?_, fun f Q => ?_, rfl, fun o => rfl⟩
  · rw [hlen] at ho
    simp only [fa, mload, hb, Option.bind_some, ldc]
    rw [List.getElem?_take_of_lt ho, List.getElem?_drop]
  · rw [hlen] at h0
    simp only [mload, hb, Option.bind_some, ldc]
    rw [List.getElem?_take_of_lt h0, List.getElem?_drop]; rfl
  · rw [hlen]
    refine okb_of ⟨_, _, ?_, rfl, rfl⟩
    simp only [mload, hb, Option.bind_some, ldc]
    rw [if_pos hm]; rfl

theorem pl_rp {cs : List V} {off m : Nat} (hm : off + m ≤ cs.length) : Pl H (.rp cs off) ((cs.drop off).take m) none := by
  have hlen : ((cs.drop off).take m).length = m := by rw [List.length_take, List.length_drop]; omega
  refine ⟨rfl, fun {o} ho f Q => okB_lift ?_, fun h0 f Q => okB_lift ?_, fun f Q => ?_, rfl, fun o => rfl⟩
  · rw [hlen] at ho
    simp only [fa, mload, ldc]
    rw [List.getElem?_take_of_lt ho, List.getElem?_drop]
  · rw [hlen] at h0
    simp only [mload, ldc]
    rw [List.getElem?_take_of_lt h0, List.getElem?_drop]; rfl
  · rw [hlen]
    refine okb_of ⟨_, _, ?_, rfl, rfl⟩
    simp only [mload, ldc]
    rw [if_pos hm]; rfl

/-- An element's place. -/
theorem Lc.at (h : Lc e lo H v cells n) {i : Int} (h0 : 0 ≤ i) (h1 : i < n) : ∃ p, (∀ {k : IntKind}, Ax.iaddr none e v (.int k i) = some p) ∧ Pl H p ((cells.drop (i.toNat * e)).take e) v.pid := by
  have hi : i.toNat * e + e ≤ n * e := by
    have : (i.toNat + 1) * e ≤ n * e := Nat.mul_le_mul_right e (by omega)
    rw [Nat.add_mul] at this; omega
  rcases h.cases with ⟨_, _, rfl⟩ | ⟨id, off, cap, b, rfl, hb, hl, rfl⟩ | ⟨cs, rfl, hl, rfl⟩
  · omega
  · refine ⟨.ptr id (off + i.toNat * e), iaddr_sl h0 h1, ?_⟩
    have := pl_ptr (H := H) (off := off + i.toNat * e) (m := e) hb (by omega)
    rw [List.drop_take, List.take_take, List.drop_drop, Nat.min_eq_left (by omega)]
    exact this
  · refine ⟨.rp cs (i.toNat * e), iaddr_rs h0 h1, ?_⟩
    have := pl_rp (H := H) (cs := cs) (off := i.toNat * e) (m := e) (by omega)
    rw [List.drop_take, List.take_take, Nat.min_eq_left (by omega)]
    exact this

/-- A piece. -/
theorem Lc.slice (h : Lc e lo H v cells n) {x y : Int} (h0 : 0 ≤ x) (h1 : x ≤ y) (h2 : y ≤ n) :
    ∃ v', (∀ {k k' : IntKind}, vslice .sl e v (some (.int k x)) (some (.int k' y)) none = some v') ∧ (x = 0 → ∀ {k' : IntKind}, vslice .sl e v none (some (.int k' y)) none = some v') ∧ (y = n → ∀ {k : IntKind}, vslice .sl e v (some (.int k x)) none none = some v') ∧
      Lc e lo H v' ((cells.drop (x.toNat * e)).take ((y.toNat - x.toNat) * e)) (y.toNat - x.toNat) ∧ v'.pid = v.pid := by
  have hxy : x.toNat * e + (y.toNat - x.toNat) * e ≤ n * e := by
    rw [← Nat.add_mul]; exact Nat.mul_le_mul_right e (by omega)
  rcases h.cases with ⟨rfl, rfl, rfl⟩ | ⟨id, off, cap, b, rfl, hb, hl, rfl⟩ | ⟨cs, rfl, hl, rfl⟩
  · have hx : x = 0 := by omega
    have hy : y = 0 := by omega
    subst hx hy
    refine ⟨.nils, rfl, fun _ => rfl, fun _ => rfl, by simpa using Lc.nil, rfl⟩
  · have hcap := h.cap
    cases cap with
    | fix c =>
      have hcap : n ≤ c := hcap
      refine ⟨.sl id (off + x.toNat * e) (y.toNat - x.toNat) (.fix (((c : Int)).toNat - x.toNat)), fun {k k'} => ?_, fun hx k' => ?_, fun hy k => ?_, ⟨?_, h.own, ?_⟩, rfl⟩
      · simp only [vslice, optInt, vint, Option.map_some, Option.bind_some, Option.getD_some, Option.getD_none]
        rw [if_neg (by simp), if_pos (by omega)]
      · subst hx
        simp only [vslice, optInt, vint, Option.map_some, Option.bind_some, Option.getD_some, Option.getD_none]
        rw [if_neg (by simp), if_pos (by omega)]
      · subst hy
        simp only [vslice, optInt, vint, Option.map_some, Option.bind_some, Option.getD_some, Option.getD_none]
        rw [if_neg (by simp), if_pos (by omega)]
      · simp only [rcells, hb, Option.bind_some]
        rw [if_pos (by omega), List.drop_take, List.take_take, List.drop_drop, Nat.min_eq_left (by omega)]
      · show y.toNat - x.toNat ≤ _
        omega
    | opn e' =>
      have hcap : e' = e := hcap
      subst hcap
      refine ⟨.sl id (off + x.toNat * e') (y.toNat - x.toNat) (.opn e'), fun {k k'} => ?_, fun hx k' => ?_, fun hy k => ?_, ⟨?_, h.own, rfl⟩, rfl⟩
      · simp only [vslice, optInt, vint, Option.map_some, Option.bind_some, Option.getD_some]
        rw [if_neg (by simp), if_pos ⟨trivial, by omega, by omega, by omega⟩]
      · subst hx
        simp only [vslice, optInt, vint, Option.map_some, Option.bind_some, Option.getD_some, Option.getD_none]
        rw [if_neg (by simp), if_pos ⟨trivial, by omega, by omega, by omega⟩]
      · subst hy
        simp only [vslice, optInt, vint, Option.map_some, Option.bind_some, Option.getD_some, Option.getD_none]
        rw [if_neg (by simp), if_pos ⟨trivial, by omega, by omega, by omega⟩]
      · simp only [rcells, hb, Option.bind_some]
        rw [if_pos (by omega), List.drop_take, List.take_take, List.drop_drop, Nat.min_eq_left (by omega)]
  · refine ⟨.rs (cs.drop (x.toNat * e)) (y.toNat - x.toNat), fun {k k'} => ?_, fun hx k' => ?_, fun hy k => ?_, ⟨?_, fun id h => (by cases h), trivial⟩, rfl⟩
    · simp only [vslice, optInt, vint, Option.map_some, Option.bind_some, Option.getD_some]
      rw [if_neg (by simp), if_pos (by simp; omega)]
    · subst hx
      simp only [vslice, optInt, vint, Option.map_some, Option.bind_some, Option.getD_some, Option.getD_none]
      rw [if_neg (by simp), if_pos (by simp; omega)]
    · subst hy
      simp only [vslice, optInt, vint, Option.map_some, Option.bind_some, Option.getD_some, Option.getD_none]
      rw [if_neg (by simp), if_pos (by simp; omega)]
    · simp only [rcells]
      rw [if_pos (by rw [List.length_drop]; omega), List.drop_take, List.take_take, Nat.min_eq_left (by omega)]

end

theorem Opn.lc {ty e lo n : Nat} {H : Heap} {v : V} {cells : List V} (h : Opn ty e H v cells n) (ho : ∀ id, v.pid = some id → lo ≤ id ∧ id < H.next) : Lc e lo H v cells n := by
  refine ⟨h.rc, ho, ?_⟩
  rcases h with ⟨rfl, _⟩ | ⟨_, rfl, _⟩
  · trivial
  · rfl

theorem Ar.lc {α : Type} {f : α → V} {v : V} {l : List α} {H : Heap} (h : Ar f v l) (lo : Nat) : Lc 1 lo H v (l.map f) l.length := by
  refine ⟨h.rc, fun id hi => (by rw [h.pid] at hi; cases hi), ?_⟩
  rcases h with ⟨rfl, _⟩ | rfl <;> trivial

/-- A slice to which more may be appended, of blocks from lo on. -/
inductive App (ty e lo : Nat) (H : Heap) : V → List V → Nat → Prop
  | opn {v : V} {cells : List V} {n : Nat} (h : Opn ty e H v cells n) (ho : ∀ id, v.pid = some id → lo ≤ id ∧ id < H.next) : App ty e lo H v cells n
  | lit {id : Nat} (h : H.get id = some ⟨ty, [], none⟩) (h0 : lo ≤ id) (h1 : id < H.next) : App ty e lo H (.sl id 0 0 (.fix 0)) [] 0

theorem App.lc {ty e lo n : Nat} {H : Heap} {v : V} {cells : List V} (h : App ty e lo H v cells n) : Lc e lo H v cells n := by
  cases h with
  | opn h ho => exact h.lc ho
  | lit h h0 h1 =>
    refine ⟨?_, fun id hi => by simp only [V.pid, Option.some.injEq] at hi; subst hi; exact ⟨h0, h1⟩, Nat.le_refl _⟩
    simp only [rcells, h, Option.bind_some]
    rw [if_pos (by simp)]; simp

theorem App.nil {ty e lo : Nat} {H : Heap} : App ty e lo H .nils [] 0 := .opn .nil fun _ h => by cases h

/-- append(x, y..), x of one's own, from lo on. -/
theorem okb_app {β : Type} {ty e bytes lo n m : Nat} {H : Heap} {x y : V} {cells q : List V} {f : V → M β} {Q : β → Heap → Prop} (hx : App ty e lo H x cells n) (hlo : lo ≤ H.next) (hy : acells e H y = some (q, m)) (hq : q.length = m * e)
    (hb : (n + m) * bytes ≤ 140737488355328) (hm : n + m ≤ 140737488355328)
    (k : ∀ x' H', App ty e lo H' x' (cells ++ q) (n + m) → Step H H' x.pid.toList x'.pid.toList → Ok (f x') H' Q) : Ok ((mappend ty e bytes x y).bind f) H Q := by
  cases hx with
  | opn h ho =>
    refine okb_append h hy hq hb hm fun x' H' h1 hs _ => k x' H' (.opn h1 fun id hi => ?_) hs
    rcases hs.own id (by simp [hi]) with h2 | h2
    · obtain ⟨h3, h4⟩ := ho id (by simpa [mem_pid] using h2)
      exact ⟨h3, Nat.lt_of_lt_of_le h4 hs.next⟩
    · exact ⟨Nat.le_trans hlo h2.1, h2.2⟩
  | lit h h0 h1 =>
    rename_i id
    have hml : m ≤ maxLen := Nat.le_trans (by omega : m ≤ 140737488355328) byte_bound
    have hp : ((V.sl id 0 0 (.fix 0)).pid).toList = [id] := rfl
    by_cases hz : m = 0
    · subst hz
      have hq0 : q = [] := List.eq_nil_of_length_eq_zero (by omega)
      subst hq0
      refine ok_bind ⟨.sl id 0 0 (.fix 0), H.set id (some ⟨ty, [], none⟩), ?_, k _ _ ?_ (Step.set _ (by simp [hp]))⟩
      · simp only [mappend, hy, Option.bind_some, mappendq, h]
        rw [if_pos ⟨by simp, trivial⟩]
        simp [splice]
      · exact .lit (get_set_self _ _ _) h0 h1
    · refine ok_bind ⟨.sl H.next 0 m (.opn e), H.new ⟨ty, q, some e⟩, ?_, ?_⟩
      · simp only [mappend, hy, Option.bind_some, mappendq, h]
        rw [if_pos ⟨by simp, trivial⟩]
        simp only [Nat.zero_add, List.length_nil, Nat.zero_mul]
        rw [if_neg (by omega), if_pos ⟨by simpa using hb, hml⟩]
        simp
      · have hr : App ty e lo (H.new ⟨ty, q, some e⟩) (.sl H.next 0 m (.opn e)) ([] ++ q) (0 + m) := by
          refine .opn (.inr ⟨H.next, by simp, by rw [get_new_self]; simp, by simpa using hq⟩) fun i hi => ?_
          simp only [V.pid, Option.some.injEq] at hi
          subst hi
          exact ⟨hlo, by rw [next_new]; omega⟩
        refine k _ _ hr ⟨by rw [next_new]; omega, fun i hi _ => get_new_ne _ _ (by omega), fun i hi => .inr ?_⟩
        simp only [V.pid, Option.toList_some, List.mem_singleton] at hi
        subst hi
        exact ⟨Nat.le_refl _, by rw [next_new]; omega⟩

theorem acells_at {H : Heap} {ty : TypeId} {cs : List V} {o : Option Nat} {n e id : Nat} {cap : Cap} (hi : id = H.next) (h : cs.length = n * e) : acells e (H.new ⟨ty, cs, o⟩) (.sl id 0 n cap) = some (cs, n) := by
  subst hi; exact acells_fresh h

/-- What one's own blocks do to others. -/
theorem Step.keepLow {H H' : Heap} {F F' : List Nat} (h : Step H H' F F') {m : Nat} (hF : ∀ i ∈ F, m ≤ i) : ∀ i, i < m → i < H.next → H'.get i = H.get i := fun i hi hn => h.same i hn fun k => by have := hF i k; omega

/-- What happens to one block. -/
structure At1 (k : Nat) (H H' : Heap) : Prop where
  next : H.next ≤ H'.next
  same : ∀ i, i < H.next → i ≠ k → H'.get i = H.get i

theorem At1.refl (k : Nat) (H : Heap) : At1 k H H := ⟨Nat.le_refl _, fun _ _ _ => rfl⟩
theorem At1.trans {k : Nat} {H H1 H2 : Heap} (h : At1 k H H1) (g : At1 k H1 H2) : At1 k H H2 := ⟨Nat.le_trans h.next g.next, fun i hi hk => by rw [g.same i (Nat.lt_of_lt_of_le hi h.next) hk, h.same i hi hk]⟩
theorem Grow.at1 {H H' : Heap} (h : Grow H H') (k : Nat) : At1 k H H' := ⟨h.next, fun i hi _ => h.same i hi⟩
theorem At1.set (k : Nat) (H : Heap) (b : Option Blk) : At1 k H (H.set k b) := ⟨Nat.le_refl _, fun i _ hk => get_set_ne _ _ hk⟩
theorem Lc.at1 {e lo n k : Nat} {H H' : Heap} {v : V} {cells : List V} (h : Lc e lo H v cells n) (s : At1 k H H') (hk : v.pid ≠ some k) : Lc e lo H' v cells n :=
  ⟨by rw [rcells_to fun i hi => s.same i (h.own i hi).2 fun e => hk (e ▸ hi)]; exact h.rc, fun i hi => ⟨(h.own i hi).1, Nat.lt_of_lt_of_le (h.own i hi).2 s.next⟩, h.cap⟩

end Go.Ax
