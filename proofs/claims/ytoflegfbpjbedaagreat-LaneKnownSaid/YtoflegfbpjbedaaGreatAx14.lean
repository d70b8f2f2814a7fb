/-
  Ax, part 14: towards regions that draw their order: the steps of the order that the abstract machine goes through; what an operation looks at; two heaps side by side.
-/
import Derived.Test.YtoflegfbpjbedaaGreatAx13
namespace Go.Ax

section
variable {P : Program} {A A' : Fr} {H H' : Heap} {G : Sem'}

/-! An instruction looks at its slots alone. -/

theorem ev_congr {x : Arg} (h : ∀ t ∈ x.slots, A'.get t = A.get t) : x.ev A' = x.ev A := by
  cases x with
  | s t => exact h t (by simp [Arg.slots])
  | c v => rfl

theorem evs_congr : ∀ {xs : List Arg}, (∀ t ∈ xs.flatMap Arg.slots, A'.get t = A.get t) → evs A' xs = evs A xs := by
  intro xs
  induction xs with
  | nil => intro _; rfl
  | cons x xs ih =>
    intro h
    simp only [List.flatMap_cons, List.mem_append] at h
    simp only [evs, ev_congr fun t ht => h t (.inl ht), ih fun t ht => h t (.inr ht)]

theorem evParts_congr : ∀ {xs : List (Nat × Nat × Arg)}, (∀ t ∈ (xs.flatMap fun p => p.2.2.slots), A'.get t = A.get t) → evParts A' xs = evParts A xs := by
  intro xs
  induction xs with
  | nil => intro _; rfl
  | cons x xs ih =>
    intro h
    obtain ⟨o, s, x⟩ := x
    simp only [List.flatMap_cons, List.mem_append] at h
    simp only [evParts, ev_congr fun t ht => h t (.inl ht), ih fun t ht => h t (.inr ht)]

theorem evOpt_congr {x : Option Arg} (h : ∀ t ∈ oslots x, A'.get t = A.get t) : evOpt A' x = evOpt A x := by
  cases x with
  | none => rfl
  | some x => simp only [evOpt, ev_congr h]

theorem run_congr {ins : I} (h : ∀ t ∈ ins.slots, A'.get t = A.get t) : ins.run G A' = ins.run G A := by
  cases ins <;> simp only [I.slots, List.mem_append] at h <;> simp only [I.run, with1, withs]
  case mv x => rw [ev_congr h]
  case pick c a b => rw [ev_congr fun t ht => h t (.inl (.inl ht)), ev_congr fun t ht => h t (.inl (.inr ht)), ev_congr fun t ht => h t (.inr ht)]
  case box t x => rw [ev_congr h]
  case build z ps => rw [evParts_congr h]
  case slit z ps => rw [evParts_congr h]
  case load n x => rw [ev_congr h]
  case store n p x => rw [ev_congr fun t ht => h t (.inl ht), ev_congr fun t ht => h t (.inr ht)]
  case nilck x => rw [ev_congr h]
  case bin x y => rw [ev_congr fun t ht => h t (.inl ht), ev_congr fun t ht => h t (.inr ht)]
  case eq x y => rw [ev_congr fun t ht => h t (.inl ht), ev_congr fun t ht => h t (.inr ht)]
  case un x => rw [ev_congr h]
  case cint x => rw [ev_congr h]
  case tostr x => rw [ev_congr h]
  case tobytes x => rw [ev_congr h]
  case faddr x => rw [ev_congr h]
  case iaddr x y => rw [ev_congr fun t ht => h t (.inl ht), ev_congr fun t ht => h t (.inr ht)]
  case index x y => rw [ev_congr fun t ht => h t (.inl ht), ev_congr fun t ht => h t (.inr ht)]
  case sindex x y => rw [ev_congr fun t ht => h t (.inl ht), ev_congr fun t ht => h t (.inr ht)]
  case field x => rw [ev_congr h]
  case ext x => rw [ev_congr h]
  case len x => rw [ev_congr h]
  case slen x => rw [ev_congr h]
  case slice x lo hi mx =>
    rw [ev_congr fun t ht => h t (.inl (.inl (.inl ht))), evOpt_congr fun t ht => h t (.inl (.inl (.inr ht))), evOpt_congr fun t ht => h t (.inl (.inr ht)), evOpt_congr fun t ht => h t (.inr ht)]
  case append x y => rw [ev_congr fun t ht => h t (.inl ht), ev_congr fun t ht => h t (.inr ht)]
  case appendz x y => rw [ev_congr fun t ht => h t (.inl ht), ev_congr fun t ht => h t (.inr ht)]
  case copy x y => rw [ev_congr fun t ht => h t (.inl ht), ev_congr fun t ht => h t (.inr ht)]
  case mkslice x y => rw [ev_congr fun t ht => h t (.inl ht), ev_congr fun t ht => h t (.inr ht)]
  case slice2 c a b => rw [ev_congr fun t ht => h t (.inl (.inl ht)), ev_congr fun t ht => h t (.inl (.inr ht)), ev_congr fun t ht => h t (.inr ht)]
  case clear x => rw [ev_congr h]
  case op1 x => rw [ev_congr h]
  case mknz x => rw [ev_congr h]
  case remark x => rw [ev_congr h]
  case minmax x xs => rw [ev_congr fun t ht => h t (.inl ht), evs_congr fun t ht => h t (.inr ht)]
  case call xs => rw [evs_congr h]
  case callv x xs => rw [ev_congr fun t ht => h t (.inl ht), evs_congr fun t ht => h t (.inr ht)]
  case mkfn xs => rw [evs_congr h]

theorem aorun_congr {o : AO} (h : ∀ t ∈ o.slots, A'.get t = A.get t) : o.run G A' = o.run G A := by
  simp only [AO.slots, List.mem_append] at h
  unfold AO.run
  rw [run_congr fun t ht => h t (.inl ht)]
  cases hg : o.gd with
  | none => rfl
  | some p =>
    obtain ⟨s, want⟩ := p
    unfold guarded
    simp only [h s (.inr (by simp [hg]))]

/-- A frame cut down to some slots. -/
def Fr.cut (A : Fr) : List Nat → Fr
  | [] => []
  | t :: ts => match A.get t with
    | some v => (t, v) :: Fr.cut A ts
    | none => Fr.cut A ts

theorem cut_get (A : Fr) : ∀ (ts : List Nat) (t : Nat), (A.cut ts).get t = if t ∈ ts then A.get t else none := by
  intro ts
  induction ts with
  | nil => intro t; simp [Fr.cut, Fr.get]
  | cons s ts ih =>
    intro t
    unfold Fr.cut
    cases hs : A.get s with
    | none =>
      simp only [ih t, List.mem_cons]
      by_cases e : t = s
      · subst e; simp [hs]
      · simp [e]
    | some v =>
      simp only [Fr.get, ih t, List.mem_cons]
      by_cases e : t = s
      · subst e; simp [hs]
      · rw [if_neg (fun h => e h.symm)]; simp [e]

/-! What kind an operation is of. -/

theorem run_pure {ins : I} {v : V} (hk : ins.kind = .pure) (h : ins.run G A H = some (v, H')) : H' = H ∧ ∀ H2, ins.run G A H2 = some (v, H2) := by
  have lift : ∀ {x : Option V}, M.lift x H = some (v, H') → H' = H ∧ ∀ H2 : Heap, M.lift x H2 = some (v, H2) := fun h => by
    obtain ⟨h1, h2⟩ := lift_some h
    exact ⟨h2, fun H2 => by rw [h1]; rfl⟩
  have pur : ∀ {x : V}, M.pure x H = some (v, H') → H' = H ∧ ∀ H2 : Heap, M.pure x H2 = some (v, H2) := fun h => by
    have := pure_some h
    simp only [Prod.mk.injEq] at this
    exact ⟨this.2, fun H2 => by rw [this.1]; rfl⟩
  cases ins <;> simp only [I.kind, reduceCtorEq] at hk <;> simp only [I.run] at h ⊢
  case mv x => obtain ⟨u, hu, h⟩ := with1_some h; simp only [with1, hu]; exact pur h
  case pick c a b => obtain ⟨u, hu, h⟩ := with1_some h; obtain ⟨u1, hu1, h⟩ := with1_some h; obtain ⟨u2, hu2, h⟩ := with1_some h; simp only [with1, hu, hu1, hu2]; exact lift h
  case build z ps =>
    cases hp : evParts A ps with
    | none => rw [hp] at h; cases h
    | some ps => rw [hp] at h; exact lift h
  case nilck x => obtain ⟨u, hu, h⟩ := with1_some h; simp only [with1, hu]; exact lift h
  case bin x y => obtain ⟨u, hu, h⟩ := with1_some h; obtain ⟨u1, hu1, h⟩ := with1_some h; simp only [with1, hu, hu1]; exact lift h
  case eq x y => obtain ⟨u, hu, h⟩ := with1_some h; obtain ⟨u1, hu1, h⟩ := with1_some h; simp only [with1, hu, hu1]; exact lift h
  case un x => obtain ⟨u, hu, h⟩ := with1_some h; simp only [with1, hu]; exact lift h
  case cint x => obtain ⟨u, hu, h⟩ := with1_some h; simp only [with1, hu]; exact lift h
  case op1 x => obtain ⟨u, hu, h⟩ := with1_some h; simp only [with1, hu]; exact lift h
  case faddr x => obtain ⟨u, hu, h⟩ := with1_some h; simp only [with1, hu]; exact lift h
  case iaddr x y => obtain ⟨u, hu, h⟩ := with1_some h; obtain ⟨u1, hu1, h⟩ := with1_some h; simp only [with1, hu, hu1]; exact lift h
  case index x y => obtain ⟨u, hu, h⟩ := with1_some h; obtain ⟨u1, hu1, h⟩ := with1_some h; simp only [with1, hu, hu1]; exact lift h
  case sindex x y => obtain ⟨u, hu, h⟩ := with1_some h; obtain ⟨u1, hu1, h⟩ := with1_some h; simp only [with1, hu, hu1]; exact lift h
  case field x => obtain ⟨u, hu, h⟩ := with1_some h; simp only [with1, hu]; exact lift h
  case ext x => obtain ⟨u, hu, h⟩ := with1_some h; simp only [with1, hu]; exact lift h
  case len x => obtain ⟨u, hu, h⟩ := with1_some h; simp only [with1, hu]; exact lift h
  case slen x => obtain ⟨u, hu, h⟩ := with1_some h; simp only [with1, hu]; exact lift h
  case slice ck esz x lo hi mx =>
    obtain ⟨u, hu, h⟩ := with1_some h
    simp only [with1, hu]
    cases hl : evOpt A lo with
    | none => rw [hl] at h; cases h
    | some l =>
      cases hh : evOpt A hi with
      | none => rw [hl, hh] at h; cases h
      | some h1 =>
        cases hm : evOpt A mx with
        | none => rw [hl, hh, hm] at h; cases h
        | some m1 => rw [hl, hh, hm] at h; exact lift h
  case minmax x xs => obtain ⟨u, hu, h⟩ := with1_some h; obtain ⟨u1, hu1, h⟩ := withs_some h; simp only [with1, withs, hu, hu1]; exact lift h
  case mkfn xs => obtain ⟨u1, hu1, h⟩ := withs_some h; simp only [withs, hu1]; exact pur h

/-- What reads, reads the block that its operand names. -/
theorem run_read {ins : I} {v : V} {x : Arg} (hk : ins.kind = .read x) (h : ins.run G A H = some (v, H')) : H' = H ∧ ∃ p, x.ev A = some p ∧
    ∀ H2 : Heap, (∀ id b, p.pid = some id → H.get id = some b → H2.get id = some b) → ins.run G A H2 = some (v, H2) := by
  cases ins <;> simp only [I.kind, reduceCtorEq, Kind.read.injEq] at hk
  case load n y =>
    subst hk
    simp only [I.run] at h ⊢
    obtain ⟨p, hp, h⟩ := with1_some h
    simp only [with1, hp]
    cases p <;> simp only [mload, Option.bind_eq_some_iff, Option.map_eq_some_iff, Prod.mk.injEq, reduceCtorEq] at h
    · obtain ⟨b, hb, c, hc, rfl, rfl⟩ := h
      refine ⟨rfl, _, rfl, fun H2 hH => ?_⟩
      simp only [mload, hH _ b rfl hb, Option.bind_some, hc, Option.map_some]
    · obtain ⟨c, hc, rfl, rfl⟩ := h
      exact ⟨rfl, _, rfl, fun H2 hH => by simp only [mload, hc, Option.map_some]⟩
  case tostr y =>
    subst hk
    simp only [I.run] at h ⊢
    obtain ⟨p, hp, h⟩ := with1_some h
    simp only [with1, hp]
    simp only [mtostr, Option.bind_eq_some_iff, Option.map_eq_some_iff, Prod.mk.injEq] at h
    obtain ⟨q, hq, l, hl, rfl, rfl⟩ := h
    refine ⟨rfl, _, rfl, fun H2 hH => ?_⟩
    have : rcells 1 H2 p = some q := by
      cases p <;> simp only [rcells, reduceCtorEq] at hq ⊢
      case nils => exact hq
      case sl =>
        simp only [Option.bind_eq_some_iff] at hq ⊢
        obtain ⟨b, hb, hq⟩ := hq
        exact ⟨b, hH _ b rfl hb, hq⟩
      case rs => exact hq
    simp only [mtostr, this, Option.bind_some, hl, Option.map_some]

/-- What makes memory, makes one block, whatever there is. -/
theorem run_new {ins : I} {v : V} (hk : ins.kind = .new) (h : ins.run G A H = some (v, H')) : ∃ b, H' = H.new b ∧ ∀ H2 : Heap, H2.next = H.next → ins.run G A H2 = some (v, H2.new b) := by
  cases ins <;> simp only [I.kind, reduceCtorEq] at hk
  case box ty x =>
    simp only [I.run] at h ⊢
    obtain ⟨p, hp, h⟩ := with1_some h
    simp only [with1, hp]
    unfold mbox at h ⊢
    split at h
    · rename_i ho
      simp only [Option.some.injEq, Prod.mk.injEq] at h
      obtain ⟨rfl, rfl⟩ := h
      exact ⟨_, rfl, fun H2 e => by rw [if_pos ho, e]⟩
    · cases h
  case tobytes ty x =>
    simp only [I.run] at h ⊢
    obtain ⟨p, hp, h⟩ := with1_some h
    simp only [with1, hp]
    unfold mtobytes at h ⊢
    split at h
    · rename_i s
      split at h
      · rename_i ho
        simp only [Option.some.injEq, Prod.mk.injEq] at h
        obtain ⟨rfl, rfl⟩ := h
        exact ⟨_, rfl, fun H2 e => by rw [if_pos ho, e]⟩
      · cases h
    · cases h
  case slit ty l z ps =>
    simp only [I.run] at h ⊢
    cases hp : evParts A ps with
    | none => rw [hp] at h; cases h
    | some qs =>
      rw [hp] at h
      simp only [mslit, Option.map_eq_some_iff, Prod.mk.injEq] at h ⊢
      obtain ⟨cs, hcs, rfl, rfl⟩ := h
      exact ⟨_, rfl, fun H2 e => ⟨cs, hcs, by rw [e], rfl⟩⟩

/-- An operation that is not carried out. -/
theorem aorun_cases {o : AO} {v : V} (h : o.run G A H = some (v, H')) : (o.ins.run G A H = some (v, H') ∧ ∀ H2, o.run G A H2 = o.ins.run G A H2) ∨ (H' = H ∧ ∀ H2, o.run G A H2 = some (v, H2)) := by
  unfold AO.run at h ⊢
  cases hg : o.gd with
  | none => rw [hg] at h; exact .inl ⟨h, fun _ => rfl⟩
  | some p =>
    obtain ⟨s, want⟩ := p
    rw [hg] at h
    rcases guarded_some h with ⟨b, hb⟩ | hb
    · rw [guarded_bool hb] at h ⊢
      by_cases hbw : b = want
      · rw [if_pos hbw] at h ⊢; exact .inl ⟨h, fun _ => rfl⟩
      · rw [if_neg hbw] at h ⊢
        have := pure_some h
        simp only [Prod.mk.injEq] at this
        exact .inr ⟨this.2, fun H2 => by rw [this.1]; rfl⟩
    · rw [guarded_undef hb] at h ⊢
      have := pure_some h
      simp only [Prod.mk.injEq] at this
      exact .inr ⟨this.2, fun H2 => by rw [this.1]; rfl⟩

/-! Step by step. -/

structure Trace (G : Sem') (un : List (Nat × Nat)) (l : List AO) (A : Fr) (H : Heap) (A' : Fr) (H' : Heap) (As : Nat → Fr) (Hs : Nat → Heap) (vs : Nat → V) : Prop where
  a0 : As 0 = A
  h0 : Hs 0 = H
  an : As l.length = A'
  hn : Hs l.length = H'
  step : ∀ p ao, l[p]? = some ao → ao.run G (As p) (Hs p) = some (vs p, Hs (p + 1)) ∧ As (p + 1) = (As p).put ao.dst (vs p)
  unch : ∀ p j ap aj x a, l[p]? = some ap → ap.ins.kind = .read x → l[j]? = some aj → aj.ins.kind = .act → (p, j) ∈ un → x.ev (As p) = some a → ∀ id, a.pid = some id → (Hs (j + 1)).get id = (Hs j).get id

theorem unch_some {v : V} {h h' : Heap} {r : Unit × Heap} (e : M.unch v h h' H = some r) : r = ((), H) ∧ ∀ id, v.pid = some id → h'.get id = h.get id := by
  unfold M.unch at e
  split at e
  · rename_i hp
    simp only [Option.some.injEq] at e
    exact ⟨e.symm, hp⟩
  · cases e

theorem chkReads_some {un : List (Nat × Nat)} {j : Nat} {h h' : Heap} : ∀ {rs : List (Nat × V)} {r : Unit × Heap}, chkReads un j h h' rs H = some r → r = ((), H) ∧
    ∀ i a, (i, a) ∈ rs → (i, j) ∈ un → ∀ id, a.pid = some id → h'.get id = h.get id := by
  intro rs
  induction rs with
  | nil => intro r e; exact ⟨pure_some e, fun i a hm => by cases hm⟩
  | cons q rs ih =>
    intro r e
    obtain ⟨i0, a0⟩ := q
    simp only [chkReads] at e
    split at e
    · rename_i hc
      obtain ⟨_, H1, h1, ee⟩ := bind_some e
      obtain ⟨e1, e2⟩ := unch_some h1
      simp only [Prod.mk.injEq] at e1
      obtain ⟨_, rfl⟩ := e1
      obtain ⟨e3, e4⟩ := ih ee
      refine ⟨e3, fun i a hm hu => ?_⟩
      rcases List.mem_cons.1 hm with hm | hm
      · simp only [Prod.mk.injEq] at hm
        rw [hm.2]; exact e2
      · exact e4 i a hm hu
    · rename_i hc
      obtain ⟨e3, e4⟩ := ih e
      refine ⟨e3, fun i a hm hu => ?_⟩
      rcases List.mem_cons.1 hm with hm | hm
      · simp only [Prod.mk.injEq] at hm
        rw [hm.1] at hu
        exact absurd (by simpa using hu) hc
      · exact e4 i a hm hu

theorem chkActs_some {un : List (Nat × Nat)} {i : Nat} {a : V} : ∀ {js : List (Nat × Heap × Heap)} {r : Unit × Heap}, chkActs un i a js H = some r → r = ((), H) ∧
    ∀ j h h', (j, h, h') ∈ js → (i, j) ∈ un → ∀ id, a.pid = some id → h'.get id = h.get id := by
  intro js
  induction js with
  | nil => intro r e; exact ⟨pure_some e, fun j h h' hm => by cases hm⟩
  | cons q js ih =>
    intro r e
    obtain ⟨j0, h0, h0'⟩ := q
    simp only [chkActs] at e
    split at e
    · rename_i hc
      obtain ⟨_, H1, h1, ee⟩ := bind_some e
      obtain ⟨e1, e2⟩ := unch_some h1
      simp only [Prod.mk.injEq] at e1
      obtain ⟨_, rfl⟩ := e1
      obtain ⟨e3, e4⟩ := ih ee
      refine ⟨e3, fun j h h' hm hu => ?_⟩
      rcases List.mem_cons.1 hm with hm | hm
      · simp only [Prod.mk.injEq] at hm
        rw [hm.2.1, hm.2.2]; exact e2
      · exact e4 j h h' hm hu
    · rename_i hc
      obtain ⟨e3, e4⟩ := ih e
      refine ⟨e3, fun j h h' hm hu => ?_⟩
      rcases List.mem_cons.1 hm with hm | hm
      · simp only [Prod.mk.injEq] at hm
        rw [hm.1] at hu
        exact absurd (by simpa using hu) hc
      · exact e4 j h h' hm hu

/-- One ahead. -/
def pre {α : Type} (x : α) (f : Nat → α) : Nat → α
  | 0 => x
  | n + 1 => f n

theorem runDraw_trace {un : List (Nat × Nat)} : ∀ (l : List AO) (p0 : Nat) (rs : List (Nat × V)) (js : List (Nat × Heap × Heap)) (A : Fr) (H : Heap), runDraw G un p0 rs js l A H = some (A', H') →
    ∃ (As : Nat → Fr) (Hs : Nat → Heap) (vs : Nat → V), As 0 = A ∧ Hs 0 = H ∧ As l.length = A' ∧ Hs l.length = H' ∧
      (∀ p ao, l[p]? = some ao → ao.run G (As p) (Hs p) = some (vs p, Hs (p + 1)) ∧ As (p + 1) = (As p).put ao.dst (vs p)) ∧
      (∀ p j ap aj x a, l[p]? = some ap → ap.ins.kind = .read x → l[j]? = some aj → aj.ins.kind = .act → (p0 + p, p0 + j) ∈ un → x.ev (As p) = some a → ∀ id, a.pid = some id → (Hs (j + 1)).get id = (Hs j).get id) ∧
      (∀ i a, (i, a) ∈ rs → ∀ j aj, l[j]? = some aj → aj.ins.kind = .act → (i, p0 + j) ∈ un → ∀ id, a.pid = some id → (Hs (j + 1)).get id = (Hs j).get id) ∧
      (∀ j h h', (j, h, h') ∈ js → ∀ p ap x a, l[p]? = some ap → ap.ins.kind = .read x → (p0 + p, j) ∈ un → x.ev (As p) = some a → ∀ id, a.pid = some id → h'.get id = h.get id) := by
  intro l
  induction l with
  | nil =>
    intro p0 rs js A H h
    have := pure_some h
    simp only [Prod.mk.injEq] at this
    obtain ⟨rfl, rfl⟩ := this
    exact ⟨fun _ => A', fun _ => H', fun _ => .undef, rfl, rfl, rfl, rfl, by simp, by simp, by simp, by simp⟩
  | cons o l ih =>
    intro p0 rs js A H h
    -- what is behind, from what the rest says
    have wrap : ∀ (rs' : List (Nat × V)) (js' : List (Nat × Heap × Heap)) (v : V) (H1 : Heap), o.run G A H = some (v, H1) → runDraw G un (p0 + 1) rs' js' l (A.put o.dst v) H1 = some (A', H') →
        (∀ q, q ∈ rs → q ∈ rs') → (∀ q, q ∈ js → q ∈ js') →
        (∀ x a, o.ins.kind = .read x → x.ev A = some a → (p0, a) ∈ rs') → (o.ins.kind = .act → (p0, H, H1) ∈ js') →
        (∀ i a, (i, a) ∈ rs → o.ins.kind = .act → (i, p0) ∈ un → ∀ id, a.pid = some id → H1.get id = H.get id) →
        (∀ j h h', (j, h, h') ∈ js → ∀ x a, o.ins.kind = .read x → (p0, j) ∈ un → x.ev A = some a → ∀ id, a.pid = some id → h'.get id = h.get id) →
        ∃ (As : Nat → Fr) (Hs : Nat → Heap) (vs : Nat → V), As 0 = A ∧ Hs 0 = H ∧ As (o :: l).length = A' ∧ Hs (o :: l).length = H' ∧
          (∀ p ao, (o :: l)[p]? = some ao → ao.run G (As p) (Hs p) = some (vs p, Hs (p + 1)) ∧ As (p + 1) = (As p).put ao.dst (vs p)) ∧
          (∀ p j ap aj x a, (o :: l)[p]? = some ap → ap.ins.kind = .read x → (o :: l)[j]? = some aj → aj.ins.kind = .act → (p0 + p, p0 + j) ∈ un → x.ev (As p) = some a → ∀ id, a.pid = some id → (Hs (j + 1)).get id = (Hs j).get id) ∧
          (∀ i a, (i, a) ∈ rs → ∀ j aj, (o :: l)[j]? = some aj → aj.ins.kind = .act → (i, p0 + j) ∈ un → ∀ id, a.pid = some id → (Hs (j + 1)).get id = (Hs j).get id) ∧
          (∀ j h h', (j, h, h') ∈ js → ∀ p ap x a, (o :: l)[p]? = some ap → ap.ins.kind = .read x → (p0 + p, j) ∈ un → x.ev (As p) = some a → ∀ id, a.pid = some id → h'.get id = h.get id) := by
      intro rs' js' v H1 hv hrest hrs hjs hread hact hra hja
      obtain ⟨As, Hs, vs, h1, h2, h3, h4, h5, h6, h7, h8⟩ := ih (p0 + 1) rs' js' _ _ hrest
      have sh : ∀ k, p0 + (k + 1) = p0 + 1 + k := fun k => by omega
      refine ⟨pre A As, pre H Hs, pre v vs, rfl, rfl, by simpa [pre] using h3, by simpa [pre] using h4, ?_, ?_, ?_, ?_⟩
      · intro p ao hp
        cases p with
        | zero =>
          simp only [List.getElem?_cons_zero, Option.some.injEq] at hp
          subst hp
          exact ⟨by simp only [pre, h2]; exact hv, by simp only [pre, h1]⟩
        | succ p => exact h5 p ao (by simpa using hp)
      · intro p j ap aj x a hp hk hj hkj hu hx id hid
        cases p with
        | zero =>
          simp only [List.getElem?_cons_zero, Option.some.injEq] at hp
          subst hp
          cases j with
          | zero =>
            simp only [List.getElem?_cons_zero, Option.some.injEq] at hj
            subst hj
            rw [hk] at hkj
            cases hkj
          | succ j =>
            rw [sh j] at hu
            exact h7 p0 a (hread x a hk hx) j aj (by simpa using hj) hkj hu id hid
        | succ p =>
          rw [sh p] at hu
          cases j with
          | zero =>
            simp only [List.getElem?_cons_zero, Option.some.injEq] at hj
            subst hj
            simp only [pre, h2]
            exact h8 p0 H H1 (hact hkj) p ap x a (by simpa using hp) hk hu hx id hid
          | succ j =>
            rw [sh j] at hu
            exact h6 p j ap aj x a (by simpa using hp) hk (by simpa using hj) hkj hu hx id hid
      · intro i a hi j aj hj hkj hu id hid
        cases j with
        | zero =>
          simp only [List.getElem?_cons_zero, Option.some.injEq] at hj
          subst hj
          simp only [pre, h2]
          exact hra i a hi hkj hu id hid
        | succ j =>
          rw [sh j] at hu
          exact h7 i a (hrs _ hi) j aj (by simpa using hj) hkj hu id hid
      · intro j h h' hj p ap x a hp hk hu hx id hid
        cases p with
        | zero =>
          simp only [List.getElem?_cons_zero, Option.some.injEq] at hp
          subst hp
          exact hja j h h' hj x a hk hu hx id hid
        | succ p =>
          rw [sh p] at hu
          exact h8 j h h' (hjs _ hj) p ap x a (by simpa using hp) hk hu hx id hid
    unfold runDraw at h
    cases hk : o.ins.kind with
    | read x =>
      rw [hk] at h
      dsimp only at h
      have hs : ∃ a, (∀ a', x.ev A = some a' → a' = a) ∧ ((o.run G A).bind fun v => (chkActs un p0 a js).bind fun _ => runDraw G un (p0 + 1) ((p0, a) :: rs) js l (A.put o.dst v)) H = some (A', H') := by
        cases hx : x.ev A with
        | some a =>
          simp only [runDraw.with1', hx] at h
          exact ⟨a, fun a' e => by simpa using e.symm, h⟩
        | none =>
          simp only [runDraw.with1', hx] at h
          exact ⟨.undef, fun a' e => by simp at e, h⟩
      obtain ⟨a, ha, h⟩ := hs
      obtain ⟨v, H1, hv, h⟩ := bind_some h
      obtain ⟨_, H2, hc, h9⟩ := bind_some h
      obtain ⟨e1, e2⟩ := chkActs_some hc
      simp only [Prod.mk.injEq] at e1
      obtain ⟨_, rfl⟩ := e1
      refine wrap ((p0, a) :: rs) js v _ hv h9 (fun q hq => List.mem_cons_of_mem _ hq) (fun q hq => hq) (fun y a' hy ha' => ?_) (fun hy => by rw [hk] at hy; cases hy) (fun i a' _ hy => by rw [hk] at hy; cases hy) (fun j h h' hj y a' hy hu ha' id hid => ?_)
      · rw [hk] at hy
        simp only [Kind.read.injEq] at hy
        subst hy
        rw [ha a' ha']
        exact List.mem_cons_self ..
      · rw [hk] at hy
        simp only [Kind.read.injEq] at hy
        subst hy
        rw [ha a' ha'] at hid
        exact e2 j h h' hj hu id hid
    | act =>
      rw [hk] at h
      dsimp only at h
      obtain ⟨h0, H0, hh0, h⟩ := bind_some h
      simp only [M.getH, Option.some.injEq, Prod.mk.injEq] at hh0
      obtain ⟨rfl, rfl⟩ := hh0
      obtain ⟨v, H1, hv, h⟩ := bind_some h
      obtain ⟨h0, H0, hh0, h⟩ := bind_some h
      simp only [M.getH, Option.some.injEq, Prod.mk.injEq] at hh0
      obtain ⟨rfl, rfl⟩ := hh0
      obtain ⟨_, H2, hc, h9⟩ := bind_some h
      obtain ⟨e1, e2⟩ := chkReads_some hc
      simp only [Prod.mk.injEq] at e1
      obtain ⟨_, rfl⟩ := e1
      exact wrap rs ((p0, _, _) :: js) v _ hv h9 (fun q hq => hq) (fun q hq => List.mem_cons_of_mem _ hq) (fun y a' hy _ => by rw [hk] at hy; cases hy) (fun _ => List.mem_cons_self ..) (fun i a hi _ hu id hid => e2 i a hi hu id hid) (fun j h h' hj y a' hy => by rw [hk] at hy; cases hy)
    | pure =>
      rw [hk] at h
      dsimp only at h
      obtain ⟨v, H1, hv, h⟩ := bind_some h
      exact wrap rs js v _ hv h (fun q hq => hq) (fun q hq => hq) (fun y a' hy _ => by rw [hk] at hy; cases hy) (fun hy => by rw [hk] at hy; cases hy) (fun i a' _ hy => by rw [hk] at hy; cases hy) (fun j h h' hj y a' hy => by rw [hk] at hy; cases hy)
    | new =>
      rw [hk] at h
      dsimp only at h
      obtain ⟨v, H1, hv, h⟩ := bind_some h
      exact wrap rs js v _ hv h (fun q hq => hq) (fun q hq => hq) (fun y a' hy _ => by rw [hk] at hy; cases hy) (fun hy => by rw [hk] at hy; cases hy) (fun i a' _ hy => by rw [hk] at hy; cases hy) (fun j h h' hj y a' hy => by rw [hk] at hy; cases hy)

theorem trace_of {un : List (Nat × Nat)} {l : List AO} (h : runDraw G un 0 [] [] l A H = some (A', H')) : ∃ As Hs vs, Trace G un l A H A' H' As Hs vs := by
  obtain ⟨As, Hs, vs, h1, h2, h3, h4, h5, h6, _, _⟩ := runDraw_trace l 0 [] [] A H h
  exact ⟨As, Hs, vs, h1, h2, h3, h4, h5, fun p j ap aj x a hp hk hj hkj hu => h6 p j ap aj x a hp hk hj hkj (by simpa using hu)⟩

end

/-! Two heaps side by side: what a step does to a part of a heap, with the rest beside it. -/

structure Join (D : Nat → Prop) (Hx Hs Hs' Hx' : Heap) : Prop where
  in' : ∀ id, D id → Hx'.get id = Hs'.get id
  out' : ∀ id, ¬ D id → Hx'.get id = Hx.get id
  sub : ∀ id b, Hs.get id = some b → D id ∧ Hx.get id = some b
  all : ∀ id b, D id → Hx.get id = some b → Hs.get id = some b
  new : ∀ id, Hs.next ≤ id → id < Hs'.next → D id
  top : Hs'.next ≤ Hx.next
  nx : Hx'.next = Hx.next

section
variable {m m' : Map} {Z Z' : Nat → Prop} {Hx Hs Hs' Hx' : Heap} {w w' : World} {D : Nat → Prop}

theorem relH_sub (r : RelH m Z Hx w) (hs : ∀ id b, Hs.get id = some b → Hx.get id = some b) (hwf : Hs.wf) : RelH m Z Hs w :=
  ⟨fun id b hb => r.live id b (hs id b hb), fun id id' b b' l l' hb hb' => r.inj id id' b b' l l' (hs _ _ hb) (hs _ _ hb'), hwf, r.zlt⟩

open Classical in
theorem relH_join (j : Join D Hx Hs Hs' Hx') (r : RelH m Z Hx w) (hwf : Hs.wf) (e : Ext m Z Hs w m' Z' Hs' w') (r' : RelH m' Z' Hs' w') : RelH m' Z' Hx' w' := by
  have rs := relH_sub r (fun id b hb => (j.sub id b hb).2) hwf
  have hq := e.quiet rs
  -- a block of the rest is none of the part's
  have apart : ∀ id b l, ¬ D id → Hx.get id = some b → m id = some l → ∀ id1 b1 l1, Hs.get id1 = some b1 → m id1 = some l1 → l1.blk ≠ l.blk := by
    intro id b l hd hb hm id1 b1 l1 hb1 hm1 e1
    obtain ⟨d1, x1⟩ := j.sub id1 b1 hb1
    exact hd (r.inj id1 id b1 b l1 l x1 hb hm1 hm e1 ▸ d1)
  have mp : ∀ id b l, Hx.get id = some b → m' id = some l → m id = some l := by
    intro id b l hb hm
    obtain ⟨l0, _, _, hm0, _⟩ := r.live id b hb
    have := e.map id l0 hm0
    rw [this] at hm
    rw [hm0]; exact hm
  refine ⟨fun id b hb => ?_, fun id id' b b' l l' hb hb' hm hm' hl => ?_, fun id hid => ?_, r'.zlt⟩
  · by_cases hd : D id
    · rw [j.in' id hd] at hb
      exact r'.live id b hb
    · rw [j.out' id hd] at hb
      obtain ⟨l, cur, fz, hm, L⟩ := r.live id b hb
      have hlt := r.lt hb hm
      refine ⟨l, cur, fz, e.map id l hm, (e.same l.blk hlt fun id1 b1 l1 hb1 hm1 => apart id b l hd hb hm id1 b1 l1 hb1 hm1).trans L.heap, L.free, fun hz => ?_, L.len, L.opn, L.one, fun k v x hv hx => (L.reps k v x hv hx).mono e.map e.zone hq⟩
      rcases e.zsrc _ hz with hz | hz | ⟨id1, b1, l1, hb1, hm1, e1⟩
      · exact L.out hz
      · omega
      · exact apart id b l hd hb hm id1 b1 l1 hb1 hm1 e1
  · by_cases hd : D id <;> by_cases hd' : D id'
    · rw [j.in' _ hd] at hb
      rw [j.in' _ hd'] at hb'
      exact r'.inj id id' b b' l l' hb hb' hm hm' hl
    · rw [j.in' _ hd] at hb
      rw [j.out' _ hd'] at hb'
      have hm1 := mp _ _ _ hb' hm'
      rcases e.src id b l hb hm with h1 | ⟨id0, b0, l0, hb0, hm0, e0⟩
      · have := r.lt hb' hm1; omega
      · exact absurd (e0.trans hl) (apart id' b' l' hd' hb' hm1 id0 b0 l0 hb0 hm0)
    · rw [j.out' _ hd] at hb
      rw [j.in' _ hd'] at hb'
      have hm1 := mp _ _ _ hb hm
      rcases e.src id' b' l' hb' hm' with h1 | ⟨id0, b0, l0, hb0, hm0, e0⟩
      · have := r.lt hb hm1; omega
      · exact absurd (e0.trans hl.symm) (apart id b l hd hb hm1 id0 b0 l0 hb0 hm0)
    · rw [j.out' _ hd] at hb
      rw [j.out' _ hd'] at hb'
      exact r.inj id id' b b' l l' hb hb' (mp _ _ _ hb hm) (mp _ _ _ hb' hm') hl
  · rw [j.nx] at hid
    by_cases hd : D id
    · rw [j.in' id hd]; exact r'.dead id (Nat.le_trans j.top hid)
    · rw [j.out' id hd]; exact r.dead id hid

open Classical in
theorem ext_join {m0 : Map} {Z0 : Nat → Prop} {H0 : Heap} {w0 : World} (E : Ext m0 Z0 H0 w0 m Z Hx w) (j : Join D Hx Hs Hs' Hx') (e : Ext m Z Hs w m' Z' Hs' w') (hn : H0.next ≤ Hs.next) : Ext m0 Z0 H0 w0 m' Z' Hx' w' := by
  have fromS : ∀ id1 b1 l1, Hs.get id1 = some b1 → m id1 = some l1 → w0.heap.size ≤ l1.blk ∨ ∃ id0 b0 l0, H0.get id0 = some b0 ∧ m0 id0 = some l0 ∧ l0.blk = l1.blk :=
    fun id1 b1 l1 hb hm => E.src id1 b1 l1 (j.sub id1 b1 hb).2 hm
  refine ⟨fun id l h => e.map id l (E.map id l h), by rw [j.nx]; exact E.next, fun i hi => ?_, fun b h => e.zone b (E.zone b h), Nat.le_trans E.size e.size, e.os.trans E.os, e.tape.trans E.tape, e.output.trans E.output, fun k hk hk0 => ?_, fun id b l hb hm => ?_, fun k hz => ?_⟩
  · rw [j.nx] at hi
    refine (e.keep i ?_).trans (E.keep i hi)
    exact hi.imp (fun h => Nat.lt_of_lt_of_le h hn) fun h => Nat.le_trans j.top h
  · refine (e.same k (Nat.lt_of_lt_of_le hk E.size) fun id1 b1 l1 hb1 hm1 e1 => ?_).trans (E.same k hk hk0)
    rcases fromS id1 b1 l1 hb1 hm1 with h | ⟨id0, b0, l0, hb0, hm0, e0⟩
    · omega
    · exact hk0 id0 b0 l0 hb0 hm0 (e0.trans e1)
  · by_cases hd : D id
    · rw [j.in' id hd] at hb
      rcases e.src id b l hb hm with h | ⟨id1, b1, l1, hb1, hm1, e1⟩
      · exact .inl (Nat.le_trans E.size h)
      · rw [← e1]; exact fromS id1 b1 l1 hb1 hm1
    · rw [j.out' id hd] at hb
      refine E.src id b l hb ?_
      rw [← e.keep id]
      · exact hm
      · by_cases h : id < Hs.next
        · exact .inl h
        · by_cases h' : id < Hs'.next
          · exact absurd (j.new id (by omega) h') hd
          · exact .inr (by omega)
  · rcases e.zsrc k hz with h | h | ⟨id1, b1, l1, hb1, hm1, e1⟩
    · exact E.zsrc k h
    · exact .inr (.inl (Nat.le_trans E.size h))
    · rcases fromS id1 b1 l1 hb1 hm1 with h | h
      · exact .inr (.inl (e1 ▸ h))
      · exact .inr (.inr (by rw [← e1]; exact h))

end
end Go.Ax
