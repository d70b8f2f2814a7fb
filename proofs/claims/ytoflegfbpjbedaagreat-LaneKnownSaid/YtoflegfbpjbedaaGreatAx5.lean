/-
  Ax, part 5: memory: new blocks, stores, what is loaded: in the model and in the abstract heap side by side.
-/
import Derived.Test.YtoflegfbpjbedaaGreatAx4
namespace Go.Ax

section
variable {m : Map} {Z : Nat → Prop} {H : Heap} {w : World}

/-- A block is laid or written anew: the only one that turns is the one at l. -/
theorem relH_put {H' : Heap} {w' : World} {id : Nat} {l : Loc} {b : Blk} {cur : Array Value} {fz : Nat × Nat} (r : RelH m Z H w)
    (hg : ∀ i, H'.get i = if i = id then some b else H.get i) (hn : H.next ≤ H'.next) (hid : id < H'.next) (hm : m id = none ∨ m id = some l)
    (hw : ∀ k, k ≠ l.blk → w'.heap[k]? = w.heap[k]?) (hs : w.heap.size ≤ w'.heap.size) (hout : ¬ Z l.blk)
    (hfree : ∀ i b' l', H.get i = some b' → m i = some l' → l'.blk = l.blk → i = id)
    (hh : w'.heap[l.blk]? = some (.cells cur b.ty fz)) (hz : ∀ j, j < cur.size → ¬ (fz.1 ≤ j ∧ (j < fz.2 ∨ fz.1 ≠ fz.2))) (hlen : b.cells.length ≤ cur.size)
    (hopn : ∀ e, b.opn = some e → l.esz = e ∧ 0 < e ∧ cur.size = l.cap * e ∧ l.cap ≤ 9223372036854775807) (hone : ∀ v ∈ b.cells, v.one = true)
    (hrep : ∀ (j : Nat) (v : V) (x : Value), b.cells[j]? = some v → cur[j]? = some x → Rep m Z w v x) :
    RelH (fun i => if i = id then some l else m i) Z H' w' := by
  have hmm : ∀ i l', m i = some l' → (fun i => if i = id then some l else m i) i = some l' := by
    intro i l' h
    show (if i = id then some l else m i) = some l'
    split
    · rename_i e
      subst e
      rcases hm with hm | hm
      · rw [hm] at h; cases h
      · rw [hm] at h; exact h
    · exact h
  have hq : ∀ k, Z k → w'.heap[k]? = w.heap[k]? := fun k hk => hw k (fun e => hout (e ▸ hk))
  refine ⟨fun i bi hbi => ?_, fun i i' bi bi' li li' hbi hbi' hmi hmi' e => ?_, fun i hi => ?_, fun k hk => Nat.lt_of_lt_of_le (r.zlt k hk) hs⟩
  · rw [hg] at hbi
    by_cases e : i = id
    · subst e
      rw [if_pos rfl] at hbi
      injection hbi with hbi
      subst hbi
      exact ⟨l, cur, fz, if_pos rfl, hh, hz, hout, hlen, hopn, hone, fun j v x hv hx => (hrep j v x hv hx).mono hmm (fun _ h => h) hq⟩
    · rw [if_neg e] at hbi
      obtain ⟨li, ci, fi, hmi, hl⟩ := r.live i bi hbi
      have hne : li.blk ≠ l.blk := fun e' => e (hfree i bi li hbi hmi e')
      exact ⟨li, ci, fi, hmm i li hmi, (hw _ hne).trans hl.heap, hl.free, hl.out, hl.len, hl.opn, hl.one, fun j v x hv hx => (hl.reps j v x hv hx).mono hmm (fun _ h => h) hq⟩
  · rw [hg] at hbi hbi'
    replace hmi : (if i = id then some l else m i) = some li := hmi
    replace hmi' : (if i' = id then some l else m i') = some li' := hmi'
    by_cases h1 : i = id
    · by_cases h2 : i' = id
      · rw [h1, h2]
      · rw [if_pos h1] at hmi
        rw [if_neg h2] at hbi' hmi'
        injection hmi with hmi
        subst hmi
        exact h1.trans (hfree i' bi' li' hbi' hmi' e.symm).symm
    · rw [if_neg h1] at hbi hmi
      by_cases h2 : i' = id
      · rw [if_pos h2] at hmi'
        injection hmi' with hmi'
        subst hmi'
        exact (hfree i bi li hbi hmi e).trans h2.symm
      · rw [if_neg h2] at hbi' hmi'
        exact r.inj i i' bi bi' li li' hbi hbi' hmi hmi' e
  · have hne : i ≠ id := by omega
    rw [hg, if_neg hne]
    exact r.dead i (by omega)

theorem ext_put {H' : Heap} {w' : World} {id : Nat} {l : Loc} (hm : m id = none ∨ m id = some l) (hnx : H.next ≤ H'.next) (hid : (H.next ≤ id ∧ id < H'.next) ∨ m id = some l)
    (hg : ∀ i b, H'.get i = some b → i = id ∨ ∃ b0, H.get i = some b0)
    (hw : ∀ k, k ≠ l.blk → w'.heap[k]? = w.heap[k]?) (hs : w.heap.size ≤ w'.heap.size) (ho : w'.os = w.os) (ht : w'.tape = w.tape) (hu : w'.output = w.output)
    (hsrc : w.heap.size ≤ l.blk ∨ ∃ id0 b0 l0, H.get id0 = some b0 ∧ m id0 = some l0 ∧ l0.blk = l.blk) :
    Ext m Z H w (fun i => if i = id then some l else m i) Z H' w' := by
  refine ⟨fun i l' h => ?_, hnx, fun i hi => ?_, fun _ h => h, hs, ho, ht, hu, fun k hk hn => hw k fun e => ?_, fun i b li hb hmi => ?_, fun _ h => .inl h⟩
  · show (if i = id then some l else m i) = some l'
    split
    · rename_i e
      subst e
      rcases hm with hm | hm
      · rw [hm] at h; cases h
      · rw [hm] at h; exact h
    · exact h
  · show (if i = id then some l else m i) = m i
    split
    · rename_i e
      subst e
      rcases hid with hid | hid
      · omega
      · exact hid.symm
    · rfl
  · rcases hsrc with hsrc | ⟨id0, b0, l0, h0, hm0, e0⟩
    · omega
    · exact hn id0 b0 l0 h0 hm0 (e0.trans e.symm)
  · replace hmi : (if i = id then some l else m i) = some li := hmi
    by_cases e : i = id
    · rw [if_pos e] at hmi
      injection hmi with hmi
      subst hmi
      exact hsrc
    · rw [if_neg e] at hmi
      rcases hg i b hb with h | ⟨b0, h⟩
      · exact absurd h e
      · exact .inr ⟨i, b0, li, h, hmi, rfl⟩

theorem map_self {id : Nat} {l : Loc} (h : m id = some l) : (fun i => if i = id then some l else m i) = m := by
  funext i
  by_cases e : i = id
  · rw [if_pos e, e, h]
  · rw [if_neg e]

theorem relH_kill (r : RelH m Z H w) (id : Nat) : RelH m Z (H.set id none) w := by
  refine ⟨fun i b hb => ?_, fun i i' b b' l l' hb hb' => ?_, fun i hi => ?_, r.zlt⟩
  · simp only [Heap.set] at hb
    split at hb
    · cases hb
    · exact r.live i b hb
  · simp only [Heap.set] at hb hb'
    split at hb
    · cases hb
    · split at hb'
      · cases hb'
      · exact r.inj i i' b b' l l' hb hb'
  · simp only [Heap.set]
    split
    · rfl
    · exact r.dead i hi

/-- What is read at a live block. -/
theorem RelH.at_ (r : RelH m Z H w) {id : Nat} {b : Blk} {l : Loc} (hb : H.get id = some b) (hm : m id = some l) : ∃ cur fz, Lies m Z w b l cur fz := by
  obtain ⟨l', cur, fz, hm', h⟩ := r.live id b hb
  rw [hm] at hm'
  injection hm' with hm'
  subst hm'
  exact ⟨cur, fz, h⟩

theorem Lies.cell {b : Blk} {l : Loc} {cur : Array Value} {fz : Nat × Nat} (h : Lies m Z w b l cur fz) (j : Nat) : w.cell? ⟨l.blk, j, none⟩ = cur[j]? := by
  simp [World.cell?, h.heap]

/-- Each cell of the abstract block is a cell of the model's. -/
theorem Lies.get {b : Blk} {l : Loc} {cur : Array Value} {fz : Nat × Nat} (h : Lies m Z w b l cur fz) {j : Nat} {v : V} (hv : b.cells[j]? = some v) : ∃ x, cur[j]? = some x ∧ Rep m Z w v x := by
  have hj : j < b.cells.length := (List.getElem?_eq_some_iff.1 hv).1
  have hc : cur[j]? = some (cur[j]'(by have := h.len; omega)) := Array.getElem?_eq_getElem _
  exact ⟨_, hc, h.reps j v _ hv hc⟩

theorem heap_alloc_at (o : Obj) : (w.alloc o).heap[w.heap.size]? = some o := by
  show (w.heap.push o)[w.heap.size]? = _
  simp
theorem heap_alloc_ne (o : Obj) {k : Nat} (h : k ≠ w.heap.size) : (w.alloc o).heap[k]? = w.heap[k]? := by
  show (w.heap.push o)[k]? = _
  rw [Array.getElem?_push, if_neg h]

theorem RelH.lt (r : RelH m Z H w) {id : Nat} {b : Blk} {l : Loc} (hb : H.get id = some b) (hm : m id = some l) : l.blk < w.heap.size := by
  obtain ⟨cur, fz, h⟩ := r.at_ hb hm
  exact (Array.getElem?_eq_some_iff.1 h.heap).1

/-- A new block. -/
theorem relH_new {b : Blk} {cur : Array Value} {fz : Nat × Nat} {l : Loc} (r : RelH m Z H w) (hf : m H.next = none) (hl : l.blk = w.heap.size) (hz : ∀ j, j < cur.size → ¬ (fz.1 ≤ j ∧ (j < fz.2 ∨ fz.1 ≠ fz.2))) (hlen : b.cells.length ≤ cur.size)
    (hopn : ∀ e, b.opn = some e → l.esz = e ∧ 0 < e ∧ cur.size = l.cap * e ∧ l.cap ≤ 9223372036854775807) (hone : ∀ v ∈ b.cells, v.one = true)
    (hrep : ∀ (j : Nat) (v : V) (x : Value), b.cells[j]? = some v → cur[j]? = some x → Rep m Z w v x) :
    RelH (fun i => if i = H.next then some l else m i) Z (H.new b) (w.alloc (.cells cur b.ty fz)) ∧
    Ext m Z H w (fun i => if i = H.next then some l else m i) Z (H.new b) (w.alloc (.cells cur b.ty fz)) := by
  have hw : ∀ k, k ≠ l.blk → (w.alloc (.cells cur b.ty fz)).heap[k]? = w.heap[k]? := fun k hk => heap_alloc_ne _ (by omega)
  have hs : w.heap.size ≤ (w.alloc (.cells cur b.ty fz)).heap.size := by simp
  refine ⟨relH_put (id := H.next) (cur := cur) (fz := fz) (b := b) r (fun _ => rfl) (Nat.le_succ _) (Nat.lt_succ_self _) (.inl hf) hw hs (fun h => ?_) (fun i b' l' hb' hm' e => ?_) ?_ hz hlen hopn hone hrep,
    ext_put (.inl hf) (Nat.le_succ _) (.inl ⟨Nat.le_refl _, Nat.lt_succ_self _⟩) (fun i b' h => ?_) hw hs rfl rfl rfl (.inl (by omega))⟩
  · have := r.zlt _ h; omega
  · have := r.lt hb' hm'; omega
  · rw [hl]; exact heap_alloc_at _
  · simp only [Heap.new] at h
    split at h
    · rename_i e; exact .inl e
    · exact .inr ⟨b', h⟩

theorem splice_length (xs : List V) (o : Nat) (ys : List V) (h : o + ys.length ≤ xs.length) : (splice xs o ys).length = xs.length := by
  simp [splice]; omega

theorem splice_get (xs : List V) (o : Nat) (ys : List V) (h : o + ys.length ≤ xs.length) (j : Nat) :
    (splice xs o ys)[j]? = if o ≤ j ∧ j < o + ys.length then ys[j - o]? else xs[j]? := by
  have ho : (xs.take o).length = o := by simp; omega
  unfold splice
  rw [List.append_assoc, List.getElem?_append, ho]
  by_cases h1 : j < o
  · rw [if_pos h1, if_neg (by omega), List.getElem?_take, if_pos h1]
  · rw [if_neg h1, List.getElem?_append]
    by_cases h2 : j < o + ys.length
    · rw [if_pos (by omega), if_pos (by omega)]
    · rw [if_neg (by omega), if_neg (by omega), List.getElem?_drop]
      congr 1
      omega

theorem splice_mem {xs : List V} {o : Nat} {ys : List V} {v : V} (h : v ∈ splice xs o ys) : v ∈ xs ∨ v ∈ ys := by
  unfold splice at h
  rcases List.mem_append.1 h with h | h
  · rcases List.mem_append.1 h with h | h
    · exact .inl (List.mem_of_mem_take h)
    · exact .inr h
  · exact .inl (List.mem_of_mem_drop h)

/-- Cells stored one behind the other. -/
theorem run_storeCells (P : Program) (g o : Nat) (t : TypeId) (fz : Nat × Nat) : ∀ (vs : List Value) (i : Nat) (cur : Array Value) (w : World), w.heap[g]? = some (.cells cur t fz) →
    (∀ j, j < cur.size → ¬ (fz.1 ≤ j ∧ (j < fz.2 ∨ fz.1 ≠ fz.2))) → o + i + vs.length ≤ cur.size → (∀ v ∈ vs, v.oneCell' = true) →
    ∃ w' cur', (storeCells ⟨g, o, none⟩ vs i).run P w = .ok () w' ∧ w'.heap[g]? = some (.cells cur' t fz) ∧ cur'.size = cur.size ∧
      (∀ j, cur'[j]? = if o + i ≤ j ∧ j < o + i + vs.length then vs[j - (o + i)]? else cur[j]?) ∧
      (∀ k, k ≠ g → w'.heap[k]? = w.heap[k]?) ∧ w'.heap.size = w.heap.size ∧ w'.os = w.os ∧ w'.tape = w.tape ∧ w'.output = w.output := by
  intro vs
  induction vs with
  | nil =>
    intro i cur w hg _ _ _
    refine ⟨w, cur, rfl, hg, rfl, fun j => ?_, fun _ _ => rfl, rfl, rfl, rfl, rfl⟩
    rw [if_neg (by simp)]
  | cons v vs ih =>
    intro i cur w hg hz hl h1
    simp only [List.length_cons] at hl
    have ha : (⟨g, o, none⟩ : Addr).add i = ⟨g, o + i, none⟩ := by unfold Addr.add; split <;> simp_all
    have hc : w.cell? ⟨g, o + i, none⟩ = some (cur[o + i]'(by omega)) := by
      simp only [World.cell?, hg]
      rw [if_neg (by simp)]
      exact Array.getElem?_eq_getElem _
    have hf : w.frozen? ⟨g, o + i, none⟩ = false := by
      simp only [World.frozen?, hg]
      have := hz (o + i) (by omega)
      simp
      omega
    have hg' : (w.setCell ⟨g, o + i, none⟩ v).heap[g]? = some (.cells (cur.setIfInBounds (o + i) v) t fz) := by
      simp [World.setCell, Array.getElem?_modify, hg]
    have hk' : ∀ k, k ≠ g → (w.setCell ⟨g, o + i, none⟩ v).heap[k]? = w.heap[k]? := fun k hk => by
      simp only [World.setCell, Array.getElem?_modify]
      rw [if_neg (by simpa using Ne.symm hk)]
    obtain ⟨w', cur', hr, h2, h3, h4, h5, h6, h7, h8, h9⟩ := ih (i + 1) (cur.setIfInBounds (o + i) v) (w.setCell ⟨g, o + i, none⟩ v) hg' (by simpa using hz) (by simp; omega) (fun u hu => h1 u (List.mem_cons_of_mem _ hu))
    refine ⟨w', cur', ?_, h2, by simpa using h3, fun j => ?_, fun k hk => (h5 k hk).trans (hk' k hk), by simpa using h6, h7, h8, h9⟩
    · simp only [storeCells, ha]
      rw [show ((store ⟨g, o + i, none⟩ v >>= fun _ => storeCells ⟨g, o, none⟩ vs (i + 1)) : Sem Unit) = (store ⟨g, o + i, none⟩ v).bind fun _ => storeCells ⟨g, o, none⟩ vs (i + 1) from rfl]
      rw [Sem.run_bind']
      rw [run_store P w _ v _ (h1 v (List.mem_cons_self ..)), hc]
      simp only [hf]
      exact hr
    · rw [h4, List.length_cons]
      by_cases hj : j = o + i
      · subst hj
        rw [if_neg (by omega), if_pos (by simp)]
        simp [show o + i < cur.size by omega]
      · rw [show (cur.setIfInBounds (o + i) v)[j]? = cur[j]? from Array.getElem?_setIfInBounds_ne (Ne.symm hj)]
        by_cases h : o + i ≤ j ∧ j < o + i + (vs.length + 1)
        · rw [if_pos (by omega), if_pos h]
          rw [show j - (o + i) = (j - (o + (i + 1))) + 1 from by omega, List.getElem?_cons_succ]
        · rw [if_neg (by omega), if_neg h]

theorem add_eq (b o n : Nat) : (⟨b, o, none⟩ : Addr).add n = ⟨b, o + n, none⟩ := by unfold Addr.add; split <;> simp_all

/-- Cells loaded one behind the other. -/
theorem run_loadCells' (P : Program) (w : World) (b o : Nat) (xs : List Value) (h : ∀ (j : Nat) (x : Value), xs[j]? = some x → w.cell? ⟨b, o + j, none⟩ = some x) :
    (loadCells ⟨b, o, none⟩ xs.length).run P w = .ok xs.toArray w := by
  have := run_loadCells_list (P := P) w ⟨b, o, none⟩ xs (fun j v hj => by rw [add_eq]; exact h j v hj)
  exact this

end

end Go.Ax
