/-
  Ax, part 11: append, copy, make, string(b): the abstract instruction and the model's builtin.
-/
import Derived.Test.YtoflegfbpjbedaaGreatAx10
namespace Go.Ax

section
variable {P : Program} {m : Map} {Z : Nat → Prop} {H : Heap} {w : World} {A : Fr} {a : Act}

/-- Cells of a live block are written over in the model and here. -/
theorem write_run {id : Nat} {b : Blk} {l : Loc} {cs : List V} {xs : List Value} {o : Nat} (r : RelH m Z H w) (hb : H.get id = some b) (hm : m id = some l) (hr : Reps m Z w cs xs) (h1 : ∀ v ∈ cs, v.one = true)
    (hle : o + cs.length ≤ b.cells.length) :
    ∃ w', (storeCells ⟨l.blk, o, none⟩ xs).run P w = .ok () w' ∧ RelH m Z (H.set id (some { b with cells := splice b.cells o cs })) w' ∧ Ext m Z H w m Z (H.set id (some { b with cells := splice b.cells o cs })) w' := by
  obtain ⟨cur, fz, hL⟩ := r.at_ hb hm
  obtain ⟨w', cur', hrun, g1, g2, g3, g4, g5, g6, g7, g8⟩ := run_storeCells P l.blk o b.ty fz xs 0 cur w hL.heap hL.free (by have := hL.len; have := hr.1; omega) (reps_one hr h1)
  refine ⟨w', hrun, ?_, ?_⟩
  · have := relH_put (id := id) (l := l) (b := { b with cells := splice b.cells o cs }) (cur := cur') (fz := fz) (H' := H.set id (some { b with cells := splice b.cells o cs })) (w' := w') r
      (fun i => rfl) (Nat.le_refl _) (by
        rcases Nat.lt_or_ge id H.next with h | h
        · exact h
        · rw [r.dead id h] at hb; cases hb) (.inr hm) g4 (by omega) hL.out (fun i b' l' hb' hm' e => r.inj i id b' b l' l hb' hb hm' hm e) g1 (by rw [g2]; exact hL.free)
      (by show (splice b.cells o cs).length ≤ _; rw [splice_length _ _ _ hle, g2]; exact hL.len) (fun e he => by rw [g2]; exact hL.opn e he)
      (fun u hu => by
        rcases splice_mem hu with hu | hu
        · exact hL.one u hu
        · exact h1 u hu)
      (fun j u y hu hy => by
        replace hu : (splice b.cells o cs)[j]? = some u := hu
        rw [splice_get _ _ _ hle] at hu
        rw [g3] at hy
        have := hr.1
        by_cases hin : o ≤ j ∧ j < o + cs.length
        · rw [if_pos hin] at hu
          rw [if_pos (by omega)] at hy
          exact hr.2 (j - o) u y hu hy
        · rw [if_neg hin] at hu
          rw [if_neg (by omega)] at hy
          exact hL.reps j u y hu hy)
    rwa [map_self hm] at this
  · have := ext_put (m := m) (Z := Z) (H := H) (w := w) (id := id) (l := l) (H' := H.set id (some { b with cells := splice b.cells o cs })) (w' := w') (.inr hm) (Nat.le_refl _) (.inr hm) (fun i b' h => by
      simp only [Heap.set] at h
      split at h
      · rename_i e; exact .inl e
      · exact .inr ⟨b', h⟩) g4 (by omega) g6 g7 g8 (.inr ⟨id, b, l, hb, hm, rfl⟩)
    rwa [map_self hm] at this

/-- An open block goes on in place: under a new name. -/
theorem extend_run {id : Nat} {b : Blk} {l : Loc} {cs : List V} {xs : List Value} {e : Nat} (r : RelH m Z H w) (hfr : m H.next = none) (hb : H.get id = some b) (hm : m id = some l) (hr : Reps m Z w cs xs) (h1 : ∀ v ∈ cs, v.one = true)
    (ho : b.opn = some e) (hle : b.cells.length + cs.length ≤ l.cap * e) :
    ∃ w', (storeCells ⟨l.blk, b.cells.length, none⟩ xs).run P w = .ok () w' ∧
      RelH (fun i => if i = H.next then some l else m i) Z ((H.set id none).new ⟨b.ty, b.cells ++ cs, some e⟩) w' ∧
      Ext m Z H w (fun i => if i = H.next then some l else m i) Z ((H.set id none).new ⟨b.ty, b.cells ++ cs, some e⟩) w' := by
  obtain ⟨cur, fz, hL⟩ := r.at_ hb hm
  obtain ⟨he, h0, hsz, hcap⟩ := hL.opn e ho
  have hlr := hr.1
  obtain ⟨w', cur', hrun, g1, g2, g3, g4, g5, g6, g7, g8⟩ := run_storeCells P l.blk b.cells.length b.ty fz xs 0 cur w hL.heap hL.free (by omega) (reps_one hr h1)
  have hlt : id < H.next := by
    rcases Nat.lt_or_ge id H.next with h | h
    · exact h
    · rw [r.dead id h] at hb; cases hb
  have rk := relH_kill r id
  refine ⟨w', hrun, ?_, ?_⟩
  · exact relH_put (id := H.next) (l := l) (b := ⟨b.ty, b.cells ++ cs, some e⟩) (cur := cur') (fz := fz) (H' := (H.set id none).new ⟨b.ty, b.cells ++ cs, some e⟩) (w' := w') rk
      (fun i => rfl) (Nat.le_succ _) (Nat.lt_succ_self _) (.inl hfr) g4 (by omega) hL.out (fun i b' l' hb' hm' e' => by
        simp only [Heap.set] at hb'
        split at hb'
        · cases hb'
        · rename_i hne
          exact (hne (r.inj i id b' b l' l hb' hb hm' hm e')).elim) g1 (by rw [g2]; exact hL.free)
      (by show (b.cells ++ cs).length ≤ _; rw [List.length_append, g2, hsz]; exact hle) (fun e' he' => by
        injection he' with he'
        subst he'
        rw [g2]
        exact ⟨he, h0, hsz, hcap⟩)
      (fun u hu => by
        rcases List.mem_append.1 hu with hu | hu
        · exact hL.one u hu
        · exact h1 u hu)
      (fun j u y hu hy => by
        replace hu : (b.cells ++ cs)[j]? = some u := hu
        rw [List.getElem?_append] at hu
        rw [g3] at hy
        by_cases hj : j < b.cells.length
        · rw [if_pos hj] at hu
          rw [if_neg (by omega)] at hy
          exact hL.reps j u y hu hy
        · rw [if_neg hj] at hu
          have hju : j - b.cells.length < cs.length := (List.getElem?_eq_some_iff.1 hu).1
          rw [if_pos (by omega)] at hy
          exact hr.2 _ u y hu hy)
  · exact ext_put (.inl hfr) (Nat.le_succ _) (.inl ⟨Nat.le_refl _, Nat.lt_succ_self _⟩) (fun i b' h => by
      replace h : (if i = H.next then some (⟨b.ty, b.cells ++ cs, some e⟩ : Blk) else if i = id then none else H.get i) = some b' := h
      by_cases h1 : i = H.next
      · exact .inl h1
      · rw [if_neg h1] at h
        by_cases h2 : i = id
        · rw [if_pos h2] at h; cases h
        · rw [if_neg h2] at h; exact .inr ⟨b', h⟩) g4 (by omega) g6 g7 g8 (.inr ⟨id, b, l, hb, hm, rfl⟩)

theorem ext_kill (id : Nat) : Ext m Z H w m Z (H.set id none) w :=
  ⟨fun _ _ h => h, Nat.le_refl _, fun _ _ => rfl, fun _ h => h, Nat.le_refl _, rfl, rfl, rfl, fun _ _ _ => rfl, fun i b l h hm => by
    simp only [Heap.set] at h
    split at h
    · cases h
    · exact .inr ⟨i, b, l, h, hm, rfl⟩, fun _ h => .inl h⟩

theorem append_core {t u ty e : TypeId} {i : TypeInfo} {z : Value} {x v : V} {X Y : Value} {H' : Heap} (q : List V × Nat) (xs : List Value)
    (h0 : 0 < i.size) (hzs : z.cells.size = i.size) (hql : q.1.length = q.2 * i.size) (hq1 : ∀ v ∈ q.1, v.one = true) (hxr : Reps m Z w q.1 xs)
    (fits : ∀ {base : Option Addr} {sLen sCap : Nat} {w' : World}, sLen + q.2 ≤ sCap → ((∃ a, base = some a ∧ (storeCells (a.add (sLen * i.size)) xs.toArray.toList).run P w = .ok () w') ∨ (base = none ∧ w' = w)) →
      (Builtin.append_ #[t, u] ty #[.slice base sLen sCap, Y]).run P w = .ok (.slice base (sLen + q.2) sCap) w')
    (grows : ∀ {base : Option Addr} {sLen sCap : Nat} {olds : Array Value}, (∀ w', (∀ c, w'.cell? c = w.cell? c) → (Builtin.firstCells i.size sLen (.slice base sLen sCap)).run P w' = .ok olds w') → sCap < sLen + q.2 → sLen + q.2 ≤ maxLen →
      (sLen + q.2) * i.bytes ≤ 140737488355328 → (Builtin.append_ #[t, u] ty #[.slice base sLen sCap, Y]).run P w =
      .ok (.slice (some ⟨w.heap.size, 0, none⟩) (sLen + q.2) (grownCap w (sLen + q.2) sCap e))
        (w.drew.alloc (.cells (olds ++ xs.toArray ++ Builtin.zeroCells z.cells (grownCap w (sLen + q.2) sCap e - (sLen + q.2))) e)))
    (h : mappendq e i.size i.bytes q x H = some (v, H')) (hx : Rep m Z w x X) (r : RelH m Z H w) (hfr : Free m H H') :
    ∃ m' r' w', (Builtin.append_ #[t, u] ty #[X, Y]).run P w = .ok r' w' ∧ Rep m' Z w' v r' ∧ RelH m' Z H' w' ∧ Ext m Z H w m' Z H' w' := by
  simp only [mappendq] at h
  have hxl : xs.length = q.2 * i.size := by rw [hxr.1, hql]
  cases x with
  | nils =>
    cases hx
    dsimp only at h
    split at h
    · rename_i hz0
      simp only [Option.some.injEq, Prod.mk.injEq] at h
      obtain ⟨rfl, rfl⟩ := h
      refine ⟨m, _, w, fits (by omega) (.inr ⟨rfl, rfl⟩), ?_, r, .refl _ _ _ _⟩
      rw [hz0]
      exact .nils
    · rename_i hz0
      split at h
      · rename_i hb
        simp only [Option.some.injEq, Prod.mk.injEq] at h
        obtain ⟨rfl, rfl⟩ := h
        have hrun := grows (base := none) (sLen := 0) (sCap := 0) (olds := #[]) (fun w' _ => nilslice_first _ _ _ _) (by omega) (by rw [Nat.zero_add]; exact hb.2) (by rw [Nat.zero_add]; exact hb.1)
        obtain ⟨m', h1, h2, h3⟩ := grown_new (e := e) (i := i) (z := z) (need := 0 + q.2) (old := 0) (olds := []) (news := xs) (vs := q.1) r (hfr _ (Nat.le_refl _) (Nat.lt_succ_self _)) hzs h0 (by rw [Nat.zero_add]; exact hb.2) (by simpa using hxl) (by simpa using hxr) hq1
        refine ⟨m', _, _, hrun, ?_, h2, h3⟩
        have e1 : V.sl H.next 0 (0 + q.2) (.opn i.size) = V.sl H.next 0 q.2 (.opn i.size) := by rw [Nat.zero_add]
        rw [← e1]
        exact h1
      · cases h
  | rs cells len =>
    dsimp only at h
    split at h
    · rename_i hz0
      simp only [Option.some.injEq, Prod.mk.injEq] at h
      obtain ⟨rfl, rfl⟩ := h
      obtain ⟨b, o, ad, c, rfl, hlc, _⟩ := hx.inv_rs
      have hnil : xs = [] := List.eq_nil_of_length_eq_zero (by rw [hxl, hz0, Nat.zero_mul])
      refine ⟨m, _, w, fits (by omega) ?_, ?_, r, .refl _ _ _ _⟩
      · exact .inl ⟨ad, rfl, by rw [hnil]; rfl⟩
      · rw [hz0]
        exact hx
    · cases h
  | sl id off len cap =>
    simp only [Option.bind_eq_some_iff] at h
    obtain ⟨b, hb, h⟩ := h
    split at h
    · rename_i hc
      obtain ⟨hle, hty⟩ := hc
      obtain ⟨l, ad, c, hm, rfl, hlc, ha, hcap⟩ := hx.inv_sl
      obtain ⟨cur, fz, hL⟩ := r.at_ hb hm
      have hold : ∃ os : List Value, os.length = len * i.size ∧ Reps m Z w ((b.cells.drop off).take (len * i.size)) os ∧ (∀ v ∈ (b.cells.drop off).take (len * i.size), v.one = true) ∧
          ∀ w', (∀ c, w'.cell? c = w.cell? c) → (Builtin.firstCells i.size len (.slice (some ad) len c)).run P w' = .ok os.toArray w' := by
        have hrc : rcells i.size H (.sl id off len cap) = some ((b.cells.drop off).take (len * i.size), len) := by
          simp only [rcells, hb, Option.bind_some, if_pos hle]
        obtain ⟨g1, g2, _, _, os, g3, g4⟩ := rcells_run (P := P) hrc hx r
        have hol : os.length = len * i.size := by rw [g3.1, g1]
        refine ⟨os, hol, g3, g2, fun w' hw' => ?_⟩
        have := g4 len (Nat.le_refl _) w' hw'
        rwa [show os.take (len * i.size) = os from by rw [← hol]; exact List.take_length] at this
      obtain ⟨os, hol, hor, ho1, hof⟩ := hold
      have hgrow : c < len + q.2 → len + q.2 ≤ maxLen → (len + q.2) * i.bytes ≤ 140737488355328 → ∀ H0 : Heap, H0.next = H.next → m H.next = none → RelH m Z H0 w → Ext m Z H w m Z H0 w →
          ∃ m' r' w', (Builtin.append_ #[t, u] ty #[.slice (some ad) len c, Y]).run P w = .ok r' w' ∧ Rep m' Z w' (.sl H.next 0 (len + q.2) (.opn i.size)) r' ∧
            RelH m' Z (H0.new ⟨e, (b.cells.drop off).take (len * i.size) ++ q.1, some i.size⟩) w' ∧ Ext m Z H w m' Z (H0.new ⟨e, (b.cells.drop off).take (len * i.size) ++ q.1, some i.size⟩) w' := by
        intro hlt h63 hby H0 hnx hm0 r0 e0
        have hrun := grows hof hlt h63 hby
        obtain ⟨m', h1, h2, h3⟩ := grown_new (e := e) (i := i) (z := z) (need := len + q.2) (old := c) (olds := os) (news := xs) (vs := (b.cells.drop off).take (len * i.size) ++ q.1) r0 (by rw [hnx]; exact hm0) hzs h0 h63
          (by rw [List.length_append, hol, hxl, Nat.add_mul]) (reps_append hor hxr) (fun v hv => by
            rcases List.mem_append.1 hv with hv | hv
            · exact ho1 v hv
            · exact hq1 v hv)
        rw [hnx] at h1
        exact ⟨m', _, _, hrun, h1, h2, e0.trans h3⟩
      cases cap with
      | fix c' =>
        have hcc : c' = c := by
          rcases hcap with hcap | ⟨hcap, _⟩
          · injection hcap
          · cases hcap
        subst hcc
        dsimp only at h
        split at h
        · rename_i hfit
          split at h
          · rename_i hroom
            simp only [Option.some.injEq, Prod.mk.injEq] at h
            obtain ⟨rfl, rfl⟩ := h
            by_cases hc0 : c' = 0
            · -- nothing is there, nothing comes
              have hz0 : q.2 = 0 := by omega
              have hl0 : len = 0 := by omega
              have hnil : xs = [] := List.eq_nil_of_length_eq_zero (by rw [hxl, hz0, Nat.zero_mul])
              have hqnil : q.1 = [] := List.eq_nil_of_length_eq_zero (by rw [hql, hz0, Nat.zero_mul])
              have hsame : H.set id (some { b with cells := splice b.cells (off + len * i.size) q.1 }) = H := by
                have : splice b.cells (off + len * i.size) q.1 = b.cells := by rw [hqnil]; simp [splice]
                rw [this]
                have hget : (fun i => if i = id then some b else H.get i) = H.get := by
                  funext j
                  by_cases hj : j = id
                  · rw [if_pos hj, hj, hb]
                  · rw [if_neg hj]
                show ({ get := fun i => if i = id then some b else H.get i, next := H.next } : Heap) = H
                rw [hget]
              rw [hsame]
              refine ⟨m, _, w, fits hfit (.inl ⟨ad, rfl, by rw [hnil]; rfl⟩), ?_, r, .refl _ _ _ _⟩
              rw [hz0]
              exact hx
            · rcases ha with ha | rfl
              · exact (hc0 ha).elim
              · obtain ⟨w', hst, hr', he'⟩ := write_run (P := P) (o := off + len * i.size) r hb hm hxr hq1 (by rw [hql]; rw [Nat.add_mul] at hroom; omega)
                refine ⟨m, _, w', fits hfit (.inl ⟨_, rfl, by rw [add_off]; exact hst⟩), .slc hm hfit (.inr rfl), hr', he'⟩
          · cases h
        · rename_i hfit
          split at h
          · rename_i hby
            simp only [Option.some.injEq, Prod.mk.injEq] at h
            obtain ⟨rfl, rfl⟩ := h
            exact hgrow (by omega) hby.2 hby.1 H rfl (hfr _ (Nat.le_refl _) (Nat.lt_succ_self _)) r (.refl _ _ _ _)
          · cases h
      | opn e' =>
        obtain ⟨rfl, j, hj, hjc⟩ : e' = l.esz ∧ ∃ j, off = j * l.esz ∧ j + c = l.cap := by
          rcases hcap with hcap | ⟨hcap, h⟩
          · cases hcap
          · injection hcap with hcap
            exact ⟨hcap, h⟩
        dsimp only at h
        split at h
        · rename_i hop
          obtain ⟨he, hoff, hopn, hlen⟩ := hop
          subst hoff
          have hj0 : j = 0 := by
            rcases Nat.eq_zero_or_pos j with h | h
            · exact h
            · have : 0 < j * l.esz := Nat.mul_pos h (by omega)
              omega
          subst hj0
          have hcl : c = l.cap := by omega
          split at h
          · rename_i hz0
            simp only [Option.some.injEq, Prod.mk.injEq] at h
            obtain ⟨rfl, rfl⟩ := h
            have hnil : xs = [] := List.eq_nil_of_length_eq_zero (by rw [hxl, hz0, Nat.zero_mul])
            refine ⟨m, _, w, fits (by omega) (.inl ⟨ad, rfl, by rw [hnil]; rfl⟩), ?_, r, .refl _ _ _ _⟩
            rw [hz0]
            exact hx
          · rename_i hz0
            split at h
            · rename_i hby
              simp only [Option.some.injEq, Prod.mk.injEq] at h
              obtain ⟨rfl, rfl⟩ := h
              have htake : (b.cells.drop 0).take (len * i.size) = b.cells := by rw [List.drop_zero, ← hlen]; exact List.take_length
              by_cases hfit : len + q.2 ≤ c
              · rcases ha with ha | rfl
                · omega
                · obtain ⟨w', hst, hr', he'⟩ := extend_run (P := P) (e := i.size) r (hfr _ (Nat.le_refl _) (Nat.lt_succ_self _)) hb hm hxr hq1 hopn (by rw [hlen, hql, ← Nat.add_mul, ← hcl]; exact Nat.mul_le_mul_right _ hfit)
                  rw [hty] at hr' he'
                  refine ⟨_, _, w', fits hfit (.inl ⟨_, rfl, by rw [add_off, Nat.zero_add, ← hlen]; exact hst⟩), ?_, hr', he'⟩
                  rw [← he]
                  exact .slo (l := l) (i := 0) (if_pos rfl) (by simp) (by omega) hfit (.inr rfl)
              · have := hgrow (by omega) hby.2 hby.1 (H.set id none) rfl (hfr _ (Nat.le_refl _) (Nat.lt_succ_self _)) (relH_kill r id) (ext_kill id)
                rwa [htake] at this
            · cases h
        · split at h
          · rename_i hz0
            simp only [Option.some.injEq, Prod.mk.injEq] at h
            obtain ⟨rfl, rfl⟩ := h
            have hnil : xs = [] := List.eq_nil_of_length_eq_zero (by rw [hxl, hz0.2, Nat.zero_mul])
            refine ⟨m, _, w, fits (by omega) (.inl ⟨ad, rfl, by rw [hnil]; rfl⟩), ?_, r, .refl _ _ _ _⟩
            rw [hz0.2]
            exact hx
          · rename_i hz0
            split at h
            · rename_i hroom
              obtain ⟨he, hopn, hroom⟩ := hroom
              simp only [Option.some.injEq, Prod.mk.injEq] at h
              obtain ⟨rfl, rfl⟩ := h
              obtain ⟨ho1', ho2, ho3, ho4⟩ := hL.opn _ hopn
              have hlen := hL.len
              have hfit : len + q.2 ≤ c := by
                have h1 : (j + (len + q.2)) * i.size ≤ l.cap * i.size := by
                  rw [Nat.add_mul, ← he, ← hj, he]; omega
                have := Nat.le_of_mul_le_mul_right h1 h0
                omega
              have hq0 : q.2 ≠ 0 := fun e => hz0 ⟨he, e⟩
              rcases ha with ha | rfl
              · omega
              · obtain ⟨w', hst, hr', he'⟩ := write_run (P := P) (o := off + len * i.size) r hb hm hxr hq1 (by rw [hql]; rw [Nat.add_mul] at hroom; omega)
                exact ⟨m, _, w', fits hfit (.inl ⟨_, rfl, by rw [add_off]; exact hst⟩), .slo hm hj hjc hfit (.inr rfl), hr', he'⟩
            · cases h
    · cases h
  | _ => cases h

theorem append_run {t u ty e : TypeId} {i : TypeInfo} {z : Value} {x y v : V} {X Y : Value} {H' : Heap} (ht : P.underlying t = some (.slice e)) (hu : AppTy P u) (hi : P.info? e = some i) (hz : i.zero = some z)
    (h0 : 0 < i.size) (hzs : z.cells.size = i.size) (h : mappend e i.size i.bytes x y H = some (v, H')) (hx : Rep m Z w x X) (hy : Rep m Z w y Y) (r : RelH m Z H w) (hfr : Free m H H') :
    ∃ m' r' w', (Builtin.append_ #[t, u] ty #[X, Y]).run P w = .ok r' w' ∧ Rep m' Z w' v r' ∧ RelH m' Z H' w' ∧ Ext m Z H w m' Z H' w' := by
  simp only [mappend, Option.bind_eq_some_iff] at h
  obtain ⟨q, hq, h⟩ := h
  obtain ⟨hql, hq1, hqn, xs, hxr, hfc⟩ := acells_run (P := P) hq hy r
  have hxl : xs.length = q.2 * i.size := by rw [hxr.1, hql]
  have hfull : xs.take (q.2 * i.size) = xs := by rw [← hxl]; exact List.take_length
  have hfull' : ∀ w', (∀ c, w'.cell? c = w.cell? c) → (Builtin.firstCells i.size q.2 Y).run P w' = .ok xs.toArray w' := fun w' hw' => by
    have := hfc q.2 (Nat.le_refl _) w' hw'
    rwa [hfull] at this
  exact append_core q xs h0 hzs hql hq1 hxr (fun hle hst => append_fits ht hu hi hqn (hfull' w fun _ => rfl) hle hst) (fun ho hlt h63 hb => append_grows ht hu hi hz hqn hfull' ho hlt h63 hb) h hx r hfr

theorem copy_run {t u ty e : TypeId} {s : Nat} {x y v : V} {X Y : Value} {H' : Heap} (ht : P.underlying t = some (.slice e)) (hs : szOf P e = some s)
    (h : mcopy s x y H = some (v, H')) (hx : Rep m Z w x X) (hy : Rep m Z w y Y) (r : RelH m Z H w) :
    ∃ r' w', (Builtin.copy_ #[t, u] ty #[X, Y]).run P w = .ok r' w' ∧ Rep m Z w' v r' ∧ RelH m Z H' w' ∧ Ext m Z H w m Z H' w' := by
  simp only [mcopy, Option.bind_eq_some_iff] at h
  obtain ⟨q, hq, h⟩ := h
  obtain ⟨hql, hq1, hqn, xs, hxr, hfc⟩ := acells_run (P := P) hq hy r
  have hsz := (szOf_some (w := w) hs).1
  have hrun : ∀ (base : Option Addr) (dLen dCap : Nat) (w' : World), ((∃ a, base = some a ∧ (storeCells a (xs.take (min q.2 dLen * s))).run P w = .ok () w') ∨ (base = none ∧ w' = w)) →
      (Builtin.copy_ #[t, u] ty #[.slice base dLen dCap, Y]).run P w = .ok (.int .i64 ((min q.2 dLen : Nat) : Int)) w' := by
    intro base dLen dCap w' hst
    have hf := hfc (min q.2 dLen) (Nat.min_le_left _ _) w (fun _ => rfl)
    have hmin : Nat.min q.2 dLen = min q.2 dLen := rfl
    rcases hst with ⟨a, rfl, hst⟩ | ⟨rfl, rfl⟩ <;>
      simp [Builtin.copy_, run_underlying ht, goInt, *]
  cases x with
  | nils =>
    simp only [Option.some.injEq, Prod.mk.injEq] at h
    obtain ⟨rfl, rfl⟩ := h
    cases hx
    have := hrun none 0 0 w (.inr ⟨rfl, rfl⟩)
    rw [Nat.min_zero] at this
    exact ⟨_, w, this, .int _ _, r, .refl _ _ _ _⟩
  | sl id off len cap =>
    simp only [Option.bind_eq_some_iff] at h
    obtain ⟨b, hb, h⟩ := h
    split at h
    · rename_i hle
      simp only [Option.some.injEq, Prod.mk.injEq] at h
      obtain ⟨rfl, rfl⟩ := h
      obtain ⟨l, ad, c, hm, rfl, hlc, ha, _⟩ := hx.inv_sl
      have hk : min q.2 len * s ≤ len * s := Nat.mul_le_mul_right _ (Nat.min_le_right _ _)
      have hk2 : min q.2 len * s ≤ q.2 * s := Nat.mul_le_mul_right _ (Nat.min_le_left _ _)
      obtain ⟨w', hst, hr', he'⟩ := write_run (P := P) (o := off) r hb hm (reps_take hxr (min q.2 len * s)) (fun v hv => hq1 v (List.mem_of_mem_take hv)) (by simp; omega)
      rcases ha with ha | rfl
      · have hl0 : min q.2 len = 0 := by omega
        rw [hl0, Nat.zero_mul, List.take_zero] at hst
        have hw : w' = w := by
          have : (storeCells ⟨l.blk, off, none⟩ ([] : List Value)).run P w = .ok () w := rfl
          rw [this] at hst
          injection hst with _ hst
          exact hst.symm
        subst hw
        exact ⟨_, w', hrun (some ad) len c w' (.inl ⟨ad, rfl, by rw [hl0, Nat.zero_mul, List.take_zero]; rfl⟩), .int _ _, hr', he'⟩
      · exact ⟨_, w', hrun _ len c w' (.inl ⟨_, rfl, hst⟩), .int _ _, hr', he'⟩
    · cases h
  | _ => cases h

theorem vbytes_some : ∀ {cs : List V} {l : List UInt8} {xs : List Value}, vbytes cs = some l → Reps m Z w cs xs → ∃ ns : List Int, xs = ns.map (Value.int .u8) ∧ l = ns.map fun n => UInt8.ofNat n.toNat := by
  intro cs
  induction cs with
  | nil =>
    intro l xs h hr
    simp only [vbytes, Option.some.injEq] at h
    subst h
    exact ⟨[], by simpa using List.eq_nil_of_length_eq_zero hr.1, rfl⟩
  | cons c cs ih =>
    intro l xs h hr
    cases xs with
    | nil => have := hr.1; simp at this
    | cons x xs =>
      have hx := hr.2 0 c x rfl rfl
      have hrest : Reps m Z w cs xs := ⟨by have := hr.1; simpa using this, fun j v x hv hx => hr.2 (j + 1) v x (by simpa using hv) (by simpa using hx)⟩
      unfold vbytes at h
      split at h
      · rename_i heq; cases heq
      · rename_i n cs' heq
        injection heq with h1 h2
        subst h1; subst h2
        simp only [Option.map_eq_some_iff] at h
        obtain ⟨l', hl', rfl⟩ := h
        obtain ⟨ns, rfl, rfl⟩ := ih hl' hrest
        cases hx
        exact ⟨n :: ns, rfl, rfl⟩
      · cases h

theorem foldl_push_ints (ns : List Int) : ∀ s : ByteArray, ns.foldl (fun r n => r.push (UInt8.ofNat n.toNat)) s = ⟨(s.data.toList ++ ns.map fun n => UInt8.ofNat n.toNat).toArray⟩ := by
  induction ns with
  | nil => intro s; obtain ⟨⟨l⟩⟩ := s; simp
  | cons n ns ih =>
    intro s
    rw [List.foldl_cons, ih]
    congr 1
    simp [ByteArray.push]

theorem modify_push {α : Type} (a : Array α) (x : α) (f : α → α) : (a.push x).modify a.size f = a.push (f x) := by
  apply Array.ext
  · simp
  · intro i h1 h2
    simp only [Array.getElem_modify, Array.getElem_push]
    by_cases hi : i = a.size
    · subst hi; simp
    · have : i < a.size := by simp at h2; omega
      simp only [this, dif_pos]
      rw [if_neg (fun h => hi h.symm)]

theorem tobytes_run {src dst e : TypeId} {x v : V} {X : Value} {H' : Heap} (hsrc : P.underlying src = some .string ∨ ∃ f, P.underlying src = some (.slice f)) (hdst : P.underlying dst = some (.slice e)) (he : P.underlying e = some (.int .u8))
    (h : mtobytes e x H = some (v, H')) (hx : Rep m Z w x X) (r : RelH m Z H w) (hfr : Free m H H') : ∃ m' y w', (convert src dst X).run P w = .ok y w' ∧ Rep m' Z w' v y ∧ RelH m' Z H' w' ∧ Ext m Z H w m' Z H' w' := by
  unfold mtobytes at h
  split at h
  · rename_i s
    split at h
    · rename_i hs
      simp only [Option.some.injEq, Prod.mk.injEq] at h
      obtain ⟨rfl, rfl⟩ := h
      cases hx
      have hge := grownCap_ge w s.size 0 e
      have hlm := grownCap_le_maxLen w s.size 0 e hs
      have hrun : (convert src dst (.string s)).run P w = .ok (.slice (some ⟨w.heap.size, 0, none⟩) s.size (grownCap w s.size 0 e))
          (w.drew.alloc (.cells ((s.data.map fun b : UInt8 => Value.int .u8 b.toNat) ++ Array.replicate (grownCap w s.size 0 e - s.size) (Value.int .u8 0)) e (grownCap w s.size 0 e, grownCap w s.size 0 e + 1))) := by
        have hsz : s.size + (grownCap w s.size 0 e - s.size) = grownCap w s.size 0 e := by omega
        have hsz' : s.data.size + (grownCap w s.size 0 e - s.size) = grownCap w s.size 0 e := hsz
        have hconv : (convert src dst (.string s)).run P w = (Conv.stringToBytes e s).run P w := by
          rcases hsrc with hsrc | ⟨f, hsrc⟩ <;> simp only [convert, Sem.run_bind, run_underlying hsrc, run_underlying hdst, run_underlying he, Result.andThen_ok]
        rw [hconv]
        simp only [Conv.stringToBytes, Sem.run_bind]
        have h1 : (choose (.appendCap s.size 0 e)).run P w = .ok (grownCap w s.size 0 e) w.drew := by simp [Question.forced, grownCap]
        have h2 : ∀ (cells : Array Value) (w' : World), (newRow e cells).run P w' = .ok ⟨w'.heap.size, 0, none⟩ (w'.alloc (.cells cells e)) := fun cells w' => by simp [newRow]
        have h3 : ∀ (cells : Array Value) (w' : World), (markStringish ⟨w'.heap.size, 0, none⟩).run P (w'.alloc (.cells cells e)) = .ok () (w'.alloc (.cells cells e (cells.size, cells.size + 1))) := fun cells w' => by
          have hsh : (w'.alloc (.cells cells e)).shape? w'.heap.size = some (e, cells.size) := by unfold World.shape?; rw [heap_alloc_at]
          have hfz : (w'.alloc (.cells cells e)).freeze ⟨w'.heap.size, cells.size, none⟩ 1 = w'.alloc (.cells cells e (cells.size, cells.size + 1)) := by
            unfold World.freeze
            rw [if_neg (by omega)]
            have := modify_push w'.heap (.cells cells e) fun
              | .cells c elem (lo, hi) => .cells c elem (if lo == hi then (cells.size, cells.size + 1) else (min lo cells.size, max hi (cells.size + 1)))
              | o => o
            exact congrArg (fun h => ({ w' with heap := h } : World)) this
          simp only [markStringish, Sem.run_bind, run_shape, hsh, Result.andThen_ok, run_freeze, hfz]
        simp only [h1, h2, h3, Result.andThen_ok, Sem.run_pure]
        have : ((s.data.map fun b : UInt8 => Value.int .u8 b.toNat) ++ Array.replicate (grownCap w s.size 0 e - s.size) (Value.int .u8 0)).size = grownCap w s.size 0 e := by simp; exact hsz'
        rw [this]
        rfl
      generalize grownCap w s.size 0 e = c at hge hlm hrun
      have hfn : m H.next = none := hfr _ (Nat.le_refl _) (Nat.lt_succ_self _)
      have hcs : ((s.data.map fun b : UInt8 => Value.int .u8 b.toNat) ++ Array.replicate (c - s.size) (Value.int .u8 0)).size = c := by
        have : s.data.size = s.size := rfl
        simp [this]; omega
      have hl : (strCells s).length = s.size := by simp only [strCells, List.length_map]; rfl
      have hn := relH_new (b := ⟨e, strCells s, some 1⟩) (cur := (s.data.map fun b : UInt8 => Value.int .u8 b.toNat) ++ Array.replicate (c - s.size) (Value.int .u8 0)) (fz := (c, c + 1)) (l := ⟨w.heap.size, c, 1⟩) r.drew hfn rfl
        (fun j hj => by rw [hcs] at hj; dsimp only; omega) (by rw [hcs]; dsimp only; omega)
        (fun e' he' => by injection he' with he'; subst he'; exact ⟨rfl, Nat.one_pos, by rw [hcs, Nat.mul_one], by simp only [maxLen] at hlm; dsimp only; omega⟩)
        (fun v hv => by simp only [strCells, List.mem_map] at hv; obtain ⟨b, _, rfl⟩ := hv; rfl)
        (fun j v x hv hx => by
          have hj : j < s.size := by rw [← hl]; exact (List.getElem?_eq_some_iff.1 hv).1
          have hjs : j < s.data.size := hj
          simp only [strCells, List.getElem?_map, Array.getElem?_toList, Option.map_eq_some_iff] at hv
          obtain ⟨b, hb, rfl⟩ := hv
          rw [Array.getElem?_append_left (by simpa using hjs), Array.getElem?_map, hb] at hx
          simp only [Option.map_some, Option.some.injEq] at hx
          subst hx
          exact .int _ _)
      exact ⟨_, _, _, hrun, .slo (l := ⟨w.heap.size, c, 1⟩) (i := 0) (if_pos rfl) (by simp) (by simp) hge (.inr rfl), hn.1, (Ext.drew m Z H w).trans hn.2⟩
    · cases h
  · cases h

/-- []byte(x), x a []byte. -/
theorem remark_run {t e : TypeId} {x v : V} {X : Value} {H' : Heap} (hs : P.underlying t = some (.slice e)) (he : P.underlying e = some (.int .u8))
    (h : mremark e x H = some (v, H')) (hx : Rep m Z w x X) (r : RelH m Z H w) (hfr : Free m H H') : ∃ m' y w', (convert t t X).run P w = .ok y w' ∧ Rep m' Z w' v y ∧ RelH m' Z H' w' ∧ Ext m Z H w m' Z H' w' := by
  unfold mremark at h
  split at h
  · exact tobytes_run (.inr ⟨e, hs⟩) hs he h hx r hfr
  · rename_i id off len cap
    simp only [Option.bind_eq_some_iff] at h
    obtain ⟨b, hb, h⟩ := h
    split at h
    · cases h
    · rename_i hl0
      simp only [Option.some.injEq, Prod.mk.injEq] at h
      obtain ⟨rfl, rfl⟩ := h
      have hx0 := hx
      obtain ⟨l, ad, c, hm, rfl, hlc, ha, _⟩ := hx.inv_sl
      rcases ha with ha | rfl
      · omega
      obtain ⟨cur, fz, hL⟩ := r.at_ hb hm
      have hsh : w.shape? l.blk = some (b.ty, cur.size) := by unfold World.shape?; rw [hL.heap]
      have hrun : (convert t t (.slice (some ⟨l.blk, off, none⟩) len c)).run P w = .ok (.slice (some ⟨l.blk, off, none⟩) len c) (w.freeze ⟨l.blk, cur.size, none⟩ 1) := by
        simp only [convert, Sem.run_bind, run_underlying hs, run_underlying he, Result.andThen_ok, beq_self_eq_true, markStringish, run_shape, hsh, run_freeze, Sem.run_pure]
      generalize hw' : w.freeze ⟨l.blk, cur.size, none⟩ 1 = w' at hrun
      obtain ⟨fz', hfz', hg1⟩ : ∃ fz' : Nat × Nat, (∀ j, j < cur.size → ¬ (fz'.1 ≤ j ∧ (j < fz'.2 ∨ fz'.1 ≠ fz'.2))) ∧ w'.heap[l.blk]? = some (.cells cur b.ty fz') := by
        obtain ⟨lo, hi⟩ := fz
        have hfree := hL.free
        refine ⟨if lo == hi then (cur.size, cur.size + 1) else (min lo cur.size, max hi (cur.size + 1)), fun j hj => ?_, ?_⟩
        · by_cases e0 : lo = hi
          · rw [if_pos (by simpa using e0)]
            dsimp only
            omega
          · rw [if_neg (by simpa using e0)]
            have h0 := hfree 0
            have hlo : cur.size ≤ lo := by
              rcases Nat.lt_or_ge lo cur.size with h | h
              · exact absurd ⟨Nat.le_refl _, .inr e0⟩ (hfree lo h)
              · exact h
            dsimp only
            omega
        · rw [← hw']
          unfold World.freeze
          rw [if_neg (by omega)]
          simp [Array.getElem?_modify, hL.heap]
      have hne : ∀ k, k ≠ l.blk → w'.heap[k]? = w.heap[k]? := fun k hk => by
        rw [← hw']
        unfold World.freeze
        rw [if_neg (by omega)]
        simp only [Array.getElem?_modify]
        rw [if_neg (by simpa using Ne.symm hk)]
      have hsz : w'.heap.size = w.heap.size := by
        rw [← hw']
        unfold World.freeze
        rw [if_neg (by omega)]
        simp
      have hos : w'.os = w.os ∧ w'.tape = w.tape ∧ w'.output = w.output := by
        rw [← hw']
        unfold World.freeze
        rw [if_neg (by omega)]
        exact ⟨rfl, rfl, rfl⟩
      have hlt : id < H.next := by
        rcases Nat.lt_or_ge id H.next with h | h
        · exact h
        · rw [r.dead id h] at hb; cases hb
      have hr' : RelH m Z H w' := by
        have := relH_put (id := id) (l := l) (b := b) (cur := cur) (fz := fz') (H' := H) (w' := w') r (fun i => by
          by_cases hi : i = id
          · rw [if_pos hi, hi, hb]
          · rw [if_neg hi]) (Nat.le_refl _) hlt (.inr hm) hne (by omega) hL.out (fun i b' l' hb' hm' e => r.inj i id b' b l' l hb' hb hm' hm e) hg1 hfz' hL.len hL.opn hL.one hL.reps
        rwa [map_self hm] at this
      have he' : Ext m Z H w m Z H w' := by
        have := ext_put (m := m) (Z := Z) (H := H) (w := w) (id := id) (l := l) (H' := H) (w' := w') (.inr hm) (Nat.le_refl _) (.inr hm) (fun i b' h => .inr ⟨b', h⟩) hne (by omega) hos.1 hos.2.1 hos.2.2 (.inr ⟨id, b, l, hb, hm, rfl⟩)
        rwa [map_self hm] at this
      refine ⟨m, _, w', hrun, ?_, hr', he'⟩
      cases hx0 with
      | slc h1 h2 h3 => exact .slc h1 h2 h3
      | slo h1 h2 h3 h4 h5 => exact .slo h1 h2 h3 h4 h5
  · cases h

theorem tostr_run {src dst e : TypeId} {x v : V} {X : Value} {H' : Heap} (hsrc : P.underlying src = some (.slice e)) (hdst : P.underlying dst = some .string) (he : P.underlying e = some (.int .u8))
    (h : mtostr x H = some (v, H')) (hx : Rep m Z w x X) (r : RelH m Z H w) : H' = H ∧ ∃ y, (convert src dst X).run P w = .ok y w ∧ Rep m Z w v y := by
  simp only [mtostr, Option.bind_eq_some_iff, Option.map_eq_some_iff, Prod.mk.injEq] at h
  obtain ⟨q, hq, l, hl, rfl, rfl⟩ := h
  obtain ⟨hql, hq1, hqn, ⟨ad, c, rfl⟩, xs, hxr, hfc⟩ := rcells_run (P := P) hq hx r
  obtain ⟨ns, rfl, rfl⟩ := vbytes_some hl hxr
  have hxl : (ns.map (Value.int .u8)).length = q.2 * 1 := by rw [hxr.1, hql]
  refine ⟨rfl, .string ⟨(ns.map fun n => UInt8.ofNat n.toNat).toArray⟩, ?_, .str _⟩
  have hcv : (convert src dst (.slice ad q.2 c)).run P w = (Conv.bytesToString (.slice ad q.2 c)).run P w := by
    simp [convert, run_underlying hsrc, run_underlying hdst, run_underlying he]
  rw [hcv]
  cases ad with
  | none =>
    have hf := hfc q.2 (Nat.le_refl _) w fun _ => rfl
    have h0 : ns = [] := by
      simp only [Builtin.firstCells, Sem.run_pure] at hf
      injection hf with hf
      have := congrArg Array.size hf
      simp only [List.size_toArray, List.length_take, hxl, Nat.min_self] at this
      rw [List.length_map] at hxl
      exact List.eq_nil_of_length_eq_zero (by rw [hxl, ← this]; rfl)
    subst h0
    rfl
  | some ad =>
    have hf := hfc q.2 (Nat.le_refl _) w fun _ => rfl
    rw [← hxl, List.take_length] at hf
    simp only [Builtin.firstCells, Nat.mul_one] at hf
    rw [run_bytesToString w ad q.2 c ns hf, foldl_push_ints]
    rfl

/-- append(x, make([]T, n)..). -/
theorem appendz_run {t u ty e : TypeId} {k : IntKind} {i : TypeInfo} {z : List V} {x y v : V} {X Y : Value} {H' : Heap} (ht : P.underlying t = some (.slice e)) (hu : P.underlying u = some (.int k)) (hi : P.info? e = some i) (hz : zeroOf P e = some z)
    (hzl : z.length = i.size) (h0 : 0 < i.size) (h : mappendz e i.bytes z x y H = some (v, H')) (hx : Rep m Z w x X) (hy : Rep m Z w y Y) (r : RelH m Z H w) (hfr : Free m H H') :
    ∃ m' r' w', (Builtin.append_ #[t, u] ty #[X, Y]).run P w = .ok r' w' ∧ Rep m' Z w' v r' ∧ RelH m' Z H' w' ∧ Ext m Z H w m' Z H' w' := by
  obtain ⟨zv, hzr, hzc, hzs⟩ := zeroOf_some hz
  have hcs : zv.cells.size = z.length := by have := (ofCells_get hzc).1; simpa using this
  have hiz : i.zero = some zv := by
    simp only [zeroOf, hi, Option.bind_some, Option.bind_eq_some_iff] at hz
    obtain ⟨zz, hzz, _⟩ := hz
    have h1 : (zeroValue e).run P w = .ok zz w := by simp [zeroValue, typeInfo, hi, hzz]
    have h2 : (zeroValue e).run P w = .ok zv w := hzr w
    rw [h1] at h2
    injection h2 with h2 _
    rw [hzz, h2]
  unfold mappendz at h
  split at h
  · rename_i kk l
    cases hy
    split at h
    · rename_i hb
      rw [hzl] at h
      generalize hn : (IntKind.i64.wrap l).toNat = n at h
      have hln : IntKind.i64.wrap l = (n : Int) := by omega
      have hrow : Builtin.zeroCells zv.cells n = (Array.range (n * z.length)).map (zv.cells[· % zv.cells.size]!) := by rw [← hcs]; rfl
      obtain ⟨hr1, hr2, hr3⟩ := zeroRow_rep (m := m) (Z := Z) (w := w) hzc n
      have hneg : ¬ ((n : Int) < 0) := by omega
      have h48 : ¬ ((281474976710656 : Int) < (n : Int) * (i.bytes : Int)) := by have := hb.2; rw [hln] at this; omega
      have hxr : Reps m Z w (zeros z n) (Builtin.zeroCells zv.cells n).toList := ⟨by rw [hrow]; simpa using hr1, fun j a b ha hb' => hr3 j a b ha (by rw [← hrow]; simpa using hb')⟩
      have hz00 : n * i.size = 0 → Builtin.zeroCells zv.cells n = #[] := fun hz0 => by
          have : n = 0 := by
            rcases Nat.eq_zero_or_pos n with h | h
            · exact h
            · have := Nat.mul_pos h h0; omega
          subst this
          simp [Builtin.zeroCells]
      refine append_core (t := t) (u := u) (ty := ty) (e := e) (i := i) (z := zv) (Y := .int kk l) (zeros z n, n) (Builtin.zeroCells zv.cells n).toList h0 (by rw [hcs, hzl]) (by rw [zeros_length, hzl]) hr2 hxr (fun {base sLen sCap w'} hle hst => ?_) (fun {base sLen sCap olds} ho hlt h63 hby => ?_) h hx r hfr
      · rcases hst with ⟨a, rfl, hst⟩ | ⟨rfl, rfl⟩
        · simp [Builtin.append_, run_underlying ht, run_underlying hu, sizeOf, typeInfo, asInt, asIntOf, hi, hln, hneg, h48, hle]
          split
          · rename_i hz0
            have hst' : (storeCells (a.add (sLen * i.size)) []).run P w = .ok () w' := by simpa [hz00 hz0] using hst
            simp [hst']
          · have hst' : (storeCells (a.add (sLen * i.size)) (Builtin.zeroCells zv.cells n).toList).run P w = .ok () w' := by simpa using hst
            simp [hzr w, hst']
        · simp [Builtin.append_, run_underlying ht, run_underlying hu, sizeOf, typeInfo, asInt, asIntOf, hi, hln, hneg, h48, hle]
          intro _
          simp [hzr]
      · have hn' : ¬ (sLen + n ≤ sCap) := by omega
        have hb' := growslice_fits (need := sLen + n) (old := sCap) (bytes := i.bytes) hlt hby
        have h48' : ¬ (281474976710656 < Builtin.nextslicecap (sLen + n) sCap * i.bytes) := by omega
        have h63' : ¬ (9223372036854775807 < ((sLen : Int) + (n : Int))) := by simp only [maxLen] at h63; omega
        have ho' := ho w.drew (fun _ => rfl)
        simp [Builtin.append_, run_underlying ht, run_underlying hu, sizeOf, typeInfo, asInt, asIntOf, hi, hiz, hln, hneg, h48, hn', h48', h63', Question.forced, newRow, grownCap, zeroValue, ho']
        intro hz0
        rw [hz00 hz0]
        simp
    · cases h
  · cases h

/-- x[lo:hi], hi behind x's end. -/
theorem slice2_run {t e : TypeId} {esz : Nat} {x lo hi v : V} {X LO HI : Value} {H' : Heap} (ht : P.underlying t = some (.slice e)) (hs : szOf P e = some esz) (h0 : 0 < esz)
    (h : mslice2 esz x lo hi H = some (v, H')) (hx : Rep m Z w x X) (hlo : Rep m Z w lo LO) (hhi : Rep m Z w hi HI) (r : RelH m Z H w) :
    H' = H ∧ ∃ r', (Instr.sliceAt t X (some LO) (some HI) none).run P w = .ok r' w ∧ Rep m Z w v r' := by
  unfold mslice2 at h
  split at h
  · rename_i id off len e' kl l kh hh
    simp only [Option.bind_eq_some_iff] at h
    obtain ⟨b, hb, h⟩ := h
    split at h
    · rename_i hc
      obtain ⟨he, hopn, h1, h2, h3⟩ := hc
      simp only [Option.some.injEq, Prod.mk.injEq] at h
      obtain ⟨rfl, rfl⟩ := h
      cases hlo
      cases hhi
      refine ⟨rfl, ?_⟩
      obtain ⟨lc, a, c, hm, rfl, hlc, ha, hcap⟩ := hx.inv_sl
      obtain ⟨cur, fz, hL⟩ := r.at_ hb hm
      obtain ⟨rfl, i, hi, hic⟩ : e' = lc.esz ∧ ∃ i, off = i * lc.esz ∧ i + c = lc.cap := by
        rcases hcap with hcap | ⟨hcap, h⟩
        · cases hcap
        · injection hcap with hcap
          exact ⟨hcap, h⟩
      obtain ⟨_, _, ho3, _⟩ := hL.opn _ hopn
      have hlen := hL.len
      have hfit : hh.toNat ≤ c := by
        have h4 : (i + hh.toNat) * esz ≤ lc.cap * esz := by
          rw [Nat.add_mul, ← he, ← hi, he]; omega
        have := Nat.le_of_mul_le_mul_right h4 h0
        omega
      have hb := bounds_run (P := P) (w := w) (isSlice := true) (len := len) (cap := c) (l := some l) (h := some hh) (mm := none) (.inr ⟨_, kl, rfl, rfl⟩) (.inr ⟨_, kh, rfl, rfl⟩) (.inl ⟨rfl, rfl⟩) (by simp) (by simpa using h1) (by simpa using h2) (by simp only [Option.getD_some, Option.getD_none]; omega) (by simp)
      refine ⟨_, sliceAt_slice ht hs hb, ?_⟩
      simp only [Option.getD_some, Option.getD_none, Int.toNat_natCast]
      have hoff : off + l.toNat * esz = (i + l.toNat) * lc.esz := by rw [hi, he, Nat.add_mul]
      by_cases hz : c = l.toNat
      · rw [if_pos hz]
        exact .slo hm hoff (by omega) (by omega) (.inl (by omega))
      · rw [if_neg hz]
        rcases ha with ha | rfl
        · omega
        · simp only [Option.map_some, add_off]
          exact .slo hm hoff (by omega) (by omega) (.inr rfl)
    · cases h
  · cases h

/-- clear(x). -/
theorem clear_run {t ty e : TypeId} {z : List V} {x v : V} {X : Value} {H' : Heap} (ht : P.underlying t = some (.slice e)) (hz : zeroOf P e = some z) (hzl : 0 < z.length)
    (h : mclear z x H = some (v, H')) (hx : Rep m Z w x X) (r : RelH m Z H w) :
    ∃ r' w', (Builtin.clear_ #[t] ty #[X]).run P w = .ok r' w' ∧ Rep m Z w' v r' ∧ RelH m Z H' w' ∧ Ext m Z H w m Z H' w' := by
  have hun : Rep m Z w .undef (.tuple #[]) := .tup rfl fun j v x hv _ => by cases hv
  have hun' : ∀ w', Rep m Z w' .undef (.tuple #[]) := fun w' => .tup rfl fun j v x hv _ => by cases hv
  unfold mclear at h
  split at h
  · rename_i id off len cap
    obtain ⟨l, ad, c, hm, rfl, hlc, ha, _⟩ := hx.inv_sl
    split at h
    · rename_i hl0
      simp only [Option.some.injEq, Prod.mk.injEq] at h
      obtain ⟨rfl, rfl⟩ := h
      subst hl0
      exact ⟨_, w, by simp [Builtin.clear_, run_underlying ht], hun, r, .refl _ _ _ _⟩
    · rename_i hl0
      simp only [Option.bind_eq_some_iff] at h
      obtain ⟨b, hb, h⟩ := h
      split at h
      · rename_i hle
        simp only [Option.some.injEq, Prod.mk.injEq] at h
        obtain ⟨rfl, rfl⟩ := h
        obtain ⟨zv, hzr, hzc, hzs⟩ := zeroOf_some hz
        have hcs : zv.cells.size = z.length := by have := (ofCells_get hzc).1; simpa using this
        have hrow : Builtin.zeroCells zv.cells len = (Array.range (len * z.length)).map (zv.cells[· % zv.cells.size]!) := by rw [← hcs]; rfl
        obtain ⟨hr1, hr2, hr3⟩ := zeroRow_rep (m := m) (Z := Z) (w := w) hzc len
        have hxr : Reps m Z w (zeros z len) (Builtin.zeroCells zv.cells len).toList := ⟨by rw [hrow]; simpa using hr1, fun j a b ha hb' => hr3 j a b ha (by rw [← hrow]; simpa using hb')⟩
        rcases ha with ha | rfl
        · omega
        · obtain ⟨w', hst, hr', he'⟩ := write_run (P := P) (o := off) r hb hm hxr hr2 (by rw [zeros_length]; exact hle)
          refine ⟨_, w', ?_, hun' w', hr', he'⟩
          obtain ⟨n, rfl⟩ : ∃ n, len = n + 1 := ⟨len - 1, by omega⟩
          simp [Builtin.clear_, run_underlying ht, hzr w, hst]
      · cases h
  · cases h

/-- To a floating-point number. -/
theorem itof_run {src dst : TypeId} {k k0 : _} {x v : V} {X : Value} (hs : P.underlying src = some (.int k0)) (hd : P.underlying dst = some (.float k)) (h : op1 (.itof k) x = some v) (hx : Rep m Z w x X) :
    ∃ r, (convert src dst X).run P w = .ok r w ∧ Rep m Z w v r := by
  unfold op1 at h
  split at h <;> first | cases h; done | skip
  all_goals (rename_i hh; first | cases hh; done | skip)
  injection h with h
  subst h
  cases hx
  rename_i hh
  injection hh with hh
  subst hh
  exact ⟨_, by simp [convert, run_underlying hs, run_underlying hd, Conv.intToFloat], .lit _⟩

/-- A slice's beginning as an array. -/
theorem s2a_run {t e : TypeId} {n : Nat} {x v : V} {X : Value} (ht : P.underlying t = some (.array n e)) (h : op1 (.s2a n) x = some v) (hx : Rep m Z w x X) :
    ∃ r, (Instr.arrayAt t X).run P w = .ok r w ∧ Rep m Z w v r := by
  cases x <;> simp only [op1, reduceCtorEq] at h
  case sl id off len cap =>
    split at h
    · rename_i hc
      injection h with h
      subst h
      obtain ⟨l, ad, c, hm, rfl, hlc, ha, _⟩ := hx.inv_sl
      rcases ha with ha | rfl
      · omega
      · have : ¬ len < n := by omega
        exact ⟨_, by simp [Instr.arrayAt, run_underlying ht, this], .ptr hm⟩
    · cases h
  case rs cells len =>
    split at h
    · rename_i hc
      injection h with h
      subst h
      cases hx with
      | rs b o x hl h0 h1 h2 =>
        rcases h0 with h0 | ⟨rfl, hz, hcell⟩
        · omega
        · have : ¬ len < n := by omega
          exact ⟨_, by simp [Instr.arrayAt, run_underlying ht, this], .rp (o := o) (off := 0) x hz hcell h1 h2⟩
    · cases h

theorem digits_size : ∀ (n t : Nat) (acc : Array Value), (Extern.BytealgMakeNoZero.digits n t acc).size = acc.size + n
  | 0, _, _ => rfl
  | n + 1, t, acc => by
    rw [Extern.BytealgMakeNoZero.digits, digits_size n]
    simp
    omega

theorem digits_one : ∀ (n t : Nat) (acc : Array Value), (∀ x ∈ acc.toList, x.oneCell' = true) → ∀ x ∈ (Extern.BytealgMakeNoZero.digits n t acc).toList, x.oneCell' = true
  | 0, _, _, h => h
  | n + 1, t, acc, h => by
    rw [Extern.BytealgMakeNoZero.digits]
    refine digits_one n _ _ fun x hx => ?_
    simp only [Array.toList_push, List.mem_append, List.mem_singleton] at hx
    rcases hx with hx | rfl
    · exact h x hx
    · rfl

/-- MakeNoZero: bytes of which nothing is known. -/
theorem mknz_run {t e : TypeId} {ps : Array TypeId} {x v : V} {X : Value} {H' : Heap} (ht : P.underlying t = some (.slice e)) (h : mmknz e x H = some (v, H')) (hx : Rep m Z w x X) (r : RelH m Z H w) (hfr : Free m H H') :
    ∃ m' y w', (Extern.BytealgMakeNoZero.makeNoZero ps #[t] #[X]).run P w = .ok y w' ∧ Rep m' Z w' v y ∧ RelH m' Z H' w' ∧ Ext m Z H w m' Z H' w' := by
  unfold mmknz at h
  split at h
  · rename_i n0
    split at h
    · rename_i hc
      simp only [Option.some.injEq, Prod.mk.injEq] at h
      obtain ⟨rfl, rfl⟩ := h
      cases hx
      obtain ⟨n, rfl⟩ : ∃ n : Nat, n0 = n := ⟨n0.toNat, by omega⟩
      simp only [Int.toNat_natCast]
      have hdef : Extern.BytealgMakeNoZero.makeNoZero ps #[t] #[.int .i64 n] =
          (do
            let .slice elem ← underlying t | stuck "bytealg.MakeNoZero: slice type expected"
            if (n : Int) < 0 || (n : Int) > 2 ^ 48 then runtimePanic (.error "makeslice: len out of range")
            let cap ← choose (.appendCap (n : Int).toNat 0 elem)
            askRoom cap
            let bytes ← choose (.extern "internal/bytealg.MakeNoZero.bytes" 0)
            let a ← newRow elem (Extern.BytealgMakeNoZero.digits cap bytes #[])
            pure (.slice (some a) (n : Int).toNat cap)) := rfl
      have h1 : ¬ (n : Int) < 0 := by omega
      have h2 : ¬ (281474976710656 : Int) < (n : Int) := by omega
      obtain ⟨c, hcd⟩ : ∃ c, grownCap w n 0 e = c := ⟨_, rfl⟩
      obtain ⟨B, hB⟩ : ∃ B, (Question.extern "internal/bytealg.MakeNoZero.bytes" 0).cut (w.tape (w.drawn + 1) (.extern "internal/bytealg.MakeNoZero.bytes" 0)) = B := ⟨_, rfl⟩
      have hge : n ≤ c := by have := grownCap_ge w n 0 e; omega
      have hmx : c ≤ maxLen := by have := grownCap_le_maxLen w n 0 e (by simp only [maxLen]; omega); omega
      have hcs : (Extern.BytealgMakeNoZero.digits c B #[]).size = c := by rw [digits_size]; simp
      have hone := digits_one c B #[] (by simp)
      generalize hD : Extern.BytealgMakeNoZero.digits c B #[] = D at hcs hone
      have hrun : (Extern.BytealgMakeNoZero.makeNoZero ps #[t] #[.int .i64 n]).run P w = .ok (.slice (some ⟨w.heap.size, 0, none⟩) n c) (w.drew.drew.alloc (.cells D e)) := by
        rw [hdef]
        simp only [grownCap] at hcd
        simp [run_underlying ht, h1, h2, Question.forced, newRow, hcd, hB, hD]
      have hR := (r.drew).drew
      have hE := (Ext.drew m Z H w).trans (Ext.drew m Z H w.drew)
      have hn := relH_new (b := ⟨e, List.replicate n .any, some 1⟩) (cur := D) (fz := (0, 0)) (l := ⟨w.heap.size, c, 1⟩) hR (hfr _ (Nat.le_refl _) (Nat.lt_succ_self _)) rfl (fun j _ => by simp) (by simp [hcs, hge])
        (fun e' he' => by
          simp only [Option.some.injEq] at he'
          subst he'
          exact ⟨rfl, Nat.one_pos, by simp [hcs], by simpa [maxLen] using hmx⟩)
        (fun v hv => by rw [List.eq_of_mem_replicate hv]; rfl)
        (fun j v x hv hx => by
          have := List.mem_of_getElem? hv
          rw [List.eq_of_mem_replicate this]
          exact .any x (hone x (by rw [Array.mem_toList_iff]; exact Array.mem_of_getElem? hx)))
      exact ⟨_, _, _, hrun, .slo (l := ⟨w.heap.size, c, 1⟩) (i := 0) (c := c) (if_pos rfl) (by simp) (by simp) hge (.inr rfl), hn.1, hE.trans hn.2⟩
    · cases h
  · cases h

theorem mkslice_run {t e : TypeId} {i : TypeInfo} {z : List V} {l c v : V} {L C' : Value} {H' : Heap} (ht : P.underlying t = some (.slice e)) (hi : P.info? e = some i) (hz : zeroOf P e = some z) (hzl : z.length = i.size) (h0 : 0 < i.size)
    (h : mmkslice e i.bytes z l c H = some (v, H')) (hl : Rep m Z w l L) (hc : Rep m Z w c C') (r : RelH m Z H w) (hfr : Free m H H') :
    ∃ m' y w', (Instr.makeSlice t L C').run P w = .ok y w' ∧ Rep m' Z w' v y ∧ RelH m' Z H' w' ∧ Ext m Z H w m' Z H' w' := by
  obtain ⟨zv, hzr, hzc, hzs⟩ := zeroOf_some hz
  unfold mmkslice at h
  split at h
  · rename_i ln cn
    split at h
    · rename_i hb
      obtain ⟨h1, h2, h3, h4⟩ := hb
      simp only [Option.some.injEq, Prod.mk.injEq] at h
      obtain ⟨rfl, rfl⟩ := h
      cases hl; cases hc
      obtain ⟨hr1, hr2, hr3⟩ := zeroRow_rep (m := m) (Z := Z) (w := w) hzc cn.toNat
      have hn := relH_new (b := ⟨e, zeros z cn.toNat, none⟩) (cur := (Array.range (cn.toNat * z.length)).map (zv.cells[· % zv.cells.size]!)) (fz := (0, 0)) (l := ⟨w.heap.size, 0, 0⟩) r (hfr _ (Nat.le_refl _) (Nat.lt_succ_self _)) rfl (fun j _ => by simp) (by rw [hr1]; exact Nat.le_refl _) (fun e he => by cases he) hr2 hr3
      refine ⟨_, .slice (some ⟨w.heap.size, 0, none⟩) ln.toNat cn.toNat, _, ?_, .slc (l := ⟨w.heap.size, 0, 0⟩) (if_pos rfl) (by omega) (.inr rfl), hn.1, hn.2⟩
      have hwl : IntKind.i64.wrap ln = ln := by rw [IntKind.wrap_i64]; omega
      have hwc : IntKind.i64.wrap cn = cn := by rw [IntKind.wrap_i64]; omega
      have hmul : (i.bytes : Int) * cn ≤ 281474976710656 := by rw [Int.mul_comm]; exact h3
      unfold Instr.makeSlice
      simp only [Sem.run_bind, run_underlying ht, Result.andThen_ok, asInt, asIntOf, Sem.run_pure, run_typeInfo w hi, hwl, hwc, Sem.run_ite, run_askRoom, run_sizeOf w hi, Program.cellsOf, hi]
      rw [if_neg (by simp; omega)]
      by_cases hn0 : cn.toNat * i.size = 0
      · have hc0 : cn.toNat = 0 := by
          rcases Nat.eq_zero_or_pos cn.toNat with h | h
          · exact h
          · have := Nat.mul_pos h h0; omega
        have hrow : (Array.range (cn.toNat * i.size)).map (fun x => (#[] : Array Value)[x % (#[] : Array Value).size]!) = (Array.range (cn.toNat * z.length)).map (zv.cells[· % zv.cells.size]!) := by
          rw [hc0, Nat.zero_mul, Nat.zero_mul]; simp
        simp only [Option.map_some, Option.getD_some, if_pos hn0, Sem.run_pure, Result.andThen_ok, newRow, Sem.run_bind, run_newObj, hrow]
        rfl
      · simp only [Option.map_some, Option.getD_some, hn0, if_false, hzr, Result.andThen_ok, newRow, Sem.run_bind, run_newObj, Sem.run_pure, hzl]
        rfl
    · cases h
  · cases h

end
end Go.Ax
