/-
  Ax, part 9: what makes or writes memory: boxes, structs and slices written out, stores, append, copy, make, string(b).
-/
import Derived.Test.YtoflegfbpjbedaaGreatAx8
namespace Go.Ax

section
variable {P : Program} {m : Map} {Z : Nat → Prop} {H : Heap} {w : World} {A : Fr} {a : Act}

theorem cells_rep {v : V} {X : Value} (h : Rep m Z w v X) (ho : v.okc = true) : Reps m Z w v.cells X.cells.toList ∧ ∀ c ∈ v.cells, c.one = true := by
  have one : ∀ (v : V) (X : Value), Rep m Z w v X → X.cells = #[X] → v.cells = [v] → v.one = true → Reps m Z w v.cells X.cells.toList ∧ ∀ c ∈ v.cells, c.one = true := by
    intro v X h hX hv h1
    rw [hX, hv]
    refine ⟨⟨rfl, fun j u x hj hx => ?_⟩, fun c hc => ?_⟩
    · cases j with
      | zero => simp at hj hx; subst hj; subst hx; exact h
      | succ j => simp at hj
    · simp at hc; subst hc; exact h1
  cases v with
  | agg cs =>
    cases h with
    | agg hl h1 hr => exact ⟨⟨by simpa [Value.cells, V.cells] using hl, fun j u x hj hx => hr j u x hj (by simpa [Value.cells] using hx)⟩, h1⟩
  | tup vs => simp [V.okc] at ho
  | lit x =>
    have hX : X = x := by cases h; rfl
    subst hX
    refine one _ _ h ?_ rfl ho
    cases X <;> first | rfl | (simp [V.okc, Value.oneCell'] at ho)
  | any =>
    have hX : X.oneCell' = true := by cases h; assumption
    refine one _ _ h ?_ rfl rfl
    cases X <;> first | rfl | (simp [Value.oneCell'] at hX)
  | _ => cases h <;> exact one _ _ (by constructor <;> assumption) rfl rfl rfl

theorem box_run {t : TypeId} {x v : V} {X : Value} {H' : Heap} (h : mbox t x H = some (v, H')) (hx : Rep m Z w x X) (r : RelH m Z H w) (hfr : Free m H H') :
    ∃ m' y w', (Instr.box t X).run P w = .ok y w' ∧ Rep m' Z w' v y ∧ RelH m' Z H' w' ∧ Ext m Z H w m' Z H' w' := by
  unfold mbox at h
  split at h
  · rename_i ho
    simp only [Option.some.injEq, Prod.mk.injEq] at h
    obtain ⟨rfl, rfl⟩ := h
    obtain ⟨hr, h1⟩ := cells_rep hx ho
    have hn := relH_new (b := ⟨t, x.cells, none⟩) (cur := X.cells) (fz := (0, 0)) (l := ⟨w.heap.size, 0, 0⟩) r (hfr _ (Nat.le_refl _) (Nat.lt_succ_self _)) rfl (fun j _ => by simp) (by have := hr.1; simp at this; simp [this]) (fun e he => by cases he) h1
      (fun j v y hv hy => hr.2 j v y hv (by simpa using hy))
    refine ⟨_, _, _, rfl, ?_, hn.1, hn.2⟩
    exact .ptr (l := ⟨w.heap.size, 0, 0⟩) (if_pos rfl)
  · cases h

/-! ### parts laid over cells -/

/-- The model's parts are what ours say. -/
def PartsRep (m : Map) (Z : Nat → Prop) (w : World) (place : Nat → Option (Nat × Nat)) : List (Nat × Nat × V) → List (Nat × Value) → Prop
  | [], [] => True
  | (off, size, v) :: ps, (i, x) :: qs => place i = some (off, size) ∧ Rep m Z w v x ∧ PartsRep m Z w place ps qs
  | _, _ => False

theorem foldl_set (off : Nat) : ∀ (l : List Value) (k : Nat) (cs : Array Value), off + k + l.length ≤ cs.size →
    ((l.zipIdx k).foldl (fun cs (c, j) => cs.setIfInBounds (off + j) c) cs).size = cs.size ∧
    ∀ j, ((l.zipIdx k).foldl (fun cs (c, j) => cs.setIfInBounds (off + j) c) cs)[j]? = if off + k ≤ j ∧ j < off + k + l.length then l[j - (off + k)]? else cs[j]? := by
  intro l
  induction l with
  | nil => intro k cs _; simp; intro j h1 h2; omega
  | cons x l ih =>
    intro k cs h
    simp only [List.length_cons] at h
    obtain ⟨h1, h2⟩ := ih (k + 1) (cs.setIfInBounds (off + k) x) (by simp; omega)
    simp only [List.zipIdx_cons, List.foldl_cons]
    refine ⟨by rw [h1]; simp, fun j => ?_⟩
    rw [h2, List.length_cons]
    by_cases e : j = off + k
    · subst e
      rw [if_neg (by omega), if_pos (by omega)]
      simp [show off + k < cs.size by omega]
    · rw [Array.getElem?_setIfInBounds_ne (Ne.symm e)]
      by_cases hc : off + k ≤ j ∧ j < off + k + (l.length + 1)
      · rw [if_pos (by omega), if_pos hc, show j - (off + k) = (j - (off + (k + 1))) + 1 from by omega, List.getElem?_cons_succ]
      · rw [if_neg (by omega), if_neg hc]

theorem fill_rep {place : Nat → Option (Nat × Nat)} : ∀ (ps : List (Nat × Nat × V)) (qs : List (Nat × Value)) (cells : List V) (cs : Array Value) (vs : List V), fill cells ps = some vs → PartsRep m Z w place ps qs →
    cs.size = cells.length → (∀ v ∈ cells, v.one = true) → (∀ (j : Nat) (v : V) (x : Value), cells[j]? = some v → cs[j]? = some x → Rep m Z w v x) →
    ∃ ds, Instr.fill place cs qs = some ds ∧ ds.size = vs.length ∧ (∀ v ∈ vs, v.one = true) ∧ (∀ (j : Nat) (v : V) (x : Value), vs[j]? = some v → ds[j]? = some x → Rep m Z w v x) := by
  intro ps
  induction ps with
  | nil =>
    intro qs cells cs vs h hp hs h1 hr
    cases qs with
    | nil =>
      simp only [fill, Option.some.injEq] at h
      subst h
      exact ⟨cs, rfl, hs, h1, hr⟩
    | cons q qs => exact hp.elim
  | cons p ps ih =>
    intro qs cells cs vs h hp hs h1 hr
    obtain ⟨off, size, v⟩ := p
    cases qs with
    | nil => exact hp.elim
    | cons q qs =>
      obtain ⟨i, x⟩ := q
      obtain ⟨hpl, hx, hrest⟩ := hp
      simp only [fill] at h
      split at h
      · rename_i hc
        obtain ⟨hl, hle, ho⟩ := hc
        obtain ⟨hcr, hc1⟩ := cells_rep hx ho
        have hxs : x.cells.size = size := by have := hcr.1; simp at this; omega
        have hset := foldl_set off x.cells.toList 0 cs (by simp; omega)
        have hz : x.cells.zipIdx.foldl (fun cs (c, j) => cs.setIfInBounds (off + j) c) cs = ((x.cells.toList.zipIdx 0).foldl (fun cs (c, j) => cs.setIfInBounds (off + j) c) cs) := by
          rw [← Array.foldl_toList, Array.toList_zipIdx]
        obtain ⟨ds, hd, h2, h3, h4⟩ := ih qs (splice cells off v.cells) _ vs h hrest (by rw [hset.1, splice_length _ _ _ (by omega), hs]) (fun u hu => by
          rcases splice_mem hu with hu | hu
          · exact h1 u hu
          · exact hc1 u hu) (fun j u y hu hy => by
          rw [hset.2] at hy
          rw [splice_get _ _ _ (by omega)] at hu
          simp only [Nat.add_zero, Array.length_toList] at hy
          by_cases hin : off ≤ j ∧ j < off + size
          · rw [if_pos (by omega)] at hu hy
            exact hcr.2 (j - off) u y hu hy
          · rw [if_neg (by omega)] at hu hy
            exact hr j u y hu hy)
        refine ⟨ds, ?_, h2, h3, h4⟩
        simp only [Instr.fill, hpl]
        rw [if_neg (by simp; omega), hz]
        exact hd
      · cases h

theorem zeroOf_some {t : TypeId} {z : List V} (h : zeroOf P t = some z) : ∃ zv : Value, (∀ w, (zeroValue t).run P w = .ok zv w) ∧ V.ofCells zv.cells.toList = some z ∧ zv.cells.size = z.length := by
  simp only [zeroOf, Option.bind_eq_some_iff] at h
  obtain ⟨zv, ⟨i, hi, hz⟩, hc⟩ := h
  refine ⟨zv, fun w => by simp [zeroValue, typeInfo, hi, hz], hc, ?_⟩
  have := (ofCells_get hc).1
  simpa using this

theorem places_run (w : World) : ∀ (fs : List Field), (fs.all fun f => (szOf P f.type).isSome) = true →
    (fs.mapM fun f => do pure (f.offset, ← sizeOf f.type) : Sem (List (Nat × Nat))).run P w = .ok (fs.map fun f => (f.offset, P.cellsOf f.type)) w := by
  intro fs
  induction fs with
  | nil => intro _; rfl
  | cons f fs ih =>
    intro h
    simp only [List.all_cons, Bool.and_eq_true] at h
    obtain ⟨n, hn⟩ := Option.isSome_iff_exists.1 h.1
    obtain ⟨hs, hc, _⟩ := szOf_some (w := w) hn
    simp only [List.mapM_cons, Sem.run_bind, hs, Result.andThen_ok, Sem.run_pure, ih h.2, List.map_cons, hc]

theorem build_struct_run {t : TypeId} {fs : Array Field} {z : List V} {ps : List (Nat × Nat × V)} {qs : Array (Nat × Value)} {v : V} (ht : P.underlying t = some (.struct fs)) (hk : sizesKnown P fs = true) (hz : zeroOf P t = some z)
    (h : build z ps = some v) (hp : PartsRep m Z w ((fs.map fun f => (f.offset, P.cellsOf f.type))[·]?) ps qs.toList) : ∃ r, (Instr.build t qs).run P w = .ok r w ∧ Rep m Z w v r := by
  obtain ⟨zv, hzr, hzc, hzs⟩ := zeroOf_some hz
  obtain ⟨_, h1, hr⟩ := ofCells_get hzc
  simp only [build, Option.map_eq_some_iff] at h
  obtain ⟨vs, hf, rfl⟩ := h
  obtain ⟨ds, hd, h2, h3, h4⟩ := fill_rep (m := m) (Z := Z) (w := w) ps qs.toList z zv.cells vs hf hp hzs h1 (fun j v x hv hx => hr j v x hv (by simpa using hx))
  refine ⟨.agg ds, ?_, .agg h2 h3 h4⟩
  unfold Instr.build
  have hpl : (fs.mapM fun f => do pure (f.offset, ← sizeOf f.type) : Sem (Array (Nat × Nat))).run P w = .ok (fs.map fun f => (f.offset, P.cellsOf f.type)) w := by
    rw [Array.mapM_eq_mapM_toList, Sem.run_map, places_run w fs.toList hk]
    simp only [Result.andThen_ok]
    congr 1
    apply Array.ext'
    simp
  simp only [Sem.run_bind, hzr, Result.andThen_ok, run_underlying ht, hpl, hd, Sem.run_pure]

theorem build_array_run {t e : TypeId} {n s : Nat} {z : List V} {ps : List (Nat × Nat × V)} {qs : Array (Nat × Value)} {v : V} (ht : P.underlying t = some (.array n e)) (hs : szOf P e = some s) (hz : zeroOf P t = some z)
    (h : build z ps = some v) (hp : PartsRep m Z w (fun i => some (i * s, s)) ps qs.toList) : ∃ r, (Instr.build t qs).run P w = .ok r w ∧ Rep m Z w v r := by
  obtain ⟨zv, hzr, hzc, hzs⟩ := zeroOf_some hz
  obtain ⟨_, h1, hr⟩ := ofCells_get hzc
  simp only [build, Option.map_eq_some_iff] at h
  obtain ⟨vs, hf, rfl⟩ := h
  obtain ⟨ds, hd, h2, h3, h4⟩ := fill_rep (m := m) (Z := Z) (w := w) ps qs.toList z zv.cells vs hf hp hzs h1 (fun j v x hv hx => hr j v x hv (by simpa using hx))
  refine ⟨.agg ds, ?_, .agg h2 h3 h4⟩
  unfold Instr.build
  simp only [Sem.run_bind, hzr, Result.andThen_ok, run_underlying ht, (szOf_some (w := w) hs).1, hd, Sem.run_pure]

theorem zeros_length (z : List V) (n : Nat) : (zeros z n).length = n * z.length := by
  induction n with
  | zero => simp [zeros]
  | succ n ih => simp [zeros, ih, Nat.succ_mul]; omega

theorem zeros_mem {z : List V} {n : Nat} {v : V} (h : v ∈ zeros z n) : v ∈ z := by
  induction n with
  | zero => simp [zeros] at h
  | succ n ih =>
    simp only [zeros, List.mem_append] at h
    rcases h with h | h
    · exact h
    · exact ih h

theorem zeros_get (z : List V) (n j : Nat) (h : j < n * z.length) : (zeros z n)[j]? = z[j % z.length]? := by
  induction n generalizing j with
  | zero => simp at h
  | succ n ih =>
    simp only [zeros, List.getElem?_append]
    split
    · rename_i hj; rw [Nat.mod_eq_of_lt hj]
    · rename_i hj
      rw [ih _ (by rw [Nat.succ_mul] at h; omega)]
      congr 1
      rw [Nat.mod_eq_sub_mod (a := j) (by omega)]

/-- The model's row of zeros is ours. -/
theorem zeroRow_rep {zv : Value} {z : List V} (hc : V.ofCells zv.cells.toList = some z) (n : Nat) :
    ((Array.range (n * z.length)).map (zv.cells[· % zv.cells.size]!)).size = (zeros z n).length ∧ (∀ v ∈ zeros z n, v.one = true) ∧
    (∀ (j : Nat) (v : V) (x : Value), (zeros z n)[j]? = some v → ((Array.range (n * z.length)).map (zv.cells[· % zv.cells.size]!))[j]? = some x → Rep m Z w v x) := by
  obtain ⟨hl, h1, hr⟩ := ofCells_get hc
  simp only [Array.length_toList] at hl
  refine ⟨by simp [zeros_length], fun v hv => h1 v (zeros_mem hv), fun j v x hv hx => ?_⟩
  have hj : j < n * z.length := by
    have := (List.getElem?_eq_some_iff.1 hv).1
    rwa [zeros_length] at this
  have hz : 0 < z.length := by
    rcases Nat.eq_zero_or_pos z.length with h | h
    · rw [h] at hj; omega
    · exact h
  rw [zeros_get _ _ _ hj] at hv
  have hmod : j % z.length < zv.cells.size := by rw [hl]; exact Nat.mod_lt _ hz
  simp only [Array.getElem?_map, Array.getElem?_range, hj, if_true, Option.map_some, Option.some.injEq] at hx
  rw [hl, getElem!_pos zv.cells _ (by rw [← hl] at hmod; rw [hl] at *; exact hmod)] at hx
  refine hr (j % z.length) v x hv ?_
  rw [← hx]
  simp [hmod]

theorem slit_run {t e : TypeId} {s len : Nat} {z : List V} {ps : List (Nat × Nat × V)} {qs : Array (Nat × Value)} {v : V} {H' : Heap} (ht : P.underlying t = some (.slice e)) (hs : szOf P e = some s) (hz : zeroOf P e = some z)
    (hzl : z.length = s) (hle : len * s ≤ 16777216) (h : mslit e len z ps H = some (v, H')) (hp : PartsRep m Z w (fun i => some (i * s, s)) ps qs.toList) (r : RelH m Z H w) (hfr : Free m H H') :
    ∃ m' y w', (Instr.buildSlice t len qs).run P w = .ok y w' ∧ Rep m' Z w' v y ∧ RelH m' Z H' w' ∧ Ext m Z H w m' Z H' w' := by
  obtain ⟨zv, hzr, hzc, hzs⟩ := zeroOf_some hz
  subst hzl
  simp only [mslit, Option.map_eq_some_iff, Prod.mk.injEq] at h
  obtain ⟨cs, hf, rfl, rfl⟩ := h
  obtain ⟨hr1, hr2, hr3⟩ := zeroRow_rep (m := m) (Z := Z) (w := w) hzc len
  obtain ⟨ds, hd, h2, h3, h4⟩ := fill_rep (m := m) (Z := Z) (w := w) ps qs.toList (zeros z len) _ cs hf hp hr1 hr2 hr3
  have hn := relH_new (b := ⟨e, cs, none⟩) (cur := ds) (fz := (0, 0)) (l := ⟨w.heap.size, 0, 0⟩) r (hfr _ (Nat.le_refl _) (Nat.lt_succ_self _)) rfl (fun j _ => by simp) (by simp [h2]) (fun e he => by cases he) h3 h4
  refine ⟨_, .slice (some ⟨w.heap.size, 0, none⟩) len len, _, ?_, ?_, hn.1, hn.2⟩
  · unfold Instr.buildSlice
    simp only [Sem.run_bind, run_underlying ht, Result.andThen_ok, (szOf_some (w := w) hs).1, Sem.run_ite]
    rw [if_neg (by omega)]
    by_cases h0 : len * z.length = 0
    · simp only [h0, if_true, Sem.run_pure, Result.andThen_ok, Array.range_zero', Array.map_empty] at hd ⊢
      simp only [hd, newRow, Sem.run_bind, run_newObj, Result.andThen_ok, Sem.run_pure]
      rfl
    · simp only [h0, if_false, Sem.run_bind, hzr, Result.andThen_ok, Sem.run_pure, hd, newRow, run_newObj]
      rfl
  · exact .slc (l := ⟨w.heap.size, 0, 0⟩) (if_pos rfl) (Nat.le_refl _) (.inr rfl)

theorem store_run {t : TypeId} {s : Nat} {p x v : V} {Pv X : Value} {H' : Heap} (hs : szOf P t = some s) (h : mstore s p x H = some (v, H')) (hp : Rep m Z w p Pv) (hx : Rep m Z w x X) (r : RelH m Z H w) :
    v = .undef ∧ ∃ w', (Instr.storeAt t Pv X).run P w = .ok () w' ∧ RelH m Z H' w' ∧ Ext m Z H w m Z H' w' := by
  unfold mstore at h
  split at h
  · rename_i id off
    simp only [Option.bind_eq_some_iff] at h
    obtain ⟨b, hb, h⟩ := h
    split at h
    · rename_i hc
      obtain ⟨hl, hle, ho⟩ := hc
      simp only [Option.some.injEq, Prod.mk.injEq] at h
      obtain ⟨rfl, rfl⟩ := h
      obtain ⟨l, hm, rfl⟩ := hp.inv_ptr
      obtain ⟨cur, fz, hL⟩ := r.at_ hb hm
      obtain ⟨hcr, hc1⟩ := cells_rep hx ho
      have hxs : X.cells.toList.length = s := by rw [hcr.1]; exact hl
      obtain ⟨w', cur', hrun, g1, g2, g3, g4, g5, g6, g7, g8⟩ := run_storeCells P l.blk off b.ty fz X.cells.toList 0 cur w hL.heap hL.free (by have := hL.len; omega) (fun y hy => by
        obtain ⟨j, hj, rfl⟩ := List.getElem_of_mem hy
        have hjv : j < x.cells.length := by omega
        exact (hcr.2 j _ _ (List.getElem?_eq_getElem hjv) (List.getElem?_eq_getElem hj)).oneCell (hc1 _ (List.getElem_mem hjv)))
      refine ⟨rfl, w', ?_, ?_, ?_⟩
      · unfold Instr.storeAt storeVar
        simp only [Instr.sureAddr, Sem.run_bind, Sem.run_pure, Result.andThen_ok, (szOf_some (w := w) hs).1, Sem.run_ite]
        rw [if_neg (by simp at hxs; omega)]
        exact hrun
      · have := relH_put (id := id) (l := l) (b := { b with cells := splice b.cells off x.cells }) (cur := cur') (fz := fz) (H' := H.set id (some { b with cells := splice b.cells off x.cells })) (w' := w') r
          (fun i => rfl) (Nat.le_refl _) (by
            rcases Nat.lt_or_ge id H.next with h | h
            · exact h
            · rw [r.dead id h] at hb; cases hb) (.inr hm) g4 (by omega) hL.out (fun i b' l' hb' hm' e => r.inj i id b' b l' l hb' hb hm' hm e) g1 (by rw [g2]; exact hL.free)
          (by show (splice b.cells off x.cells).length ≤ _; rw [splice_length _ _ _ (by omega), g2]; exact hL.len) (fun e he => by rw [g2]; exact hL.opn e he)
          (fun u hu => by
            rcases splice_mem hu with hu | hu
            · exact hL.one u hu
            · exact hc1 u hu)
          (fun j u y hu hy => by
            replace hu : (splice b.cells off x.cells)[j]? = some u := hu
            rw [splice_get _ _ _ (by omega)] at hu
            rw [g3] at hy
            by_cases hin : off ≤ j ∧ j < off + x.cells.length
            · rw [if_pos hin] at hu
              rw [if_pos (by omega)] at hy
              exact hcr.2 (j - off) u y hu hy
            · rw [if_neg hin] at hu
              rw [if_neg (by omega)] at hy
              exact hL.reps j u y hu hy)
        rwa [map_self hm] at this
      · have := ext_put (m := m) (Z := Z) (H := H) (w := w) (id := id) (l := l) (H' := H.set id (some { b with cells := splice b.cells off x.cells })) (w' := w') (.inr hm) (Nat.le_refl _) (.inr hm) (fun i b' h => by
          simp only [Heap.set] at h
          split at h
          · rename_i e; exact .inl e
          · exact .inr ⟨b', h⟩) g4 (by omega) g6 g7 g8 (.inr ⟨id, b, l, hb, hm, rfl⟩)
        rwa [map_self hm] at this
    · cases h
  · cases h

end
end Go.Ax
