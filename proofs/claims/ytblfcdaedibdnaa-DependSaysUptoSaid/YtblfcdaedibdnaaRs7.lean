/-
  Texts of mine, put together by program (wip/slim.py), for law_dependSays: part 7.
-/
import Derived.Test.YtblfcdaedibdnaaRs6
/- DepW3 -/
set_option maxRecDepth 100000
set_option linter.unusedVariables false
set_option linter.unusedSimpArgs false
namespace Go.Ax.D9
open Go.Ax B6
theorem Wk.mono {R : Heap → List Bool → List Nat → Prop} {B H : Heap} {ks ks' : List (Nat × Blk)} {bits : List Bool} (h : Wk R B ks H bits) (hk : ∀ k ∈ ks', k ∈ ks) : Wk R B ks' H bits := by
  obtain ⟨hR, ⟨F, hF, hlo, hks⟩, gr, kk⟩ := h
  exact ⟨hR, ⟨F, hF, hlo, fun k hk' => hks k (hk k hk')⟩, gr, fun k hk' => kk k (hk k hk')⟩
theorem Wk.get2 {R : Heap → List Bool → List Nat → Prop} {B H : Heap} {ks : List (Nat × Blk)} {bits : List Bool} {x : Nat × Blk} (h : Wk R B ks H bits) (hx : x ∈ ks) : H.get x.1 = some x.2 ∧ x.1 < H.next := ⟨(h.kk x hx).2, (h.kk x hx).1⟩

theorem lys_le (ts : List Tm) (k : Nat) : (lysB ts k).length ≤ 2 * k := by
  unfold lysB
  have := flat_le (fun i => nb (lyI ts i).toNat 2) (c := 2) (List.range k) fun x _ => by rw [nb_length]; omega
  rw [List.length_range] at this
  exact this
theorem lys_succ (ts : List Tm) (k : Nat) : lysB ts (k + 1) = lysB ts k ++ nb (lyI ts k).toNat 2 := by
  unfold lysB; rw [List.range_succ, List.flatMap_append]; simp

/-- What stands between two templates. -/
theorem Fine.nx {s : Sr} (h : Fine s) {k : Nat} (hk : k + 1 < s.ts.length) : ∃ m : Nat, nx (s.ts[k]'(by omega)) s.ts[k + 1] = some m ∧ m < 3 := by
  have := h.lay (k + 1) hk
  unfold LayAt at this
  dsimp only at this
  rw [if_neg (by omega)] at this
  obtain ⟨h1, -⟩ := this
  rw [Nat.add_sub_cancel, getD_get (by omega : k < s.ts.length), getD_get hk] at h1
  obtain ⟨m, hm⟩ := Option.isSome_iff_exists.1 h1
  exact ⟨m, hm, nx_lt hm⟩
theorem fine_tms {s : Sr} (h : Fine s) {t : Tm} (ht : t ∈ s.ts) : (t.dti.length : Int) = s.tar ∧ (∀ x ∈ t.dti, 0 ≤ x ∧ x ≤ 3) ∧ t.dif.length ≤ 8 ∧ (∀ x ∈ t.dif, 1 ≤ x ∧ x ≤ 16) ∧ (t.cha.length : Int) = s.cha ∧ ∀ x ∈ t.cha, 0 ≤ x ∧ x ≤ 15 := by
  have f := h.tms t ht
  unfold fineT at f
  rw [Bool.and_eq_true, Bool.and_eq_true] at f
  have d1 := wi_iff.1 f.1
  have d2 := di_iff.1 f.2.1
  have d3 := wi_iff.1 f.2.2
  exact ⟨d1.1, d1.2, d2.1, d2.2, d3.1, d3.2⟩

section
variable {B H : Heap} {ks : List (Nat × Blk)} {w b2 b3 : Nat} {bits : List Bool} {s : Sr} {a b c : V}
/-- The writer's box, the structure's box. -/
abbrev wb (w b2 : Nat) : Nat × Blk := (b2, ⟨ty_depend_writer, [.ptr w 0], none⟩)
abbrev sbx (b3 : Nat) (s : Sr) (a b c : V) : Nat × Blk := (b3, ⟨ty_depend_Structure, [.int .i64 s.off, .int .i64 s.tar, a, .int .i64 s.cha, b, c], none⟩)

theorem wloop0_ok (h : Wk (WR w) B (wb w b2 :: sbx b3 s a b c :: ks) H bits) (hs : SrC 0 B s a b c) (hF : Fine s) (hl : bits.length < 500000000000)
    {Q : Res → Heap → Prop} (k : ∀ H', Wk (WR w) B (wb w b2 :: sbx b3 s a b c :: ks) H' (bits ++ lysB s.ts s.ts.length) → Q (.ex 0 []) H') :
    Ok (M.iter (f_depend_writer_structure_0 (sem T) (.int .i64 (s.ts.length : Nat)) (.ptr b3 0) (.ptr b2 0)) [.int .i64 0]) H Q := by
  have hlen := hF.len
  refine ok_loop (fun j L H' => L = [.int .i64 (j : Nat)] ∧ Wk (WR w) B (wb w b2 :: sbx b3 s a b c :: ks) H' (bits ++ lysB s.ts j)) s.ts.length ?_ ?_ ?_
  · exact ⟨rfl, by simpa [lysB] using h⟩
  · rintro j L H1 hj ⟨rfl, h1⟩
    obtain ⟨g3, -⟩ := h1.get2 (x := sbx b3 s a b c) (by simp)
    have hvl := hs.ts.vlen
    have hb := lys_le s.ts j
    unfold f_depend_writer_structure_0
    rw [lys_succ, ← List.append_assoc]
    by_cases hj1 : j + 1 < s.ts.length
    · obtain ⟨m, hm, hm3⟩ := hF.nx hj1
      have eL : lyI s.ts j = (m : Nat) := by
        unfold lyI
        rw [if_pos hj1, getD_get (by omega : j < s.ts.length), getD_get hj1, hm]; rfl
      have hs1 := hs.ts.ext h1.gr
      obtain ⟨q, d, e, f, i1, l1, w1⟩ := hs1.at (i := j) (by omega)
      obtain ⟨q', d', e', f', i2, l2, w2⟩ := hs1.at (i := j + 1) hj1
      have l1a := (pl5 l1).2.2.2.2.2
      have l2a := (pl5 l2).2.2.2.2.2
      have r1 := hF.rng (List.getElem_mem (show j < s.ts.length by omega))
      have ej : ((j : Nat) : Int) + 1 = ((j + 1 : Nat) : Int) := rfl
      simp (maxSteps := 1000000) (disch := first | omega | (simp only [RY] <;> omega) | decide) only [↓RD, RZ, eq_self, Int.reduceToNat, Int.reduceAdd, Int.reduceSub, Int.reduceMul, Nat.reduceAdd, Nat.reduceSub, Nat.reduceMul, Nat.reduceDiv, Nat.reduceMod, Nat.reduceBEq, Nat.reduceLeDiff, g3, hvl, ej, i1, i2, l1a, l2a]
      refine ok_bind' (next_ok s.ts[j] s.ts[j + 1] d e f d' e' f' (by omega) (by omega) w1.dti.cel w1.dif.cel w1.cha.cel w2.dti.cel w2.dif.cel w2.cha.cel) ?_
      rintro _ H2 ⟨rfl, s2⟩
      have h2 := h1.grow s2
      rw [hm, eL, Int.toNat_natCast]
      unfold nxV
      simp (maxSteps := 1000000) (disch := first | omega | (simp only [RY] <;> omega) | decide) only [↓RD, RZ, eq_self, Int.reduceToNat, Int.reduceAdd, Int.reduceSub, Int.reduceMul, Nat.reduceAdd, Nat.reduceSub, Nat.reduceMul, Nat.reduceDiv, Nat.reduceMod, Nat.reduceBEq, Nat.reduceLeDiff, h2.get]
      refine ok_bind' (num_ok h2 (m : Nat) 2 (by omega) (by omega) (by omega) (by rw [List.length_append]; omega)) ?_
      rintro _ H3 h3
      simp (maxSteps := 1000000) (disch := first | omega | (simp only [RY] <;> omega) | decide) only [↓RD, RZ, eq_self, Int.reduceToNat, Int.reduceAdd, Int.reduceSub, Int.reduceMul, Nat.reduceAdd, Nat.reduceSub, Nat.reduceMul, Nat.reduceDiv, Nat.reduceMod, Nat.reduceBEq, Nat.reduceLeDiff]
      refine ⟨by rfl, ?_⟩
      rw [Int.toNat_natCast] at h3
      exact h3
    · have eL : lyI s.ts j = 3 := by unfold lyI; rw [if_neg hj1]
      simp (maxSteps := 1000000) (disch := first | omega | (simp only [RY] <;> omega) | decide) only [↓RD, RZ, eq_self, Int.reduceToNat, Int.reduceAdd, Int.reduceSub, Int.reduceMul, Nat.reduceAdd, Nat.reduceSub, Nat.reduceMul, Nat.reduceDiv, Nat.reduceMod, Nat.reduceBEq, Nat.reduceLeDiff, g3, hvl, h1.get]
      rw [eL]
      refine ok_bind' (num_ok h1 3 2 (by omega) (by decide) (by omega) (by rw [List.length_append]; omega)) ?_
      rintro _ H3 h3
      simp (maxSteps := 1000000) (disch := first | omega | (simp only [RY] <;> omega) | decide) only [↓RD, RZ, eq_self, Int.reduceToNat, Int.reduceAdd, Int.reduceSub, Int.reduceMul, Nat.reduceAdd, Nat.reduceSub, Nat.reduceMul, Nat.reduceDiv, Nat.reduceMod, Nat.reduceBEq, Nat.reduceLeDiff]
      exact ⟨by rfl, h3⟩
  · rintro L H1 ⟨rfl, h1⟩
    unfold f_depend_writer_structure_0
    simp (maxSteps := 1000000) (disch := first | omega | (simp only [RY] <;> omega) | decide) only [↓RD, RZ, eq_self, Int.reduceToNat, Int.reduceAdd, Int.reduceSub, Int.reduceMul, Nat.reduceAdd, Nat.reduceSub, Nat.reduceMul, Nat.reduceDiv, Nat.reduceMod, Nat.reduceBEq, Nat.reduceLeDiff]
    exact k H1 h1

theorem wloop1_ok (h : Wk (WR w) B (wb w b2 :: sbx b3 s a b c :: ks) H bits) (hs : SrC 0 B s a b c) (hF : Fine s) (hl : bits.length < 500000000000)
    {Q : Res → Heap → Prop} (k : ∀ H', Wk (WR w) B (wb w b2 :: sbx b3 s a b c :: ks) H' (bits ++ s.ts.flatMap (fun t => numsB 2 t.dti)) → Q (.ex 2 []) H') :
    Ok (M.iter (f_depend_writer_structure_1 (sem T) (.int .i64 (s.ts.length : Nat)) a (.ptr b2 0)) [.int .i64 0]) H Q := by
  have hlen := hF.len
  have htar := hF.tar
  have hcha := hF.cha
  have hb : ∀ t ∈ s.ts, (numsB 2 t.dti).length ≤ 200 := fun t ht => by
    have f := fine_tms hF ht
    have := flat_le (fun x : Int => nb x.toNat 2) (c := 2) t.dti fun x _ => by rw [nb_length]; omega
    unfold numsB; omega
  refine ok_loop (fun j L H' => L = [.int .i64 (j : Nat)] ∧ Wk (WR w) B (wb w b2 :: sbx b3 s a b c :: ks) H' (bits ++ (s.ts.take j).flatMap (fun t => numsB 2 t.dti))) s.ts.length ?_ ?_ ?_
  · exact ⟨rfl, by simpa using h⟩
  · rintro j L H1 hj ⟨rfl, h1⟩
    have f := fine_tms hF (List.getElem_mem hj)
    obtain ⟨q, d, e, g, i1, w1, l1⟩ := hs.ts.at2 hj
    have l1a := (pl5 (l1 _ h1.gr)).2.2.2.2.2
    have c1 := w1.dti.cel
    have c2 := w1.dif.cel
    have c3 := w1.cha.cel
    have hbj := flat_take_k (fun t : Tm => numsB 2 t.dti) hb j
    have g2 := h1.get
    have hb2 := h1.lt
    unfold f_depend_writer_structure_1
    simp (maxSteps := 1000000) (disch := first | omega | (simp only [RY] <;> omega) | decide) only [↓RD, RZ, eq_self, Int.reduceToNat, Int.reduceAdd, Int.reduceSub, Int.reduceMul, Nat.reduceAdd, Nat.reduceSub, Nat.reduceMul, Nat.reduceDiv, Nat.reduceMod, Nat.reduceBEq, Nat.reduceLeDiff, i1, l1a, c1.1, c1.2, c2.1, c2.2, c3.1, c3.2, g2]
    generalize hH2 : Heap.set (Heap.new H1 _) _ _ = H2
    have s2 : Grow H1 H2 := by rw [← hH2]; exact (Grow.new _ _).set (Nat.le_refl _) _
    clear hH2
    have h2 := h1.grow s2
    refine ok_bind' (wnums_ok (n := 2) h2 w1.dti (fun x hx => by have := f.2.1 x hx; omega) (by decide) (by rw [List.length_append]; omega) (by omega)) ?_
    rintro _ H3 h3
    simp (maxSteps := 1000000) (disch := first | omega | (simp only [RY] <;> omega) | decide) only [↓RD, RZ, eq_self, Int.reduceToNat, Int.reduceAdd, Int.reduceSub, Int.reduceMul, Nat.reduceAdd, Nat.reduceSub, Nat.reduceMul, Nat.reduceDiv, Nat.reduceMod, Nat.reduceBEq, Nat.reduceLeDiff]
    refine ⟨by rfl, ?_⟩
    rw [flat_snoc _ hj, ← List.append_assoc]
    exact h3
  · rintro L H1 ⟨rfl, h1⟩
    rw [List.take_length] at h1
    unfold f_depend_writer_structure_1
    simp (maxSteps := 1000000) (disch := first | omega | (simp only [RY] <;> omega) | decide) only [↓RD, RZ, eq_self, Int.reduceToNat, Int.reduceAdd, Int.reduceSub, Int.reduceMul, Nat.reduceAdd, Nat.reduceSub, Nat.reduceMul, Nat.reduceDiv, Nat.reduceMod, Nat.reduceBEq, Nat.reduceLeDiff]
    exact k H1 h1

theorem wloop5_ok (h : Wk (WR w) B (wb w b2 :: sbx b3 s a b c :: ks) H bits) (hs : SrC 0 B s a b c) (hF : Fine s) (hl : bits.length < 500000000000)
    {Q : Res → Heap → Prop} (k : ∀ H', Wk (WR w) B (wb w b2 :: sbx b3 s a b c :: ks) H' (bits ++ s.ts.flatMap (fun t => numsB 4 t.cha)) → Q (.ex 10 []) H') :
    Ok (M.iter (f_depend_writer_structure_5 (sem T) (.int .i64 (s.ts.length : Nat)) a (.ptr b2 0)) [.int .i64 0]) H Q := by
  have hlen := hF.len
  have htar := hF.tar
  have hcha := hF.cha
  have hb : ∀ t ∈ s.ts, (numsB 4 t.cha).length ≤ 200 := fun t ht => by
    have f := fine_tms hF ht
    have := flat_le (fun x : Int => nb x.toNat 4) (c := 4) t.cha fun x _ => by rw [nb_length]; omega
    unfold numsB; omega
  refine ok_loop (fun j L H' => L = [.int .i64 (j : Nat)] ∧ Wk (WR w) B (wb w b2 :: sbx b3 s a b c :: ks) H' (bits ++ (s.ts.take j).flatMap (fun t => numsB 4 t.cha))) s.ts.length ?_ ?_ ?_
  · exact ⟨rfl, by simpa using h⟩
  · rintro j L H1 hj ⟨rfl, h1⟩
    have f := fine_tms hF (List.getElem_mem hj)
    obtain ⟨q, d, e, g, i1, w1, l1⟩ := hs.ts.at2 hj
    have l1a := (pl5 (l1 _ h1.gr)).2.2.2.2.2
    have c1 := w1.dti.cel
    have c2 := w1.dif.cel
    have c3 := w1.cha.cel
    have hbj := flat_take_k (fun t : Tm => numsB 4 t.cha) hb j
    have g2 := h1.get
    have hb2 := h1.lt
    unfold f_depend_writer_structure_5
    simp (maxSteps := 1000000) (disch := first | omega | (simp only [RY] <;> omega) | decide) only [↓RD, RZ, eq_self, Int.reduceToNat, Int.reduceAdd, Int.reduceSub, Int.reduceMul, Nat.reduceAdd, Nat.reduceSub, Nat.reduceMul, Nat.reduceDiv, Nat.reduceMod, Nat.reduceBEq, Nat.reduceLeDiff, i1, l1a, c1.1, c1.2, c2.1, c2.2, c3.1, c3.2, g2]
    generalize hH2 : Heap.set (Heap.new H1 _) _ _ = H2
    have s2 : Grow H1 H2 := by rw [← hH2]; exact (Grow.new _ _).set (Nat.le_refl _) _
    clear hH2
    have h2 := h1.grow s2
    refine ok_bind' (wnums_ok (n := 4) h2 w1.cha (fun x hx => by have := f.2.2.2.2.2 x hx; omega) (by decide) (by rw [List.length_append]; omega) (by omega)) ?_
    rintro _ H3 h3
    simp (maxSteps := 1000000) (disch := first | omega | (simp only [RY] <;> omega) | decide) only [↓RD, RZ, eq_self, Int.reduceToNat, Int.reduceAdd, Int.reduceSub, Int.reduceMul, Nat.reduceAdd, Nat.reduceSub, Nat.reduceMul, Nat.reduceDiv, Nat.reduceMod, Nat.reduceBEq, Nat.reduceLeDiff]
    refine ⟨by rfl, ?_⟩
    rw [flat_snoc _ hj, ← List.append_assoc]
    exact h3
  · rintro L H1 ⟨rfl, h1⟩
    rw [List.take_length] at h1
    unfold f_depend_writer_structure_5
    simp (maxSteps := 1000000) (disch := first | omega | (simp only [RY] <;> omega) | decide) only [↓RD, RZ, eq_self, Int.reduceToNat, Int.reduceAdd, Int.reduceSub, Int.reduceMul, Nat.reduceAdd, Nat.reduceSub, Nat.reduceMul, Nat.reduceDiv, Nat.reduceMod, Nat.reduceBEq, Nat.reduceLeDiff]
    exact k H1 h1

theorem dfB_le {l : List Int} (k : Nat) : (dfB (l.take k)).length ≤ 5 * k := flat_take_k _ (fun x _ => by rw [List.length_cons, nb_length]; omega) k

theorem wloop3_ok (h : Wk (WR w) B (wb w b2 :: sbx b3 s a b c :: ks) H bits) (hs : SrC 0 B s a b c) (hF : Fine s) (hl : bits.length < 500000000000)
    {Q : Res → Heap → Prop} (k : ∀ H', Wk (WR w) B (wb w b2 :: sbx b3 s a b c :: ks) H' (bits ++ s.ts.flatMap (fun t => dfB t.dif ++ [false])) → Q (.ex 4 []) H') :
    Ok (M.iter (f_depend_writer_structure_3 (sem T) (.int .i64 (s.ts.length : Nat)) a (.ptr b2 0)) [.int .i64 0]) H Q := by
  have hlen := hF.len
  have hb : ∀ t ∈ s.ts, (dfB t.dif ++ [false]).length ≤ 41 := fun t ht => by
    have f := fine_tms hF ht
    have := dfB_le (l := t.dif) t.dif.length
    rw [List.take_length] at this
    rw [List.length_append, List.length_singleton]; omega
  refine ok_loop (fun j L H' => L = [.int .i64 (j : Nat)] ∧ Wk (WR w) B (wb w b2 :: sbx b3 s a b c :: ks) H' (bits ++ (s.ts.take j).flatMap (fun t => dfB t.dif ++ [false]))) s.ts.length ?_ ?_ ?_
  · exact ⟨rfl, by simpa using h⟩
  · rintro j L H1 hj ⟨rfl, h1⟩
    have f := fine_tms hF (List.getElem_mem hj)
    obtain ⟨q, d, e, g, i1, w1, l1⟩ := hs.ts.at2 hj
    have l1a := (pl5 (l1 _ h1.gr)).2.2.2.2.2
    have c1 := w1.dti.cel
    have c2 := w1.dif.cel
    have c3 := w1.cha.cel
    have hbj := flat_take_k (fun t : Tm => dfB t.dif ++ [false]) hb j
    unfold f_depend_writer_structure_3
    simp (maxSteps := 1000000) (disch := first | omega | (simp only [RY] <;> omega) | decide) only [↓RD, RZ, eq_self, Int.reduceToNat, Int.reduceAdd, Int.reduceSub, Int.reduceMul, Nat.reduceAdd, Nat.reduceSub, Nat.reduceMul, Nat.reduceDiv, Nat.reduceMod, Nat.reduceBEq, Nat.reduceLeDiff, i1, l1a, c1.1, c1.2, c2.1, c2.2, c3.1, c3.2, w1.dif.vlen]
    generalize hH2 : Heap.set (Heap.new H1 _) _ _ = H2
    have s2 : Grow H1 H2 := by rw [← hH2]; exact (Grow.new _ _).set (Nat.le_refl _) _
    clear hH2
    have h2 := h1.grow s2
    refine ok_loop (fun i L H' => L = [.int .i64 (i : Nat)] ∧ Wk (WR w) B (wb w b2 :: sbx b3 s a b c :: ks) H' (bits ++ (s.ts.take j).flatMap (fun t => dfB t.dif ++ [false]) ++ dfB (s.ts[j].dif.take i))) s.ts[j].dif.length ?_ ?_ ?_
    · exact ⟨rfl, by simpa [dfB] using h2⟩
    · rintro i L H3 hi ⟨rfl, h3⟩
      obtain ⟨p, i2, l2, -⟩ := il_at (w1.dif.ext h3.gr) (i := (i : Nat)) (by omega) (by omega)
      rw [Int.toNat_natCast, getD_get hi] at l2
      have r := f.2.2.2.1 _ (List.getElem_mem hi)
      have hbi := dfB_le (l := s.ts[j].dif) i
      unfold f_depend_writer_structure_2
      simp (maxSteps := 1000000) (disch := first | omega | (simp only [RY] <;> omega) | decide) only [↓RD, RZ, eq_self, Int.reduceToNat, Int.reduceAdd, Int.reduceSub, Int.reduceMul, Nat.reduceAdd, Nat.reduceSub, Nat.reduceMul, Nat.reduceDiv, Nat.reduceMod, Nat.reduceBEq, Nat.reduceLeDiff, i2, l2, h3.get]
      refine ok_bind' (bit_ok h3 true (by rw [List.length_append, List.length_append]; omega)) ?_
      rintro _ H4 h4
      simp (maxSteps := 1000000) (disch := first | omega | (simp only [RY] <;> omega) | decide) only [↓RD, RZ, eq_self, Int.reduceToNat, Int.reduceAdd, Int.reduceSub, Int.reduceMul, Nat.reduceAdd, Nat.reduceSub, Nat.reduceMul, Nat.reduceDiv, Nat.reduceMod, Nat.reduceBEq, Nat.reduceLeDiff, h4.get]
      refine ok_bind' (num_ok h4 (s.ts[j].dif[i] - 1) 4 (by omega) (by omega) (by omega) (by rw [List.length_append, List.length_append, List.length_append, List.length_singleton]; omega)) ?_
      rintro _ H5 h5
      simp (maxSteps := 1000000) (disch := first | omega | (simp only [RY] <;> omega) | decide) only [↓RD, RZ, eq_self, Int.reduceToNat, Int.reduceAdd, Int.reduceSub, Int.reduceMul, Nat.reduceAdd, Nat.reduceSub, Nat.reduceMul, Nat.reduceDiv, Nat.reduceMod, Nat.reduceBEq, Nat.reduceLeDiff]
      refine ⟨by rfl, ?_⟩
      have e : dfB (s.ts[j].dif.take (i + 1)) = dfB (s.ts[j].dif.take i) ++ (true :: nb (s.ts[j].dif[i] - 1).toNat 4) := flat_snoc _ hi
      rw [e, ← List.append_assoc]
      have : bits ++ (s.ts.take j).flatMap (fun t => dfB t.dif ++ [false]) ++ dfB (s.ts[j].dif.take i) ++ [true] ++ nb (s.ts[j].dif[i] - 1).toNat 4 = bits ++ (s.ts.take j).flatMap (fun t => dfB t.dif ++ [false]) ++ dfB (s.ts[j].dif.take i) ++ (true :: nb (s.ts[j].dif[i] - 1).toNat 4) := by simp
      rw [← this]
      exact h5
    · rintro L H3 ⟨rfl, h3⟩
      rw [List.take_length] at h3
      have hbi := dfB_le (l := s.ts[j].dif) s.ts[j].dif.length
      rw [List.take_length] at hbi
      unfold f_depend_writer_structure_2
      simp (maxSteps := 1000000) (disch := first | omega | (simp only [RY] <;> omega) | decide) only [↓RD, RZ, eq_self, Int.reduceToNat, Int.reduceAdd, Int.reduceSub, Int.reduceMul, Nat.reduceAdd, Nat.reduceSub, Nat.reduceMul, Nat.reduceDiv, Nat.reduceMod, Nat.reduceBEq, Nat.reduceLeDiff, h3.get]
      refine ok_bind' (bit_ok h3 false (by rw [List.length_append, List.length_append]; omega)) ?_
      rintro _ H4 h4
      simp (maxSteps := 1000000) (disch := first | omega | (simp only [RY] <;> omega) | decide) only [↓RD, RZ, eq_self, Int.reduceToNat, Int.reduceAdd, Int.reduceSub, Int.reduceMul, Nat.reduceAdd, Nat.reduceSub, Nat.reduceMul, Nat.reduceDiv, Nat.reduceMod, Nat.reduceBEq, Nat.reduceLeDiff]
      refine ⟨by rfl, ?_⟩
      rw [flat_snoc (fun t : Tm => dfB t.dif ++ [false]) hj]
      rw [← List.append_assoc, ← List.append_assoc]
      exact h4
  · rintro L H1 ⟨rfl, h1⟩
    rw [List.take_length] at h1
    unfold f_depend_writer_structure_3
    simp (maxSteps := 1000000) (disch := first | omega | (simp only [RY] <;> omega) | decide) only [↓RD, RZ, eq_self, Int.reduceToNat, Int.reduceAdd, Int.reduceSub, Int.reduceMul, Nat.reduceAdd, Nat.reduceSub, Nat.reduceMul, Nat.reduceDiv, Nat.reduceMod, Nat.reduceBEq, Nat.reduceLeDiff]
    exact k H1 h1

theorem wloop4_ok (h : Wk (WR w) B (wb w b2 :: sbx b3 s a b c :: ks) H bits) (hs : SrC 0 B s a b c) (hF : Fine s) (hc : 0 < s.cha) (hl : bits.length < 500000000000)
    {Q : Res → Heap → Prop} (k : ∀ H', Wk (WR w) B (wb w b2 :: sbx b3 s a b c :: ks) H' (bits ++ proB s.cha.toNat s.pro) → Q (.ex 8 []) H') :
    Ok (M.iter (f_depend_writer_structure_4 (sem T) (.int .i64 (s.pro.length : Nat)) b (.ptr b2 0) (.ptr b3 0)) [.int .i64 0]) H Q := by
  have htar := hF.tar
  have hcha := hF.cha
  have hp := wi_iff.1 hF.pro
  rw [if_neg (by omega)] at hp
  obtain ⟨cn, hcn⟩ := Int.eq_ofNat_of_zero_le (show 0 ≤ s.cha by omega)
  have hb : ∀ x ∈ s.pro, (nsB x.toNat s.cha.toNat).length ≤ 33 := fun x hx => by
    have := hp.2 x hx
    exact nsB_le (by omega) (by omega) (by omega)
  refine ok_loop (fun j L H' => L = [.int .i64 (j : Nat)] ∧ Wk (WR w) B (wb w b2 :: sbx b3 s a b c :: ks) H' (bits ++ proB s.cha.toNat (s.pro.take j))) s.pro.length ?_ ?_ ?_
  · exact ⟨rfl, by simpa [proB] using h⟩
  · rintro j L H1 hj ⟨rfl, h1⟩
    obtain ⟨g3, -⟩ := h1.get2 (x := sbx b3 s a b c) (by simp)
    dsimp only at g3
    obtain ⟨p, i1, l1, -⟩ := il_at (hs.pro.ext h1.gr) (i := (j : Nat)) (by omega) (by omega)
    rw [Int.toNat_natCast, getD_get hj] at l1
    have r := hp.2 _ (List.getElem_mem hj)
    have hbj : (proB s.cha.toNat (s.pro.take j)).length ≤ 33 * j := flat_take_k _ hb j
    have e : proB s.cha.toNat (s.pro.take (j + 1)) = proB s.cha.toNat (s.pro.take j) ++ nsB s.pro[j].toNat s.cha.toNat := flat_snoc _ hj
    rw [e, ← List.append_assoc]
    rw [hcn] at g3 r
    rw [hcn, Int.toNat_natCast] at h1 hbj ⊢
    obtain ⟨x, hx⟩ := Int.eq_ofNat_of_zero_le r.1
    have m1 : x % 18446744073709551616 = x := by omega
    have m2 : cn % 18446744073709551616 = cn := by omega
    have g2 := h1.get
    unfold f_depend_writer_structure_4
    simp (maxSteps := 1000000) (disch := first | omega | (simp only [RY] <;> omega) | decide) only [↓RD, RZ, eq_self, Int.reduceToNat, Int.reduceAdd, Int.reduceSub, Int.reduceMul, Nat.reduceAdd, Nat.reduceSub, Nat.reduceMul, Nat.reduceDiv, Nat.reduceMod, Nat.reduceBEq, Nat.reduceLeDiff, i1, l1, hx, g2, g3, m1, m2]
    refine ok_bind' (wns_ok (v := x) (n := cn) h1 (by omega) (by omega) (by omega) (by rw [List.length_append]; omega)) ?_
    rintro _ H2 h2
    simp (maxSteps := 1000000) (disch := first | omega | (simp only [RY] <;> omega) | decide) only [↓RD, RZ, eq_self, Int.reduceToNat, Int.reduceAdd, Int.reduceSub, Int.reduceMul, Nat.reduceAdd, Nat.reduceSub, Nat.reduceMul, Nat.reduceDiv, Nat.reduceMod, Nat.reduceBEq, Nat.reduceLeDiff]
    refine ⟨by rfl, ?_⟩
    rw [hx, Int.toNat_natCast]
    exact h2
  · rintro L H1 ⟨rfl, h1⟩
    rw [List.take_length] at h1
    unfold f_depend_writer_structure_4
    simp (maxSteps := 1000000) (disch := first | omega | (simp only [RY] <;> omega) | decide) only [↓RD, RZ, eq_self, Int.reduceToNat, Int.reduceAdd, Int.reduceSub, Int.reduceMul, Nat.reduceAdd, Nat.reduceSub, Nat.reduceMul, Nat.reduceDiv, Nat.reduceMod, Nat.reduceBEq, Nat.reduceLeDiff]
    exact k H1 h1

theorem wloop6_ok (h : Wk (WR w) B (wb w b2 :: sbx b3 s a b c :: ks) H bits) (hs : SrC 0 B s a b c) (hF : Fine s) (hl : bits.length < 500000000000)
    {Q : Res → Heap → Prop} (k : ∀ H', Wk (WR w) B (wb w b2 :: sbx b3 s a b c :: ks) H' (bits ++ szB s.siz) → Q (.ex 12 []) H') :
    Ok (M.iter (f_depend_writer_structure_6 (sem T) (.int .i64 (s.siz.length : Nat)) c (.ptr b2 0)) [.int .i64 0]) H Q := by
  have hsl : s.siz.length ≤ 4 := by
    have t := top_max (ts := s.ts) fun t ht => ⟨(hF.rng ht).1, (hF.rng ht).2.1⟩
    have := hF.siz
    omega
  refine ok_loop (fun j L H' => L = [.int .i64 (j : Nat)] ∧ Wk (WR w) B (wb w b2 :: sbx b3 s a b c :: ks) H' (bits ++ szB (s.siz.take j))) s.siz.length ?_ ?_ ?_
  · exact ⟨rfl, by simpa [szB] using h⟩
  · rintro j L H1 hj ⟨rfl, h1⟩
    obtain ⟨q, i1, l1⟩ := szs_at (hs.siz.ext h1.gr) hj
    have l1a := (pl2 l1).2.2
    have r := hF.szs _ (List.getElem_mem hj)
    have hbj : (szB (s.siz.take j)).length ≤ 32 * j := flat_take_k _ (fun x _ => by rw [List.length_append, nb_length, nb_length]; omega) j
    have e : szB (s.siz.take (j + 1)) = szB (s.siz.take j) ++ (nb (s.siz[j].1 - 1).toNat 16 ++ nb (s.siz[j].2 - 1).toNat 16) := flat_snoc _ hj
    rw [e, ← List.append_assoc, ← List.append_assoc]
    generalize s.siz[j] = x at *
    have g2 := h1.get
    have hb2 := h1.lt
    unfold f_depend_writer_structure_6
    simp (maxSteps := 1000000) (disch := first | omega | (simp only [RY] <;> omega) | decide) only [↓RD, RZ, eq_self, Int.reduceToNat, Int.reduceAdd, Int.reduceSub, Int.reduceMul, Nat.reduceAdd, Nat.reduceSub, Nat.reduceMul, Nat.reduceDiv, Nat.reduceMod, Nat.reduceBEq, Nat.reduceLeDiff, i1, l1a, g2]
    generalize hH2 : Heap.set (Heap.new H1 _) _ _ = H2
    have s2 : Grow H1 H2 := by rw [← hH2]; exact (Grow.new _ _).set (Nat.le_refl _) _
    have n2 : H2.next = H1.next + 1 := by rw [← hH2]; rfl
    have b2' : H2.get H1.next = some ⟨ty_2_int, [.int .i64 x.1, .int .i64 x.2], none⟩ := by rw [← hH2]; exact get_set_self _ _ _
    clear hH2
    have h2 := h1.add s2 (Nat.le_refl _) (by omega) b2'
    refine ok_bind' (num_ok h2 (x.1 - 1) 16 (by omega) (by omega) (by omega) (by rw [List.length_append]; omega)) ?_
    rintro _ H3 h3
    obtain ⟨g3, -⟩ := h3.get2 (x := wb w b2) (by simp)
    dsimp only at g3
    simp (maxSteps := 1000000) (disch := first | omega | (simp only [RY] <;> omega) | decide) only [↓RD, RZ, eq_self, Int.reduceToNat, Int.reduceAdd, Int.reduceSub, Int.reduceMul, Nat.reduceAdd, Nat.reduceSub, Nat.reduceMul, Nat.reduceDiv, Nat.reduceMod, Nat.reduceBEq, Nat.reduceLeDiff, g3, h3.get]
    refine ok_bind' (num_ok h3 (x.2 - 1) 16 (by omega) (by omega) (by omega) (by rw [List.length_append, List.length_append, nb_length]; omega)) ?_
    rintro _ H4 h4
    simp (maxSteps := 1000000) (disch := first | omega | (simp only [RY] <;> omega) | decide) only [↓RD, RZ, eq_self, Int.reduceToNat, Int.reduceAdd, Int.reduceSub, Int.reduceMul, Nat.reduceAdd, Nat.reduceSub, Nat.reduceMul, Nat.reduceDiv, Nat.reduceMod, Nat.reduceBEq, Nat.reduceLeDiff]
    exact ⟨by rfl, h4.drop⟩
  · rintro L H1 ⟨rfl, h1⟩
    rw [List.take_length] at h1
    unfold f_depend_writer_structure_6
    simp (maxSteps := 1000000) (disch := first | omega | (simp only [RY] <;> omega) | decide) only [↓RD, RZ, eq_self, Int.reduceToNat, Int.reduceAdd, Int.reduceSub, Int.reduceMul, Nat.reduceAdd, Nat.reduceSub, Nat.reduceMul, Nat.reduceDiv, Nat.reduceMod, Nat.reduceBEq, Nat.reduceLeDiff]
    exact k H1 h1

theorem strB_le (hF : Fine s) : (strB s).length ≤ 100000 := by
  have hlen := hF.len
  have htar := hF.tar
  have hcha := hF.cha
  have l0 := lys_le s.ts s.ts.length
  have l1 := flat_le (fun t : Tm => numsB 2 t.dti) (c := 200) s.ts fun t ht => by
    have f := fine_tms hF ht
    have := flat_le (fun x : Int => nb x.toNat 2) (c := 2) t.dti fun x _ => by rw [nb_length]; omega
    unfold numsB; omega
  have l2 := flat_le (fun t : Tm => dfB t.dif ++ [false]) (c := 41) s.ts fun t ht => by
    have f := fine_tms hF ht
    have := dfB_le (l := t.dif) t.dif.length
    rw [List.take_length] at this
    rw [List.length_append, List.length_singleton]; omega
  have l3 : (nsB s.cha.toNat (s.tar + 1).toNat).length ≤ 33 := nsB_le (by omega) (by omega) (by omega)
  have l5 := flat_le (fun t : Tm => numsB 4 t.cha) (c := 200) s.ts fun t ht => by
    have f := fine_tms hF ht
    have := flat_le (fun x : Int => nb x.toNat 4) (c := 4) t.cha fun x _ => by rw [nb_length]; omega
    unfold numsB; omega
  have hsl : s.siz.length ≤ 4 := by
    have t := top_max (ts := s.ts) fun t ht => ⟨(hF.rng ht).1, (hF.rng ht).2.1⟩
    have := hF.siz
    omega
  have l6 : (szB s.siz).length ≤ 32 * s.siz.length := flat_le _ _ fun x _ => by rw [List.length_append, nb_length, nb_length]; omega
  have l4 : (if 0 < s.cha then proB s.cha.toNat s.pro ++ s.ts.flatMap (fun t => numsB 4 t.cha) else []).length ≤ 33 * 32 + 200 * 64 := by
    split
    · rename_i hc
      have hp := wi_iff.1 hF.pro
      rw [if_neg (by omega)] at hp
      have : (proB s.cha.toNat s.pro).length ≤ 33 * s.pro.length := flat_le _ _ fun x hx => by
        have := hp.2 x hx
        exact nsB_le (by omega) (by omega) (by omega)
      rw [List.length_append]; omega
    · simp
  unfold strB
  simp only [List.length_append, nb_length, List.length_singleton]
  omega

set_option maxHeartbeats 1600000 in
theorem wstructure_ok (h : Wk (WR w) B ks H bits) (hs : SrC 0 B s a b c) (hF : Fine s) (hl : bits.length < 400000000000) :
    Ok (sem T fn_depend_writer_structure [.agg [.ptr w 0], .agg (scells s a b c)]) H fun r H' => Wk (WR w) B ks H' (bits ++ strB s) := by
  have ca := hs.ts.cel
  have cb := hs.pro.cel
  have cc := hs.siz.cel
  have hlen := hF.len
  have htar := hF.tar
  have hcha := hF.cha
  have hoff := hF.off
  have hbs := strB_le hF
  refine ok_depend_writer_structure ?_
  unfold f_depend_writer_structure
  unfold scells
  simp (maxSteps := 1000000) (disch := first | omega | (simp only [RY] <;> omega) | decide) only [↓RD, RZ, eq_self, Int.reduceToNat, Int.reduceAdd, Int.reduceSub, Int.reduceMul, Nat.reduceAdd, Nat.reduceSub, Nat.reduceMul, Nat.reduceDiv, Nat.reduceMod, Nat.reduceBEq, Nat.reduceLeDiff, ca.1, ca.2, cb.1, cb.2, cc.1, cc.2]
  have h1 := (h.new ⟨ty_depend_writer, [.ptr w 0], none⟩).new ⟨ty_depend_Structure, [.int .i64 s.off, .int .i64 s.tar, a, .int .i64 s.cha, b, c], none⟩
  have h1 := h1.mono (ks' := wb w H.next :: sbx (H.next + 1) s a b c :: ks) (fun k hk => by
    rw [next_new]
    simp only [List.mem_cons] at hk ⊢
    rcases hk with hk | hk | hk
    · exact .inr (.inl hk)
    · exact .inl hk
    · exact .inr (.inr hk))
  generalize Heap.new (Heap.new H _) _ = H1 at *
  refine ok_bind' (num_ok h1 s.off 6 (by omega) (by omega) (by omega) (by omega)) ?_
  rintro _ H2 h2
  have get3 : ∀ {H' : Heap} {bits : List Bool}, Wk (WR w) B (wb w H.next :: sbx (H.next + 1) s a b c :: ks) H' bits → H'.get (H.next + 1) = some ⟨ty_depend_Structure, [.int .i64 s.off, .int .i64 s.tar, a, .int .i64 s.cha, b, c], none⟩ := fun h => (h.get2 (x := sbx (H.next + 1) s a b c) (by simp)).1
  simp (maxSteps := 1000000) (disch := first | omega | (simp only [RY] <;> omega) | decide) only [↓RD, RZ, eq_self, Int.reduceToNat, Int.reduceAdd, Int.reduceSub, Int.reduceMul, Nat.reduceAdd, Nat.reduceSub, Nat.reduceMul, Nat.reduceDiv, Nat.reduceMod, Nat.reduceBEq, Nat.reduceLeDiff, h2.get, get3 h2]
  refine ok_bind' (num_ok h2 (s.tar - 1) 5 (by omega) (by omega) (by omega) (by rw [List.length_append, nb_length]; omega)) ?_
  rintro _ H3 h3
  simp (maxSteps := 1000000) (disch := first | omega | (simp only [RY] <;> omega) | decide) only [↓RD, RZ, eq_self, Int.reduceToNat, Int.reduceAdd, Int.reduceSub, Int.reduceMul, Nat.reduceAdd, Nat.reduceSub, Nat.reduceMul, Nat.reduceDiv, Nat.reduceMod, Nat.reduceBEq, Nat.reduceLeDiff, get3 h3, hs.ts.vlen]
  refine wloop0_ok h3 hs hF (by rw [List.length_append, List.length_append, nb_length, nb_length]; omega) fun H4 h4 => ?_
  simp (maxSteps := 1000000) (disch := first | omega | (simp only [RY] <;> omega) | decide) only [↓RD, RZ, eq_self, Int.reduceToNat, Int.reduceAdd, Int.reduceSub, Int.reduceMul, Nat.reduceAdd, Nat.reduceSub, Nat.reduceMul, Nat.reduceDiv, Nat.reduceMod, Nat.reduceBEq, Nat.reduceLeDiff, get3 h4, hs.ts.vlen]
  have bl4 := lys_le s.ts s.ts.length
  refine wloop1_ok h4 hs hF (by simp only [List.length_append, nb_length]; omega) fun H5 h5 => ?_
  simp (maxSteps := 1000000) (disch := first | omega | (simp only [RY] <;> omega) | decide) only [↓RD, RZ, eq_self, Int.reduceToNat, Int.reduceAdd, Int.reduceSub, Int.reduceMul, Nat.reduceAdd, Nat.reduceSub, Nat.reduceMul, Nat.reduceDiv, Nat.reduceMod, Nat.reduceBEq, Nat.reduceLeDiff, get3 h5, hs.ts.vlen]
  have bl5 : (nb s.off.toNat 6 ++ nb (s.tar - 1).toNat 5 ++ lysB s.ts s.ts.length ++ s.ts.flatMap (fun t => numsB 2 t.dti) ++ s.ts.flatMap (fun t => dfB t.dif ++ [false]) ++ nsB s.cha.toNat (s.tar + 1).toNat ++
    (if 0 < s.cha then proB s.cha.toNat s.pro ++ s.ts.flatMap (fun t => numsB 4 t.cha) else []) ++ [decide (0 < s.siz.length)] ++ szB s.siz).length ≤ 100000 := hbs
  simp only [List.length_append, nb_length, List.length_singleton] at bl5
  refine wloop3_ok h5 hs hF (by simp only [List.length_append, nb_length]; omega) fun H6 h6 => ?_
  obtain ⟨cn, hcn⟩ := Int.eq_ofNat_of_zero_le (show 0 ≤ s.cha by omega)
  obtain ⟨tn, htn⟩ := Int.eq_ofNat_of_zero_le (show 0 ≤ s.tar by omega)
  have g6 := get3 h6
  rw [hcn, htn] at g6
  have m1 : cn % 18446744073709551616 = cn := by omega
  have m2 : tn % 18446744073709551616 = tn := by omega
  have m3 : (tn : Int) + 1 = ((tn + 1 : Nat) : Int) := rfl
  have m4 : (tn + 1) % 18446744073709551616 = tn + 1 := by omega
  have m5 : IntKind.u64.wrap ((tn + 1 : Nat) : Int) = ((tn + 1 : Nat) : Int) := wrapin_u64 (by omega) (by omega)
  simp (maxSteps := 1000000) (disch := first | omega | (simp only [RY] <;> omega) | decide) only [↓RD, RZ, eq_self, Int.reduceToNat, Int.reduceAdd, Int.reduceSub, Int.reduceMul, Nat.reduceAdd, Nat.reduceSub, Nat.reduceMul, Nat.reduceDiv, Nat.reduceMod, Nat.reduceBEq, Nat.reduceLeDiff, h6.get, g6, m1, m2, m3, m4, m5]
  refine ok_bind' (wns_ok (v := cn) (n := tn + 1) h6 (by omega) (by omega) (by omega) (by simp only [List.length_append, nb_length]; omega)) ?_
  rintro _ H7 h7
  have e7 : nsB cn (tn + 1) = nsB s.cha.toNat (s.tar + 1).toNat := by rw [hcn, htn, Int.toNat_natCast]; rfl
  rw [e7] at h7
  have g7 := get3 h7
  simp (maxSteps := 1000000) (disch := first | omega | (simp only [RY] <;> omega) | decide) only [↓RD, RZ, eq_self, Int.reduceToNat, Int.reduceAdd, Int.reduceSub, Int.reduceMul, Nat.reduceAdd, Nat.reduceSub, Nat.reduceMul, Nat.reduceDiv, Nat.reduceMod, Nat.reduceBEq, Nat.reduceLeDiff, g7]
  refine ok_mono (Q := fun r H' => r = .nrm [] ∧ Wk (WR w) B (wb w H.next :: sbx (H.next + 1) s a b c :: ks) H' (bits ++ nb s.off.toNat 6 ++ nb (s.tar - 1).toNat 5 ++ lysB s.ts s.ts.length ++ s.ts.flatMap (fun t => numsB 2 t.dti) ++ s.ts.flatMap (fun t => dfB t.dif ++ [false]) ++ nsB s.cha.toNat (s.tar + 1).toNat ++ (if 0 < s.cha then proB s.cha.toNat s.pro ++ s.ts.flatMap (fun t => numsB 4 t.cha) else []))) ?_ ?_
  · by_cases hc : 0 < s.cha
    · rw [if_pos hc] at bl5 ⊢
      rw [List.length_append] at bl5
      simp (maxSteps := 1000000) (disch := first | omega | (simp only [RY] <;> omega) | decide) only [↓RD, RZ, eq_self, Int.reduceToNat, Int.reduceAdd, Int.reduceSub, Int.reduceMul, Nat.reduceAdd, Nat.reduceSub, Nat.reduceMul, Nat.reduceDiv, Nat.reduceMod, Nat.reduceBEq, Nat.reduceLeDiff, g7, hs.pro.vlen]
      refine wloop4_ok h7 hs hF hc (by simp only [List.length_append, nb_length]; omega) fun H8 h8 => ?_
      simp (maxSteps := 1000000) (disch := first | omega | (simp only [RY] <;> omega) | decide) only [↓RD, RZ, eq_self, Int.reduceToNat, Int.reduceAdd, Int.reduceSub, Int.reduceMul, Nat.reduceAdd, Nat.reduceSub, Nat.reduceMul, Nat.reduceDiv, Nat.reduceMod, Nat.reduceBEq, Nat.reduceLeDiff, get3 h8, hs.ts.vlen]
      refine wloop5_ok h8 hs hF (by simp only [List.length_append, nb_length]; omega) fun H9 h9 => ?_
      simp (maxSteps := 1000000) (disch := first | omega | (simp only [RY] <;> omega) | decide) only [↓RD, RZ, eq_self, Int.reduceToNat, Int.reduceAdd, Int.reduceSub, Int.reduceMul, Nat.reduceAdd, Nat.reduceSub, Nat.reduceMul, Nat.reduceDiv, Nat.reduceMod, Nat.reduceBEq, Nat.reduceLeDiff]
      rw [← List.append_assoc]
      exact h9
    · rw [if_neg hc, List.append_nil]
      simp (maxSteps := 1000000) (disch := first | omega | (simp only [RY] <;> omega) | decide) only [↓RD, RZ, eq_self, Int.reduceToNat, Int.reduceAdd, Int.reduceSub, Int.reduceMul, Nat.reduceAdd, Nat.reduceSub, Nat.reduceMul, Nat.reduceDiv, Nat.reduceMod, Nat.reduceBEq, Nat.reduceLeDiff]
      exact h7
  · rintro _ H8 ⟨rfl, h8⟩
    have g8 := get3 h8
    have hd : decide ((0 : Int) < (s.siz.length : Nat)) = decide (0 < s.siz.length) := by by_cases hz : 0 < s.siz.length <;> simp [hz]
    simp (maxSteps := 1000000) (disch := first | omega | (simp only [RY] <;> omega) | decide) only [↓RD, RZ, eq_self, Int.reduceToNat, Int.reduceAdd, Int.reduceSub, Int.reduceMul, Nat.reduceAdd, Nat.reduceSub, Nat.reduceMul, Nat.reduceDiv, Nat.reduceMod, Nat.reduceBEq, Nat.reduceLeDiff, h8.get, g8, hs.siz.vlen, hd]
    refine ok_bind' (bit_ok h8 (decide (0 < s.siz.length)) (by simp only [List.length_append, nb_length]; omega)) ?_
    rintro _ H9 h9
    simp (maxSteps := 1000000) (disch := first | omega | (simp only [RY] <;> omega) | decide) only [↓RD, RZ, eq_self, Int.reduceToNat, Int.reduceAdd, Int.reduceSub, Int.reduceMul, Nat.reduceAdd, Nat.reduceSub, Nat.reduceMul, Nat.reduceDiv, Nat.reduceMod, Nat.reduceBEq, Nat.reduceLeDiff, get3 h9, hs.siz.vlen]
    refine wloop6_ok h9 hs hF (by simp only [List.length_append, nb_length, List.length_singleton]; omega) fun Ha ha => ?_
    simp (maxSteps := 1000000) (disch := first | omega | (simp only [RY] <;> omega) | decide) only [↓RD, RZ, eq_self, Int.reduceToNat, Int.reduceAdd, Int.reduceSub, Int.reduceMul, Nat.reduceAdd, Nat.reduceSub, Nat.reduceMul, Nat.reduceDiv, Nat.reduceMod, Nat.reduceBEq, Nat.reduceLeDiff]
    have := ha.drop.drop
    have e : bits ++ strB s = bits ++ nb s.off.toNat 6 ++ nb (s.tar - 1).toNat 5 ++ lysB s.ts s.ts.length ++ s.ts.flatMap (fun t => numsB 2 t.dti) ++ s.ts.flatMap (fun t => dfB t.dif ++ [false]) ++ nsB s.cha.toNat (s.tar + 1).toNat ++ (if 0 < s.cha then proB s.cha.toNat s.pro ++ s.ts.flatMap (fun t => numsB 4 t.cha) else []) ++ [decide (0 < s.siz.length)] ++ szB s.siz := by
      unfold strB; simp only [List.append_assoc]
    rw [e]
    exact this

end
end Go.Ax.D9
/- DepR7 -/
set_option maxRecDepth 100000
set_option linter.unusedVariables false
set_option linter.unusedSimpArgs false
namespace Go.Ax
end Go.Ax
namespace Go.Ax.D9
open Go.Ax B6
section
variable {a m rb b3 lo id tn cn : Nat} {cap : Cap} {o : Option Nat} {H : Heap} {σ : St} {off tar c : Int} {v x4 x5 : V} {ws : List Tw} {ts : List Tm}
theorem top_max' {ts : List Tm} {b : Int} (hb : 0 ≤ b) (h : ∀ t ∈ ts, 0 ≤ t.sp ∧ t.sp ≤ b) : 0 ≤ top ts ∧ top ts ≤ b := by
  have : ∀ (l : List Tm) (x : Int), 0 ≤ x → x ≤ b → (∀ t ∈ l, 0 ≤ t.sp ∧ t.sp ≤ b) → 0 ≤ l.foldl (fun n t => max n t.sp) x ∧ l.foldl (fun n t => max n t.sp) x ≤ b := by
    intro l
    induction l with
    | nil => intro x h1 h2 _; exact ⟨h1, h2⟩
    | cons t l ih =>
      intro x h1 h2 h3
      have := h3 t (List.mem_cons_self ..)
      exact ih _ (show 0 ≤ max x t.sp by omega) (show max x t.sp ≤ b by omega) fun u hu => h3 u (List.mem_cons_of_mem _ hu)
  exact this ts 0 (by decide) hb h

end
end Go.Ax.D9
/- DepR8 -/
set_option maxRecDepth 100000
set_option linter.unusedVariables false
set_option linter.unusedSimpArgs false
namespace Go.Ax.D9
open Go.Ax B6
/-- Where Parse stands: its boxes, its reader. -/
structure PS (tS tF : TypeId) (R : St → Heap → Prop) (a m : Nat) (B : Heap) (bf : Nat) (c3 cf : List V) (σ : St) (H : Heap) : Prop where
  pr : R σ H
  gr : Grow B H
  g3 : H.get B.next = some ⟨tS, c3, none⟩
  g4 : H.get (B.next + 1) = some ⟨tF, fcells Fr0 .nils .nils .nils .nils .nils .nils, none⟩
  gf : H.get bf = some ⟨tF, cf, none⟩
  bs : a = B.next + 2 ∧ m ≤ bf ∧ bf < H.next ∧ a ≤ m

/-- What a reader hangs on. -/
structure Rl (a m : Nat) (R : St → Heap → Prop) : Prop where
  keep : ∀ {σ : St} {H H' : Heap}, R σ H → (∀ i, a ≤ i → i < m → H'.get i = H.get i) → H.next ≤ H'.next → R σ H'
section
variable {tS tF : TypeId} {R : St → Heap → Prop} {a m bf : Nat} {B H H' : Heap} {c3 cf cf' : List V} {σ σ' : St}
theorem PS.ko (h : PS tS tF R a m B bf c3 cf σ H) (p : R σ' H') (k : Ko a m H H') : PS tS tF R a m B bf c3 cf σ' H' := by
  obtain ⟨h1, h2, h3, h4, h5, h6⟩ := h
  exact ⟨p, Ko.grow h2 (by omega) k, (k.same _ (by omega) (by omega)).trans h3, (k.same _ (by omega) (by omega)).trans h4, (k.same _ (by omega) (by omega)).trans h5, by have := k.next; omega⟩
theorem PS.grow (hR : Rl a m R) (h : PS tS tF R a m B bf c3 cf σ H) (g : Grow H H') : PS tS tF R a m B bf c3 cf σ H' := by
  obtain ⟨h1, h2, h3, h4, h5, h6⟩ := h
  exact ⟨hR.keep h1 (fun i _ hi => g.same i (by omega)) g.next, h2.trans g, (g.same _ (by omega)).trans h3, (g.same _ (by omega)).trans h4, (g.same _ (by omega)).trans h5, by have := g.next; omega⟩
theorem PS.setf (hR : Rl a m R) (h : PS tS tF R a m B bf c3 cf σ H) (cf' : List V) : PS tS tF R a m B bf c3 cf' σ (H.set bf (some ⟨tF, cf', none⟩)) := by
  obtain ⟨h1, h2, h3, h4, h5, h6⟩ := h
  exact ⟨hR.keep h1 (fun i _ hi => get_set_ne _ _ (by omega)) (Nat.le_refl _), h2.set (by omega) _, by rw [get_set_ne _ _ (by omega), h3], by rw [get_set_ne _ _ (by omega), h4], get_set_self _ _ _, h6⟩
end
theorem zeros_0 {b : Bool} {bs : List Bool} (hb : b = false) : (zeros (.ok (b :: bs))).2 = (zeros (.ok bs)).2 := by
  subst hb; unfold zeros; simp only [List.all_cons, Bool.not_false, Bool.true_and]
end Go.Ax.D9
/- DepR9 -/
set_option maxRecDepth 100000
set_option linter.unusedVariables false
set_option linter.unusedSimpArgs false
namespace Go.Ax.D9
open Go.Ax B6
/-- What Parse answers. -/
def PRes (lo : Nat) (x : Fr × St) (v : V) (H : Heap) : Prop := (∀ c, x.2 = .error c → c ≠ 0) ∧ ∃ a b c d e g, v = .tup [.agg (fcells x.1 a b c d e g), .int .i64 (St.err x.2)] ∧ FrC lo H x.1 a b c d e g

theorem PRes.err {lo : Nat} {x : Fr × St} {c : Int} {H : Heap} (hc : c ≠ 0) (h : x = (Fr0, .error c)) : PRes lo x (.tup [.agg (fcells Fr0 .nils .nils .nils .nils .nils .nils), .int .i64 c]) H := by
  subst h; exact ⟨(fun c' h => by cases h; exact hc), _, _, _, _, _, _, rfl, FrC.zero⟩

/-- Where Parse stands behind the head: the frame's lists, boxes beside it. -/
structure PT (tS tF : TypeId) (R : St → Heap → Prop) (am : Nat × Nat) (B : Heap) (bf : Nat) (c3 : List V) (ks : List (Nat × Blk)) (f : Fr) (a b c d e g : V) (σ : St) (H : Heap) : Prop where
  s : PS tS tF R am.1 am.2 B bf c3 (fcells f a b c d e g) σ H
  f : FrC (bf + 1) H f a b c d e g
  k : ∀ k ∈ ks, bf < k.1 ∧ k.1 < H.next ∧ H.get k.1 = some k.2

section
variable {tS tF : TypeId} {R : St → Heap → Prop} {am : Nat × Nat} {bf : Nat} {B H H' : Heap} {c3 : List V} {ks : List (Nat × Blk)} {f f' : Fr} {a b c d e g a' b' c' d' e' g' : V} {σ σ' : St}
theorem PT.ko (h : PT tS tF R am B bf c3 ks f a b c d e g σ H) (p : R σ' H') (k : Ko am.1 am.2 H H') : PT tS tF R am B bf c3 ks f a b c d e g σ' H' :=
  ⟨h.s.ko p k, h.f.keep (k.keep (by have := h.s.bs; omega)), fun x hx => by obtain ⟨h1, h2, h3⟩ := h.k x hx; exact ⟨h1, by have := k.next; omega, (k.same _ h2 (by have := h.s.bs; omega)).trans h3⟩⟩
theorem PT.grow (hR : Rl am.1 am.2 R) (h : PT tS tF R am B bf c3 ks f a b c d e g σ H) (k : Grow H H') : PT tS tF R am B bf c3 ks f a b c d e g σ H' :=
  ⟨h.s.grow hR k, h.f.ext k, fun x hx => by obtain ⟨h1, h2, h3⟩ := h.k x hx; exact ⟨h1, by have := k.next; omega, (k.same _ h2).trans h3⟩⟩
theorem PT.set (hR : Rl am.1 am.2 R) (h : PT tS tF R am B bf c3 ks f a b c d e g σ H) (hf : FrC (bf + 1) H f' a' b' c' d' e' g') : PT tS tF R am B bf c3 ks f' a' b' c' d' e' g' σ (H.set bf (some ⟨tF, fcells f' a' b' c' d' e' g', none⟩)) :=
  ⟨h.s.setf hR _, hf.keep (Keep.set H (by omega) _), fun x hx => by obtain ⟨h1, h2, h3⟩ := h.k x hx; exact ⟨h1, h2, by rw [get_set_ne _ _ (by omega), h3]⟩⟩
theorem PT.add (h : PT tS tF R am B bf c3 ks f a b c d e g σ H) {id : Nat} {x : Blk} (h1 : bf < id) (h2 : id < H.next) (h3 : H.get id = some x) : PT tS tF R am B bf c3 ((id, x) :: ks) f a b c d e g σ H :=
  ⟨h.s, h.f, fun y hy => by rcases List.mem_cons.1 hy with rfl | hy; exact ⟨h1, h2, h3⟩; exact h.k y hy⟩
theorem PT.get {id : Nat} {x : Blk} (h : PT tS tF R am B bf c3 ((id, x) :: ks) f a b c d e g σ H) : H.get id = some x ∧ bf < id ∧ id < H.next := ⟨(h.k _ (List.mem_cons_self ..)).2.2, (h.k _ (List.mem_cons_self ..)).1, (h.k _ (List.mem_cons_self ..)).2.1⟩
theorem PT.drop {x : Nat × Blk} (h : PT tS tF R am B bf c3 (x :: ks) f a b c d e g σ H) : PT tS tF R am B bf c3 ks f a b c d e g σ H := ⟨h.s, h.f, fun y hy => h.k y (List.mem_cons_of_mem _ hy)⟩
end
end Go.Ax.D9
/- DepS4 -/
set_option maxRecDepth 100000
set_option linter.unusedVariables false
set_option linter.unusedSimpArgs false
namespace Go.Ax.D9
open Go.Ax
set_option maxHeartbeats 1600000 in
theorem Good2_ok {H : Heap} {v w : V} {f : Fr} {k : Sr} (hf : FrR 0 H v f) (hk : SrR 0 H w k) (fo : FrO f) (ko : SrO k) :
    Ok (sem T fn_palanquinref9_Good [v, w]) H fun r H' => r = .bool (good f k) ∧ Grow H H' := by
  obtain ⟨a, b, c, d, e, g, rfl, hf⟩ := hf
  obtain ⟨p, q, r, rfl, hk⟩ := hk
  obtain ⟨ca, cb, cc, cd, ce, cg⟩ := fr_dti hf
  have kts := hk.ts.cel
  have kpr := hk.pro.cel
  have ksi := hk.siz.cel
  refine ok_palanquinref9_Good ?_
  unfold f_palanquinref9_Good
  unfold fcells scells
  simp (maxSteps := 1000000) (disch := first | omega | (simp only [RY] <;> omega) | decide) only [↓RD, RZ, eq_self, Int.reduceToNat, Int.reduceAdd, Int.reduceSub, Int.reduceMul, Nat.reduceAdd, Nat.reduceSub, Nat.reduceMul, Nat.reduceDiv, Nat.reduceMod, Nat.reduceBEq, Nat.reduceLeDiff, ca.1, ca.2, cb.1, cb.2, cc.1, cc.2, cd.1, cd.2, ce.1, ce.2, cg.1, cg.2, kts.1, kts.2, kpr.1, kpr.2, ksi.1, ksi.2]
  generalize hH1 : Heap.new (Heap.new H _) _ = H1
  have s1 : Grow H H1 := by rw [← hH1]; exact (Grow.new _ _).trans (Grow.new _ _)
  have n1 : H1.next = H.next + 2 := by rw [← hH1]; rfl
  have f1 : H1.get H.next = some ⟨ty_palanquinref9_Frame, fcells f a b c d e g, none⟩ := by rw [← hH1]; unfold fcells; simp (maxSteps := 1000000) (disch := first | omega | (simp only [RY] <;> omega) | decide) only [↓RD, RZ, eq_self, Int.reduceToNat, Int.reduceAdd, Int.reduceSub, Int.reduceMul, Nat.reduceAdd, Nat.reduceSub, Nat.reduceMul, Nat.reduceDiv, Nat.reduceMod, Nat.reduceBEq, Nat.reduceLeDiff]
  have k1 : H1.get (H.next + 1) = some ⟨ty_palanquinref9_Structure, scells k p q r, none⟩ := by rw [← hH1]; unfold scells; simp (maxSteps := 1000000) (disch := first | omega | (simp only [RY] <;> omega) | decide) only [↓RD, RZ, eq_self, Int.reduceToNat, Int.reduceAdd, Int.reduceSub, Int.reduceMul, Nat.reduceAdd, Nat.reduceSub, Nat.reduceMul, Nat.reduceDiv, Nat.reduceMod, Nat.reduceBEq, Nat.reduceLeDiff]
  clear hH1
  unfold fcells at f1
  unfold scells at k1
  refine ok_bind' (Of2_ok (hf.ext s1).val (hk.ext s1).val fo ko) ?_
  rintro _ H2 ⟨hq, s2⟩
  have n2 := s2.next
  have f2 : H2.get H.next = _ := (s2.same _ (by omega)).trans f1
  have k2 : H2.get (H.next + 1) = _ := (s2.same _ (by omega)).trans k1
  obtain ⟨x1, x2, x3, rfl, wt⟩ := hq.get
  unfold good GoodP
  have so := SrO.hold fo ko
  generalize ho : tmOf (hold f k) f.id = o at *
  simp (maxSteps := 1000000) (disch := first | omega | (simp only [RY] <;> omega) | decide) only [↓RD, RZ, eq_self, Int.reduceToNat, Int.reduceAdd, Int.reduceSub, Int.reduceMul, Nat.reduceAdd, Nat.reduceSub, Nat.reduceMul, Nat.reduceDiv, Nat.reduceMod, Nat.reduceBEq, Nat.reduceLeDiff, f2, k2, wt.dti.cells1, wt.dti.okc, wt.dif.cells1, wt.dif.okc, wt.cha.cells1, wt.cha.okc]
  generalize hH3 : Heap.set _ _ _ = H3
  have s3 : Grow H2 H3 := by rw [← hH3]; exact (Grow.new _ _).set (by omega) _
  have n3 : H3.next = H2.next + 1 := by rw [← hH3]; rfl
  have f3 : H3.get H.next = _ := (s3.same _ (by omega)).trans f2
  have k3 : H3.get (H.next + 1) = _ := (s3.same _ (by omega)).trans k2
  have t3 : H3.get H2.next = some ⟨ty_palanquinref9_Template, [.int .i64 (o.getD Tm0).sp, .int .i64 (o.getD Tm0).te, x1, x2, x3], none⟩ := by rw [← hH3]; simp (maxSteps := 1000000) (disch := first | omega | (simp only [RY] <;> omega) | decide) only [↓RD, RZ, eq_self, Int.reduceToNat, Int.reduceAdd, Int.reduceSub, Int.reduceMul, Nat.reduceAdd, Nat.reduceSub, Nat.reduceMul, Nat.reduceDiv, Nat.reduceMod, Nat.reduceBEq, Nat.reduceLeDiff]
  clear hH3
  replace wt := wt.ext s3
  have s13 := (s1.trans s2).trans s3
  have A : (f.new = false ∧ isZ f.s = false) ∨ (f.new = false ∧ isZ f.s = true) ∨ f.new = true := by
    cases f.new <;> cases isZ f.s <;> simp
  have n16 := fo.dti.2
  have n17 := fo.dif.2
  have n18 := fo.cha.2
  cases o with
  | none =>
    simp (maxSteps := 1000000) (disch := first | omega | (simp only [RY] <;> omega) | decide) only [↓RD, RZ, eq_self, Int.reduceToNat, Int.reduceAdd, Int.reduceSub, Int.reduceMul, Nat.reduceAdd, Nat.reduceSub, Nat.reduceMul, Nat.reduceDiv, Nat.reduceMod, Nat.reduceBEq, Nat.reduceLeDiff, Option.isSome_none]
    exact ⟨by rw [dec_no (by rintro ⟨t, h, _⟩; cases h)], s13⟩
  | some t =>
  rcases A with ⟨hn, hz⟩ | A
  · simp (maxSteps := 1000000) (disch := first | omega | (simp only [RY] <;> omega) | decide) only [↓RD, RZ, eq_self, Int.reduceToNat, Int.reduceAdd, Int.reduceSub, Int.reduceMul, Nat.reduceAdd, Nat.reduceSub, Nat.reduceMul, Nat.reduceDiv, Nat.reduceMod, Nat.reduceBEq, Nat.reduceLeDiff, f3, hn, Option.isSome_some, Bool.not_true]
    refine ok_bind' (zero_ok (hf.s.ext s13)) ?_
    rintro _ _ ⟨rfl, sA⟩
    rw [hz]
    simp (maxSteps := 1000000) (disch := first | omega | (simp only [RY] <;> omega) | decide) only [↓RD, RZ, eq_self, Int.reduceToNat, Int.reduceAdd, Int.reduceSub, Int.reduceMul, Nat.reduceAdd, Nat.reduceSub, Nat.reduceMul, Nat.reduceDiv, Nat.reduceMod, Nat.reduceBEq, Nat.reduceLeDiff, Option.isSome_some, Bool.not_true]
    exact ⟨by rw [dec_no (by rintro ⟨t', ⟨rfl⟩, h⟩; have := h.z; rw [hn, hz] at this; simp at this)], s13.trans sA⟩
  have hz : f.new = true ∨ isZ f.s = true := by rcases A with ⟨_, h⟩ | h; exact .inr h; exact .inl h
  -- what comes next, at any heap
  obtain ⟨G3, sG, nG⟩ : ∃ G : Heap, True ∧ True := ⟨H3, trivial, trivial⟩
  have zz : ∀ H', Grow H3 H' → Ok (sem T fn_palanquinref9_zero [.agg (scells f.s a b c)]) H' fun r H'' => r = .bool (isZ f.s) ∧ Grow H' H'' := fun H' s => zero_ok (hf.s.ext (s13.trans s))
  rcases A with ⟨hn, hz'⟩ | hn
  all_goals try (
    simp (maxSteps := 1000000) (disch := first | omega | (simp only [RY] <;> omega) | decide) only [↓RD, RZ, eq_self, Int.reduceToNat, Int.reduceAdd, Int.reduceSub, Int.reduceMul, Nat.reduceAdd, Nat.reduceSub, Nat.reduceMul, Nat.reduceDiv, Nat.reduceMod, Nat.reduceBEq, Nat.reduceLeDiff, f3, hn, Option.isSome_some, Bool.not_true]
    refine ok_bind' (zero_ok (hf.s.ext s13)) ?_
    rintro _ H3' ⟨rfl, sA⟩
    have n3' := sA.next
    rw [hz']
    replace f3 : H3'.get H.next = _ := (sA.same _ (by omega)).trans f3
    replace k3 : H3'.get (H.next + 1) = _ := (sA.same _ (by omega)).trans k3
    replace t3 : H3'.get H2.next = _ := (sA.same _ (by omega)).trans t3
    replace wt := wt.ext sA
    replace s13 := s13.trans sA
    replace n3 : H2.next + 1 ≤ H3'.next := by omega
    clear zz
    clear sA
    clear s3)
  all_goals try (clear zz; clear s3; replace n3 : H2.next + 1 ≤ H3.next := by omega)
  all_goals (
    simp (maxSteps := 1000000) (disch := first | omega | (simp only [RY] <;> omega) | decide) only [↓RD, RZ, eq_self, Int.reduceToNat, Int.reduceAdd, Int.reduceSub, Int.reduceMul, Nat.reduceAdd, Nat.reduceSub, Nat.reduceMul, Nat.reduceDiv, Nat.reduceMod, Nat.reduceBEq, Nat.reduceLeDiff, f3, k3, hn, Option.isSome_some, Bool.not_true]
    have key := hold2_ok (hf.ext s13) (hk.ext s13)
    unfold fcells at key
    rw [hn] at key
    refine ok_bind' key ?_
    rintro _ H4 ⟨⟨y1, y2, y3, rfl, hh⟩, s4⟩
    have n4 := s4.next
    replace hh := hh.src (hf.ext (s13.trans s4)) (hk.ext (s13.trans s4))
    unfold scells
    have hts := hh.ts.cel
    have hpr := hh.pro.cel
    have hsi := hh.siz.cel
    have f4 : H4.get H.next = _ := (s4.same _ (by omega)).trans f3
    simp (maxSteps := 1000000) (disch := first | omega | (simp only [RY] <;> omega) | decide) only [↓RD, RZ, eq_self, Int.reduceToNat, Int.reduceAdd, Int.reduceSub, Int.reduceMul, Nat.reduceAdd, Nat.reduceSub, Nat.reduceMul, Nat.reduceDiv, Nat.reduceMod, Nat.reduceBEq, Nat.reduceLeDiff, f4, hts.1, hts.2, hpr.1, hpr.2, hsi.1, hsi.2]
    generalize hH5 : Heap.set _ _ _ = H5
    have s5 : Grow H4 H5 := by rw [← hH5]; exact (Grow.new _ _).set (by omega) _
    have n5 : H5.next = H4.next + 1 := by rw [← hH5]; rfl
    have h5 : H5.get H4.next = some ⟨ty_palanquinref9_Structure, [.int .i64 (hold f k).off, .int .i64 (hold f k).tar, y1, .int .i64 (hold f k).cha, y2, y3], none⟩ := by rw [← hH5]; simp (maxSteps := 1000000) (disch := first | omega | (simp only [RY] <;> omega) | decide) only [↓RD, RZ, eq_self, Int.reduceToNat, Int.reduceAdd, Int.reduceSub, Int.reduceMul, Nat.reduceAdd, Nat.reduceSub, Nat.reduceMul, Nat.reduceDiv, Nat.reduceMod, Nat.reduceBEq, Nat.reduceLeDiff]
    clear hH5
    have st : GS _ ty_palanquinref9_Frame ty_palanquinref9_Template ty_palanquinref9_Structure H.next H2.next H4.next [.bool f.st, .bool f.en, .int .i64 f.id, .int .u16 f.num, .bool f.new, .int .i64 f.s.off, .int .i64 f.s.tar, a, .int .i64 f.s.cha, b, c, .bool f.has, .int .u32 f.act, .bool f.od, .bool f.of', .bool f.oc, d, e, g] [.int .i64 ((some t).getD Tm0).sp, .int .i64 ((some t).getD Tm0).te, x1, x2, x3] [.int .i64 (hold f k).off, .int .i64 (hold f k).tar, y1, .int .i64 (hold f k).cha, y2, y3] H5 :=
      ⟨s4.trans s5, by omega, ((s4.trans s5).same _ (by omega)).trans f3, ((s4.trans s5).same _ (by omega)).trans t3, h5⟩
    have goF := fun {H' : Heap} g => s13.trans (H2 := H') g
    have hF := tmOf_fine ho
    have hT := hF.tar
    have hC := hF.cha
    generalize hold f k = s at *
    have bad : ¬ GoodT f s t → dec (∃ t', some t = some t' ∧ GoodT f s t') = false := fun h => dec_no (by rintro ⟨t', ⟨rfl⟩, h'⟩; exact h h')
    have yes : GoodT f s t → dec (∃ t', some t = some t' ∧ GoodT f s t') = true := fun h => dec_yes ⟨t, rfl, h⟩
    simp only [Option.getD_some, Option.isSome_some] at *
    obtain ⟨m, hm⟩ : ∃ m : Nat, s.tar = (m : Int) := ⟨s.tar.toNat, by omega⟩
    have hb : shr f.act m = 0 ↔ f.act < 2 ^ s.tar.toNat := by rw [hm, Int.toNat_natCast]; exact shr0 _ _
    have hsl := shr_le f.act m
    have fact := fo.act)
  all_goals (
    by_cases hB : f.has = true ∨ f.act = 0
    rotate_left
    · have h1 : f.has = false := by cases h : f.has; rfl; exact absurd (.inl h) hB
      have h2 : ¬ f.act = 0 := fun h => hB (.inr h)
      simp (maxSteps := 1000000) (disch := first | omega | (simp only [RY] <;> omega) | decide) only [↓RD, RZ, eq_self, Int.reduceToNat, Int.reduceAdd, Int.reduceSub, Int.reduceMul, Nat.reduceAdd, Nat.reduceSub, Nat.reduceMul, Nat.reduceDiv, Nat.reduceMod, Nat.reduceBEq, Nat.reduceLeDiff, st.f, h1, hn, Option.isSome_some, Bool.not_true]
      exact ⟨by rw [bad fun h => hB h.a], goF st.gr⟩
    by_cases hB2 : shr f.act m = 0
    rotate_left
    · have h3 : ¬ f.act = 0 := fun h => by rw [h] at hB2; exact hB2 ((shr0 0 m).2 (Nat.two_pow_pos m))
      have h1 : f.has = true := by rcases hB with h | h; exact h; exact absurd h h3
      simp (maxSteps := 1000000) (disch := first | omega | (simp only [RY] <;> omega) | decide) only [↓RD, RZ, eq_self, Int.reduceToNat, Int.reduceAdd, Int.reduceSub, Int.reduceMul, Nat.reduceAdd, Nat.reduceSub, Nat.reduceMul, Nat.reduceDiv, Nat.reduceMod, Nat.reduceBEq, Nat.reduceLeDiff, st.f, st.s, h1, hn, Option.isSome_some, Bool.not_true, hm]
      exact ⟨by rw [bad fun h => hB2 (hb.2 h.b)], goF st.gr⟩
    rcases (show f.has = true ∨ (f.has = false ∧ f.act = 0) by cases h : f.has; exact .inr ⟨rfl, by rcases hB with h' | h'; rw [h] at h'; cases h'; exact h'⟩; exact .inl rfl) with h1 | ⟨h1, h2⟩
    simp (maxSteps := 1000000) (disch := first | omega | (simp only [RY] <;> omega) | decide) only [↓RD, RZ, eq_self, Int.reduceToNat, Int.reduceAdd, Int.reduceSub, Int.reduceMul, Nat.reduceAdd, Nat.reduceSub, Nat.reduceMul, Nat.reduceDiv, Nat.reduceMod, Nat.reduceBEq, Nat.reduceLeDiff, st.f, st.s, h1, hn, Option.isSome_some, Bool.not_true, hm, hB2]
    rotate_left
    rw [h2] at hB2
    simp (maxSteps := 1000000) (disch := first | omega | (simp only [RY] <;> omega) | decide) only [↓RD, RZ, eq_self, Int.reduceToNat, Int.reduceAdd, Int.reduceSub, Int.reduceMul, Nat.reduceAdd, Nat.reduceSub, Nat.reduceMul, Nat.reduceDiv, Nat.reduceMod, Nat.reduceBEq, Nat.reduceLeDiff, st.f, st.s, h1, hn, Option.isSome_some, Bool.not_true, hm, h2, hB2])
  all_goals (
    rcases hD : f.od with _ | _
    by_cases qD : f.dti = t.dti
    simp (maxSteps := 1000000) (disch := first | omega | (simp only [RY] <;> omega) | decide) only [↓RD, RZ, eq_self, Int.reduceToNat, Int.reduceAdd, Int.reduceSub, Int.reduceMul, Nat.reduceAdd, Nat.reduceSub, Nat.reduceMul, Nat.reduceDiv, Nat.reduceMod, Nat.reduceBEq, Nat.reduceLeDiff, st.f, st.t, hD]
    refine ok_bind' (SameInts_ok (hf.dti.ext (goF st.gr)) (wt.dti.ext st.gr) (by omega)) ?_
    rintro _ _ ⟨rfl, rfl⟩
    rw [decide_eq_true qD]
    rotate_left
    · simp (maxSteps := 1000000) (disch := first | omega | (simp only [RY] <;> omega) | decide) only [↓RD, RZ, eq_self, Int.reduceToNat, Int.reduceAdd, Int.reduceSub, Int.reduceMul, Nat.reduceAdd, Nat.reduceSub, Nat.reduceMul, Nat.reduceDiv, Nat.reduceMod, Nat.reduceBEq, Nat.reduceLeDiff, st.f, st.t, hD]
      refine ok_bind' (SameInts_ok (hf.dti.ext (goF st.gr)) (wt.dti.ext st.gr) (by omega)) ?_
      rintro _ _ ⟨rfl, rfl⟩
      rw [decide_eq_false qD]
      simp (maxSteps := 1000000) (disch := first | omega | (simp only [RY] <;> omega) | decide) only [↓RD, RZ, eq_self, Int.reduceToNat, Int.reduceAdd, Int.reduceSub, Int.reduceMul, Nat.reduceAdd, Nat.reduceSub, Nat.reduceMul, Nat.reduceDiv, Nat.reduceMod, Nat.reduceBEq, Nat.reduceLeDiff]
      exact ⟨by rw [bad fun h => by have := h.d; rw [hD, if_neg (by decide)] at this; exact qD this], goF st.gr⟩
    simp (maxSteps := 1000000) (disch := first | omega | (simp only [RY] <;> omega) | decide) only [↓RD, RZ, eq_self, Int.reduceToNat, Int.reduceAdd, Int.reduceSub, Int.reduceMul, Nat.reduceAdd, Nat.reduceSub, Nat.reduceMul, Nat.reduceDiv, Nat.reduceMod, Nat.reduceBEq, Nat.reduceLeDiff, st.f, st.s, hD]
    refine ok_bind' (within2_ok (hf.dti.ext (goF st.gr)) s.tar 0 3 (by omega)) ?_
    rintro _ _ ⟨rfl, rfl⟩
    rw [wi2_wi (by omega)]
    rcases wD : wi f.dti s.tar 0 3 with _ | _
    · simp (maxSteps := 1000000) (disch := first | omega | (simp only [RY] <;> omega) | decide) only [↓RD, RZ, eq_self, Int.reduceToNat, Int.reduceAdd, Int.reduceSub, Int.reduceMul, Nat.reduceAdd, Nat.reduceSub, Nat.reduceMul, Nat.reduceDiv, Nat.reduceMod, Nat.reduceBEq, Nat.reduceLeDiff, st.f, hD]
      exact ⟨by rw [bad fun h => by have := h.d; rw [hD, if_pos rfl, wD] at this; cases this], goF st.gr⟩)
  all_goals (
    rcases hE : f.of' with _ | _
    by_cases qE : f.dif = t.dif
    simp (maxSteps := 1000000) (disch := first | omega | (simp only [RY] <;> omega) | decide) only [↓RD, RZ, eq_self, Int.reduceToNat, Int.reduceAdd, Int.reduceSub, Int.reduceMul, Nat.reduceAdd, Nat.reduceSub, Nat.reduceMul, Nat.reduceDiv, Nat.reduceMod, Nat.reduceBEq, Nat.reduceLeDiff, st.f, st.t, hD, hE]
    refine ok_bind' (SameInts_ok (hf.dif.ext (goF st.gr)) (wt.dif.ext st.gr) (by omega)) ?_
    rintro _ _ ⟨rfl, rfl⟩
    rw [decide_eq_true qE]
    rotate_left
    · simp (maxSteps := 1000000) (disch := first | omega | (simp only [RY] <;> omega) | decide) only [↓RD, RZ, eq_self, Int.reduceToNat, Int.reduceAdd, Int.reduceSub, Int.reduceMul, Nat.reduceAdd, Nat.reduceSub, Nat.reduceMul, Nat.reduceDiv, Nat.reduceMod, Nat.reduceBEq, Nat.reduceLeDiff, st.f, st.t, hD, hE]
      refine ok_bind' (SameInts_ok (hf.dif.ext (goF st.gr)) (wt.dif.ext st.gr) (by omega)) ?_
      rintro _ _ ⟨rfl, rfl⟩
      rw [decide_eq_false qE]
      simp (maxSteps := 1000000) (disch := first | omega | (simp only [RY] <;> omega) | decide) only [↓RD, RZ, eq_self, Int.reduceToNat, Int.reduceAdd, Int.reduceSub, Int.reduceMul, Nat.reduceAdd, Nat.reduceSub, Nat.reduceMul, Nat.reduceDiv, Nat.reduceMod, Nat.reduceBEq, Nat.reduceLeDiff]
      exact ⟨by rw [bad fun h => by have := h.e; rw [hE, if_neg (by decide)] at this; exact qE this], goF st.gr⟩
    have vE := (hf.dif.ext (goF st.gr)).vlen
    by_cases hl16 : 16 < f.dif.length
    · simp (maxSteps := 1000000) (disch := first | omega | (simp only [RY] <;> omega) | decide) only [↓RD, RZ, eq_self, Int.reduceToNat, Int.reduceAdd, Int.reduceSub, Int.reduceMul, Nat.reduceAdd, Nat.reduceSub, Nat.reduceMul, Nat.reduceDiv, Nat.reduceMod, Nat.reduceBEq, Nat.reduceLeDiff, st.f, hD, hE, vE]
      exact ⟨by rw [bad fun h => by have := h.e; rw [hE, if_pos rfl, wi_neg1, decide_eq_false (by omega)] at this; cases this], goF st.gr⟩
    simp (maxSteps := 1000000) (disch := first | omega | (simp only [RY] <;> omega) | decide) only [↓RD, RZ, eq_self, Int.reduceToNat, Int.reduceAdd, Int.reduceSub, Int.reduceMul, Nat.reduceAdd, Nat.reduceSub, Nat.reduceMul, Nat.reduceDiv, Nat.reduceMod, Nat.reduceBEq, Nat.reduceLeDiff, st.f, hD, hE, vE]
    refine ok_bind' (within2_ok (hf.dif.ext (goF st.gr)) (-1) 1 4096 (by omega)) ?_
    rintro _ _ ⟨rfl, rfl⟩
    rcases wE' : wi2 f.dif (-1) 1 4096 with _ | _
    · simp (maxSteps := 1000000) (disch := first | omega | (simp only [RY] <;> omega) | decide) only [↓RD, RZ, eq_self, Int.reduceToNat, Int.reduceAdd, Int.reduceSub, Int.reduceMul, Nat.reduceAdd, Nat.reduceSub, Nat.reduceMul, Nat.reduceDiv, Nat.reduceMod, Nat.reduceBEq, Nat.reduceLeDiff, st.f, hD, hE]
      exact ⟨by rw [bad fun h => by have := h.e; rw [hE, if_pos rfl, wi_neg1, wE'] at this; simp at this], goF st.gr⟩
    have wE : di f.dif 16 4096 = true := by rw [wi_neg1, wE', decide_eq_true (by omega)]; rfl)
  all_goals (
    have hd : if f.od = true then wi f.dti s.tar 0 3 = true else f.dti = t.dti := by
      rw [hD]
      first | exact wD | exact qD
    have he : if f.of' = true then di f.dif 16 4096 = true else f.dif = t.dif := by
      rw [hE]
      first | exact wE | exact qE
    cases hC' : f.oc with
    | true =>
      simp (maxSteps := 1000000) (disch := first | omega | (simp only [RY] <;> omega) | decide) only [↓RD, RZ, eq_self, Int.reduceToNat, Int.reduceAdd, Int.reduceSub, Int.reduceMul, Nat.reduceAdd, Nat.reduceSub, Nat.reduceMul, Nat.reduceDiv, Nat.reduceMod, Nat.reduceBEq, Nat.reduceLeDiff, st.f, st.s, hE, hC']
      refine ok_bind' (within2_ok (hf.cha.ext (goF st.gr)) s.cha 0 255 (by omega)) ?_
      rintro _ _ ⟨rfl, rfl⟩
      rw [wi2_wi (by omega)]
      simp (maxSteps := 1000000) (disch := first | omega | (simp only [RY] <;> omega) | decide) only [↓RD, RZ, eq_self, Int.reduceToNat, Int.reduceAdd, Int.reduceSub, Int.reduceMul, Nat.reduceAdd, Nat.reduceSub, Nat.reduceMul, Nat.reduceDiv, Nat.reduceMod, Nat.reduceBEq, Nat.reduceLeDiff]
      refine ⟨?_, goF st.gr⟩
      congr 1
      cases wC : wi f.cha s.cha 0 255 with
      | true => rw [yes ⟨hz, hB, hb.1 (by first | exact hB2 | (rw [‹f.act = 0›]; exact hB2)), hd, he, by rw [hC', if_pos rfl]; exact wC⟩]
      | false => rw [bad fun h => by have := h.c; rw [hC', if_pos rfl, wC] at this; cases this]
    | false =>
      simp (maxSteps := 1000000) (disch := first | omega | (simp only [RY] <;> omega) | decide) only [↓RD, RZ, eq_self, Int.reduceToNat, Int.reduceAdd, Int.reduceSub, Int.reduceMul, Nat.reduceAdd, Nat.reduceSub, Nat.reduceMul, Nat.reduceDiv, Nat.reduceMod, Nat.reduceBEq, Nat.reduceLeDiff, st.f, st.t, hE, hC']
      refine ok_bind' (SameInts_ok (hf.cha.ext (goF st.gr)) (wt.cha.ext st.gr) (by omega)) ?_
      rintro _ _ ⟨rfl, rfl⟩
      by_cases qC : f.cha = t.cha
      · rw [decide_eq_true qC]
        simp (maxSteps := 1000000) (disch := first | omega | (simp only [RY] <;> omega) | decide) only [↓RD, RZ, eq_self, Int.reduceToNat, Int.reduceAdd, Int.reduceSub, Int.reduceMul, Nat.reduceAdd, Nat.reduceSub, Nat.reduceMul, Nat.reduceDiv, Nat.reduceMod, Nat.reduceBEq, Nat.reduceLeDiff, st.f, hC']
        exact ⟨by rw [yes ⟨hz, hB, hb.1 (by first | exact hB2 | (rw [‹f.act = 0›]; exact hB2)), hd, he, by rw [hC', if_neg (by decide)]; exact qC⟩], goF st.gr⟩
      · rw [decide_eq_false qC]
        simp (maxSteps := 1000000) (disch := first | omega | (simp only [RY] <;> omega) | decide) only [↓RD, RZ, eq_self, Int.reduceToNat, Int.reduceAdd, Int.reduceSub, Int.reduceMul, Nat.reduceAdd, Nat.reduceSub, Nat.reduceMul, Nat.reduceDiv, Nat.reduceMod, Nat.reduceBEq, Nat.reduceLeDiff, st.f, hC']
        exact ⟨by rw [bad fun h => by have := h.c; rw [hC', if_neg (by decide)] at this; exact qC this], goF st.gr⟩)

end Go.Ax.D9
/- DepRa -/
set_option maxRecDepth 100000
set_option linter.unusedVariables false
set_option linter.unusedSimpArgs false
namespace Go.Ax.D9
open Go.Ax B6
/-- The document's reader, its blocks from a on, below m. -/
structure Dr (a m rb : Nat) (σ : St) (H : Heap) : Prop where
  ex : ∃ rk e at' l, H.get rb = some ⟨ty_palanquinref9_reader, [.ptr rk 0, .int .i64 e], none⟩ ∧ RRd H rk l at' ∧ a ≤ rk ∧ rk < rb ∧ Sg e l at' σ
  low : a ≤ rb ∧ rb < m ∧ m ≤ H.next

section
variable {a m rb : Nat} {σ : St} {H H' : Heap}
theorem Dr.keep (h : Dr a m rb σ H) (hs : ∀ i, a ≤ i → i < m → H'.get i = H.get i) (hn : H.next ≤ H'.next) : Dr a m rb σ H' := by
  obtain ⟨⟨rk, e, at', l, h1, h3, h4, h5, h6⟩, h7, h8, h9⟩ := h
  exact ⟨⟨rk, e, at', l, (hs rb h7 h8).trans h1, h3.frame (hs rk h4 (by omega)) hn, h4, h5, h6⟩, h7, h8, by omega⟩
theorem Dr.grow (h : Dr a m rb σ H) (g : Grow H H') : Dr a m rb σ H' := h.keep (fun i _ hi => g.same i (by have := h.low; omega)) g.next
theorem Dr.set (h : Dr a m rb σ H) {w : Nat} (hw : w < a ∨ m ≤ w) (b : Option Blk) : Dr a m rb σ (H.set w b) := h.keep (fun i _ hi => get_set_ne _ _ (by omega)) (Nat.le_refl _)
theorem Dr.step {F F' : List Nat} (h : Dr a m rb σ H) (s : Step H H' F F') (hF : ∀ i ∈ F, m ≤ i) : Dr a m rb σ H' := h.keep (fun i _ hi => s.same i (by have := h.low; omega) fun k => by have := hF i k; omega) s.next
theorem Dr.get (h : Dr a m rb σ H) : ∃ rk, H.get rb = some ⟨ty_palanquinref9_reader, [.ptr rk 0, .int .i64 (St.err σ)], none⟩ := by
  obtain ⟨⟨rk, e, at', l, h1, h3, hak, hkb, h6⟩, h7⟩ := h
  refine ⟨rk, ?_⟩
  cases σ with
  | ok bs => rw [h1, h6.1]; rfl
  | error c => rw [h1, h6.1]; rfl
theorem Dr.rng (h : Dr a m rb σ H) : -9223372036854775808 ≤ St.err σ ∧ St.err σ ≤ 9223372036854775807 ∧ (St.err σ = 0 ↔ ∃ bs, σ = .ok bs) := by
  obtain ⟨⟨rk, e, at', l, h1, h3, hak, hkb, h6⟩, h7⟩ := h
  cases σ with
  | ok bs => exact ⟨(by decide : (-9223372036854775808 : Int) ≤ 0), (by decide : (0 : Int) ≤ 9223372036854775807), ⟨fun _ => ⟨bs, rfl⟩, fun _ => rfl⟩⟩
  | error c => exact ⟨h6.2.2.1, h6.2.2.2, ⟨fun h => absurd h h6.2.1, fun ⟨bs, h⟩ => by cases h⟩⟩

end
end Go.Ax.D9
/- DepRb -/
set_option maxRecDepth 100000
set_option linter.unusedVariables false
set_option linter.unusedSimpArgs false
namespace Go.Ax.D9
open Go.Ax B6
section
variable {a m rb : Nat} {σ : St} {H H' : Heap}
end
end Go.Ax.D9
/- DepRc -/
set_option maxRecDepth 100000
set_option linter.unusedVariables false
set_option linter.unusedSimpArgs false
namespace Go.Ax.D9
open Go.Ax B6
section
variable {ws : List Tw} {w : Tw} {i j : Nat} {x x' : V}
end
section
variable {a m rb b3 lo id tn cn i : Nat} {cap : Cap} {o : Option Nat} {G : Heap} {σ : St} {off tar c : Int} {v x4 x5 : V} {ws : List Tw} {w : Tw} {ts : List Tm}
end
end Go.Ax.D9
/- DepRd -/
set_option maxRecDepth 100000
set_option linter.unusedVariables false
set_option linter.unusedSimpArgs false
namespace Go.Ax.D9
open Go.Ax B6
section
variable {a m rb b3 lo id tn cn : Nat} {cap : Cap} {o : Option Nat} {H : Heap} {σ : St} {off tar c : Int} {v x4 x5 : V} {ws : List Tw} {ts : List Tm}
end
end Go.Ax.D9
/- DepRe -/
set_option maxRecDepth 100000
set_option linter.unusedVariables false
set_option linter.unusedSimpArgs false
namespace Go.Ax.D9
open Go.Ax B6
section
variable {a m rb : Nat} {H : Heap} {σ : St}
end
theorem Fine.o {s : Sr} (h : Fine s) : SrO s := by
  have h1 := h.off
  have h2 := h.tar
  have h3 := h.cha
  have h4 := h.len
  have h5 := wi_iff.1 h.pro
  refine ⟨⟨by omega, by omega⟩, ⟨by omega, by omega⟩, by omega, fun t ht => ?_, ⟨by omega, by omega⟩, ⟨fun x hx => by have := h5.2 x hx; exact ⟨by omega, by omega⟩, ?_⟩, ?_, fun x hx => by have := h.szs x hx; exact ⟨⟨by omega, by omega⟩, ⟨by omega, by omega⟩⟩⟩
  · have r := h.rng ht
    have f := h.tms t ht
    unfold fineT at f
    rw [Bool.and_eq_true, Bool.and_eq_true] at f
    have d1 := wi_iff.1 f.1
    have d2 := di_iff.1 f.2.1
    have d3 := wi_iff.1 f.2.2
    exact ⟨⟨by omega, by omega⟩, ⟨by omega, by omega⟩, ⟨fun x hx => by have := d1.2 x hx; exact ⟨by omega, by omega⟩, by omega⟩, ⟨fun x hx => by have := d2.2 x hx; exact ⟨by omega, by omega⟩, by omega⟩, ⟨fun x hx => by have := d3.2 x hx; exact ⟨by omega, by omega⟩, by omega⟩⟩
  · have := h5.1
    split at this <;> omega
  · have t := top_max' (b := 3) (by decide) fun t ht => ⟨(h.rng ht).1, (h.rng ht).2.1⟩
    have := h.siz
    omega

end Go.Ax.D9
/- Ax26 -/
set_option linter.unusedVariables false
set_option linter.unusedSimpArgs false
set_option linter.defProp false
namespace Go.Ax
/-- What a guarded operation leaves. -/
def gv (b w : Bool) (v : V) : V := if b = w then v else .undef

section
variable {b w : Bool} {v x y : V} {α β : Type} {H : Heap} {f : V → M β} {Q : β → Heap → Prop}
theorem gv_tt : gv true true v = v := rfl
theorem gv_ff : gv false false v = v := rfl
theorem gv_tf : gv true false v = .undef := rfl
theorem gv_ft : gv false true v = .undef := rfl
theorem g_congr {x y : M V} (h : b = w → x = y) : guarded [(0, .bool b)] (some (0, w)) x = guarded [(0, .bool b)] (some (0, w)) y := by
  show (if b = w then x else M.pure .undef) = (if b = w then y else M.pure .undef)
  by_cases e : b = w
  · rw [if_pos e, if_pos e, h e]
  · rw [if_neg e, if_neg e]
theorem gv_on (h : b = w) : gv b w v = v := if_pos h
theorem g_pure : guarded [(0, .bool b)] (some (0, w)) (M.pure v) = M.pure (gv b w v) := by
  show (if b = w then M.pure v else M.pure .undef) = _
  unfold gv
  split <;> rfl
theorem g_lift : guarded [(0, .bool b)] (some (0, w)) (M.lift (some v)) = M.pure (gv b w v) := g_pure
theorem g_pgv : guarded [(0, .bool b)] (some (0, w)) (M.pure (gv b w v)) = M.pure (gv b w v) := by
  rw [g_pure]; unfold gv; split <;> rfl
theorem g_load {n : Option Nat} : guarded [(0, .bool b)] (some (0, w)) (mload n (gv b w x)) = guarded [(0, .bool b)] (some (0, w)) (mload n x) := g_congr fun h => by rw [gv_on h]
theorem g_nilck : guarded [(0, .bool b)] (some (0, w)) (M.lift (Ax.nilck (gv b w x))) = guarded [(0, .bool b)] (some (0, w)) (M.lift (Ax.nilck x)) := g_congr fun h => by rw [gv_on h]
theorem g_faddr {o : Nat} : guarded [(0, .bool b)] (some (0, w)) (M.lift (Ax.faddr o (gv b w x))) = guarded [(0, .bool b)] (some (0, w)) (M.lift (Ax.faddr o x)) := g_congr fun h => by rw [gv_on h]
theorem g_un {op : UnOp} : guarded [(0, .bool b)] (some (0, w)) (M.lift (Ax.un op (gv b w x))) = guarded [(0, .bool b)] (some (0, w)) (M.lift (Ax.un op x)) := g_congr fun h => by rw [gv_on h]
theorem g_cint {k : IntKind} : guarded [(0, .bool b)] (some (0, w)) (M.lift (Ax.cint k (gv b w x))) = guarded [(0, .bool b)] (some (0, w)) (M.lift (Ax.cint k x)) := g_congr fun h => by rw [gv_on h]
theorem g_vlen : guarded [(0, .bool b)] (some (0, w)) (M.lift (Ax.vlen (gv b w x))) = guarded [(0, .bool b)] (some (0, w)) (M.lift (Ax.vlen x)) := g_congr fun h => by rw [gv_on h]
theorem g_slen : guarded [(0, .bool b)] (some (0, w)) (M.lift (Ax.slen (gv b w x))) = guarded [(0, .bool b)] (some (0, w)) (M.lift (Ax.slen x)) := g_congr fun h => by rw [gv_on h]
theorem g_ext {i : Nat} : guarded [(0, .bool b)] (some (0, w)) (M.lift (Ax.ext i (gv b w x))) = guarded [(0, .bool b)] (some (0, w)) (M.lift (Ax.ext i x)) := g_congr fun h => by rw [gv_on h]
theorem g_field {o : Nat} {n : Option Nat} : guarded [(0, .bool b)] (some (0, w)) (M.lift (Ax.field o n (gv b w x))) = guarded [(0, .bool b)] (some (0, w)) (M.lift (Ax.field o n x)) := g_congr fun h => by rw [gv_on h]
theorem g_bin1 {op : BinOp} : guarded [(0, .bool b)] (some (0, w)) (M.lift (Ax.bin op (gv b w x) y)) = guarded [(0, .bool b)] (some (0, w)) (M.lift (Ax.bin op x y)) := g_congr fun h => by rw [gv_on h]
theorem g_bin2 {op : BinOp} : guarded [(0, .bool b)] (some (0, w)) (M.lift (Ax.bin op x (gv b w y))) = guarded [(0, .bool b)] (some (0, w)) (M.lift (Ax.bin op x y)) := g_congr fun h => by rw [gv_on h]
theorem g_eqr1 {k : EK} {n : Bool} : guarded [(0, .bool b)] (some (0, w)) (M.lift (eqr k n (gv b w x) y)) = guarded [(0, .bool b)] (some (0, w)) (M.lift (eqr k n x y)) := g_congr fun h => by rw [gv_on h]
theorem g_eqr2 {k : EK} {n : Bool} : guarded [(0, .bool b)] (some (0, w)) (M.lift (eqr k n x (gv b w y))) = guarded [(0, .bool b)] (some (0, w)) (M.lift (eqr k n x y)) := g_congr fun h => by rw [gv_on h]
theorem g_iaddr1 {a : Option Nat} {e : Nat} : guarded [(0, .bool b)] (some (0, w)) (M.lift (Ax.iaddr a e (gv b w x) y)) = guarded [(0, .bool b)] (some (0, w)) (M.lift (Ax.iaddr a e x y)) := g_congr fun h => by rw [gv_on h]
theorem g_iaddr2 {a : Option Nat} {e : Nat} : guarded [(0, .bool b)] (some (0, w)) (M.lift (Ax.iaddr a e x (gv b w y))) = guarded [(0, .bool b)] (some (0, w)) (M.lift (Ax.iaddr a e x y)) := g_congr fun h => by rw [gv_on h]
theorem g_heap {x y : M V} (h : x H = y H) : @OkB V β (guarded [(0, .bool b)] (some (0, w)) x) H ⟨f⟩ ⟨Q⟩ ↔ @OkB V β (guarded [(0, .bool b)] (some (0, w)) y) H ⟨f⟩ ⟨Q⟩ := by
  have e : (guarded [(0, .bool b)] (some (0, w)) x) H = (guarded [(0, .bool b)] (some (0, w)) y) H := by
    show (if b = w then x else M.pure .undef) H = (if b = w then y else M.pure .undef) H
    by_cases e : b = w
    · rw [if_pos e, if_pos e, h]
    · rw [if_neg e, if_neg e]
  show Ok (M.bind _ _) _ _ ↔ Ok (M.bind _ _) _ _
  unfold Ok
  simp only [M.bind, e]
theorem g_loadp {n : Option Nat} {id off : Nat} : @OkB V β (guarded [(0, .bool b)] (some (0, w)) (mload n (.ptr id off))) H ⟨f⟩ ⟨Q⟩ ↔ @OkB V β (guarded [(0, .bool b)] (some (0, w)) (M.lift ((H.get id).bind fun b => ldc n b.cells off))) H ⟨f⟩ ⟨Q⟩ :=
  g_heap (by
    simp only [mload, M.lift]
    cases H.get id with
    | none => rfl
    | some b => rfl)
theorem g_loadr {n : Option Nat} {cells : List V} {off : Nat} : guarded [(0, .bool b)] (some (0, w)) (mload n (.rp cells off)) = guarded [(0, .bool b)] (some (0, w)) (M.lift (ldc n cells off)) := g_congr fun _ => rfl
theorem pick_gt {c : Bool} : Ax.pick (.bool b) (gv b true (.bool c)) (.bool false) = some (.bool (b && c)) := by cases b <;> rfl
theorem pick_gf {c : Bool} : Ax.pick (.bool b) (.bool true) (gv b false (.bool c)) = some (.bool (b || c)) := by cases b <;> rfl
end
def RG := And.intro @gv_tt <| And.intro @gv_ff <| And.intro @gv_tf <| And.intro @gv_ft <| And.intro @g_pgv <| And.intro @g_pure <| And.intro @g_lift <| And.intro @g_load <| And.intro @g_nilck <| And.intro @g_faddr <| And.intro @g_un <| And.intro @g_cint <| And.intro @g_vlen <| And.intro @g_slen <| And.intro @g_ext <| And.intro @g_field <| And.intro @g_bin1 <| And.intro @g_bin2 <| And.intro @g_eqr1 <| And.intro @g_eqr2 <| And.intro @g_iaddr1 <| And.intro @g_iaddr2 <| And.intro @g_loadp <| And.intro @g_loadr <| And.intro @pick_gt @pick_gf

end Go.Ax
/- DepW4 -/
set_option maxRecDepth 100000
set_option linter.unusedVariables false
set_option linter.unusedSimpArgs false
namespace Go.Ax.D9
open Go.Ax B6
theorem good_ex {f : Fr} {k : Sr} (h : good f k = true) : ∃ t, tmOf (hold f k) f.id = some t ∧ GoodT f (hold f k) t ∧ Fine (hold f k) := by
  obtain ⟨t, h1, h2⟩ := dec_iff.1 h
  exact ⟨t, h1, h2, tmOf_fine h1⟩

theorem owB_le {l : List Int} (h : ∀ x ∈ l, 1 ≤ x ∧ x ≤ 4096) : (owB l).length ≤ 14 * l.length + 2 := by
  unfold owB
  have := flat_le (fun d : Int => nb (wid d) 2 ++ nb (d - 1).toNat (4 * wid d)) (c := 14) l fun x hx => by
    have := wid_rng (h x hx).1 (h x hx).2
    rw [List.length_append, nb_length, nb_length]; omega
  rw [List.length_append, nb_length]; omega

set_option maxHeartbeats 3200000 in
theorem BytesD_ok {H : Heap} {v w : V} {f : Fr} {k : Sr} (hf : FrR 0 H v f) (hk : SrR 0 H w k) (fo : FrO f) (ko : SrO k) :
    Ok (sem T fn_depend_Bytes [v, w]) H fun r H' => (if good f k = true then ∃ x l, r = .tup [x, .int .i64 0] ∧ Pk (frB f k).length l (frB f k) ∧ By 0 H' x l else r = .tup [.nils, .int .i64 1]) ∧ Grow H H' := by
  have hnum := fo.num
  have hact := fo.act
  obtain ⟨a, b, c, d, e, g, rfl, hf⟩ := hf
  obtain ⟨p, q, r, rfl, hk⟩ := hk
  obtain ⟨ca, cb, cc, cd, ce, cg⟩ := fr_dti hf
  have kts := hk.ts.cel
  have kpr := hk.pro.cel
  have ksi := hk.siz.cel
  refine ok_depend_Bytes ?_
  unfold f_depend_Bytes
  unfold fcells scells
  simp (maxSteps := 1000000) (disch := first | omega | (simp only [RY] <;> omega) | decide) only [↓RD, RZ, eq_self, Int.reduceToNat, Int.reduceAdd, Int.reduceSub, Int.reduceMul, Nat.reduceAdd, Nat.reduceSub, Nat.reduceMul, Nat.reduceDiv, Nat.reduceMod, Nat.reduceBEq, Nat.reduceLeDiff, ca.1, ca.2, cb.1, cb.2, cc.1, cc.2, cd.1, cd.2, ce.1, ce.2, cg.1, cg.2, kts.1, kts.2, kpr.1, kpr.2, ksi.1, ksi.2]
  generalize hH1 : Heap.new (Heap.new H _) _ = H1
  have s1 : Grow H H1 := by rw [← hH1]; exact (Grow.new _ _).trans (Grow.new _ _)
  have n1 : H1.next = H.next + 2 := by rw [← hH1]; rfl
  have f1 : H1.get H.next = some ⟨ty_depend_Frame, fcells f a b c d e g, none⟩ := by rw [← hH1]; unfold fcells; simp (maxSteps := 1000000) (disch := first | omega | (simp only [RY] <;> omega) | decide) only [↓RD, RZ, eq_self, Int.reduceToNat, Int.reduceAdd, Int.reduceSub, Int.reduceMul, Nat.reduceAdd, Nat.reduceSub, Nat.reduceMul, Nat.reduceDiv, Nat.reduceMod, Nat.reduceBEq, Nat.reduceLeDiff]
  have y1 : H1.get (H.next + 1) = some ⟨ty_depend_Structure, [.int .i64 k.off, .int .i64 k.tar, p, .int .i64 k.cha, q, r], none⟩ := by rw [← hH1]; simp (maxSteps := 1000000) (disch := first | omega | (simp only [RY] <;> omega) | decide) only [↓RD, RZ, eq_self, Int.reduceToNat, Int.reduceAdd, Int.reduceSub, Int.reduceMul, Nat.reduceAdd, Nat.reduceSub, Nat.reduceMul, Nat.reduceDiv, Nat.reduceMod, Nat.reduceBEq, Nat.reduceLeDiff]
  clear hH1
  unfold fcells at f1
  refine ok_bind' (Good_ok (hf.ext s1).val (hk.ext s1).val fo ko) ?_
  rintro _ H2 ⟨rfl, s2⟩
  have n2 := s2.next
  have f2 : H2.get H.next = _ := (s2.same _ (by omega)).trans f1
  have y2 : H2.get (H.next + 1) = _ := (s2.same _ (by omega)).trans y1
  have s12 := s1.trans s2
  cases hg : good f k with
  | false =>
    simp (maxSteps := 1000000) (disch := first | omega | (simp only [RY] <;> omega) | decide) only [↓RD, RZ, eq_self, Int.reduceToNat, Int.reduceAdd, Int.reduceSub, Int.reduceMul, Nat.reduceAdd, Nat.reduceSub, Nat.reduceMul, Nat.reduceDiv, Nat.reduceMod, Nat.reduceBEq, Nat.reduceLeDiff]
    exact s12
  | true =>
  have hid := good_id hg
  obtain ⟨t, htm, hgt, hF⟩ := good_ex hg
  have htar := hF.tar
  have hcha := hF.cha
  simp (maxSteps := 1000000) (disch := first | omega | (simp only [RY] <;> omega) | decide) only [↓RD, RZ, eq_self, Int.reduceToNat, Int.reduceAdd, Int.reduceSub, Int.reduceMul, Nat.reduceAdd, Nat.reduceSub, Nat.reduceMul, Nat.reduceDiv, Nat.reduceMod, Nat.reduceBEq, Nat.reduceLeDiff]
  refine ok_bind' wk_new ?_
  rintro _ H3 ⟨rfl, k3⟩
  have s3 := k3.gr
  have n3 := s3.next
  have f3 : H3.get H.next = _ := (s3.same _ (by omega)).trans f2
  simp (maxSteps := 1000000) (disch := first | omega | (simp only [RY] <;> omega) | decide) only [↓RD, RZ, eq_self, Int.reduceToNat, Int.reduceAdd, Int.reduceSub, Int.reduceMul, Nat.reduceAdd, Nat.reduceSub, Nat.reduceMul, Nat.reduceDiv, Nat.reduceMod, Nat.reduceBEq, Nat.reduceLeDiff, f3]
  generalize hH4 : Heap.set _ _ _ = H4
  have s4 : Grow H3 H4 := by rw [← hH4]; exact (Grow.new _ _).set (by omega) _
  have n4 : H4.next = H3.next + 1 := by rw [← hH4]; rfl
  have g4 : H4.get H3.next = some ⟨ty_depend_writer, [.ptr H2.next 0], none⟩ := by rw [← hH4]; simp (maxSteps := 1000000) (disch := first | omega | (simp only [RY] <;> omega) | decide) only [↓RD, RZ, eq_self, Int.reduceToNat, Int.reduceAdd, Int.reduceSub, Int.reduceMul, Nat.reduceAdd, Nat.reduceSub, Nat.reduceMul, Nat.reduceDiv, Nat.reduceMod, Nat.reduceBEq, Nat.reduceLeDiff]
  clear hH4
  have k4 := k3.add s4 (Nat.le_refl _) (by omega) g4
  have em : f.num % 9223372036854775808 = f.num := by omega
  have get : ∀ {H' : Heap} {ks : List (Nat × Blk)} {bits : List Bool}, Wk (WR H2.next) H2 ks H' bits → H'.get H.next = some ⟨ty_depend_Frame, [.bool f.st, .bool f.en, .int .i64 f.id, .int .u16 f.num, .bool f.new, .int .i64 f.s.off, .int .i64 f.s.tar, a, .int .i64 f.s.cha, b, c, .bool f.has, .int .u32 f.act, .bool f.od, .bool f.of', .bool f.oc, d, e, g], none⟩ := fun k => (k.gr.same _ (by omega)).trans f2
  have gety : ∀ {H' : Heap} {ks : List (Nat × Blk)} {bits : List Bool}, Wk (WR H2.next) H2 ks H' bits → H'.get (H.next + 1) = _ := fun k => (k.gr.same _ (by omega)).trans y2
  refine ok_bind' (bit_ok k4 f.st (by simp)) ?_
  rintro _ H5 k5
  simp (maxSteps := 1000000) (disch := first | omega | (simp only [RY] <;> omega) | decide) only [↓RD, RZ, eq_self, Int.reduceToNat, Int.reduceAdd, Int.reduceSub, Int.reduceMul, Nat.reduceAdd, Nat.reduceSub, Nat.reduceMul, Nat.reduceDiv, Nat.reduceMod, Nat.reduceBEq, Nat.reduceLeDiff, get k5, k5.get]
  refine ok_bind' (bit_ok k5 f.en (by simp)) ?_
  rintro _ H6 k6
  simp (maxSteps := 1000000) (disch := first | omega | (simp only [RY] <;> omega) | decide) only [↓RD, RZ, eq_self, Int.reduceToNat, Int.reduceAdd, Int.reduceSub, Int.reduceMul, Nat.reduceAdd, Nat.reduceSub, Nat.reduceMul, Nat.reduceDiv, Nat.reduceMod, Nat.reduceBEq, Nat.reduceLeDiff, get k6, k6.get]
  refine ok_bind' (num_ok k6 f.id 6 (by omega) (by omega) (by omega) (by simp)) ?_
  rintro _ H7 k7
  simp (maxSteps := 1000000) (disch := first | omega | (simp only [RY] <;> omega) | decide) only [↓RD, RZ, eq_self, Int.reduceToNat, Int.reduceAdd, Int.reduceSub, Int.reduceMul, Nat.reduceAdd, Nat.reduceSub, Nat.reduceMul, Nat.reduceDiv, Nat.reduceMod, Nat.reduceBEq, Nat.reduceLeDiff, get k7, k7.get]
  refine ok_bind' (num_ok k7 (f.num : Nat) 16 (by omega) (by omega) (by omega) (by simp [nb_length])) ?_
  rintro _ H8 k8
  have e1 : [] ++ [f.st] ++ [f.en] ++ nb f.id.toNat 6 ++ nb ((f.num : Nat) : Int).toNat 16 = headB f := by
    unfold headB; rw [Int.toNat_natCast]; rfl
  rw [e1] at k8
  have hhl := headB_len f
  by_cases hsh : f.new = false ∧ f.has = false ∧ f.od = false ∧ f.of' = false ∧ f.oc = false
  · obtain ⟨h1, h2, h3, h4, h5⟩ := hsh
    simp (maxSteps := 1000000) (disch := first | omega | (simp only [RY] <;> omega) | decide) only [↓RD, RZ, eq_self, Int.reduceToNat, Int.reduceAdd, Int.reduceSub, Int.reduceMul, Nat.reduceAdd, Nat.reduceSub, Nat.reduceMul, Nat.reduceDiv, Nat.reduceMod, Nat.reduceBEq, Nat.reduceLeDiff, get k8, k8.get, h1, h2, h3, h4, h5]
    refine ok_bind' (wk_bytes k8 (by omega)) ?_
    rintro x H9 ⟨⟨l, hp, hb⟩, s9⟩
    simp (maxSteps := 1000000) (disch := first | omega | (simp only [RY] <;> omega) | decide) only [↓RD, RZ, eq_self, Int.reduceToNat, Int.reduceAdd, Int.reduceSub, Int.reduceMul, Nat.reduceAdd, Nat.reduceSub, Nat.reduceMul, Nat.reduceDiv, Nat.reduceMod, Nat.reduceBEq, Nat.reduceLeDiff]
    have : frB f k = headB f := by unfold frB; rw [if_pos ⟨h1, h2, h3, h4, h5⟩]
    rw [this]
    exact ⟨⟨x, l, rfl, hp, hb⟩, (s12.trans k8.gr).trans s9⟩
  · have hfr : frB f k = headB f ++ flagsB f ++ (if f.new = true then strB f.s else []) ++ (if f.has = true then nb f.act (hold f k).tar.toNat else []) ++ (if f.od = true then numsB 2 f.dti else []) ++ (if f.of' = true then owB f.dif else []) ++ (if f.oc = true then numsB 8 f.cha else []) := by
      unfold frB; rw [if_neg hsh]
    have g8 := get k8
    simp (maxSteps := 1000000) (disch := first | omega | (simp only [RY] <;> omega) | decide) only [↓RD, RZ, eq_self, Int.reduceToNat, Int.reduceAdd, Int.reduceSub, Int.reduceMul, Nat.reduceAdd, Nat.reduceSub, Nat.reduceMul, Nat.reduceDiv, Nat.reduceMod, Nat.reduceBEq, Nat.reduceLeDiff, RG, g8]
    refine ok_ite (fun h => ?_) fun _ => ?_
    · exfalso
      simp only [Bool.and_eq_true, Bool.not_eq_true'] at h
      exact hsh ⟨h.1.1.1.1, h.1.1.1.2, h.1.1.2, h.1.2, h.2⟩
    · simp (maxSteps := 1000000) (disch := first | omega | (simp only [RY] <;> omega) | decide) only [↓RD, RZ, eq_self, Int.reduceToNat, Int.reduceAdd, Int.reduceSub, Int.reduceMul, Nat.reduceAdd, Nat.reduceSub, Nat.reduceMul, Nat.reduceDiv, Nat.reduceMod, Nat.reduceBEq, Nat.reduceLeDiff, g8]
      have k9 := k8.new ⟨ty_bool, [.bool f.new, .bool f.has, .bool f.od, .bool f.of', .bool f.oc], none⟩
      generalize Heap.new H8 _ = H9 at *
      have hlt8 := k8.lt
      have s8n := k8.gr.next
      refine ok_loop (fun j L H' => L = [.int .i64 (j : Nat)] ∧ Wk (WR H2.next) H2 [(H8.next, ⟨ty_bool, [.bool f.new, .bool f.has, .bool f.od, .bool f.of', .bool f.oc], none⟩), (H3.next, ⟨ty_depend_writer, [.ptr H2.next 0], none⟩)] H' (headB f ++ (flagsB f).take j)) 5 ?_ ?_ ?_
      · exact ⟨rfl, by simpa using k9⟩
      · rintro j L H10 hj ⟨rfl, k10⟩
        obtain ⟨g10, -⟩ := k10.get2 (x := (H3.next, ⟨ty_depend_writer, [.ptr H2.next 0], none⟩)) (by simp)
        dsimp only at g10
        have c10 := k10.get
        have hbl : (headB f ++ (flagsB f).take j).length < 549755813888 := by
          rw [List.length_append, hhl, List.length_take]; omega
        unfold f_depend_Bytes_0
        rcases (show j = 0 ∨ j = 1 ∨ j = 2 ∨ j = 3 ∨ j = 4 by omega) with rfl | rfl | rfl | rfl | rfl
        all_goals
          simp (maxSteps := 1000000) (disch := first | omega | (simp only [RY] <;> omega) | decide) only [↓RD, RZ, eq_self, Int.reduceToNat, Int.reduceAdd, Int.reduceSub, Int.reduceMul, Nat.reduceAdd, Nat.reduceSub, Nat.reduceMul, Nat.reduceDiv, Nat.reduceMod, Nat.reduceBEq, Nat.reduceLeDiff, c10, g10]
          refine ok_bind' (bit_ok k10 _ hbl) ?_
          rintro _ H11 k11
          simp (maxSteps := 1000000) (disch := first | omega | (simp only [RY] <;> omega) | decide) only [↓RD, RZ, eq_self, Int.reduceToNat, Int.reduceAdd, Int.reduceSub, Int.reduceMul, Nat.reduceAdd, Nat.reduceSub, Nat.reduceMul, Nat.reduceDiv, Nat.reduceMod, Nat.reduceBEq, Nat.reduceLeDiff]
          refine ⟨by rfl, ?_⟩
          rw [List.append_assoc] at k11
          exact k11
      · rintro L H10 ⟨rfl, k10⟩
        have k10 := k10.drop
        have e5 : (flagsB f).take 5 = flagsB f := rfl
        rw [e5] at k10
        have g10 := get k10
        unfold f_depend_Bytes_0
        simp (maxSteps := 1000000) (disch := first | omega | (simp only [RY] <;> omega) | decide) only [↓RD, RZ, eq_self, Int.reduceToNat, Int.reduceAdd, Int.reduceSub, Int.reduceMul, Nat.reduceAdd, Nat.reduceSub, Nat.reduceMul, Nat.reduceDiv, Nat.reduceMod, Nat.reduceBEq, Nat.reduceLeDiff, g10]
        have hbl : (headB f ++ flagsB f).length = 29 := by rw [List.length_append, hhl]; rfl
        -- the structure
        refine ok_mono (Q := fun r H' => r = .nrm [] ∧ Wk (WR H2.next) H2 [(H3.next, ⟨ty_depend_writer, [.ptr H2.next 0], none⟩)] H' (headB f ++ flagsB f ++ (if f.new = true then strB f.s else [])) ∧ (if f.new = true then strB f.s else []).length ≤ 100000) ?_ ?_
        · refine ok_ite (fun hd => ?_) fun hd => ?_
          · have hh : hold f k = f.s := by unfold hold; rw [if_pos hd]
            rw [hh] at hF
            rw [if_pos hd]
            simp (maxSteps := 1000000) (disch := first | omega | (simp only [RY] <;> omega) | decide) only [↓RD, RZ, eq_self, Int.reduceToNat, Int.reduceAdd, Int.reduceSub, Int.reduceMul, Nat.reduceAdd, Nat.reduceSub, Nat.reduceMul, Nat.reduceDiv, Nat.reduceMod, Nat.reduceBEq, Nat.reduceLeDiff, k10.get, g10]
            refine ok_bind' (wstructure_ok k10 (s := f.s) (hf.s.ext s12) hF (by omega)) ?_
            rintro _ H11 k11
            simp (maxSteps := 1000000) (disch := first | omega | (simp only [RY] <;> omega) | decide) only [↓RD, RZ, eq_self, Int.reduceToNat, Int.reduceAdd, Int.reduceSub, Int.reduceMul, Nat.reduceAdd, Nat.reduceSub, Nat.reduceMul, Nat.reduceDiv, Nat.reduceMod, Nat.reduceBEq, Nat.reduceLeDiff]
            exact ⟨k11, strB_le hF⟩
          · rw [if_neg (by rw [hd]; decide), List.append_nil]
            simp (maxSteps := 1000000) (disch := first | omega | (simp only [RY] <;> omega) | decide) only [↓RD, RZ, eq_self, Int.reduceToNat, Int.reduceAdd, Int.reduceSub, Int.reduceMul, Nat.reduceAdd, Nat.reduceSub, Nat.reduceMul, Nat.reduceDiv, Nat.reduceMod, Nat.reduceBEq, Nat.reduceLeDiff]
            first | exact ⟨k10, by simp⟩ | exact k10
        · rintro _ H11 ⟨rfl, k11, l11⟩
          have g11 := get k11
          have y11 := gety k11
          simp (maxSteps := 1000000) (disch := first | omega | (simp only [RY] <;> omega) | decide) only [↓RD, RZ, eq_self, Int.reduceToNat, Int.reduceAdd, Int.reduceSub, Int.reduceMul, Nat.reduceAdd, Nat.reduceSub, Nat.reduceMul, Nat.reduceDiv, Nat.reduceMod, Nat.reduceBEq, Nat.reduceLeDiff, g11]
          generalize (if f.new = true then strB f.s else []) = b1 at *
          refine ok_mono (Q := fun r H' => r = .nrm [] ∧ Wk (WR H2.next) H2 [(H3.next, ⟨ty_depend_writer, [.ptr H2.next 0], none⟩)] H' (headB f ++ flagsB f ++ b1 ++ (if f.has = true then nb f.act (hold f k).tar.toNat else [])) ∧ (if f.has = true then nb f.act (hold f k).tar.toNat else []).length ≤ 64) ?_ ?_
          · refine ok_ite (fun hd => ?_) fun hd => ?_
            · rw [if_pos hd]
              have sg : Grow H H11 := s12.trans k11.gr
              obtain ⟨tn, htn⟩ := Int.eq_ofNat_of_zero_le (show 0 ≤ (hold f k).tar by omega)
              have hb := hgt.b
              rw [htn, Int.toNat_natCast] at hb ⊢
              have ma : f.act % 9223372036854775808 = f.act := by omega
              have wa : IntKind.i64.wrap (f.act : Int) = (f.act : Int) := wrap_i64 (by omega) (by omega)
              simp (maxSteps := 1000000) (disch := first | omega | (simp only [RY] <;> omega) | decide) only [↓RD, RZ, eq_self, Int.reduceToNat, Int.reduceAdd, Int.reduceSub, Int.reduceMul, Nat.reduceAdd, Nat.reduceSub, Nat.reduceMul, Nat.reduceDiv, Nat.reduceMod, Nat.reduceBEq, Nat.reduceLeDiff, k11.get, g11, y11, wa]
              refine ok_bind' (hold_ok (f := f) (k := k) (hf.ext sg) (hk.ext sg)) ?_
              rintro _ H12 ⟨⟨x, y, z, rfl, -⟩, s12'⟩
              have k12 := k11.grow s12'
              have g12 := get k12
              unfold scells
              simp (maxSteps := 1000000) (disch := first | omega | (simp only [RY] <;> omega) | decide) only [↓RD, RZ, eq_self, Int.reduceToNat, Int.reduceAdd, Int.reduceSub, Int.reduceMul, Nat.reduceAdd, Nat.reduceSub, Nat.reduceMul, Nat.reduceDiv, Nat.reduceMod, Nat.reduceBEq, Nat.reduceLeDiff, k11.get, k12.get, g11, g12, htn]
              refine ok_bind' (num_ok k12 (f.act : Nat) tn (by omega) (by rw [Int.toNat_natCast]; exact hb) (by omega) (by simp only [List.length_append] at hbl ⊢; omega)) ?_
              rintro _ H13 k13
              simp (maxSteps := 1000000) (disch := first | omega | (simp only [RY] <;> omega) | decide) only [↓RD, RZ, eq_self, Int.reduceToNat, Int.reduceAdd, Int.reduceSub, Int.reduceMul, Nat.reduceAdd, Nat.reduceSub, Nat.reduceMul, Nat.reduceDiv, Nat.reduceMod, Nat.reduceBEq, Nat.reduceLeDiff]
              rw [Int.toNat_natCast] at k13
              exact ⟨k13, by rw [nb_length]; omega⟩
            · rw [if_neg (by rw [hd]; decide), List.append_nil]
              simp (maxSteps := 1000000) (disch := first | omega | (simp only [RY] <;> omega) | decide) only [↓RD, RZ, eq_self, Int.reduceToNat, Int.reduceAdd, Int.reduceSub, Int.reduceMul, Nat.reduceAdd, Nat.reduceSub, Nat.reduceMul, Nat.reduceDiv, Nat.reduceMod, Nat.reduceBEq, Nat.reduceLeDiff]
              first | exact ⟨k11, by simp⟩ | exact k11
          · rintro _ H12 ⟨rfl, k12, l12⟩
            have g12 := get k12
            simp (maxSteps := 1000000) (disch := first | omega | (simp only [RY] <;> omega) | decide) only [↓RD, RZ, eq_self, Int.reduceToNat, Int.reduceAdd, Int.reduceSub, Int.reduceMul, Nat.reduceAdd, Nat.reduceSub, Nat.reduceMul, Nat.reduceDiv, Nat.reduceMod, Nat.reduceBEq, Nat.reduceLeDiff, g12]
            generalize (if f.has = true then nb f.act (hold f k).tar.toNat else []) = b2 at *
            have gd := hgt.d
            have ge := hgt.e
            have gc := hgt.c
            refine ok_mono (Q := fun r H' => r = .nrm [] ∧ Wk (WR H2.next) H2 [(H3.next, ⟨ty_depend_writer, [.ptr H2.next 0], none⟩)] H' (headB f ++ flagsB f ++ b1 ++ b2 ++ (if f.od = true then numsB 2 f.dti else [])) ∧ (if f.od = true then numsB 2 f.dti else []).length ≤ 64) ?_ ?_
            · refine ok_ite (fun hd => ?_) fun hd => ?_
              · rw [if_pos hd] at gd ⊢
                have w := wi_iff.1 gd
                simp (maxSteps := 1000000) (disch := first | omega | (simp only [RY] <;> omega) | decide) only [↓RD, RZ, eq_self, Int.reduceToNat, Int.reduceAdd, Int.reduceSub, Int.reduceMul, Nat.reduceAdd, Nat.reduceSub, Nat.reduceMul, Nat.reduceDiv, Nat.reduceMod, Nat.reduceBEq, Nat.reduceLeDiff, k12.get, g12]
                refine ok_bind' (wnums_ok (n := 2) k12 (hf.dti.ext s12) (fun x hx => by have := w.2 x hx; omega) (by decide) (by simp only [List.length_append] at hbl ⊢; omega) (by omega)) ?_
                rintro _ H13 k13
                simp (maxSteps := 1000000) (disch := first | omega | (simp only [RY] <;> omega) | decide) only [↓RD, RZ, eq_self, Int.reduceToNat, Int.reduceAdd, Int.reduceSub, Int.reduceMul, Nat.reduceAdd, Nat.reduceSub, Nat.reduceMul, Nat.reduceDiv, Nat.reduceMod, Nat.reduceBEq, Nat.reduceLeDiff]
                have := flat_le (fun x : Int => nb x.toNat 2) (c := 2) f.dti fun x _ => by rw [nb_length]; omega
                exact ⟨k13, by unfold numsB; omega⟩
              · rw [if_neg (by rw [hd]; decide), List.append_nil]
                simp (maxSteps := 1000000) (disch := first | omega | (simp only [RY] <;> omega) | decide) only [↓RD, RZ, eq_self, Int.reduceToNat, Int.reduceAdd, Int.reduceSub, Int.reduceMul, Nat.reduceAdd, Nat.reduceSub, Nat.reduceMul, Nat.reduceDiv, Nat.reduceMod, Nat.reduceBEq, Nat.reduceLeDiff]
                first | exact ⟨k12, by simp⟩ | exact k12
            · rintro _ H13 ⟨rfl, k13, l13⟩
              have g13 := get k13
              simp (maxSteps := 1000000) (disch := first | omega | (simp only [RY] <;> omega) | decide) only [↓RD, RZ, eq_self, Int.reduceToNat, Int.reduceAdd, Int.reduceSub, Int.reduceMul, Nat.reduceAdd, Nat.reduceSub, Nat.reduceMul, Nat.reduceDiv, Nat.reduceMod, Nat.reduceBEq, Nat.reduceLeDiff, g13]
              generalize (if f.od = true then numsB 2 f.dti else []) = b3 at *
              refine ok_mono (Q := fun r H' => r = .nrm [] ∧ Wk (WR H2.next) H2 [(H3.next, ⟨ty_depend_writer, [.ptr H2.next 0], none⟩)] H' (headB f ++ flagsB f ++ b1 ++ b2 ++ b3 ++ (if f.of' = true then owB f.dif else [])) ∧ (if f.of' = true then owB f.dif else []).length ≤ 300) ?_ ?_
              · refine ok_ite (fun hd => ?_) fun hd => ?_
                · rw [if_pos hd] at ge ⊢
                  have w := di_iff.1 ge
                  simp (maxSteps := 1000000) (disch := first | omega | (simp only [RY] <;> omega) | decide) only [↓RD, RZ, eq_self, Int.reduceToNat, Int.reduceAdd, Int.reduceSub, Int.reduceMul, Nat.reduceAdd, Nat.reduceSub, Nat.reduceMul, Nat.reduceDiv, Nat.reduceMod, Nat.reduceBEq, Nat.reduceLeDiff, k13.get, g13]
                  refine ok_bind' (wown_ok k13 (hf.dif.ext s12) w.2 (by simp only [List.length_append] at hbl ⊢; omega) (by omega)) ?_
                  rintro _ H14 k14
                  simp (maxSteps := 1000000) (disch := first | omega | (simp only [RY] <;> omega) | decide) only [↓RD, RZ, eq_self, Int.reduceToNat, Int.reduceAdd, Int.reduceSub, Int.reduceMul, Nat.reduceAdd, Nat.reduceSub, Nat.reduceMul, Nat.reduceDiv, Nat.reduceMod, Nat.reduceBEq, Nat.reduceLeDiff]
                  have := owB_le w.2
                  exact ⟨k14, by omega⟩
                · rw [if_neg (by rw [hd]; decide), List.append_nil]
                  simp (maxSteps := 1000000) (disch := first | omega | (simp only [RY] <;> omega) | decide) only [↓RD, RZ, eq_self, Int.reduceToNat, Int.reduceAdd, Int.reduceSub, Int.reduceMul, Nat.reduceAdd, Nat.reduceSub, Nat.reduceMul, Nat.reduceDiv, Nat.reduceMod, Nat.reduceBEq, Nat.reduceLeDiff]
                  first | exact ⟨k13, by simp⟩ | exact k13
              · rintro _ H14 ⟨rfl, k14, l14⟩
                have g14 := get k14
                simp (maxSteps := 1000000) (disch := first | omega | (simp only [RY] <;> omega) | decide) only [↓RD, RZ, eq_self, Int.reduceToNat, Int.reduceAdd, Int.reduceSub, Int.reduceMul, Nat.reduceAdd, Nat.reduceSub, Nat.reduceMul, Nat.reduceDiv, Nat.reduceMod, Nat.reduceBEq, Nat.reduceLeDiff, g14]
                generalize (if f.of' = true then owB f.dif else []) = b4 at *
                refine ok_mono (Q := fun r H' => r = .nrm [] ∧ Wk (WR H2.next) H2 [(H3.next, ⟨ty_depend_writer, [.ptr H2.next 0], none⟩)] H' (frB f k) ∧ (frB f k).length ≤ 200000) ?_ ?_
                · rw [hfr]
                  refine ok_ite (fun hd => ?_) fun hd => ?_
                  · rw [if_pos hd] at gc ⊢
                    have w := wi_iff.1 gc
                    simp (maxSteps := 1000000) (disch := first | omega | (simp only [RY] <;> omega) | decide) only [↓RD, RZ, eq_self, Int.reduceToNat, Int.reduceAdd, Int.reduceSub, Int.reduceMul, Nat.reduceAdd, Nat.reduceSub, Nat.reduceMul, Nat.reduceDiv, Nat.reduceMod, Nat.reduceBEq, Nat.reduceLeDiff, k14.get, g14]
                    refine ok_bind' (wnums_ok (n := 8) k14 (hf.cha.ext s12) (fun x hx => by have := w.2 x hx; omega) (by decide) (by simp only [List.length_append] at hbl ⊢; omega) (by omega)) ?_
                    rintro _ H15 k15
                    simp (maxSteps := 1000000) (disch := first | omega | (simp only [RY] <;> omega) | decide) only [↓RD, RZ, eq_self, Int.reduceToNat, Int.reduceAdd, Int.reduceSub, Int.reduceMul, Nat.reduceAdd, Nat.reduceSub, Nat.reduceMul, Nat.reduceDiv, Nat.reduceMod, Nat.reduceBEq, Nat.reduceLeDiff]
                    have := flat_le (fun x : Int => nb x.toNat 8) (c := 8) f.cha fun x _ => by rw [nb_length]; omega
                    exact ⟨k15, by unfold numsB; simp only [List.length_append] at hbl ⊢; omega⟩
                  · rw [if_neg (by rw [hd]; decide), List.append_nil]
                    simp (maxSteps := 1000000) (disch := first | omega | (simp only [RY] <;> omega) | decide) only [↓RD, RZ, eq_self, Int.reduceToNat, Int.reduceAdd, Int.reduceSub, Int.reduceMul, Nat.reduceAdd, Nat.reduceSub, Nat.reduceMul, Nat.reduceDiv, Nat.reduceMod, Nat.reduceBEq, Nat.reduceLeDiff]
                    exact ⟨k14, by simp only [List.length_append] at hbl ⊢; omega⟩
                · rintro _ H15 ⟨rfl, k15, l15⟩
                  simp (maxSteps := 1000000) (disch := first | omega | (simp only [RY] <;> omega) | decide) only [↓RD, RZ, eq_self, Int.reduceToNat, Int.reduceAdd, Int.reduceSub, Int.reduceMul, Nat.reduceAdd, Nat.reduceSub, Nat.reduceMul, Nat.reduceDiv, Nat.reduceMod, Nat.reduceBEq, Nat.reduceLeDiff, k15.get]
                  refine ok_bind' (wk_bytes k15 (by omega)) ?_
                  rintro x H16 ⟨⟨l, hp, hb⟩, s16⟩
                  simp (maxSteps := 1000000) (disch := first | omega | (simp only [RY] <;> omega) | decide) only [↓RD, RZ, eq_self, Int.reduceToNat, Int.reduceAdd, Int.reduceSub, Int.reduceMul, Nat.reduceAdd, Nat.reduceSub, Nat.reduceMul, Nat.reduceDiv, Nat.reduceMod, Nat.reduceBEq, Nat.reduceLeDiff]
                  exact ⟨⟨x, l, rfl, hp, hb⟩, (s12.trans k15.gr).trans s16⟩

end Go.Ax.D9
/- DepW5 -/
set_option maxRecDepth 100000
set_option linter.unusedVariables false
set_option linter.unusedSimpArgs false
namespace Go.Ax.D9
open Go.Ax B6
section
variable {B H : Heap} {ks : List (Nat × Blk)} {w b3 : Nat} {bits : List Bool} {s : Sr} {a b c : V}
theorem dadd_ok (h : Wk (DR w) B ks H bits) (v n : Nat) (hv : v < 2 ^ n) (hn : n ≤ 63) (hl : bits.length < 549755813888) :
    Ok (sem T fn_palanquinref6_Writer_Add [.ptr w 0, .int .u64 (v : Nat), .int .i64 (n : Nat)]) H fun r H' => Wk (DR w) B ks H' (bits ++ nb v n) := by
  have hv63 := pow64 hv hn
  refine ok_mono (h.step (P := fun r => True) (bits' := bits ++ nb v n) fun F hF => ok_mono (RAdd_ok hF v (n : Nat) (by omega) hl (by omega)) ?_) fun r H' h => h.2
  rintro r H' ⟨F', -, h2, s⟩
  rw [addB_eq hv (by omega)] at h2
  exact ⟨F', trivial, h2, s⟩

theorem dns_ok' (h : Wk (DR w) B ks H bits) (v n : Nat) (h1 : 1 ≤ n) (hv : v < n) (hn : n ≤ 4294967296) (hl : bits.length < 549755813888) :
    Ok (sem T fn_palanquinref6_Writer_AddNS [.ptr w 0, .int .u64 (v : Nat), .int .u64 (n : Nat)]) H fun r H' => Wk (DR w) B ks H' (bits ++ nsB v n) := by
  refine ok_mono (h.step (P := fun r => True) (bits' := bits ++ nsB v n) fun F hF => ok_mono (RAddNS_ok hF v n (by omega) (by omega) hl) ?_) fun r H' h => h.2
  rintro r H' ⟨F', -, h2, s⟩
  rw [addNSB_eq h1 hv hn] at h2
  exact ⟨F', trivial, h2, s⟩

theorem one_eq (b : Bool) : sem T fn_palanquinref9_one [.bool b] = M.pure (.int .u64 (if b = true then 1 else 0)) := by
  refine pure_of_ok fun H => ?_
  refine ok_palanquinref9_one ?_
  unfold f_palanquinref9_one
  cases b <;> simp (maxSteps := 1000000) (disch := first | omega | (simp only [RY] <;> omega) | decide) only [↓RD, RZ, eq_self, Int.reduceToNat, Int.reduceAdd, Int.reduceSub, Int.reduceMul, Nat.reduceAdd, Nat.reduceSub, Nat.reduceMul, Nat.reduceDiv, Nat.reduceMod, Nat.reduceBEq, Nat.reduceLeDiff]
theorem dbit_ok (h : Wk (DR w) B ks H bits) (b : Bool) (hl : bits.length < 549755813888) :
    Ok (sem T fn_palanquinref6_Writer_Add [.ptr w 0, .int .u64 (if b = true then 1 else 0), .int .i64 1]) H fun r H' => Wk (DR w) B ks H' (bits ++ [b]) := by
  cases b with
  | true => exact dadd_ok h 1 1 (by decide) (by decide) hl
  | false => exact dadd_ok h 0 1 (by decide) (by decide) hl

/-- The structure's box. -/
abbrev dbx (b3 : Nat) (s : Sr) (a b c : V) : Nat × Blk := (b3, ⟨ty_palanquinref9_Structure, [.int .i64 s.off, .int .i64 s.tar, a, .int .i64 s.cha, b, c], none⟩)

theorem dwloop0_ok (h : Wk (DR w) B (dbx b3 s a b c :: ks) H bits) (hs : SrC 0 B s a b c) (hF : Fine s) (hl : bits.length < 500000000000)
    {Q : Res → Heap → Prop} (k : ∀ H', Wk (DR w) B (dbx b3 s a b c :: ks) H' (bits ++ lysB s.ts s.ts.length) → Q (.ex 0 []) H') :
    Ok (M.iter (f_palanquinref9_writes_0 (sem T) (.int .i64 (s.ts.length : Nat)) (.ptr b3 0) (.ptr w 0)) [.int .i64 0]) H Q := by
  have hlen := hF.len
  refine ok_loop (fun j L H' => L = [.int .i64 (j : Nat)] ∧ Wk (DR w) B (dbx b3 s a b c :: ks) H' (bits ++ lysB s.ts j)) s.ts.length ?_ ?_ ?_
  · exact ⟨rfl, by simpa [lysB] using h⟩
  · rintro j L H1 hj ⟨rfl, h1⟩
    have g3 := h1.get
    have hb := lys_le s.ts j
    unfold f_palanquinref9_writes_0
    rw [lys_succ, ← List.append_assoc]
    by_cases hj1 : j + 1 < s.ts.length
    · obtain ⟨m, hm, hm3⟩ := hF.nx hj1
      have eL : lyI s.ts j = (m : Nat) := by
        unfold lyI
        rw [if_pos hj1, getD_get (by omega : j < s.ts.length), getD_get hj1, hm]; rfl
      have hs1 := hs.ts.ext h1.gr
      obtain ⟨q, d, e, f, i1, l1, w1⟩ := hs1.at (i := j) (by omega)
      obtain ⟨q', d', e', f', i2, l2, w2⟩ := hs1.at (i := j + 1) hj1
      have l1a := (pl5 l1).2.2.2.2.2
      have l2a := (pl5 l2).2.2.2.2.2
      have r1 := hF.rng (List.getElem_mem (show j < s.ts.length by omega))
      have ej : ((j : Nat) : Int) + 1 = ((j + 1 : Nat) : Int) := rfl
      simp (maxSteps := 1000000) (disch := first | omega | (simp only [RY] <;> omega) | decide) only [↓RD, RZ, eq_self, Int.reduceToNat, Int.reduceAdd, Int.reduceSub, Int.reduceMul, Nat.reduceAdd, Nat.reduceSub, Nat.reduceMul, Nat.reduceDiv, Nat.reduceMod, Nat.reduceBEq, Nat.reduceLeDiff, g3, ej, i1, i2, l1a, l2a]
      refine ok_bind' (step_ok s.ts[j] s.ts[j + 1] d e f d' e' f' (by omega) (by omega) w1.dti.cel w1.dif.cel w1.cha.cel w2.dti.cel w2.dif.cel w2.cha.cel) ?_
      rintro _ H2 ⟨rfl, s2⟩
      have h2 := h1.grow s2
      rw [hm, eL, Int.toNat_natCast]
      unfold nxI
      have em : m % 18446744073709551616 = m := by omega
      simp (maxSteps := 1000000) (disch := first | omega | (simp only [RY] <;> omega) | decide) only [↓RD, RZ, eq_self, Int.reduceToNat, Int.reduceAdd, Int.reduceSub, Int.reduceMul, Nat.reduceAdd, Nat.reduceSub, Nat.reduceMul, Nat.reduceDiv, Nat.reduceMod, Nat.reduceBEq, Nat.reduceLeDiff, em]
      refine ok_bind' (dadd_ok h2 m 2 (by omega) (by omega) (by rw [List.length_append]; omega)) ?_
      rintro _ H3 h3
      simp (maxSteps := 1000000) (disch := first | omega | (simp only [RY] <;> omega) | decide) only [↓RD, RZ, eq_self, Int.reduceToNat, Int.reduceAdd, Int.reduceSub, Int.reduceMul, Nat.reduceAdd, Nat.reduceSub, Nat.reduceMul, Nat.reduceDiv, Nat.reduceMod, Nat.reduceBEq, Nat.reduceLeDiff]
      exact ⟨by rfl, h3⟩
    · have eL : lyI s.ts j = 3 := by unfold lyI; rw [if_neg hj1]
      simp (maxSteps := 1000000) (disch := first | omega | (simp only [RY] <;> omega) | decide) only [↓RD, RZ, eq_self, Int.reduceToNat, Int.reduceAdd, Int.reduceSub, Int.reduceMul, Nat.reduceAdd, Nat.reduceSub, Nat.reduceMul, Nat.reduceDiv, Nat.reduceMod, Nat.reduceBEq, Nat.reduceLeDiff, g3]
      rw [eL]
      refine ok_bind' (dadd_ok h1 3 2 (by decide) (by omega) (by rw [List.length_append]; omega)) ?_
      rintro _ H3 h3
      simp (maxSteps := 1000000) (disch := first | omega | (simp only [RY] <;> omega) | decide) only [↓RD, RZ, eq_self, Int.reduceToNat, Int.reduceAdd, Int.reduceSub, Int.reduceMul, Nat.reduceAdd, Nat.reduceSub, Nat.reduceMul, Nat.reduceDiv, Nat.reduceMod, Nat.reduceBEq, Nat.reduceLeDiff]
      exact ⟨by rfl, h3⟩
  · rintro L H1 ⟨rfl, h1⟩
    unfold f_palanquinref9_writes_0
    simp (maxSteps := 1000000) (disch := first | omega | (simp only [RY] <;> omega) | decide) only [↓RD, RZ, eq_self, Int.reduceToNat, Int.reduceAdd, Int.reduceSub, Int.reduceMul, Nat.reduceAdd, Nat.reduceSub, Nat.reduceMul, Nat.reduceDiv, Nat.reduceMod, Nat.reduceBEq, Nat.reduceLeDiff]
    exact k H1 h1

theorem dwloop2_ok (h : Wk (DR w) B (dbx b3 s a b c :: ks) H bits) (hs : SrC 0 B s a b c) (hF : Fine s) (hl : bits.length < 500000000000)
    {Q : Res → Heap → Prop} (k : ∀ H', Wk (DR w) B (dbx b3 s a b c :: ks) H' (bits ++ s.ts.flatMap (fun t => numsB 2 t.dti)) → Q (.ex 2 []) H') :
    Ok (M.iter (f_palanquinref9_writes_2 (sem T) (.int .i64 (s.ts.length : Nat)) (.ptr w 0) (.ptr b3 0)) [.int .i64 0]) H Q := by
  have hlen := hF.len
  have htar := hF.tar
  have hcha := hF.cha
  have hb : ∀ t ∈ s.ts, (numsB 2 t.dti).length ≤ 200 := fun t ht => by
    have f := fine_tms hF ht
    have := flat_le (fun x : Int => nb x.toNat 2) (c := 2) t.dti fun x _ => by rw [nb_length]; omega
    unfold numsB; omega
  refine ok_loop (fun j L H' => L = [.int .i64 (j : Nat)] ∧ Wk (DR w) B (dbx b3 s a b c :: ks) H' (bits ++ (s.ts.take j).flatMap (fun t => numsB 2 t.dti))) s.ts.length ?_ ?_ ?_
  · exact ⟨rfl, by simpa using h⟩
  · rintro j L H1 hj ⟨rfl, h1⟩
    have f := fine_tms hF (List.getElem_mem hj)
    have flen : (s.ts[j].dti.length : Int) = s.tar := f.1
    obtain ⟨q, d, e, g, i1, w1, l1⟩ := hs.ts.at2 hj
    have hbj := flat_take_k (fun t : Tm => numsB 2 t.dti) hb j
    unfold f_palanquinref9_writes_2
    simp (maxSteps := 1000000) (disch := first | omega | (simp only [RY] <;> omega) | decide) only [↓RD, RZ, eq_self, Int.reduceToNat, Int.reduceAdd, Int.reduceSub, Int.reduceMul, Nat.reduceAdd, Nat.reduceSub, Nat.reduceMul, Nat.reduceDiv, Nat.reduceMod, Nat.reduceBEq, Nat.reduceLeDiff]
    refine ok_loop (fun i L H' => L = [.int .i64 (i : Nat)] ∧ Wk (DR w) B (dbx b3 s a b c :: ks) H' (bits ++ (s.ts.take j).flatMap (fun t => numsB 2 t.dti) ++ numsB 2 (s.ts[j].dti.take i))) s.ts[j].dti.length ?_ ?_ ?_
    · exact ⟨rfl, by simpa [numsB] using h1⟩
    · rintro i L H3 hi ⟨rfl, h3⟩
      obtain ⟨p, i2, l2, -⟩ := il_at (w1.dti.ext h3.gr) (i := (i : Nat)) (by omega) (by omega)
      rw [Int.toNat_natCast, getD_get hi] at l2
      have r := f.2.1 _ (List.getElem_mem hi)
      have lp := l1 H3 h3.gr
      have lf := (pl5 lp).2.2.1
      have g3 := h3.get
      rw [← flen] at g3
      have hbi : (numsB 2 (s.ts[j].dti.take i)).length ≤ 2 * i := flat_take_k _ (fun x _ => by rw [nb_length]; omega) i
      have hlt : s.ts[j].dti.length ≤ 32 := by omega
      have e : numsB 2 (s.ts[j].dti.take (i + 1)) = numsB 2 (s.ts[j].dti.take i) ++ nb (s.ts[j].dti[i]).toNat 2 := flat_snoc _ hi
      obtain ⟨x, hx⟩ := Int.eq_ofNat_of_zero_le r.1
      rw [e, ← List.append_assoc, hx, Int.toNat_natCast]
      rw [hx] at r
      have mx : x % 18446744073709551616 = x := by omega
      unfold f_palanquinref9_writes_1
      simp (maxSteps := 1000000) (disch := first | omega | (simp only [RY] <;> omega) | decide) only [↓RD, RZ, eq_self, Int.reduceToNat, Int.reduceAdd, Int.reduceSub, Int.reduceMul, Nat.reduceAdd, Nat.reduceSub, Nat.reduceMul, Nat.reduceDiv, Nat.reduceMod, Nat.reduceBEq, Nat.reduceLeDiff, g3, i1, lp.fa, lf, i2, l2, hx, mx]
      refine ok_bind' (dadd_ok h3 x 2 (by omega) (by decide) (by rw [List.length_append, List.length_append]; omega)) ?_
      rintro _ H4 h4
      simp (maxSteps := 1000000) (disch := first | omega | (simp only [RY] <;> omega) | decide) only [↓RD, RZ, eq_self, Int.reduceToNat, Int.reduceAdd, Int.reduceSub, Int.reduceMul, Nat.reduceAdd, Nat.reduceSub, Nat.reduceMul, Nat.reduceDiv, Nat.reduceMod, Nat.reduceBEq, Nat.reduceLeDiff]
      exact ⟨by rfl, h4⟩
    · rintro L H3 ⟨rfl, h3⟩
      rw [List.take_length] at h3
      have g3 := h3.get
      rw [← flen] at g3
      unfold f_palanquinref9_writes_1
      simp (maxSteps := 1000000) (disch := first | omega | (simp only [RY] <;> omega) | decide) only [↓RD, RZ, eq_self, Int.reduceToNat, Int.reduceAdd, Int.reduceSub, Int.reduceMul, Nat.reduceAdd, Nat.reduceSub, Nat.reduceMul, Nat.reduceDiv, Nat.reduceMod, Nat.reduceBEq, Nat.reduceLeDiff, g3]
      refine ⟨by rfl, ?_⟩
      rw [flat_snoc _ hj, ← List.append_assoc]
      exact h3
  · rintro L H1 ⟨rfl, h1⟩
    rw [List.take_length] at h1
    unfold f_palanquinref9_writes_2
    simp (maxSteps := 1000000) (disch := first | omega | (simp only [RY] <;> omega) | decide) only [↓RD, RZ, eq_self, Int.reduceToNat, Int.reduceAdd, Int.reduceSub, Int.reduceMul, Nat.reduceAdd, Nat.reduceSub, Nat.reduceMul, Nat.reduceDiv, Nat.reduceMod, Nat.reduceBEq, Nat.reduceLeDiff]
    exact k H1 h1

theorem dwloop7_ok (h : Wk (DR w) B (dbx b3 s a b c :: ks) H bits) (hs : SrC 0 B s a b c) (hF : Fine s) (hl : bits.length < 500000000000)
    {Q : Res → Heap → Prop} (k : ∀ H', Wk (DR w) B (dbx b3 s a b c :: ks) H' (bits ++ s.ts.flatMap (fun t => numsB 4 t.cha)) → Q (.ex 12 []) H') :
    Ok (M.iter (f_palanquinref9_writes_7 (sem T) (.int .i64 (s.ts.length : Nat)) (.ptr w 0) (.ptr b3 0)) [.int .i64 0]) H Q := by
  have hlen := hF.len
  have htar := hF.tar
  have hcha := hF.cha
  have hb : ∀ t ∈ s.ts, (numsB 4 t.cha).length ≤ 200 := fun t ht => by
    have f := fine_tms hF ht
    have := flat_le (fun x : Int => nb x.toNat 4) (c := 4) t.cha fun x _ => by rw [nb_length]; omega
    unfold numsB; omega
  refine ok_loop (fun j L H' => L = [.int .i64 (j : Nat)] ∧ Wk (DR w) B (dbx b3 s a b c :: ks) H' (bits ++ (s.ts.take j).flatMap (fun t => numsB 4 t.cha))) s.ts.length ?_ ?_ ?_
  · exact ⟨rfl, by simpa using h⟩
  · rintro j L H1 hj ⟨rfl, h1⟩
    have f := fine_tms hF (List.getElem_mem hj)
    have flen : (s.ts[j].cha.length : Int) = s.cha := f.2.2.2.2.1
    obtain ⟨q, d, e, g, i1, w1, l1⟩ := hs.ts.at2 hj
    have hbj := flat_take_k (fun t : Tm => numsB 4 t.cha) hb j
    unfold f_palanquinref9_writes_7
    simp (maxSteps := 1000000) (disch := first | omega | (simp only [RY] <;> omega) | decide) only [↓RD, RZ, eq_self, Int.reduceToNat, Int.reduceAdd, Int.reduceSub, Int.reduceMul, Nat.reduceAdd, Nat.reduceSub, Nat.reduceMul, Nat.reduceDiv, Nat.reduceMod, Nat.reduceBEq, Nat.reduceLeDiff]
    refine ok_loop (fun i L H' => L = [.int .i64 (i : Nat)] ∧ Wk (DR w) B (dbx b3 s a b c :: ks) H' (bits ++ (s.ts.take j).flatMap (fun t => numsB 4 t.cha) ++ numsB 4 (s.ts[j].cha.take i))) s.ts[j].cha.length ?_ ?_ ?_
    · exact ⟨rfl, by simpa [numsB] using h1⟩
    · rintro i L H3 hi ⟨rfl, h3⟩
      obtain ⟨p, i2, l2, -⟩ := il_at (w1.cha.ext h3.gr) (i := (i : Nat)) (by omega) (by omega)
      rw [Int.toNat_natCast, getD_get hi] at l2
      have r := f.2.2.2.2.2 _ (List.getElem_mem hi)
      have lp := l1 H3 h3.gr
      have lf := (pl5 lp).2.2.2.2.1
      have g3 := h3.get
      rw [← flen] at g3
      have hbi : (numsB 4 (s.ts[j].cha.take i)).length ≤ 4 * i := flat_take_k _ (fun x _ => by rw [nb_length]; omega) i
      have hlt : s.ts[j].cha.length ≤ 32 := by omega
      have e : numsB 4 (s.ts[j].cha.take (i + 1)) = numsB 4 (s.ts[j].cha.take i) ++ nb (s.ts[j].cha[i]).toNat 4 := flat_snoc _ hi
      obtain ⟨x, hx⟩ := Int.eq_ofNat_of_zero_le r.1
      rw [e, ← List.append_assoc, hx, Int.toNat_natCast]
      rw [hx] at r
      have mx : x % 18446744073709551616 = x := by omega
      unfold f_palanquinref9_writes_6
      simp (maxSteps := 1000000) (disch := first | omega | (simp only [RY] <;> omega) | decide) only [↓RD, RZ, eq_self, Int.reduceToNat, Int.reduceAdd, Int.reduceSub, Int.reduceMul, Nat.reduceAdd, Nat.reduceSub, Nat.reduceMul, Nat.reduceDiv, Nat.reduceMod, Nat.reduceBEq, Nat.reduceLeDiff, g3, i1, lp.fa, lf, i2, l2, hx, mx]
      refine ok_bind' (dadd_ok h3 x 4 (by omega) (by decide) (by rw [List.length_append, List.length_append]; omega)) ?_
      rintro _ H4 h4
      simp (maxSteps := 1000000) (disch := first | omega | (simp only [RY] <;> omega) | decide) only [↓RD, RZ, eq_self, Int.reduceToNat, Int.reduceAdd, Int.reduceSub, Int.reduceMul, Nat.reduceAdd, Nat.reduceSub, Nat.reduceMul, Nat.reduceDiv, Nat.reduceMod, Nat.reduceBEq, Nat.reduceLeDiff]
      exact ⟨by rfl, h4⟩
    · rintro L H3 ⟨rfl, h3⟩
      rw [List.take_length] at h3
      have g3 := h3.get
      rw [← flen] at g3
      unfold f_palanquinref9_writes_6
      simp (maxSteps := 1000000) (disch := first | omega | (simp only [RY] <;> omega) | decide) only [↓RD, RZ, eq_self, Int.reduceToNat, Int.reduceAdd, Int.reduceSub, Int.reduceMul, Nat.reduceAdd, Nat.reduceSub, Nat.reduceMul, Nat.reduceDiv, Nat.reduceMod, Nat.reduceBEq, Nat.reduceLeDiff, g3]
      refine ⟨by rfl, ?_⟩
      rw [flat_snoc _ hj, ← List.append_assoc]
      exact h3
  · rintro L H1 ⟨rfl, h1⟩
    rw [List.take_length] at h1
    unfold f_palanquinref9_writes_7
    simp (maxSteps := 1000000) (disch := first | omega | (simp only [RY] <;> omega) | decide) only [↓RD, RZ, eq_self, Int.reduceToNat, Int.reduceAdd, Int.reduceSub, Int.reduceMul, Nat.reduceAdd, Nat.reduceSub, Nat.reduceMul, Nat.reduceDiv, Nat.reduceMod, Nat.reduceBEq, Nat.reduceLeDiff]
    exact k H1 h1

theorem dwloop4_ok (h : Wk (DR w) B (dbx b3 s a b c :: ks) H bits) (hs : SrC 0 B s a b c) (hF : Fine s) (hl : bits.length < 500000000000)
    {Q : Res → Heap → Prop} (k : ∀ H', Wk (DR w) B (dbx b3 s a b c :: ks) H' (bits ++ s.ts.flatMap (fun t => dfB t.dif ++ [false])) → Q (.ex 6 []) H') :
    Ok (M.iter (f_palanquinref9_writes_4 (sem T) (.int .i64 (s.ts.length : Nat)) (.ptr b3 0) (.ptr w 0)) [.int .i64 0]) H Q := by
  have hlen := hF.len
  have hb : ∀ t ∈ s.ts, (dfB t.dif ++ [false]).length ≤ 41 := fun t ht => by
    have f := fine_tms hF ht
    have := dfB_le (l := t.dif) t.dif.length
    rw [List.take_length] at this
    rw [List.length_append, List.length_singleton]; omega
  refine ok_loop (fun j L H' => L = [.int .i64 (j : Nat)] ∧ Wk (DR w) B (dbx b3 s a b c :: ks) H' (bits ++ (s.ts.take j).flatMap (fun t => dfB t.dif ++ [false]))) s.ts.length ?_ ?_ ?_
  · exact ⟨rfl, by simpa using h⟩
  · rintro j L H1 hj ⟨rfl, h1⟩
    have f := fine_tms hF (List.getElem_mem hj)
    obtain ⟨q, d, e, g, i1, w1, l1⟩ := hs.ts.at2 hj
    have hbj := flat_take_k (fun t : Tm => dfB t.dif ++ [false]) hb j
    unfold f_palanquinref9_writes_4
    simp (maxSteps := 1000000) (disch := first | omega | (simp only [RY] <;> omega) | decide) only [↓RD, RZ, eq_self, Int.reduceToNat, Int.reduceAdd, Int.reduceSub, Int.reduceMul, Nat.reduceAdd, Nat.reduceSub, Nat.reduceMul, Nat.reduceDiv, Nat.reduceMod, Nat.reduceBEq, Nat.reduceLeDiff]
    refine ok_loop (fun i L H' => L = [.int .i64 (i : Nat)] ∧ Wk (DR w) B (dbx b3 s a b c :: ks) H' (bits ++ (s.ts.take j).flatMap (fun t => dfB t.dif ++ [false]) ++ dfB (s.ts[j].dif.take i))) s.ts[j].dif.length ?_ ?_ ?_
    · exact ⟨rfl, by simpa [dfB] using h1⟩
    · rintro i L H3 hi ⟨rfl, h3⟩
      have r := f.2.2.2.1 _ (List.getElem_mem hi)
      have hbi := dfB_le (l := s.ts[j].dif) i
      have lp := l1 H3 h3.gr
      have lf := (pl5 lp).2.2.2.1
      have g3 := h3.get
      unfold f_palanquinref9_writes_3
      simp (maxSteps := 1000000) (disch := first | omega | (simp only [RY] <;> omega) | decide) only [↓RD, RZ, eq_self, Int.reduceToNat, Int.reduceAdd, Int.reduceSub, Int.reduceMul, Nat.reduceAdd, Nat.reduceSub, Nat.reduceMul, Nat.reduceDiv, Nat.reduceMod, Nat.reduceBEq, Nat.reduceLeDiff, g3, i1, lp.fa, lf, w1.dif.vlen]
      refine ok_bind' (dadd_ok h3 1 1 (by decide) (by decide) (by rw [List.length_append, List.length_append]; omega)) ?_
      rintro _ H4 h4
      obtain ⟨p, i2, l2, -⟩ := il_at (w1.dif.ext h4.gr) (i := (i : Nat)) (by omega) (by omega)
      rw [Int.toNat_natCast, getD_get hi] at l2
      have lp4 := l1 H4 h4.gr
      have lf4 := (pl5 lp4).2.2.2.1
      have g4 := h4.get
      have e : dfB (s.ts[j].dif.take (i + 1)) = dfB (s.ts[j].dif.take i) ++ (true :: nb (s.ts[j].dif[i] - 1).toNat 4) := flat_snoc _ hi
      obtain ⟨x, hx⟩ := Int.eq_ofNat_of_zero_le (show 0 ≤ s.ts[j].dif[i] - 1 by omega)
      have mx : x % 18446744073709551616 = x := by omega
      rw [e, hx, Int.toNat_natCast]
      simp (maxSteps := 1000000) (disch := first | omega | (simp only [RY] <;> omega) | decide) only [↓RD, RZ, eq_self, Int.reduceToNat, Int.reduceAdd, Int.reduceSub, Int.reduceMul, Nat.reduceAdd, Nat.reduceSub, Nat.reduceMul, Nat.reduceDiv, Nat.reduceMod, Nat.reduceBEq, Nat.reduceLeDiff, g4, i1, lp4.fa, lf4, i2, l2, hx, mx]
      refine ok_bind' (dadd_ok h4 x 4 (by omega) (by decide) (by simp only [List.length_append, nb_length]; omega)) ?_
      rintro _ H5 h5
      simp (maxSteps := 1000000) (disch := first | omega | (simp only [RY] <;> omega) | decide) only [↓RD, RZ, eq_self, Int.reduceToNat, Int.reduceAdd, Int.reduceSub, Int.reduceMul, Nat.reduceAdd, Nat.reduceSub, Nat.reduceMul, Nat.reduceDiv, Nat.reduceMod, Nat.reduceBEq, Nat.reduceLeDiff]
      refine ⟨by rfl, ?_⟩
      have : bits ++ (s.ts.take j).flatMap (fun t => dfB t.dif ++ [false]) ++ dfB (s.ts[j].dif.take i) ++ nb 1 1 ++ nb x 4 = bits ++ (s.ts.take j).flatMap (fun t => dfB t.dif ++ [false]) ++ (dfB (s.ts[j].dif.take i) ++ (true :: nb x 4)) := by simp [nb]
      rw [← this]
      exact h5
    · rintro L H3 ⟨rfl, h3⟩
      rw [List.take_length] at h3
      have hbi := dfB_le (l := s.ts[j].dif) s.ts[j].dif.length
      rw [List.take_length] at hbi
      have lp := l1 H3 h3.gr
      have lf := (pl5 lp).2.2.2.1
      have g3 := h3.get
      unfold f_palanquinref9_writes_3
      simp (maxSteps := 1000000) (disch := first | omega | (simp only [RY] <;> omega) | decide) only [↓RD, RZ, eq_self, Int.reduceToNat, Int.reduceAdd, Int.reduceSub, Int.reduceMul, Nat.reduceAdd, Nat.reduceSub, Nat.reduceMul, Nat.reduceDiv, Nat.reduceMod, Nat.reduceBEq, Nat.reduceLeDiff, g3, i1, lp.fa, lf, w1.dif.vlen]
      refine ok_bind' (dadd_ok h3 0 1 (by decide) (by decide) (by rw [List.length_append, List.length_append]; omega)) ?_
      rintro _ H4 h4
      simp (maxSteps := 1000000) (disch := first | omega | (simp only [RY] <;> omega) | decide) only [↓RD, RZ, eq_self, Int.reduceToNat, Int.reduceAdd, Int.reduceSub, Int.reduceMul, Nat.reduceAdd, Nat.reduceSub, Nat.reduceMul, Nat.reduceDiv, Nat.reduceMod, Nat.reduceBEq, Nat.reduceLeDiff]
      refine ⟨by rfl, ?_⟩
      rw [flat_snoc (fun t : Tm => dfB t.dif ++ [false]) hj]
      rw [← List.append_assoc, ← List.append_assoc]
      exact h4
  · rintro L H1 ⟨rfl, h1⟩
    rw [List.take_length] at h1
    unfold f_palanquinref9_writes_4
    simp (maxSteps := 1000000) (disch := first | omega | (simp only [RY] <;> omega) | decide) only [↓RD, RZ, eq_self, Int.reduceToNat, Int.reduceAdd, Int.reduceSub, Int.reduceMul, Nat.reduceAdd, Nat.reduceSub, Nat.reduceMul, Nat.reduceDiv, Nat.reduceMod, Nat.reduceBEq, Nat.reduceLeDiff]
    exact k H1 h1

theorem dwloop5_ok (h : Wk (DR w) B (dbx b3 s a b c :: ks) H bits) (hs : SrC 0 B s a b c) (hF : Fine s) (hc : 0 < s.cha) (hl : bits.length < 500000000000)
    {Q : Res → Heap → Prop} (k : ∀ H', Wk (DR w) B (dbx b3 s a b c :: ks) H' (bits ++ proB s.cha.toNat s.pro) → Q (.ex 10 []) H') :
    Ok (M.iter (f_palanquinref9_writes_5 (sem T) (.ptr w 0) (.ptr b3 0)) [.int .i64 0]) H Q := by
  have htar := hF.tar
  have hcha := hF.cha
  have hp := wi_iff.1 hF.pro
  rw [if_neg (by omega)] at hp
  obtain ⟨cn, hcn⟩ := Int.eq_ofNat_of_zero_le (show 0 ≤ s.cha by omega)
  have hb : ∀ x ∈ s.pro, (nsB x.toNat s.cha.toNat).length ≤ 33 := fun x hx => by
    have := hp.2 x hx
    exact nsB_le (by omega) (by omega) (by omega)
  refine ok_loop (fun j L H' => L = [.int .i64 (j : Nat)] ∧ Wk (DR w) B (dbx b3 s a b c :: ks) H' (bits ++ proB s.cha.toNat (s.pro.take j))) s.pro.length ?_ ?_ ?_
  · exact ⟨rfl, by simpa [proB] using h⟩
  · rintro j L H1 hj ⟨rfl, h1⟩
    have g3 := h1.get
    obtain ⟨p, i1, l1, -⟩ := il_at (hs.pro.ext h1.gr) (i := (j : Nat)) (by omega) (by omega)
    rw [Int.toNat_natCast, getD_get hj] at l1
    have r := hp.2 _ (List.getElem_mem hj)
    have hbj : (proB s.cha.toNat (s.pro.take j)).length ≤ 33 * j := flat_take_k _ hb j
    have e : proB s.cha.toNat (s.pro.take (j + 1)) = proB s.cha.toNat (s.pro.take j) ++ nsB s.pro[j].toNat s.cha.toNat := flat_snoc _ hj
    rw [e, ← List.append_assoc]
    rw [← hp.1, hcn] at g3
    rw [hcn] at r
    rw [hcn, Int.toNat_natCast] at h1 hbj ⊢
    obtain ⟨x, hx⟩ := Int.eq_ofNat_of_zero_le r.1
    have m1 : x % 18446744073709551616 = x := by omega
    have m2 : cn % 18446744073709551616 = cn := by omega
    unfold f_palanquinref9_writes_5
    simp (maxSteps := 1000000) (disch := first | omega | (simp only [RY] <;> omega) | decide) only [↓RD, RZ, eq_self, Int.reduceToNat, Int.reduceAdd, Int.reduceSub, Int.reduceMul, Nat.reduceAdd, Nat.reduceSub, Nat.reduceMul, Nat.reduceDiv, Nat.reduceMod, Nat.reduceBEq, Nat.reduceLeDiff, i1, l1, hx, g3, m1, m2]
    refine ok_bind' (dns_ok' (v := x) (n := cn) h1 (by omega) (by omega) (by omega) (by rw [List.length_append]; omega)) ?_
    rintro _ H2 h2
    simp (maxSteps := 1000000) (disch := first | omega | (simp only [RY] <;> omega) | decide) only [↓RD, RZ, eq_self, Int.reduceToNat, Int.reduceAdd, Int.reduceSub, Int.reduceMul, Nat.reduceAdd, Nat.reduceSub, Nat.reduceMul, Nat.reduceDiv, Nat.reduceMod, Nat.reduceBEq, Nat.reduceLeDiff]
    refine ⟨by rfl, ?_⟩
    rw [hx, Int.toNat_natCast]
    exact h2
  · rintro L H1 ⟨rfl, h1⟩
    rw [List.take_length] at h1
    have g3 := h1.get
    rw [← hp.1] at g3
    unfold f_palanquinref9_writes_5
    simp (maxSteps := 1000000) (disch := first | omega | (simp only [RY] <;> omega) | decide) only [↓RD, RZ, eq_self, Int.reduceToNat, Int.reduceAdd, Int.reduceSub, Int.reduceMul, Nat.reduceAdd, Nat.reduceSub, Nat.reduceMul, Nat.reduceDiv, Nat.reduceMod, Nat.reduceBEq, Nat.reduceLeDiff, g3]
    exact k H1 h1

theorem dwloop8_ok (h : Wk (DR w) B (dbx b3 s a b c :: ks) H bits) (hs : SrC 0 B s a b c) (hF : Fine s) (hl : bits.length < 500000000000)
    {Q : Res → Heap → Prop} (k : ∀ H', Wk (DR w) B (dbx b3 s a b c :: ks) H' (bits ++ szB s.siz) → Q (.ex 16 []) H') :
    Ok (M.iter (f_palanquinref9_writes_8 (sem T) (.ptr w 0) (.ptr b3 0)) [.int .i64 0]) H Q := by
  have hsl : s.siz.length ≤ 4 := by
    have t := top_max (ts := s.ts) fun t ht => ⟨(hF.rng ht).1, (hF.rng ht).2.1⟩
    have := hF.siz
    omega
  refine ok_loop (fun j L H' => L = [.int .i64 (j : Nat)] ∧ Wk (DR w) B (dbx b3 s a b c :: ks) H' (bits ++ szB (s.siz.take j))) s.siz.length ?_ ?_ ?_
  · exact ⟨rfl, by simpa [szB] using h⟩
  · rintro j L H1 hj ⟨rfl, h1⟩
    have g3 := h1.get
    obtain ⟨q, i1, l1⟩ := szs_at (hs.siz.ext h1.gr) hj
    have r := hF.szs _ (List.getElem_mem hj)
    have hbj : (szB (s.siz.take j)).length ≤ 32 * j := flat_take_k _ (fun x _ => by rw [List.length_append, nb_length, nb_length]; omega) j
    have e : szB (s.siz.take (j + 1)) = szB (s.siz.take j) ++ (nb (s.siz[j].1 - 1).toNat 16 ++ nb (s.siz[j].2 - 1).toNat 16) := flat_snoc _ hj
    rw [e, ← List.append_assoc, ← List.append_assoc]
    obtain ⟨x, hx⟩ := Int.eq_ofNat_of_zero_le (show 0 ≤ s.siz[j].1 - 1 by omega)
    obtain ⟨y, hy⟩ := Int.eq_ofNat_of_zero_le (show 0 ≤ s.siz[j].2 - 1 by omega)
    have mx : x % 18446744073709551616 = x := by omega
    have my : y % 18446744073709551616 = y := by omega
    rw [hx, hy, Int.toNat_natCast, Int.toNat_natCast]
    have a0 : ∀ {k : IntKind}, Ax.iaddr (some 2) 1 q (.int k 0) = some (fa q 0) := fun {k} => Pl.arr l1 (n := 2) (i := 0) (k := k) (by omega)
    have p0 := (pl2 l1).1
    unfold f_palanquinref9_writes_8
    simp (maxSteps := 1000000) (disch := first | omega | (simp only [RY] <;> omega) | decide) only [↓RD, RZ, eq_self, Int.reduceToNat, Int.reduceAdd, Int.reduceSub, Int.reduceMul, Nat.reduceAdd, Nat.reduceSub, Nat.reduceMul, Nat.reduceDiv, Nat.reduceMod, Nat.reduceBEq, Nat.reduceLeDiff, g3, hs.siz.vlen, i1, a0, p0, hx, mx]
    refine ok_bind' (dadd_ok h1 x 16 (by omega) (by decide) (by rw [List.length_append]; omega)) ?_
    rintro _ H3 h3
    obtain ⟨q', i1', l1'⟩ := szs_at (hs.siz.ext h3.gr) hj
    have a1 : ∀ {k : IntKind}, Ax.iaddr (some 2) 1 q' (.int k 1) = some (fa q' 1) := fun {k} => Pl.arr l1' (n := 2) (i := 1) (k := k) (by omega)
    have p1 := (pl2 l1').2.1
    have g3' := h3.get
    simp (maxSteps := 1000000) (disch := first | omega | (simp only [RY] <;> omega) | decide) only [↓RD, RZ, eq_self, Int.reduceToNat, Int.reduceAdd, Int.reduceSub, Int.reduceMul, Nat.reduceAdd, Nat.reduceSub, Nat.reduceMul, Nat.reduceDiv, Nat.reduceMod, Nat.reduceBEq, Nat.reduceLeDiff, g3', i1', a1, p1, hy, my]
    refine ok_bind' (dadd_ok h3 y 16 (by omega) (by decide) (by rw [List.length_append, List.length_append, nb_length]; omega)) ?_
    rintro _ H4 h4
    simp (maxSteps := 1000000) (disch := first | omega | (simp only [RY] <;> omega) | decide) only [↓RD, RZ, eq_self, Int.reduceToNat, Int.reduceAdd, Int.reduceSub, Int.reduceMul, Nat.reduceAdd, Nat.reduceSub, Nat.reduceMul, Nat.reduceDiv, Nat.reduceMod, Nat.reduceBEq, Nat.reduceLeDiff]
    exact ⟨by rfl, h4⟩
  · rintro L H1 ⟨rfl, h1⟩
    rw [List.take_length] at h1
    have g3 := h1.get
    unfold f_palanquinref9_writes_8
    simp (maxSteps := 1000000) (disch := first | omega | (simp only [RY] <;> omega) | decide) only [↓RD, RZ, eq_self, Int.reduceToNat, Int.reduceAdd, Int.reduceSub, Int.reduceMul, Nat.reduceAdd, Nat.reduceSub, Nat.reduceMul, Nat.reduceDiv, Nat.reduceMod, Nat.reduceBEq, Nat.reduceLeDiff, g3, hs.siz.vlen]
    exact k H1 h1

set_option maxHeartbeats 1600000 in
theorem dwrites_ok (h : Wk (DR w) B ks H bits) (hs : SrC 0 B s a b c) (hF : Fine s) (hl : bits.length < 400000000000) :
    Ok (sem T fn_palanquinref9_writes [.ptr w 0, .agg (scells s a b c)]) H fun r H' => Wk (DR w) B ks H' (bits ++ strB s) := by
  have ca := hs.ts.cel
  have cb := hs.pro.cel
  have cc := hs.siz.cel
  have hlen := hF.len
  have htar := hF.tar
  have hcha := hF.cha
  have hoff := hF.off
  have hbs := strB_le hF
  refine ok_palanquinref9_writes ?_
  unfold f_palanquinref9_writes
  unfold scells
  obtain ⟨on, hon⟩ := Int.eq_ofNat_of_zero_le (show 0 ≤ s.off by omega)
  obtain ⟨cn, hcn⟩ := Int.eq_ofNat_of_zero_le (show 0 ≤ s.cha by omega)
  obtain ⟨tn, htn⟩ := Int.eq_ofNat_of_zero_le (show 0 ≤ s.tar - 1 by omega)
  have htn1 : s.tar + 1 = ((tn + 2 : Nat) : Int) := by omega
  have mo : on % 18446744073709551616 = on := by omega
  have mc : cn % 18446744073709551616 = cn := by omega
  have mt : tn % 18446744073709551616 = tn := by omega
  have mt2 : (tn + 2) % 18446744073709551616 = tn + 2 := by omega
  have m5 : IntKind.u64.wrap ((tn + 2 : Nat) : Int) = ((tn + 2 : Nat) : Int) := wrapin_u64 (by omega) (by omega)
  have mo' : IntKind.u64.wrap s.off = ((on : Nat) : Int) := by rw [hon]; exact wrapin_u64 (by omega) (by omega)
  have mc' : IntKind.u64.wrap s.cha = ((cn : Nat) : Int) := by rw [hcn]; exact wrapin_u64 (by omega) (by omega)
  simp (maxSteps := 1000000) (disch := first | omega | (simp only [RY] <;> omega) | decide) only [↓RD, RZ, eq_self, Int.reduceToNat, Int.reduceAdd, Int.reduceSub, Int.reduceMul, Nat.reduceAdd, Nat.reduceSub, Nat.reduceMul, Nat.reduceDiv, Nat.reduceMod, Nat.reduceBEq, Nat.reduceLeDiff, ca.1, ca.2, cb.1, cb.2, cc.1, cc.2, hs.ts.vlen, mo']
  have h1 := h.new ⟨ty_palanquinref9_Structure, [.int .i64 s.off, .int .i64 s.tar, a, .int .i64 s.cha, b, c], none⟩
  have h1 : Wk (DR w) B (dbx H.next s a b c :: ks) (H.new ⟨ty_palanquinref9_Structure, [.int .i64 s.off, .int .i64 s.tar, a, .int .i64 s.cha, b, c], none⟩) bits := h1
  generalize Heap.new H _ = H1 at *
  refine ok_bind' (dadd_ok h1 on 6 (by omega) (by decide) (by omega)) ?_
  rintro _ H2 h2
  simp (maxSteps := 1000000) (disch := first | omega | (simp only [RY] <;> omega) | decide) only [↓RD, RZ, eq_self, Int.reduceToNat, Int.reduceAdd, Int.reduceSub, Int.reduceMul, Nat.reduceAdd, Nat.reduceSub, Nat.reduceMul, Nat.reduceDiv, Nat.reduceMod, Nat.reduceBEq, Nat.reduceLeDiff, h2.get, htn, mt]
  refine ok_bind' (dadd_ok h2 tn 5 (by omega) (by decide) (by rw [List.length_append, nb_length]; omega)) ?_
  rintro _ H3 h3
  have e2 : bits ++ nb on 6 ++ nb tn 5 = bits ++ nb s.off.toNat 6 ++ nb (s.tar - 1).toNat 5 := by rw [hon, htn, Int.toNat_natCast, Int.toNat_natCast]
  rw [e2] at h3
  simp (maxSteps := 1000000) (disch := first | omega | (simp only [RY] <;> omega) | decide) only [↓RD, RZ, eq_self, Int.reduceToNat, Int.reduceAdd, Int.reduceSub, Int.reduceMul, Nat.reduceAdd, Nat.reduceSub, Nat.reduceMul, Nat.reduceDiv, Nat.reduceMod, Nat.reduceBEq, Nat.reduceLeDiff]
  refine dwloop0_ok h3 hs hF (by rw [List.length_append, List.length_append, nb_length, nb_length]; omega) fun H4 h4 => ?_
  simp (maxSteps := 1000000) (disch := first | omega | (simp only [RY] <;> omega) | decide) only [↓RD, RZ, eq_self, Int.reduceToNat, Int.reduceAdd, Int.reduceSub, Int.reduceMul, Nat.reduceAdd, Nat.reduceSub, Nat.reduceMul, Nat.reduceDiv, Nat.reduceMod, Nat.reduceBEq, Nat.reduceLeDiff]
  have bl4 := lys_le s.ts s.ts.length
  refine dwloop2_ok h4 hs hF (by simp only [List.length_append, nb_length]; omega) fun H5 h5 => ?_
  simp (maxSteps := 1000000) (disch := first | omega | (simp only [RY] <;> omega) | decide) only [↓RD, RZ, eq_self, Int.reduceToNat, Int.reduceAdd, Int.reduceSub, Int.reduceMul, Nat.reduceAdd, Nat.reduceSub, Nat.reduceMul, Nat.reduceDiv, Nat.reduceMod, Nat.reduceBEq, Nat.reduceLeDiff]
  have bl5 : (nb s.off.toNat 6 ++ nb (s.tar - 1).toNat 5 ++ lysB s.ts s.ts.length ++ s.ts.flatMap (fun t => numsB 2 t.dti) ++ s.ts.flatMap (fun t => dfB t.dif ++ [false]) ++ nsB s.cha.toNat (s.tar + 1).toNat ++
    (if 0 < s.cha then proB s.cha.toNat s.pro ++ s.ts.flatMap (fun t => numsB 4 t.cha) else []) ++ [decide (0 < s.siz.length)] ++ szB s.siz).length ≤ 100000 := hbs
  simp only [List.length_append, nb_length, List.length_singleton] at bl5
  refine dwloop4_ok h5 hs hF (by simp only [List.length_append, nb_length]; omega) fun H6 h6 => ?_
  simp (maxSteps := 1000000) (disch := first | omega | (simp only [RY] <;> omega) | decide) only [↓RD, RZ, eq_self, Int.reduceToNat, Int.reduceAdd, Int.reduceSub, Int.reduceMul, Nat.reduceAdd, Nat.reduceSub, Nat.reduceMul, Nat.reduceDiv, Nat.reduceMod, Nat.reduceBEq, Nat.reduceLeDiff, h6.get, mc', htn1, mt2]
  refine ok_bind' (dns_ok' (v := cn) (n := tn + 2) h6 (by omega) (by omega) (by omega) (by simp only [List.length_append, nb_length]; omega)) ?_
  rintro _ H7 h7
  have e7 : nsB cn (tn + 2) = nsB s.cha.toNat (s.tar + 1).toNat := by rw [hcn, htn1, Int.toNat_natCast, Int.toNat_natCast]
  rw [e7] at h7
  have g7 := h7.get
  simp (maxSteps := 1000000) (disch := first | omega | (simp only [RY] <;> omega) | decide) only [↓RD, RZ, eq_self, Int.reduceToNat, Int.reduceAdd, Int.reduceSub, Int.reduceMul, Nat.reduceAdd, Nat.reduceSub, Nat.reduceMul, Nat.reduceDiv, Nat.reduceMod, Nat.reduceBEq, Nat.reduceLeDiff, g7]
  refine ok_mono (Q := fun r H' => r = .nrm [] ∧ Wk (DR w) B (dbx H.next s a b c :: ks) H' (bits ++ nb s.off.toNat 6 ++ nb (s.tar - 1).toNat 5 ++ lysB s.ts s.ts.length ++ s.ts.flatMap (fun t => numsB 2 t.dti) ++ s.ts.flatMap (fun t => dfB t.dif ++ [false]) ++ nsB s.cha.toNat (s.tar + 1).toNat ++ (if 0 < s.cha then proB s.cha.toNat s.pro ++ s.ts.flatMap (fun t => numsB 4 t.cha) else []))) ?_ ?_
  · by_cases hc : 0 < s.cha
    · rw [if_pos hc] at bl5 ⊢
      rw [List.length_append] at bl5
      simp (maxSteps := 1000000) (disch := first | omega | (simp only [RY] <;> omega) | decide) only [↓RD, RZ, eq_self, Int.reduceToNat, Int.reduceAdd, Int.reduceSub, Int.reduceMul, Nat.reduceAdd, Nat.reduceSub, Nat.reduceMul, Nat.reduceDiv, Nat.reduceMod, Nat.reduceBEq, Nat.reduceLeDiff]
      refine dwloop5_ok h7 hs hF hc (by simp only [List.length_append, nb_length]; omega) fun H8 h8 => ?_
      simp (maxSteps := 1000000) (disch := first | omega | (simp only [RY] <;> omega) | decide) only [↓RD, RZ, eq_self, Int.reduceToNat, Int.reduceAdd, Int.reduceSub, Int.reduceMul, Nat.reduceAdd, Nat.reduceSub, Nat.reduceMul, Nat.reduceDiv, Nat.reduceMod, Nat.reduceBEq, Nat.reduceLeDiff]
      refine dwloop7_ok h8 hs hF (by simp only [List.length_append, nb_length]; omega) fun H9 h9 => ?_
      simp (maxSteps := 1000000) (disch := first | omega | (simp only [RY] <;> omega) | decide) only [↓RD, RZ, eq_self, Int.reduceToNat, Int.reduceAdd, Int.reduceSub, Int.reduceMul, Nat.reduceAdd, Nat.reduceSub, Nat.reduceMul, Nat.reduceDiv, Nat.reduceMod, Nat.reduceBEq, Nat.reduceLeDiff]
      rw [← List.append_assoc]
      exact h9
    · rw [if_neg hc, List.append_nil]
      simp (maxSteps := 1000000) (disch := first | omega | (simp only [RY] <;> omega) | decide) only [↓RD, RZ, eq_self, Int.reduceToNat, Int.reduceAdd, Int.reduceSub, Int.reduceMul, Nat.reduceAdd, Nat.reduceSub, Nat.reduceMul, Nat.reduceDiv, Nat.reduceMod, Nat.reduceBEq, Nat.reduceLeDiff]
      exact h7
  · rintro _ H8 ⟨rfl, h8⟩
    have g8 := h8.get
    have hd : decide ((0 : Int) < (s.siz.length : Nat)) = decide (0 < s.siz.length) := by by_cases hz : 0 < s.siz.length <;> simp [hz]
    have one1 := fun (b : Bool) {H : Heap} => (fun f Q => okb_of (f := f) (Q := Q) (show Ok (sem T fn_palanquinref9_one [.bool b]) H (fun v H' => v = .int .u64 (if b = true then 1 else 0) ∧ H' = H) from by rw [one_eq]; exact ok_pure ⟨rfl, rfl⟩))
    simp (maxSteps := 1000000) (disch := first | omega | (simp only [RY] <;> omega) | decide) only [↓RD, RZ, eq_self, Int.reduceToNat, Int.reduceAdd, Int.reduceSub, Int.reduceMul, Nat.reduceAdd, Nat.reduceSub, Nat.reduceMul, Nat.reduceDiv, Nat.reduceMod, Nat.reduceBEq, Nat.reduceLeDiff, g8, hs.siz.vlen, hd, one1]
    refine ok_bind' (dbit_ok h8 (decide (0 < s.siz.length)) (by simp only [List.length_append, nb_length]; omega)) ?_
    rintro _ H9 h9
    simp (maxSteps := 1000000) (disch := first | omega | (simp only [RY] <;> omega) | decide) only [↓RD, RZ, eq_self, Int.reduceToNat, Int.reduceAdd, Int.reduceSub, Int.reduceMul, Nat.reduceAdd, Nat.reduceSub, Nat.reduceMul, Nat.reduceDiv, Nat.reduceMod, Nat.reduceBEq, Nat.reduceLeDiff]
    refine dwloop8_ok h9 hs hF (by simp only [List.length_append, nb_length, List.length_singleton]; omega) fun Ha ha => ?_
    simp (maxSteps := 1000000) (disch := first | omega | (simp only [RY] <;> omega) | decide) only [↓RD, RZ, eq_self, Int.reduceToNat, Int.reduceAdd, Int.reduceSub, Int.reduceMul, Nat.reduceAdd, Nat.reduceSub, Nat.reduceMul, Nat.reduceDiv, Nat.reduceMod, Nat.reduceBEq, Nat.reduceLeDiff]
    have := ha.drop
    have e : bits ++ strB s = bits ++ nb s.off.toNat 6 ++ nb (s.tar - 1).toNat 5 ++ lysB s.ts s.ts.length ++ s.ts.flatMap (fun t => numsB 2 t.dti) ++ s.ts.flatMap (fun t => dfB t.dif ++ [false]) ++ nsB s.cha.toNat (s.tar + 1).toNat ++ (if 0 < s.cha then proB s.cha.toNat s.pro ++ s.ts.flatMap (fun t => numsB 4 t.cha) else []) ++ [decide (0 < s.siz.length)] ++ szB s.siz := by
      unfold strB; simp only [List.append_assoc]
    rw [e]
    exact this

end
end Go.Ax.D9
/- DepW6 -/
set_option maxRecDepth 100000
set_option linter.unusedVariables false
set_option linter.unusedSimpArgs false
namespace Go.Ax.D9
open Go.Ax B6
section
variable {B H : Heap} {ks : List (Nat × Blk)} {w b2 : Nat} {bits : List Bool} {f : Fr} {a b c d e g : V}
/-- The frame's box, from B on. -/
def FB (B : Heap) (b2 : Nat) (f : Fr) (a b c d e g : V) : Prop := b2 < B.next ∧ B.get b2 = some ⟨ty_palanquinref9_Frame, fcells f a b c d e g, none⟩
theorem FB.get (h : FB B b2 f a b c d e g) (s : Grow B H) : H.get b2 = some ⟨ty_palanquinref9_Frame, [.bool f.st, .bool f.en, .int .i64 f.id, .int .u16 f.num, .bool f.new, .int .i64 f.s.off, .int .i64 f.s.tar, a, .int .i64 f.s.cha, b, c, .bool f.has, .int .u32 f.act, .bool f.od, .bool f.of', .bool f.oc, d, e, g], none⟩ := (s.same _ h.1).trans h.2

theorem dby0_ok (h : Wk (DR w) B ks H bits) (hb : FB B b2 f a b c d e g) (hf : FrC 0 B f a b c d e g) (hr : f.od = true → (∀ x ∈ f.dti, 0 ≤ x ∧ x.toNat < 2 ^ 2)) (hlen : f.dti.length ≤ 1048576) (hl : bits.length < 400000000000) (t4 t5 : V)
    {Q : Res → Heap → Prop} (k : ∀ H', Wk (DR w) B ks H' (bits ++ (if f.od = true then numsB 2 f.dti else [])) → Q (.ex 0 []) H') :
    Ok (M.iter (f_palanquinref9_Bytes_0 (sem T) (.ptr w 0) (.ptr b2 0) t4 t5) [.int .i64 0]) H Q := by
  cases hd : f.od with
  | false =>
    rw [hd, if_neg (by decide), List.append_nil] at k
    refine ok_loop (fun j L H' => L = [.int .i64 0] ∧ H' = H) 0 ⟨rfl, rfl⟩ (fun k L H hk => by omega) ?_
    rintro L H1 ⟨rfl, rfl⟩
    have g1 := hb.get h.gr
    rw [hd] at g1
    unfold f_palanquinref9_Bytes_0
    simp (maxSteps := 1000000) (disch := first | omega | (simp only [RY] <;> omega) | decide) only [↓RD, RZ, eq_self, Int.reduceToNat, Int.reduceAdd, Int.reduceSub, Int.reduceMul, Nat.reduceAdd, Nat.reduceSub, Nat.reduceMul, Nat.reduceDiv, Nat.reduceMod, Nat.reduceBEq, Nat.reduceLeDiff, g1]
    exact k H1 h
  | true =>
    rw [hd, if_pos rfl] at k
    have hr := hr hd
    refine ok_loop (fun j L H' => L = [.int .i64 (j : Nat)] ∧ Wk (DR w) B ks H' (bits ++ numsB 2 (f.dti.take j))) f.dti.length ?_ ?_ ?_
    · exact ⟨rfl, by simpa [numsB] using h⟩
    · rintro j L H1 hj ⟨rfl, h1⟩
      have g1 := hb.get h1.gr
      rw [hd] at g1
      obtain ⟨p, i1, l1, -⟩ := il_at (hf.dti.ext h1.gr) (i := (j : Nat)) (by omega) (by omega)
      rw [Int.toNat_natCast, getD_get hj] at l1
      obtain ⟨r0, r1⟩ := hr _ (List.getElem_mem hj)
      have hbj : (numsB 2 (f.dti.take j)).length ≤ 2 * j := flat_take_k _ (fun x _ => by rw [nb_length]; omega) j
      have e' : numsB 2 (f.dti.take (j + 1)) = numsB 2 (f.dti.take j) ++ nb (f.dti[j]).toNat 2 := flat_snoc _ hj
      obtain ⟨x, hx⟩ := Int.eq_ofNat_of_zero_le r0
      rw [hx, Int.toNat_natCast] at r1
      rw [e', ← List.append_assoc, hx, Int.toNat_natCast]
      have mx : x % 18446744073709551616 = x := by omega
      unfold f_palanquinref9_Bytes_0
      simp (maxSteps := 1000000) (disch := first | omega | (simp only [RY] <;> omega) | decide) only [↓RD, RZ, eq_self, Int.reduceToNat, Int.reduceAdd, Int.reduceSub, Int.reduceMul, Nat.reduceAdd, Nat.reduceSub, Nat.reduceMul, Nat.reduceDiv, Nat.reduceMod, Nat.reduceBEq, Nat.reduceLeDiff, g1, hf.dti.vlen, i1, l1, hx, mx]
      refine ok_bind' (dadd_ok h1 x 2 r1 (by decide) (by rw [List.length_append]; omega)) ?_
      rintro _ H2 h2
      simp (maxSteps := 1000000) (disch := first | omega | (simp only [RY] <;> omega) | decide) only [↓RD, RZ, eq_self, Int.reduceToNat, Int.reduceAdd, Int.reduceSub, Int.reduceMul, Nat.reduceAdd, Nat.reduceSub, Nat.reduceMul, Nat.reduceDiv, Nat.reduceMod, Nat.reduceBEq, Nat.reduceLeDiff]
      exact ⟨by rfl, h2⟩
    · rintro L H1 ⟨rfl, h1⟩
      rw [List.take_length] at h1
      have g1 := hb.get h1.gr
      rw [hd] at g1
      unfold f_palanquinref9_Bytes_0
      simp (maxSteps := 1000000) (disch := first | omega | (simp only [RY] <;> omega) | decide) only [↓RD, RZ, eq_self, Int.reduceToNat, Int.reduceAdd, Int.reduceSub, Int.reduceMul, Nat.reduceAdd, Nat.reduceSub, Nat.reduceMul, Nat.reduceDiv, Nat.reduceMod, Nat.reduceBEq, Nat.reduceLeDiff, g1, hf.dti.vlen]
      exact k H1 h1

theorem dby3_ok (h : Wk (DR w) B ks H bits) (hb : FB B b2 f a b c d e g) (hf : FrC 0 B f a b c d e g) (hr : f.oc = true → (∀ x ∈ f.cha, 0 ≤ x ∧ x.toNat < 2 ^ 8)) (hlen : f.cha.length ≤ 1048576) (hl : bits.length < 400000000000) (t4 t5 : V)
    {Q : Res → Heap → Prop} (k : ∀ H', Wk (DR w) B ks H' (bits ++ (if f.oc = true then numsB 8 f.cha else [])) → Q (.ex 6 []) H') :
    Ok (M.iter (f_palanquinref9_Bytes_3 (sem T) (.ptr w 0) (.ptr b2 0) t4 t5) [.int .i64 0]) H Q := by
  cases hd : f.oc with
  | false =>
    rw [hd, if_neg (by decide), List.append_nil] at k
    refine ok_loop (fun j L H' => L = [.int .i64 0] ∧ H' = H) 0 ⟨rfl, rfl⟩ (fun k L H hk => by omega) ?_
    rintro L H1 ⟨rfl, rfl⟩
    have g1 := hb.get h.gr
    rw [hd] at g1
    unfold f_palanquinref9_Bytes_3
    simp (maxSteps := 1000000) (disch := first | omega | (simp only [RY] <;> omega) | decide) only [↓RD, RZ, eq_self, Int.reduceToNat, Int.reduceAdd, Int.reduceSub, Int.reduceMul, Nat.reduceAdd, Nat.reduceSub, Nat.reduceMul, Nat.reduceDiv, Nat.reduceMod, Nat.reduceBEq, Nat.reduceLeDiff, g1]
    exact k H1 h
  | true =>
    rw [hd, if_pos rfl] at k
    have hr := hr hd
    refine ok_loop (fun j L H' => L = [.int .i64 (j : Nat)] ∧ Wk (DR w) B ks H' (bits ++ numsB 8 (f.cha.take j))) f.cha.length ?_ ?_ ?_
    · exact ⟨rfl, by simpa [numsB] using h⟩
    · rintro j L H1 hj ⟨rfl, h1⟩
      have g1 := hb.get h1.gr
      rw [hd] at g1
      obtain ⟨p, i1, l1, -⟩ := il_at (hf.cha.ext h1.gr) (i := (j : Nat)) (by omega) (by omega)
      rw [Int.toNat_natCast, getD_get hj] at l1
      obtain ⟨r0, r1⟩ := hr _ (List.getElem_mem hj)
      have hbj : (numsB 8 (f.cha.take j)).length ≤ 8 * j := flat_take_k _ (fun x _ => by rw [nb_length]; omega) j
      have e' : numsB 8 (f.cha.take (j + 1)) = numsB 8 (f.cha.take j) ++ nb (f.cha[j]).toNat 8 := flat_snoc _ hj
      obtain ⟨x, hx⟩ := Int.eq_ofNat_of_zero_le r0
      rw [hx, Int.toNat_natCast] at r1
      rw [e', ← List.append_assoc, hx, Int.toNat_natCast]
      have mx : x % 18446744073709551616 = x := by omega
      unfold f_palanquinref9_Bytes_3
      simp (maxSteps := 1000000) (disch := first | omega | (simp only [RY] <;> omega) | decide) only [↓RD, RZ, eq_self, Int.reduceToNat, Int.reduceAdd, Int.reduceSub, Int.reduceMul, Nat.reduceAdd, Nat.reduceSub, Nat.reduceMul, Nat.reduceDiv, Nat.reduceMod, Nat.reduceBEq, Nat.reduceLeDiff, g1, hf.cha.vlen, i1, l1, hx, mx]
      refine ok_bind' (dadd_ok h1 x 8 r1 (by decide) (by rw [List.length_append]; omega)) ?_
      rintro _ H2 h2
      simp (maxSteps := 1000000) (disch := first | omega | (simp only [RY] <;> omega) | decide) only [↓RD, RZ, eq_self, Int.reduceToNat, Int.reduceAdd, Int.reduceSub, Int.reduceMul, Nat.reduceAdd, Nat.reduceSub, Nat.reduceMul, Nat.reduceDiv, Nat.reduceMod, Nat.reduceBEq, Nat.reduceLeDiff]
      exact ⟨by rfl, h2⟩
    · rintro L H1 ⟨rfl, h1⟩
      rw [List.take_length] at h1
      have g1 := hb.get h1.gr
      rw [hd] at g1
      unfold f_palanquinref9_Bytes_3
      simp (maxSteps := 1000000) (disch := first | omega | (simp only [RY] <;> omega) | decide) only [↓RD, RZ, eq_self, Int.reduceToNat, Int.reduceAdd, Int.reduceSub, Int.reduceMul, Nat.reduceAdd, Nat.reduceSub, Nat.reduceMul, Nat.reduceDiv, Nat.reduceMod, Nat.reduceBEq, Nat.reduceLeDiff, g1, hf.cha.vlen]
      exact k H1 h1

theorem dby2_ok (h : Wk (DR w) B ks H bits) (hb : FB B b2 f a b c d e g) (hf : FrC 0 B f a b c d e g) (hr : ∀ x ∈ f.dif, 1 ≤ x ∧ x ≤ 4096) (hlen : f.dif.length ≤ 1048576) (hl : bits.length < 400000000000) (t4 t5 : V)
    {Q : Res → Heap → Prop} (k : ∀ H', Wk (DR w) B ks H' (bits ++ f.dif.flatMap fun d => nb (wid d) 2 ++ nb (d - 1).toNat (4 * wid d)) → Q (.ex 2 []) H') :
    Ok (M.iter (f_palanquinref9_Bytes_2 (sem T) (.ptr w 0) (.ptr b2 0) t4 t5) [.int .i64 0]) H Q := by
  let F := fun d : Int => nb (wid d) 2 ++ nb (d - 1).toNat (4 * wid d)
  have hF : ∀ x ∈ f.dif, (F x).length ≤ 14 := fun x hx => by
    have := wid_rng (hr x hx).1 (hr x hx).2
    show (nb _ _ ++ nb _ _).length ≤ 14
    rw [List.length_append, nb_length, nb_length]; omega
  refine ok_loop (fun j L H' => L = [.int .i64 (j : Nat)] ∧ Wk (DR w) B ks H' (bits ++ (f.dif.take j).flatMap F)) f.dif.length ?_ ?_ ?_
  · exact ⟨rfl, by simpa using h⟩
  · rintro j L H1 hj ⟨rfl, h1⟩
    have g1 := hb.get h1.gr
    obtain ⟨p, i1, l1, -⟩ := il_at (hf.dif.ext h1.gr) (i := (j : Nat)) (by omega) (by omega)
    rw [Int.toNat_natCast, getD_get hj] at l1
    have vl := hf.dif.vlen
    obtain ⟨r0, r1⟩ := hr _ (List.getElem_mem hj)
    have hbj := flat_take_k F hF j
    have e' : (f.dif.take (j + 1)).flatMap F = (f.dif.take j).flatMap F ++ F f.dif[j] := flat_snoc F hj
    rw [e']
    have eF : F f.dif[j] = nb (wid f.dif[j]) 2 ++ nb (f.dif[j] - 1).toNat (4 * wid f.dif[j]) := rfl
    rw [eF]
    generalize hgx : f.dif[j] = x at *
    obtain ⟨w1, w2, w3, w4⟩ := wid_rng r0 r1
    obtain ⟨xn, hxn⟩ := Int.eq_ofNat_of_zero_le (show 0 ≤ x - 1 by omega)
    rw [hxn, Int.toNat_natCast] at w3 w4 ⊢
    unfold f_palanquinref9_Bytes_2
    simp (maxSteps := 1000000) (disch := first | omega | (simp only [RY] <;> omega) | decide) only [↓RD, RZ, eq_self, Int.reduceToNat, Int.reduceAdd, Int.reduceSub, Int.reduceMul, Nat.reduceAdd, Nat.reduceSub, Nat.reduceMul, Nat.reduceDiv, Nat.reduceMod, Nat.reduceBEq, Nat.reduceLeDiff, g1, vl]
    refine ok_while (fun L H' m => ∃ n : Nat, L = [.int .i64 (n : Nat)] ∧ H' = H1 ∧ 1 ≤ n ∧ n ≤ wid x ∧ m = wid x - n) (wid x - 1) ?_ ?_
    · exact ⟨1, rfl, rfl, by omega, by omega, rfl⟩
    · rintro L H' m ⟨n, rfl, rfl, n1, n2, rfl⟩
      have e4 : 4 * (n : Int) = ((4 * n : Nat) : Int) := by omega
      have m4 : 4 * n % 18446744073709551616 = 4 * n := by omega
      have hsl : shl 1 (4 * n) = 2 ^ (4 * n) := by rw [shl_def, Nat.one_shiftLeft]
      have hpow : 2 ^ (4 * n) ≤ 2 ^ 12 := Nat.pow_le_pow_right (by decide) (by omega)
      have hsl' : shl (1 : Int).toNat (4 * n) = 2 ^ (4 * n) := hsl
      unfold f_palanquinref9_Bytes_1
      by_cases hn : n < wid x
      · have h4 := w4 n n1 hn
        have hgt : (((2 ^ (4 * n) : Nat) : Int)) < x := by omega
        have hbin : Ax.bin .shl (.int .i64 1) (.int .u64 ((4 * n : Nat) : Int)) = some (.int .i64 ((2 ^ (4 * n) : Nat) : Int)) := by
          rw [shl_i64 (by decide) (by omega) (by rw [Int.toNat_natCast, hsl']; omega), Int.toNat_natCast, hsl']
        simp (maxSteps := 1000000) (disch := first | omega | (simp only [RY] <;> omega) | decide) only [↓RD, RZ, eq_self, Int.reduceToNat, Int.reduceAdd, Int.reduceSub, Int.reduceMul, Nat.reduceAdd, Nat.reduceSub, Nat.reduceMul, Nat.reduceDiv, Nat.reduceMod, Nat.reduceBEq, Nat.reduceLeDiff, g1, i1, l1, e4, m4, hbin]
        exact ⟨wid x - (n + 1), by omega, n + 1, by rfl, by omega, by omega, rfl⟩
      · have hn' : n = wid x := by omega
        rw [← hn'] at w3
        have hle : x ≤ (((2 ^ (4 * n) : Nat) : Int)) := by omega
        have hbin : Ax.bin .shl (.int .i64 1) (.int .u64 ((4 * n : Nat) : Int)) = some (.int .i64 ((2 ^ (4 * n) : Nat) : Int)) := by
          rw [shl_i64 (by decide) (by omega) (by rw [Int.toNat_natCast, hsl']; omega), Int.toNat_natCast, hsl']
        have mn : n % 18446744073709551616 = n := by omega
        simp (maxSteps := 1000000) (disch := first | omega | (simp only [RY] <;> omega) | decide) only [↓RD, RZ, eq_self, Int.reduceToNat, Int.reduceAdd, Int.reduceSub, Int.reduceMul, Nat.reduceAdd, Nat.reduceSub, Nat.reduceMul, Nat.reduceDiv, Nat.reduceMod, Nat.reduceBEq, Nat.reduceLeDiff, g1, i1, l1, e4, m4, hbin, mn]
        refine ok_bind' (dadd_ok h1 n 2 (by omega) (by decide) (by rw [List.length_append]; omega)) ?_
        rintro _ H3 h3
        have g3 := hb.get h3.gr
        obtain ⟨p', i1', l1', -⟩ := il_at (hf.dif.ext h3.gr) (i := (j : Nat)) (by omega) (by omega)
        have mx : xn % 18446744073709551616 = xn := by omega
        rw [Int.toNat_natCast, getD_get hj, hgx] at l1'
        simp (maxSteps := 1000000) (disch := first | omega | (simp only [RY] <;> omega) | decide) only [↓RD, RZ, eq_self, Int.reduceToNat, Int.reduceAdd, Int.reduceSub, Int.reduceMul, Nat.reduceAdd, Nat.reduceSub, Nat.reduceMul, Nat.reduceDiv, Nat.reduceMod, Nat.reduceBEq, Nat.reduceLeDiff, g3, i1', l1', hxn, e4, mx]
        refine ok_bind' (dadd_ok h3 xn (4 * n) w3 (by omega) (by rw [List.length_append, List.length_append, nb_length]; omega)) ?_
        rintro _ H4 h4
        simp (maxSteps := 1000000) (disch := first | omega | (simp only [RY] <;> omega) | decide) only [↓RD, RZ, eq_self, Int.reduceToNat, Int.reduceAdd, Int.reduceSub, Int.reduceMul, Nat.reduceAdd, Nat.reduceSub, Nat.reduceMul, Nat.reduceDiv, Nat.reduceMod, Nat.reduceBEq, Nat.reduceLeDiff]
        refine ⟨by rfl, ?_⟩
        rw [← hn', ← List.append_assoc, ← List.append_assoc]
        exact h4
  · rintro L H1 ⟨rfl, h1⟩
    rw [List.take_length] at h1
    have g1 := hb.get h1.gr
    unfold f_palanquinref9_Bytes_2
    simp (maxSteps := 1000000) (disch := first | omega | (simp only [RY] <;> omega) | decide) only [↓RD, RZ, eq_self, Int.reduceToNat, Int.reduceAdd, Int.reduceSub, Int.reduceMul, Nat.reduceAdd, Nat.reduceSub, Nat.reduceMul, Nat.reduceDiv, Nat.reduceMod, Nat.reduceBEq, Nat.reduceLeDiff, g1, hf.dif.vlen]
    exact k H1 h1

end
end Go.Ax.D9
/- DepW7 -/
set_option maxRecDepth 100000
set_option linter.unusedVariables false
set_option linter.unusedSimpArgs false
namespace Go.Ax.D9
open Go.Ax B6
theorem one_b {H : Heap} (b : Bool) {f : V → M Res} {Q : Res → Heap → Prop} : @OkB V Res (sem T fn_palanquinref9_one [.bool b]) H ⟨f⟩ ⟨Q⟩ ↔ Ok (f (.int .u64 (if b = true then 1 else 0))) H Q := by
  show Ok ((sem T fn_palanquinref9_one [.bool b]).bind f) H Q ↔ _
  rw [one_eq b]
  exact Iff.rfl

theorem dk_new (B : Heap) : Wk (DR B.next) B [] (B.new ⟨ty_palanquinref6_Writer, [.nils], none⟩) [] := by
  refine ⟨kpD _, ⟨[B.next], ⟨⟨.nils, get_new_self _ _, Opn.nil, rfl, by simp [V.pid]⟩, fun i hi => ?_⟩, fun i hi => ?_, fun k hk => by cases hk⟩, Grow.new _ _, fun k hk => by cases hk⟩
  · simp only [List.mem_singleton] at hi; subst hi; rw [next_new]; omega
  · simp only [List.mem_singleton] at hi; subst hi; exact Nat.le_refl _

theorem dk_bytes {B H : Heap} {ks : List (Nat × Blk)} {w : Nat} {bits : List Bool} (h : Wk (DR w) B ks H bits) (hl : bits.length < 549755813888) :
    Ok (sem T fn_palanquinref6_Writer_Bytes [.ptr w 0]) H fun r H' => (∃ l, Pk bits.length l bits ∧ rcells 1 H' r = some (l.map by8, l.length) ∧ ∃ id, r.pid = some id ∧ H.next ≤ id ∧ id < H'.next) ∧ Grow H H' := by
  obtain ⟨hR, ⟨F, hF, hlo, hks⟩, gr, kk⟩ := h
  refine ok_mono (RBytes_ok hF hl) ?_
  rintro r H' ⟨l, hp, ho, hi, s⟩
  exact ⟨⟨l, hp, ho, hi⟩, s.ext⟩

set_option maxHeartbeats 1600000 in
theorem Bytes2D_ok {H : Heap} {v w : V} {f : Fr} {k : Sr} (hf : FrR 0 H v f) (hk : SrR 0 H w k) (fo : FrO f) (ko : SrO k) :
    Ok (sem T fn_palanquinref9_Bytes [v, w]) H fun r H' => (if good f k = true then ∃ x l, r = .tup [x, .int .i64 0] ∧ Pk (frB f k).length l (frB f k) ∧ rcells 1 H' x = some (l.map by8, l.length) ∧ ∃ id, x.pid = some id ∧ H.next ≤ id ∧ id < H'.next else r = .tup [.nils, .int .i64 1]) ∧ Grow H H' := by
  have hnum := fo.num
  have hact := fo.act
  obtain ⟨a, b, c, d, e, g, rfl, hf⟩ := hf
  obtain ⟨p, q, r, rfl, hk⟩ := hk
  obtain ⟨ca, cb, cc, cd, ce, cg⟩ := fr_dti hf
  have kts := hk.ts.cel
  have kpr := hk.pro.cel
  have ksi := hk.siz.cel
  refine ok_palanquinref9_Bytes ?_
  unfold f_palanquinref9_Bytes
  unfold fcells scells
  simp (maxSteps := 1000000) (disch := first | omega | (simp only [RY] <;> omega) | decide) only [↓RD, RZ, eq_self, Int.reduceToNat, Int.reduceAdd, Int.reduceSub, Int.reduceMul, Nat.reduceAdd, Nat.reduceSub, Nat.reduceMul, Nat.reduceDiv, Nat.reduceMod, Nat.reduceBEq, Nat.reduceLeDiff, ca.1, ca.2, cb.1, cb.2, cc.1, cc.2, cd.1, cd.2, ce.1, ce.2, cg.1, cg.2, kts.1, kts.2, kpr.1, kpr.2, ksi.1, ksi.2]
  generalize hH1 : Heap.new (Heap.new H _) _ = H1
  have s1 : Grow H H1 := by rw [← hH1]; exact (Grow.new _ _).trans (Grow.new _ _)
  have n1 : H1.next = H.next + 2 := by rw [← hH1]; rfl
  have f1 : H1.get H.next = some ⟨ty_palanquinref9_Frame, fcells f a b c d e g, none⟩ := by rw [← hH1]; unfold fcells; simp (maxSteps := 1000000) (disch := first | omega | (simp only [RY] <;> omega) | decide) only [↓RD, RZ, eq_self, Int.reduceToNat, Int.reduceAdd, Int.reduceSub, Int.reduceMul, Nat.reduceAdd, Nat.reduceSub, Nat.reduceMul, Nat.reduceDiv, Nat.reduceMod, Nat.reduceBEq, Nat.reduceLeDiff]
  have y1 : H1.get (H.next + 1) = some ⟨ty_palanquinref9_Structure, [.int .i64 k.off, .int .i64 k.tar, p, .int .i64 k.cha, q, r], none⟩ := by rw [← hH1]; simp (maxSteps := 1000000) (disch := first | omega | (simp only [RY] <;> omega) | decide) only [↓RD, RZ, eq_self, Int.reduceToNat, Int.reduceAdd, Int.reduceSub, Int.reduceMul, Nat.reduceAdd, Nat.reduceSub, Nat.reduceMul, Nat.reduceDiv, Nat.reduceMod, Nat.reduceBEq, Nat.reduceLeDiff]
  clear hH1
  refine ok_bind' (Good2_ok (hf.ext s1).val (hk.ext s1).val fo ko) ?_
  rintro _ H2 ⟨rfl, s2⟩
  have n2 := s2.next
  have f2 : H2.get H.next = _ := (s2.same _ (by omega)).trans f1
  have y2 : H2.get (H.next + 1) = _ := (s2.same _ (by omega)).trans y1
  have s12 := s1.trans s2
  have hb : FB H2 H.next f a b c d e g := ⟨by omega, f2⟩
  have hf2 := hf.ext s12
  cases hg : good f k with
  | false =>
    simp (maxSteps := 1000000) (disch := first | omega | (simp only [RY] <;> omega) | decide) only [↓RD, RZ, eq_self, Int.reduceToNat, Int.reduceAdd, Int.reduceSub, Int.reduceMul, Nat.reduceAdd, Nat.reduceSub, Nat.reduceMul, Nat.reduceDiv, Nat.reduceMod, Nat.reduceBEq, Nat.reduceLeDiff]
    exact s12
  | true =>
  have hid := good_id hg
  obtain ⟨t, htm, hgt, hF⟩ := good_ex hg
  have htar := hF.tar
  have hcha := hF.cha
  simp (maxSteps := 1000000) (disch := first | omega | (simp only [RY] <;> omega) | decide) only [↓RD, RZ, eq_self, Int.reduceToNat, Int.reduceAdd, Int.reduceSub, Int.reduceMul, Nat.reduceAdd, Nat.reduceSub, Nat.reduceMul, Nat.reduceDiv, Nat.reduceMod, Nat.reduceBEq, Nat.reduceLeDiff]
  have k4 := dk_new H2
  generalize Heap.new H2 _ = H4 at *
  have em : f.num % 9223372036854775808 = f.num := by omega
  have em' : f.num % 18446744073709551616 = f.num := by omega
  have get : ∀ {H' : Heap} {ks : List (Nat × Blk)} {bits : List Bool}, Wk (DR H2.next) H2 ks H' bits → H'.get H.next = _ := fun k => hb.get k.gr
  have gety : ∀ {H' : Heap} {ks : List (Nat × Blk)} {bits : List Bool}, Wk (DR H2.next) H2 ks H' bits → H'.get (H.next + 1) = _ := fun k => (k.gr.same _ (by omega)).trans y2
  obtain ⟨idn, hidn⟩ := Int.eq_ofNat_of_zero_le hid.1
  have mid : IntKind.u64.wrap f.id = ((idn : Nat) : Int) := by rw [hidn]; exact wrapin_u64 (by omega) (by omega)
  have g2 := hb.get (Grow.refl H2)
  simp (maxSteps := 1000000) (disch := first | omega | (simp only [RY] <;> omega) | decide) only [↓RD, RZ, eq_self, Int.reduceToNat, Int.reduceAdd, Int.reduceSub, Int.reduceMul, Nat.reduceAdd, Nat.reduceSub, Nat.reduceMul, Nat.reduceDiv, Nat.reduceMod, Nat.reduceBEq, Nat.reduceLeDiff, g2, get k4, one_b]
  refine ok_bind' (dbit_ok k4 f.st (by simp)) ?_
  rintro _ H5 k5
  simp (maxSteps := 1000000) (disch := first | omega | (simp only [RY] <;> omega) | decide) only [↓RD, RZ, eq_self, Int.reduceToNat, Int.reduceAdd, Int.reduceSub, Int.reduceMul, Nat.reduceAdd, Nat.reduceSub, Nat.reduceMul, Nat.reduceDiv, Nat.reduceMod, Nat.reduceBEq, Nat.reduceLeDiff, get k5, one_b]
  refine ok_bind' (dbit_ok k5 f.en (by simp)) ?_
  rintro _ H6 k6
  simp (maxSteps := 1000000) (disch := first | omega | (simp only [RY] <;> omega) | decide) only [↓RD, RZ, eq_self, Int.reduceToNat, Int.reduceAdd, Int.reduceSub, Int.reduceMul, Nat.reduceAdd, Nat.reduceSub, Nat.reduceMul, Nat.reduceDiv, Nat.reduceMod, Nat.reduceBEq, Nat.reduceLeDiff, get k6, mid]
  refine ok_bind' (dadd_ok k6 idn 6 (by omega) (by omega) (by simp)) ?_
  rintro _ H7 k7
  simp (maxSteps := 1000000) (disch := first | omega | (simp only [RY] <;> omega) | decide) only [↓RD, RZ, eq_self, Int.reduceToNat, Int.reduceAdd, Int.reduceSub, Int.reduceMul, Nat.reduceAdd, Nat.reduceSub, Nat.reduceMul, Nat.reduceDiv, Nat.reduceMod, Nat.reduceBEq, Nat.reduceLeDiff, get k7, em']
  refine ok_bind' (dadd_ok k7 f.num 16 (by omega) (by omega) (by simp [nb_length])) ?_
  rintro _ H8 k8
  have e1 : [] ++ [f.st] ++ [f.en] ++ nb idn 6 ++ nb f.num 16 = headB f := by
    unfold headB; rw [hidn, Int.toNat_natCast]; rfl
  rw [e1] at k8
  have hhl := headB_len f
  by_cases hsh : f.new = false ∧ f.has = false ∧ f.od = false ∧ f.of' = false ∧ f.oc = false
  · obtain ⟨h1, h2, h3, h4, h5⟩ := hsh
    simp (maxSteps := 1000000) (disch := first | omega | (simp only [RY] <;> omega) | decide) only [↓RD, RZ, eq_self, Int.reduceToNat, Int.reduceAdd, Int.reduceSub, Int.reduceMul, Nat.reduceAdd, Nat.reduceSub, Nat.reduceMul, Nat.reduceDiv, Nat.reduceMod, Nat.reduceBEq, Nat.reduceLeDiff, get k8, h1, h2, h3, h4, h5]
    refine ok_bind' (dk_bytes k8 (by omega)) ?_
    rintro x H9 ⟨⟨l, hp, hbx⟩, s9⟩
    simp (maxSteps := 1000000) (disch := first | omega | (simp only [RY] <;> omega) | decide) only [↓RD, RZ, eq_self, Int.reduceToNat, Int.reduceAdd, Int.reduceSub, Int.reduceMul, Nat.reduceAdd, Nat.reduceSub, Nat.reduceMul, Nat.reduceDiv, Nat.reduceMod, Nat.reduceBEq, Nat.reduceLeDiff]
    have : frB f k = headB f := by unfold frB; rw [if_pos ⟨h1, h2, h3, h4, h5⟩]
    rw [this]
    exact ⟨⟨x, l, rfl, hp, hbx.1, (by
      obtain ⟨id, e, i1, i2⟩ := hbx.2
      have := (s12.trans k8.gr).next
      exact ⟨id, e, by omega, i2⟩)⟩, (s12.trans k8.gr).trans s9⟩
  · have hfr : frB f k = headB f ++ flagsB f ++ (if f.new = true then strB f.s else []) ++ (if f.has = true then nb f.act (hold f k).tar.toNat else []) ++ (if f.od = true then numsB 2 f.dti else []) ++ (if f.of' = true then owB f.dif else []) ++ (if f.oc = true then numsB 8 f.cha else []) := by
      unfold frB; rw [if_neg hsh]
    have g8 := get k8
    simp (maxSteps := 1000000) (disch := first | omega | (simp only [RY] <;> omega) | decide) only [↓RD, RZ, eq_self, Int.reduceToNat, Int.reduceAdd, Int.reduceSub, Int.reduceMul, Nat.reduceAdd, Nat.reduceSub, Nat.reduceMul, Nat.reduceDiv, Nat.reduceMod, Nat.reduceBEq, Nat.reduceLeDiff, RG, g8]
    refine ok_ite (fun h => ?_) fun _ => ?_
    · exfalso
      simp only [Bool.and_eq_true, Bool.not_eq_true'] at h
      exact hsh ⟨h.1.1.1.1, h.1.1.1.2, h.1.1.2, h.1.2, h.2⟩
    · simp (maxSteps := 1000000) (disch := first | omega | (simp only [RY] <;> omega) | decide) only [↓RD, RZ, eq_self, Int.reduceToNat, Int.reduceAdd, Int.reduceSub, Int.reduceMul, Nat.reduceAdd, Nat.reduceSub, Nat.reduceMul, Nat.reduceDiv, Nat.reduceMod, Nat.reduceBEq, Nat.reduceLeDiff, g8, one_b]
      refine ok_bind' (dbit_ok k8 f.new (by omega)) ?_
      rintro _ H9 k9
      simp (maxSteps := 1000000) (disch := first | omega | (simp only [RY] <;> omega) | decide) only [↓RD, RZ, eq_self, Int.reduceToNat, Int.reduceAdd, Int.reduceSub, Int.reduceMul, Nat.reduceAdd, Nat.reduceSub, Nat.reduceMul, Nat.reduceDiv, Nat.reduceMod, Nat.reduceBEq, Nat.reduceLeDiff, get k9, one_b]
      refine ok_bind' (dbit_ok k9 f.has (by simp only [List.length_append, List.length_singleton]; omega)) ?_
      rintro _ H10 k10
      simp (maxSteps := 1000000) (disch := first | omega | (simp only [RY] <;> omega) | decide) only [↓RD, RZ, eq_self, Int.reduceToNat, Int.reduceAdd, Int.reduceSub, Int.reduceMul, Nat.reduceAdd, Nat.reduceSub, Nat.reduceMul, Nat.reduceDiv, Nat.reduceMod, Nat.reduceBEq, Nat.reduceLeDiff, get k10, one_b]
      refine ok_bind' (dbit_ok k10 f.od (by simp only [List.length_append, List.length_singleton]; omega)) ?_
      rintro _ H11 k11
      simp (maxSteps := 1000000) (disch := first | omega | (simp only [RY] <;> omega) | decide) only [↓RD, RZ, eq_self, Int.reduceToNat, Int.reduceAdd, Int.reduceSub, Int.reduceMul, Nat.reduceAdd, Nat.reduceSub, Nat.reduceMul, Nat.reduceDiv, Nat.reduceMod, Nat.reduceBEq, Nat.reduceLeDiff, get k11, one_b]
      refine ok_bind' (dbit_ok k11 f.of' (by simp only [List.length_append, List.length_singleton]; omega)) ?_
      rintro _ H12 k12
      simp (maxSteps := 1000000) (disch := first | omega | (simp only [RY] <;> omega) | decide) only [↓RD, RZ, eq_self, Int.reduceToNat, Int.reduceAdd, Int.reduceSub, Int.reduceMul, Nat.reduceAdd, Nat.reduceSub, Nat.reduceMul, Nat.reduceDiv, Nat.reduceMod, Nat.reduceBEq, Nat.reduceLeDiff, get k12, one_b]
      refine ok_bind' (dbit_ok k12 f.oc (by simp only [List.length_append, List.length_singleton]; omega)) ?_
      rintro _ H13 k13
      have e5 : headB f ++ [f.new] ++ [f.has] ++ [f.od] ++ [f.of'] ++ [f.oc] = headB f ++ flagsB f := by
        unfold flagsB; simp only [List.append_assoc]; rfl
      rw [e5] at k13
      have hbl : (headB f ++ flagsB f).length = 29 := by rw [List.length_append, hhl]; rfl
      have g13 := get k13
      simp (maxSteps := 1000000) (disch := first | omega | (simp only [RY] <;> omega) | decide) only [↓RD, RZ, eq_self, Int.reduceToNat, Int.reduceAdd, Int.reduceSub, Int.reduceMul, Nat.reduceAdd, Nat.reduceSub, Nat.reduceMul, Nat.reduceDiv, Nat.reduceMod, Nat.reduceBEq, Nat.reduceLeDiff, g13]
      refine ok_mono (Q := fun r H' => r = .nrm [] ∧ Wk (DR H2.next) H2 [] H' (headB f ++ flagsB f ++ (if f.new = true then strB f.s else [])) ∧ (if f.new = true then strB f.s else []).length ≤ 100000) ?_ ?_
      · refine ok_ite (fun hd => ?_) fun hd => ?_
        · have hh : hold f k = f.s := by unfold hold; rw [if_pos hd]
          rw [hh] at hF
          rw [if_pos hd]
          simp (maxSteps := 1000000) (disch := first | omega | (simp only [RY] <;> omega) | decide) only [↓RD, RZ, eq_self, Int.reduceToNat, Int.reduceAdd, Int.reduceSub, Int.reduceMul, Nat.reduceAdd, Nat.reduceSub, Nat.reduceMul, Nat.reduceDiv, Nat.reduceMod, Nat.reduceBEq, Nat.reduceLeDiff, g13]
          refine ok_bind' (dwrites_ok k13 (s := f.s) hf2.s hF (by omega)) ?_
          rintro _ H14 k14
          simp (maxSteps := 1000000) (disch := first | omega | (simp only [RY] <;> omega) | decide) only [↓RD, RZ, eq_self, Int.reduceToNat, Int.reduceAdd, Int.reduceSub, Int.reduceMul, Nat.reduceAdd, Nat.reduceSub, Nat.reduceMul, Nat.reduceDiv, Nat.reduceMod, Nat.reduceBEq, Nat.reduceLeDiff]
          exact ⟨k14, strB_le hF⟩
        · rw [if_neg (by rw [hd]; decide), List.append_nil]
          simp (maxSteps := 1000000) (disch := first | omega | (simp only [RY] <;> omega) | decide) only [↓RD, RZ, eq_self, Int.reduceToNat, Int.reduceAdd, Int.reduceSub, Int.reduceMul, Nat.reduceAdd, Nat.reduceSub, Nat.reduceMul, Nat.reduceDiv, Nat.reduceMod, Nat.reduceBEq, Nat.reduceLeDiff]
          first | exact ⟨k13, by simp⟩ | exact k13
      · rintro _ H14 ⟨rfl, k14, l14⟩
        have g14 := get k14
        have y14 := gety k14
        simp (maxSteps := 1000000) (disch := first | omega | (simp only [RY] <;> omega) | decide) only [↓RD, RZ, eq_self, Int.reduceToNat, Int.reduceAdd, Int.reduceSub, Int.reduceMul, Nat.reduceAdd, Nat.reduceSub, Nat.reduceMul, Nat.reduceDiv, Nat.reduceMod, Nat.reduceBEq, Nat.reduceLeDiff, g14]
        generalize (if f.new = true then strB f.s else []) = b1 at *
        refine ok_mono (Q := fun r H' => r = .nrm [] ∧ Wk (DR H2.next) H2 [] H' (headB f ++ flagsB f ++ b1 ++ (if f.has = true then nb f.act (hold f k).tar.toNat else [])) ∧ (if f.has = true then nb f.act (hold f k).tar.toNat else []).length ≤ 64) ?_ ?_
        · refine ok_ite (fun hd => ?_) fun hd => ?_
          · rw [if_pos hd]
            have sg : Grow H H14 := s12.trans k14.gr
            obtain ⟨tn, htn⟩ := Int.eq_ofNat_of_zero_le (show 0 ≤ (hold f k).tar by omega)
            have hbt := hgt.b
            rw [htn, Int.toNat_natCast] at hbt ⊢
            have ma : f.act % 18446744073709551616 = f.act := by omega
            have wa : IntKind.u64.wrap (f.act : Int) = (f.act : Int) := wrapin_u64 (by omega) (by omega)
            simp (maxSteps := 1000000) (disch := first | omega | (simp only [RY] <;> omega) | decide) only [↓RD, RZ, eq_self, Int.reduceToNat, Int.reduceAdd, Int.reduceSub, Int.reduceMul, Nat.reduceAdd, Nat.reduceSub, Nat.reduceMul, Nat.reduceDiv, Nat.reduceMod, Nat.reduceBEq, Nat.reduceLeDiff, g14, y14, wa]
            refine ok_bind' (hold2_ok (f := f) (k := k) (hf.ext sg) (hk.ext sg)) ?_
            rintro _ H15 ⟨⟨x, y, z, rfl, -⟩, s15⟩
            have k15 := k14.grow s15
            have u15 : H15.get H.next = H14.get H.next := s15.same _ (by have := k14.gr.next; omega)
            unfold scells
            simp (maxSteps := 1000000) (disch := first | omega | (simp only [RY] <;> omega) | decide) only [↓RD, RZ, eq_self, Int.reduceToNat, Int.reduceAdd, Int.reduceSub, Int.reduceMul, Nat.reduceAdd, Nat.reduceSub, Nat.reduceMul, Nat.reduceDiv, Nat.reduceMod, Nat.reduceBEq, Nat.reduceLeDiff, u15, htn]
            refine ok_bind' (dadd_ok k15 f.act tn hbt (by omega) (by simp only [List.length_append] at hbl ⊢; omega)) ?_
            rintro _ H16 k16
            simp (maxSteps := 1000000) (disch := first | omega | (simp only [RY] <;> omega) | decide) only [↓RD, RZ, eq_self, Int.reduceToNat, Int.reduceAdd, Int.reduceSub, Int.reduceMul, Nat.reduceAdd, Nat.reduceSub, Nat.reduceMul, Nat.reduceDiv, Nat.reduceMod, Nat.reduceBEq, Nat.reduceLeDiff]
            exact ⟨k16, by rw [nb_length]; omega⟩
          · rw [if_neg (by rw [hd]; decide), List.append_nil]
            simp (maxSteps := 1000000) (disch := first | omega | (simp only [RY] <;> omega) | decide) only [↓RD, RZ, eq_self, Int.reduceToNat, Int.reduceAdd, Int.reduceSub, Int.reduceMul, Nat.reduceAdd, Nat.reduceSub, Nat.reduceMul, Nat.reduceDiv, Nat.reduceMod, Nat.reduceBEq, Nat.reduceLeDiff]
            first | exact ⟨k14, by simp⟩ | exact k14
        · rintro _ H15 ⟨rfl, k15, l15⟩
          generalize (if f.has = true then nb f.act (hold f k).tar.toNat else []) = b2 at *
          have gd := hgt.d
          have ge := hgt.e
          have gc := hgt.c
          simp (maxSteps := 1000000) (disch := first | omega | (simp only [RY] <;> omega) | decide) only [↓RD, RZ, eq_self, Int.reduceToNat, Int.reduceAdd, Int.reduceSub, Int.reduceMul, Nat.reduceAdd, Nat.reduceSub, Nat.reduceMul, Nat.reduceDiv, Nat.reduceMod, Nat.reduceBEq, Nat.reduceLeDiff]
          refine dby0_ok k15 hb hf2 (fun hd => by
            rw [if_pos hd] at gd
            exact fun x hx => by have := (wi_iff.1 gd).2 x hx; omega) fo.dti.2 (by simp only [List.length_append] at hbl ⊢; omega) _ _ fun H16 k16 => ?_
          have l16 : (if f.od = true then numsB 2 f.dti else []).length ≤ 64 := by
            split
            · rename_i hd
              rw [if_pos hd] at gd
              have w := (wi_iff.1 gd).1
              have := flat_le (fun x : Int => nb x.toNat 2) (c := 2) f.dti fun x _ => by rw [nb_length]; omega
              unfold numsB; omega
            · simp
          generalize (if f.od = true then numsB 2 f.dti else []) = b3 at *
          have g16 := get k16
          simp (maxSteps := 1000000) (disch := first | omega | (simp only [RY] <;> omega) | decide) only [↓RD, RZ, eq_self, Int.reduceToNat, Int.reduceAdd, Int.reduceSub, Int.reduceMul, Nat.reduceAdd, Nat.reduceSub, Nat.reduceMul, Nat.reduceDiv, Nat.reduceMod, Nat.reduceBEq, Nat.reduceLeDiff, g16]
          refine ok_mono (Q := fun r H' => r = .nrm [] ∧ Wk (DR H2.next) H2 [] H' (headB f ++ flagsB f ++ b1 ++ b2 ++ b3 ++ (if f.of' = true then owB f.dif else [])) ∧ (if f.of' = true then owB f.dif else []).length ≤ 300) ?_ ?_
          · refine ok_ite (fun hd => ?_) fun hd => ?_
            · rw [if_pos hd] at ge ⊢
              have w := di_iff.1 ge
              have := owB_le w.2
              simp (maxSteps := 1000000) (disch := first | omega | (simp only [RY] <;> omega) | decide) only [↓RD, RZ, eq_self, Int.reduceToNat, Int.reduceAdd, Int.reduceSub, Int.reduceMul, Nat.reduceAdd, Nat.reduceSub, Nat.reduceMul, Nat.reduceDiv, Nat.reduceMod, Nat.reduceBEq, Nat.reduceLeDiff]
              refine dby2_ok k16 hb hf2 w.2 fo.dif.2 (by simp only [List.length_append] at hbl ⊢; omega) _ _ fun H17 k17 => ?_
              simp (maxSteps := 1000000) (disch := first | omega | (simp only [RY] <;> omega) | decide) only [↓RD, RZ, eq_self, Int.reduceToNat, Int.reduceAdd, Int.reduceSub, Int.reduceMul, Nat.reduceAdd, Nat.reduceSub, Nat.reduceMul, Nat.reduceDiv, Nat.reduceMod, Nat.reduceBEq, Nat.reduceLeDiff]
              have hfl := flat_le (fun d : Int => nb (wid d) 2 ++ nb (d - 1).toNat (4 * wid d)) (c := 14) f.dif fun x hx => by
                have := wid_rng (w.2 x hx).1 (w.2 x hx).2
                rw [List.length_append, nb_length, nb_length]; omega
              refine ok_bind' (dadd_ok k17 0 2 (by decide) (by decide) (by simp only [List.length_append] at hbl hfl ⊢; omega)) ?_
              rintro _ H18 k18
              simp (maxSteps := 1000000) (disch := first | omega | (simp only [RY] <;> omega) | decide) only [↓RD, RZ, eq_self, Int.reduceToNat, Int.reduceAdd, Int.reduceSub, Int.reduceMul, Nat.reduceAdd, Nat.reduceSub, Nat.reduceMul, Nat.reduceDiv, Nat.reduceMod, Nat.reduceBEq, Nat.reduceLeDiff]
              rw [List.append_assoc _ (List.flatMap _ _)] at k18
              exact ⟨k18, by omega⟩
            · rw [if_neg (by rw [hd]; decide), List.append_nil]
              simp (maxSteps := 1000000) (disch := first | omega | (simp only [RY] <;> omega) | decide) only [↓RD, RZ, eq_self, Int.reduceToNat, Int.reduceAdd, Int.reduceSub, Int.reduceMul, Nat.reduceAdd, Nat.reduceSub, Nat.reduceMul, Nat.reduceDiv, Nat.reduceMod, Nat.reduceBEq, Nat.reduceLeDiff]
              first | exact ⟨k16, by simp⟩ | exact k16
          · rintro _ H17 ⟨rfl, k17, l17⟩
            generalize (if f.of' = true then owB f.dif else []) = b4 at *
            simp (maxSteps := 1000000) (disch := first | omega | (simp only [RY] <;> omega) | decide) only [↓RD, RZ, eq_self, Int.reduceToNat, Int.reduceAdd, Int.reduceSub, Int.reduceMul, Nat.reduceAdd, Nat.reduceSub, Nat.reduceMul, Nat.reduceDiv, Nat.reduceMod, Nat.reduceBEq, Nat.reduceLeDiff]
            refine dby3_ok k17 hb hf2 (fun hd => by
              rw [if_pos hd] at gc
              exact fun x hx => by have := (wi_iff.1 gc).2 x hx; omega) fo.cha.2 (by simp only [List.length_append] at hbl ⊢; omega) _ _ fun H18 k18 => ?_
            have l18 : (if f.oc = true then numsB 8 f.cha else []).length ≤ 300 := by
              split
              · rename_i hd
                rw [if_pos hd] at gc
                have w := (wi_iff.1 gc).1
                have := flat_le (fun x : Int => nb x.toNat 8) (c := 8) f.cha fun x _ => by rw [nb_length]; omega
                unfold numsB; omega
              · simp
            rw [← hfr] at k18
            have l19 : (frB f k).length ≤ 200000 := by rw [hfr]; simp only [List.length_append] at hbl ⊢; omega
            simp (maxSteps := 1000000) (disch := first | omega | (simp only [RY] <;> omega) | decide) only [↓RD, RZ, eq_self, Int.reduceToNat, Int.reduceAdd, Int.reduceSub, Int.reduceMul, Nat.reduceAdd, Nat.reduceSub, Nat.reduceMul, Nat.reduceDiv, Nat.reduceMod, Nat.reduceBEq, Nat.reduceLeDiff]
            refine ok_bind' (dk_bytes k18 (by omega)) ?_
            rintro x H19 ⟨⟨l, hp, hbx⟩, s19⟩
            simp (maxSteps := 1000000) (disch := first | omega | (simp only [RY] <;> omega) | decide) only [↓RD, RZ, eq_self, Int.reduceToNat, Int.reduceAdd, Int.reduceSub, Int.reduceMul, Nat.reduceAdd, Nat.reduceSub, Nat.reduceMul, Nat.reduceDiv, Nat.reduceMod, Nat.reduceBEq, Nat.reduceLeDiff]
            exact ⟨⟨x, l, rfl, hp, hbx.1, (by
              obtain ⟨id, e, i1, i2⟩ := hbx.2
              have := (s12.trans k18.gr).next
              exact ⟨id, e, by omega, i2⟩)⟩, (s12.trans k18.gr).trans s19⟩

end Go.Ax.D9
/- DepL1 -/
set_option maxRecDepth 100000
set_option linter.unusedVariables false
set_option linter.unusedSimpArgs false
namespace Go.Ax.D9
open Go.Ax B6
/-- What is heavy. -/
theorem heavy9_ok {lo : Nat} {H : Heap} {v : V} {s : Sr} (h : SrR lo H v s) (ho : SrO s) : Ok (sem T fn_palanquinlaw9_heavy [v]) H fun r H' => (∃ b, r = .bool b ∧ (b = false → s.ts.length ≤ 80)) ∧ Grow H H' := by
  obtain ⟨a, b, c, rfl, h⟩ := h
  have nt := ho.ts
  have np := ho.pro.2
  have ns := ho.siz.1
  refine ok_palanquinlaw9_heavy ?_
  unfold f_palanquinlaw9_heavy
  unfold scells
  have e0 : (s.ts.length : Int) + (s.pro.length : Nat) = ((s.ts.length + s.pro.length : Nat) : Int) := rfl
  have e1 : ((s.ts.length + s.pro.length : Nat) : Int) + (s.siz.length : Nat) = ((s.ts.length + s.pro.length + s.siz.length : Nat) : Int) := rfl
  simp (maxSteps := 1000000) (disch := first | omega | (simp only [RY] <;> omega) | decide) only [↓RD, RZ, eq_self, Int.reduceToNat, Int.reduceAdd, Int.reduceSub, Int.reduceMul, Nat.reduceAdd, Nat.reduceSub, Nat.reduceMul, Nat.reduceDiv, Nat.reduceMod, Nat.reduceBEq, Nat.reduceLeDiff, h.ts.cells1, h.ts.okc, h.pro.cells1, h.pro.okc, h.siz.cells1, h.siz.okc, h.ts.vlen, h.pro.vlen, h.siz.vlen, e0, e1]
  generalize hH1 : Heap.new H _ = H1
  have s1 : Grow H H1 := by rw [← hH1]; exact Grow.new _ _
  have n1 : H1.next = H.next + 1 := by rw [← hH1]; rfl
  have g1 : H1.get H.next = some ⟨ty_depend_Structure, [.int .i64 s.off, .int .i64 s.tar, a, .int .i64 s.cha, b, c], none⟩ := by rw [← hH1]; exact get_new_self _ _
  clear hH1
  obtain ⟨n, hn⟩ : ∃ n, n = min s.ts.length 100 := ⟨_, rfl⟩
  refine ok_loop (fun k L H' => ∃ m : Nat, L = [.int .i64 (m : Nat), .int .i64 (k : Nat)] ∧ m ≤ 3145728 + k * 3145728 ∧ Grow H1 H') n ?_ ?_ ?_
  · exact ⟨_, rfl, by omega, Grow.refl _⟩
  · rintro k L H2 hk ⟨m, rfl, hm, s2⟩
    have hk' : k < s.ts.length := by omega
    have g2 : H2.get H.next = _ := (s2.same _ (by omega)).trans g1
    have n2 := s2.next
    obtain ⟨q, d, e, f, i1, l1, w1⟩ := (h.ts.ext (s1.trans s2)).at hk'
    obtain ⟨-, -, -, -, -, l2⟩ := pl5 l1
    have hd := w1.dti.cel
    have he := w1.dif.cel
    have hf := w1.cha.cel
    have o1 := (ho.tm _ (List.getElem_mem hk')).dti.2
    have o2 := (ho.tm _ (List.getElem_mem hk')).dif.2
    have o3 := (ho.tm _ (List.getElem_mem hk')).cha.2
    have f1 : (m : Int) + (s.ts[k].dti.length : Nat) = ((m + s.ts[k].dti.length : Nat) : Int) := rfl
    have f2 : ((m + s.ts[k].dti.length : Nat) : Int) + (s.ts[k].dif.length : Nat) = ((m + s.ts[k].dti.length + s.ts[k].dif.length : Nat) : Int) := rfl
    have f3 : ((m + s.ts[k].dti.length + s.ts[k].dif.length : Nat) : Int) + (s.ts[k].cha.length : Nat) = ((m + s.ts[k].dti.length + s.ts[k].dif.length + s.ts[k].cha.length : Nat) : Int) := rfl
    unfold f_palanquinlaw9_heavy_0
    simp (maxSteps := 1000000) (disch := first | omega | (simp only [RY] <;> omega) | decide) only [↓RD, RZ, eq_self, Int.reduceToNat, Int.reduceAdd, Int.reduceSub, Int.reduceMul, Nat.reduceAdd, Nat.reduceSub, Nat.reduceMul, Nat.reduceDiv, Nat.reduceMod, Nat.reduceBEq, Nat.reduceLeDiff, g2, h.ts.vlen, i1, l2, hd.1, hd.2, he.1, he.2, hf.1, hf.2, w1.dti.vlen, w1.dif.vlen, w1.cha.vlen, f1, f2, f3]
    exact ⟨_, by rfl, by omega, (s2.trans (Grow.new _ _)).set (by omega) _⟩
  · rintro L H2 ⟨m, rfl, hm, s2⟩
    have g2 : H2.get H.next = _ := (s2.same _ (by omega)).trans g1
    unfold f_palanquinlaw9_heavy_0
    have fin := s1.trans s2
    by_cases h6 : 6000 < m
    · by_cases hk : n < s.ts.length
      · simp (maxSteps := 1000000) (disch := first | omega | (simp only [RY] <;> omega) | decide) only [↓RD, RZ, eq_self, Int.reduceToNat, Int.reduceAdd, Int.reduceSub, Int.reduceMul, Nat.reduceAdd, Nat.reduceSub, Nat.reduceMul, Nat.reduceDiv, Nat.reduceMod, Nat.reduceBEq, Nat.reduceLeDiff, g2, h.ts.vlen]
        exact ⟨⟨_, rfl, fun h => by cases h⟩, fin⟩
      · simp (maxSteps := 1000000) (disch := first | omega | (simp only [RY] <;> omega) | decide) only [↓RD, RZ, eq_self, Int.reduceToNat, Int.reduceAdd, Int.reduceSub, Int.reduceMul, Nat.reduceAdd, Nat.reduceSub, Nat.reduceMul, Nat.reduceDiv, Nat.reduceMod, Nat.reduceBEq, Nat.reduceLeDiff, g2, h.ts.vlen]
        exact ⟨⟨_, rfl, fun h => by cases h⟩, fin⟩
    · by_cases hk : n < s.ts.length
      · simp (maxSteps := 1000000) (disch := first | omega | (simp only [RY] <;> omega) | decide) only [↓RD, RZ, eq_self, Int.reduceToNat, Int.reduceAdd, Int.reduceSub, Int.reduceMul, Nat.reduceAdd, Nat.reduceSub, Nat.reduceMul, Nat.reduceDiv, Nat.reduceMod, Nat.reduceBEq, Nat.reduceLeDiff, g2, h.ts.vlen]
        exact ⟨⟨_, rfl, fun h => by first | cases h | (have := of_decide_eq_false h; omega)⟩, fin⟩
      · simp (maxSteps := 1000000) (disch := first | omega | (simp only [RY] <;> omega) | decide) only [↓RD, RZ, eq_self, Int.reduceToNat, Int.reduceAdd, Int.reduceSub, Int.reduceMul, Nat.reduceAdd, Nat.reduceSub, Nat.reduceMul, Nat.reduceDiv, Nat.reduceMod, Nat.reduceBEq, Nat.reduceLeDiff, g2, h.ts.vlen]
        exact ⟨⟨_, rfl, fun h => by first | cases h | (have := of_decide_eq_false h; omega)⟩, fin⟩

theorem lc_blk9 {H : Heap} {id n e : Nat} {ty : TypeId} {cells : List V} (h : H.get id = some ⟨ty, cells, none⟩) (hi : id < H.next) (hl : cells.length = n * e) : Lc e 0 H (.sl id 0 n (.fix n)) cells n := by
  refine ⟨?_, fun i hi' => ?_, Nat.le_refl _⟩
  · simp only [rcells, h, Option.bind_some]
    rw [if_pos (by omega), List.drop_zero, ← hl, List.take_length]
  · simp only [V.pid, Option.some.injEq] at hi'
    subst hi'; exact ⟨Nat.zero_le _, hi⟩

def sp1 : Sr := ⟨0, 1, [⟨0, 0, [2], [], []⟩], 0, [], []⟩
def fp1 : Fr := { Fr0 with st := true, num := 5, dti := [2] }

theorem fine_sp1 : fine sp1 = true := by
  refine fine_yes ⟨by decide, by decide, by decide, by decide, by decide, fun i hi => ?_, by decide, by decide, by decide⟩
  rcases i with _ | i
  · simp [LayAt, sp1]
  · exact absurd hi (by show ¬ (i + 1 < 1); omega)

theorem so_sp1 : SrO sp1 := by
  refine ⟨by decide, by decide, by decide, ?_, by decide, ⟨by decide, by decide⟩, by decide, by decide⟩
  intro t ht
  simp only [sp1, List.mem_cons, List.not_mem_nil, or_false] at ht
  subst ht
  exact ⟨by decide, by decide, ⟨by decide, by decide⟩, ⟨by decide, by decide⟩, ⟨by decide, by decide⟩⟩
theorem so_0 : SrO Sr0 := ⟨by decide, by decide, by decide, fun t h => (by cases h), by decide, ⟨by decide, by decide⟩, by decide, by decide⟩
theorem fo_fp1 : FrO fp1 := ⟨by decide, by decide, so_0, by decide, ⟨by decide, by decide⟩, ⟨by decide, by decide⟩, ⟨by decide, by decide⟩⟩

theorem good_fp1 : good fp1 sp1 = true := by
  refine dec_yes ⟨⟨0, 0, [2], [], []⟩, ?_, ⟨.inr (by decide), .inr (by decide), by decide, by decide, by decide, by decide⟩⟩
  have : hold fp1 sp1 = sp1 := rfl
  rw [this]
  unfold tmOf
  rw [fine_sp1]
  rfl

theorem plain_ok {H : Heap} : Ok (sem T fn_palanquinlaw9_plain []) H fun r H' => SrR 0 H' r sp1 ∧ Grow H H' := by
  refine ok_palanquinlaw9_plain ?_
  unfold f_palanquinlaw9_plain
  simp (maxSteps := 1000000) (disch := first | omega | (simp only [RY] <;> omega) | decide) only [↓RD, RZ, eq_self, Int.reduceToNat, Int.reduceAdd, Int.reduceSub, Int.reduceMul, Nat.reduceAdd, Nat.reduceSub, Nat.reduceMul, Nat.reduceDiv, Nat.reduceMod, Nat.reduceBEq, Nat.reduceLeDiff]
  generalize hH1 : Heap.set _ _ _ = H1
  have s1 : Grow H H1 := by rw [← hH1]; exact (((Grow.new H _).trans (Grow.new _ _)).trans (Grow.new _ _)).set (by omega) _
  have n1 : H1.next = H.next + 3 := by rw [← hH1]; rfl
  have g1 : H1.get (H.next + 1) = some ⟨ty_int, [.int .i64 2], none⟩ := by rw [← hH1]; simp (maxSteps := 1000000) (disch := first | omega | (simp only [RY] <;> omega) | decide) only [↓RD, RZ, eq_self, Int.reduceToNat, Int.reduceAdd, Int.reduceSub, Int.reduceMul, Nat.reduceAdd, Nat.reduceSub, Nat.reduceMul, Nat.reduceDiv, Nat.reduceMod, Nat.reduceBEq, Nat.reduceLeDiff]
  have g4 : H1.get (H.next + 1 + 1) = some ⟨ty_depend_Template, [.int .i64 0, .int .i64 0, .sl (H.next + 1) 0 1 (.fix 1), .nils, .nils], none⟩ := by rw [← hH1]; simp (maxSteps := 1000000) (disch := first | omega | (simp only [RY] <;> omega) | decide) only [↓RD, RZ, eq_self, Int.reduceToNat, Int.reduceAdd, Int.reduceSub, Int.reduceMul, Nat.reduceAdd, Nat.reduceSub, Nat.reduceMul, Nat.reduceDiv, Nat.reduceMod, Nat.reduceBEq, Nat.reduceLeDiff]
  clear hH1
  refine ⟨⟨_, .nils, .nils, rfl, ⟨⟨[(⟨0, 0, [2], [], []⟩, .sl (H.next + 1) 0 1 (.fix 1), .nils, .nils)], rfl, lc_blk9 g4 (by omega) rfl, fun w hw => ?_⟩, Lc.nil, Lc.nil⟩⟩, s1⟩
  simp only [List.mem_cons, List.not_mem_nil, or_false] at hw
  subst hw
  exact ⟨lc_blk9 g1 (by omega) rfl, Lc.nil, Lc.nil⟩

theorem pk_fp1 : Pk (headB fp1).length [128, 0, 5] (headB fp1) := by
  refine ⟨by decide, by decide, ?_⟩
  have : ∀ i < 3, ∀ j < 8, ([128, 0, 5].getD i 0).testBit (7 - j) = (headB fp1).getD (8 * i + j) false := by decide
  intro i j h hj
  rw [← getD_get (d := 0) h]
  exact this i h j hj

theorem awake9_ok {H : Heap} : Ok (sem T fn_palanquinlaw9_awake []) H fun r H' => r = .bool true ∧ Grow H H' := by
  refine ok_palanquinlaw9_awake ?_
  unfold f_palanquinlaw9_awake
  simp (maxSteps := 1000000) (disch := first | omega | (simp only [RY] <;> omega) | decide) only [↓RD, RZ, eq_self, Int.reduceToNat, Int.reduceAdd, Int.reduceSub, Int.reduceMul, Nat.reduceAdd, Nat.reduceSub, Nat.reduceMul, Nat.reduceDiv, Nat.reduceMod, Nat.reduceBEq, Nat.reduceLeDiff]
  generalize hH1 : Heap.new H _ = H1
  have s1 : Grow H H1 := by rw [← hH1]; exact Grow.new _ _
  have n1 : H1.next = H.next + 1 := by rw [← hH1]; rfl
  have g1 : H1.get H.next = some ⟨ty_int, [.int .i64 2], none⟩ := by rw [← hH1]; simp (maxSteps := 1000000) (disch := first | omega | (simp only [RY] <;> omega) | decide) only [↓RD, RZ, eq_self, Int.reduceToNat, Int.reduceAdd, Int.reduceSub, Int.reduceMul, Nat.reduceAdd, Nat.reduceSub, Nat.reduceMul, Nat.reduceDiv, Nat.reduceMod, Nat.reduceBEq, Nat.reduceLeDiff]
  clear hH1
  refine ok_bind' plain_ok ?_
  rintro v H2 ⟨hv, s2⟩
  have n2 := s2.next
  have hf : FrR 0 H2 (.agg (fcells fp1 .nils .nils .nils (.sl H.next 0 1 (.fix 1)) .nils .nils)) fp1 := FrC.val ⟨SrC.zero, lc_blk9 ((s2.same _ (by omega)).trans g1) (by omega) rfl, Lc.nil, Lc.nil⟩
  refine ok_bind' (Bytes_short hf hv fo_fp1 so_sp1 good_fp1 rfl rfl rfl rfl rfl) ?_
  rintro _ H3 ⟨⟨x, l, rfl, hp, hb⟩, s3⟩
  have := Pk.unique hp pk_fp1
  subst this
  obtain ⟨p0, i0, l0⟩ := Lc.at hb (i := 0) (by omega) (by decide)
  obtain ⟨p1, i1, l1⟩ := Lc.at hb (i := 1) (by omega) (by decide)
  obtain ⟨p2, i2, l2⟩ := Lc.at hb (i := 2) (by omega) (by decide)
  have d0 : LdR none H3 p0 (.int .u8 128) := fun f Q => by rw [l0.ld0 (by decide)]; exact b_lift
  have d1 : LdR none H3 p1 (.int .u8 0) := fun f Q => by rw [l1.ld0 (by decide)]; exact b_lift
  have d2 : LdR none H3 p2 (.int .u8 5) := fun f Q => by rw [l2.ld0 (by decide)]; exact b_lift
  have vl : Ax.vlen x = some (.int .i64 3) := hb.vlen
  simp (maxSteps := 1000000) (disch := first | omega | (simp only [RY] <;> omega) | decide) only [↓RD, RZ, eq_self, Int.reduceToNat, Int.reduceAdd, Int.reduceSub, Int.reduceMul, Nat.reduceAdd, Nat.reduceSub, Nat.reduceMul, Nat.reduceDiv, Nat.reduceMod, Nat.reduceBEq, Nat.reduceLeDiff, vl, i0, d0, i1, d1, i2, d2]
  refine ok_bind' plain_ok ?_
  rintro v2 H4 ⟨hv2, s4⟩
  refine ok_bind' (Fine_ok hv2 so_sp1) ?_
  rintro _ H5 ⟨rfl, s5⟩
  rw [fine_sp1]
  simp (maxSteps := 1000000) (disch := first | omega | (simp only [RY] <;> omega) | decide) only [↓RD, RZ, eq_self, Int.reduceToNat, Int.reduceAdd, Int.reduceSub, Int.reduceMul, Nat.reduceAdd, Nat.reduceSub, Nat.reduceMul, Nat.reduceDiv, Nat.reduceMod, Nat.reduceBEq, Nat.reduceLeDiff]
  exact (((s1.trans s2).trans s3).trans s4).trans s5

end Go.Ax.D9
/- DepRf -/
set_option maxRecDepth 100000
set_option linter.unusedVariables false
set_option linter.unusedSimpArgs false
namespace Go.Ax.D9
open Go.Ax B6
section
variable {tS tF : TypeId} {R : St → Heap → Prop} {am : Nat × Nat} {rb bf b7 tn cn : Nat} {B G H H' : Heap} {c3 : List V} {ks : List (Nat × Blk)} {f f' : Fr} {a b c d e g a' b' c' d' e' g' x1 x2 x3 : V} {σ σ' : St} {off tar ch : Int}
theorem PS.step (hR : Rl am.1 am.2 R) {cf : List V} {F F' : List Nat} (h : PS tS tF R am.1 am.2 B bf c3 cf σ H) (s : Step H H' F F') (hF : ∀ i ∈ F, bf < i) : PS tS tF R am.1 am.2 B bf c3 cf σ H' := by
  obtain ⟨h1, h2, h3, h4, h5, h6⟩ := h
  have n := s.next
  have n2 := h2.next
  exact ⟨hR.keep h1 (fun i _ hi => s.same i (by omega) fun hm => by have := hF i hm; omega) n, ⟨by omega, fun i hi => by rw [s.same i (by omega) fun hm => by have := hF i hm; omega, h2.same i hi]⟩,
    (s.same _ (by omega) fun hm => by have := hF _ hm; omega).trans h3, (s.same _ (by omega) fun hm => by have := hF _ hm; omega).trans h4, (s.same _ (by omega) fun hm => by have := hF _ hm; omega).trans h5, by omega⟩

end
end Go.Ax.D9
/- DepRg -/
set_option maxRecDepth 100000
set_option linter.unusedVariables false
set_option linter.unusedSimpArgs false
namespace Go.Ax.D9
open Go.Ax B6
section
variable {am : Nat × Nat} {rb bf tn cn : Nat} {B H : Heap} {c3 : List V} {ks : List (Nat × Blk)} {f : Fr} {a b c : V} {σ : St} {off : Int} {x1 x2 x3 : V} {t : Tm} {u1 u2 u3 : V}
end
end Go.Ax.D9
/- DepRh -/
set_option maxRecDepth 100000
set_option linter.unusedVariables false
set_option linter.unusedSimpArgs false
namespace Go.Ax.D9
open Go.Ax B6
end Go.Ax.D9
/- DepRi -/
set_option maxRecDepth 100000
set_option linter.unusedVariables false
set_option linter.unusedSimpArgs false
namespace Go.Ax.D9
open Go.Ax B6
theorem SameInts_same {lo lo' : Nat} {H : Heap} {v w : V} {a : List Int} (ha : Il lo H v a) (hb : Il lo' H w a) (hl : a.length ≤ 1099511627776) :
    Ok (sem T fn_palanquinref9_SameInts [v, w]) H fun r H' => r = .bool true ∧ H' = H := by
  refine ok_mono (SameInts_ok ha hb hl) ?_
  rintro r H' ⟨rfl, rfl⟩
  exact ⟨by rw [decide_eq_true rfl], rfl⟩

/-- A structure as the document's. -/
theorem Structure_ok' {lo : Nat} {H : Heap} {s : Sr} {a b c : V} {ws : List Tw} (h : SrC lo H s a b c) (ho : SrO s) (hws : ws.map (·.1) = s.ts) (hlc : Lc 5 lo H a (ws.map tc).flatten ws.length) (htm : ∀ w ∈ ws, TmR lo H w.1 w.2.1 w.2.2.1 w.2.2.2) :
    Ok (sem T fn_palanquinhelp_Structure [.agg (scells s a b c)]) H fun r H' => (∃ acc, r = .agg (scells s acc b c) ∧ Lc 5 (H.next + 3) H' acc (ws.map tc).flatten ws.length) ∧ Grow H H' := by
  have nt := ho.ts
  refine ok_palanquinhelp_Structure ?_
  unfold f_palanquinhelp_Structure
  unfold scells
  simp (maxSteps := 1000000) (disch := first | omega | (simp only [RY] <;> omega) | decide) only [↓RD, RZ, eq_self, Int.reduceToNat, Int.reduceAdd, Int.reduceSub, Int.reduceMul, Nat.reduceAdd, Nat.reduceSub, Nat.reduceMul, Nat.reduceDiv, Nat.reduceMod, Nat.reduceBEq, Nat.reduceLeDiff, h.ts.cells1, h.ts.okc, h.pro.cells1, h.pro.okc, h.siz.cells1, h.siz.okc]
  generalize hH1 : Heap.set _ _ _ = H1
  have s1 : Grow H H1 := by rw [← hH1]; exact (((Grow.new H _).trans (Grow.new _ _)).trans (Grow.new _ _)).set (by omega) _
  have n1 : H1.next = H.next + 3 := by rw [← hH1]; rfl
  have g1 : H1.get H.next = some ⟨ty_depend_Structure, [.int .i64 s.off, .int .i64 s.tar, a, .int .i64 s.cha, b, c], none⟩ := by rw [← hH1]; simp (maxSteps := 1000000) (disch := first | omega | (simp only [RY] <;> omega) | decide) only [↓RD, RZ, eq_self, Int.reduceToNat, Int.reduceAdd, Int.reduceSub, Int.reduceMul, Nat.reduceAdd, Nat.reduceSub, Nat.reduceMul, Nat.reduceDiv, Nat.reduceMod, Nat.reduceBEq, Nat.reduceLeDiff]
  have g2 : H1.get (H.next + 1) = some ⟨ty_palanquinref9_Structure, [.int .i64 0, .int .i64 0, .nils, .int .i64 0, .nils, .nils], none⟩ := by rw [← hH1]; simp (maxSteps := 1000000) (disch := first | omega | (simp only [RY] <;> omega) | decide) only [↓RD, RZ, eq_self, Int.reduceToNat, Int.reduceAdd, Int.reduceSub, Int.reduceMul, Nat.reduceAdd, Nat.reduceSub, Nat.reduceMul, Nat.reduceDiv, Nat.reduceMod, Nat.reduceBEq, Nat.reduceLeDiff]
  have g3 : H1.get (H.next + 2) = some ⟨ty_palanquinref9_Structure, [.int .i64 s.off, .int .i64 s.tar, .nils, .int .i64 s.cha, b, c], none⟩ := by rw [← hH1]; exact get_set_self _ _ _
  clear hH1
  have hwl : ws.length = s.ts.length := by rw [← hws, List.length_map]
  have hvl := h.ts.vlen
  refine ok_loop (fun k L H' => ∃ acc, L = [.int .i64 (k : Nat)] ∧ At1 (H.next + 2) H1 H' ∧ H'.get (H.next + 2) = some ⟨ty_palanquinref9_Structure, [.int .i64 s.off, .int .i64 s.tar, acc, .int .i64 s.cha, b, c], none⟩ ∧ App ty_palanquinref9_Template 5 H1.next H' acc ((ws.take k).map tc).flatten k) s.ts.length ?_ ?_ ?_
  · exact ⟨.nils, rfl, At1.refl _ _, g3, App.nil⟩
  · rintro k L H2 hk ⟨acc, rfl, t2, q2, ha⟩
    have n2 := t2.next
    have s2 : Grow H H2 := ⟨by omega, fun i hi => by rw [t2.same i (by omega) (by omega), s1.same i hi]⟩
    have u1 : H2.get H.next = _ := (t2.same _ (by omega) (by omega)).trans g1
    obtain ⟨p, hp, hpl⟩ := (hlc.ext s2).at (i := (k : Nat)) (by omega) (by omega)
    have e : ((ws.map tc).flatten.drop (k * 5)).take 5 = tc ws[k] := by
      rw [flat_piece _ (tc_len ws) k (by rw [List.length_map]; omega), List.getElem_map]
    rw [Int.toNat_natCast, e] at hpl
    have l2 := hpl.all
    unfold tc at l2
    dsimp only [List.length_cons, List.length_nil] at l2
    have hw := htm _ (List.getElem_mem (show k < ws.length by omega))
    have hd := hw.dti.cel
    have he := hw.dif.cel
    have hf := hw.cha.cel
    unfold f_palanquinhelp_Structure_0
    simp (maxSteps := 1000000) (disch := first | omega | (simp only [RY] <;> omega) | decide) only [↓RD, RZ, eq_self, Int.reduceToNat, Int.reduceAdd, Int.reduceSub, Int.reduceMul, Nat.reduceAdd, Nat.reduceSub, Nat.reduceMul, Nat.reduceDiv, Nat.reduceMod, Nat.reduceBEq, Nat.reduceLeDiff, u1, q2, hvl, hp, l2, hd.1, hd.2, he.1, he.2, hf.1, hf.2]
    refine okb_app (lo := H1.next) (bytes := 88) (App.keep ha ((Grow.new _ _).keep _)) (by rw [next_new]; omega) (acells_fresh (cs := tc ws[k]) rfl) rfl (by omega) (by omega) fun x' H3 ha3 hs3 => ?_
    have hacc : ∀ id, acc.pid = some id → H1.next ≤ id := fun id e => (ha.lc.own id e).1
    have n3 := hs3.next
    rw [next_new] at n3
    have low : ∀ i, i < H1.next → H3.get i = H2.get i := fun i hi => by
      rw [hs3.same i (by rw [next_new]; omega) (fun e => by have := hacc i (by simpa [mem_pid] using e); omega), get_new_ne _ _ (by omega)]
    have q3 : H3.get (H.next + 2) = _ := (low _ (by omega)).trans q2
    simp (maxSteps := 1000000) (disch := first | omega | (simp only [RY] <;> omega) | decide) only [↓RD, RZ, eq_self, Int.reduceToNat, Int.reduceAdd, Int.reduceSub, Int.reduceMul, Nat.reduceAdd, Nat.reduceSub, Nat.reduceMul, Nat.reduceDiv, Nat.reduceMod, Nat.reduceBEq, Nat.reduceLeDiff, q3, ha3.lc.cells1, ha3.lc.okc]
    refine ⟨x', by rfl, ⟨by rw [next_set]; omega, fun i hi hik => by rw [get_set_ne _ _ hik, low i hi, t2.same i hi hik]⟩, by first | rfl | exact get_set_self _ _ _, ?_⟩
    have e3 : ((ws.take (k + 1)).map tc).flatten = ((ws.take k).map tc).flatten ++ tc ws[k] := by
      rw [List.take_succ_eq_append_getElem (by omega), List.map_append, List.flatten_append, List.map_cons, List.map_nil, List.flatten_cons, List.flatten_nil, List.append_nil]
    rw [e3]
    exact App.keep ha3 (Keep.set _ (by omega) _)
  · rintro L H2 ⟨acc, rfl, t2, q2, ha⟩
    have n2 := t2.next
    have s2 : Grow H H2 := ⟨by omega, fun i hi => by rw [t2.same i (by omega) (by omega), s1.same i hi]⟩
    have u1 : H2.get H.next = _ := (t2.same _ (by omega) (by omega)).trans g1
    have u2 : H2.get (H.next + 1) = _ := (t2.same _ (by omega) (by omega)).trans g2
    have hal := ha.lc
    unfold f_palanquinhelp_Structure_0
    simp (maxSteps := 1000000) (disch := first | omega | (simp only [RY] <;> omega) | decide) only [↓RD, RZ, eq_self, Int.reduceToNat, Int.reduceAdd, Int.reduceSub, Int.reduceMul, Nat.reduceAdd, Nat.reduceSub, Nat.reduceMul, Nat.reduceDiv, Nat.reduceMod, Nat.reduceBEq, Nat.reduceLeDiff, u1, hvl, q2, u2, hal.cells1, hal.okc, h.pro.cells1, h.pro.okc, h.siz.cells1, h.siz.okc]
    have s3 : ∀ Q, Grow H (H2.set (H.next + 1) Q) := fun Q => s2.set (by omega) _
    rw [List.take_of_length_le (by omega), ← hwl] at hal
    exact ⟨⟨acc, rfl, (hal.setn (fun e => by have := (hal.own _ e).1; omega) _).low (by omega)⟩, s3 _⟩

set_option maxHeartbeats 1600000 in
theorem HFrame_ok {H : Heap} {v : V} {f : Fr} (h : FrR 0 H v f) (fo : FrO f) : Ok (sem T fn_palanquinhelp_Frame [v]) H fun r H' => FrR 0 H' r f ∧ Grow H H' := by
  obtain ⟨a, b, c, d, e, g, rfl, h⟩ := h
  obtain ⟨ca, cb, cc, cd, ce, cg⟩ := fr_dti h
  refine ok_palanquinhelp_Frame ?_
  unfold f_palanquinhelp_Frame
  unfold fcells
  simp (maxSteps := 1000000) (disch := first | omega | (simp only [RY] <;> omega) | decide) only [↓RD, RZ, eq_self, Int.reduceToNat, Int.reduceAdd, Int.reduceSub, Int.reduceMul, Nat.reduceAdd, Nat.reduceSub, Nat.reduceMul, Nat.reduceDiv, Nat.reduceMod, Nat.reduceBEq, Nat.reduceLeDiff, ca.1, ca.2, cb.1, cb.2, cc.1, cc.2, cd.1, cd.2, ce.1, ce.2, cg.1, cg.2]
  generalize hH1 : Heap.new (Heap.new H _) _ = H1
  have s1 : Grow H H1 := by rw [← hH1]; exact (Grow.new _ _).trans (Grow.new _ _)
  have n1 : H1.next = H.next + 2 := by rw [← hH1]; rfl
  have g1 : H1.get H.next = some ⟨ty_depend_Frame, fcells f a b c d e g, none⟩ := by rw [← hH1]; unfold fcells; simp (maxSteps := 1000000) (disch := first | omega | (simp only [RY] <;> omega) | decide) only [↓RD, RZ, eq_self, Int.reduceToNat, Int.reduceAdd, Int.reduceSub, Int.reduceMul, Nat.reduceAdd, Nat.reduceSub, Nat.reduceMul, Nat.reduceDiv, Nat.reduceMod, Nat.reduceBEq, Nat.reduceLeDiff]
  have z1 : H1.get (H.next + 1) = some ⟨ty_palanquinref9_Frame, fcells Fr0 .nils .nils .nils .nils .nils .nils, none⟩ := by rw [← hH1]; unfold fcells; simp (maxSteps := 1000000) (disch := first | omega | (simp only [RY] <;> omega) | decide) only [↓RD, RZ, eq_self, Int.reduceToNat, Int.reduceAdd, Int.reduceSub, Int.reduceMul, Nat.reduceAdd, Nat.reduceSub, Nat.reduceMul, Nat.reduceDiv, Nat.reduceMod, Nat.reduceBEq, Nat.reduceLeDiff]; rfl
  clear hH1
  unfold fcells at g1 z1
  obtain ⟨ws, hws, hlc, htm⟩ := h.s.ts
  refine ok_bind' (Structure_ok' (h.s.ext s1) fo.s hws (hlc.ext s1) (fun w hw => (htm w hw).ext s1)) ?_
  rintro _ H2 ⟨⟨x, rfl, hx⟩, s2⟩
  have n2 := s2.next
  have g2 : H2.get H.next = _ := (s2.same _ (by omega)).trans g1
  have z2 : H2.get (H.next + 1) = _ := (s2.same _ (by omega)).trans z1
  have cx := hx.cel
  unfold scells
  simp (maxSteps := 1000000) (disch := first | omega | (simp only [RY] <;> omega) | decide) only [↓RD, RZ, eq_self, Int.reduceToNat, Int.reduceAdd, Int.reduceSub, Int.reduceMul, Nat.reduceAdd, Nat.reduceSub, Nat.reduceMul, Nat.reduceDiv, Nat.reduceMod, Nat.reduceBEq, Nat.reduceLeDiff, g1, g2, z2, cx.1, cx.2, ca.1, ca.2, cb.1, cb.2, cc.1, cc.2, cd.1, cd.2, ce.1, ce.2, cg.1, cg.2]
  generalize hH3 : Heap.set H2 _ _ = H3
  have s3 : Grow H H3 := by rw [← hH3]; exact (s1.trans s2).set (by omega) _
  have hx3 : Lc 5 0 H3 x (ws.map tc).flatten ws.length := by rw [← hH3]; exact (hx.setn (fun e => by have := (hx.own _ e).1; omega) _).low (Nat.zero_le _)
  exact ⟨⟨x, b, c, d, e, g, rfl, ⟨⟨⟨ws, hws, hx3, fun w hw => (htm w hw).ext s3⟩, h.s.pro.ext s3, h.s.siz.ext s3⟩, h.dti.ext s3, h.dif.ext s3, h.cha.ext s3⟩⟩, s3⟩

end Go.Ax.D9
/- DepY1 -/
set_option maxRecDepth 100000
set_option linter.unusedVariables false
set_option linter.unusedSimpArgs false
namespace Go.Ax.D9
open Go.Ax B6
theorem vb_map' (l : List Nat) : vbytes (l.map by8) = some (l.map UInt8.ofNat) := by
  induction l with
  | nil => rfl
  | cons x l ih => simp [by8, vbytes, ih]

theorem Same_rc {H : Heap} {v w : V} {l : List Nat} {n m : Nat} (hv : rcells 1 H v = some (l.map by8, n)) (hw : rcells 1 H w = some (l.map by8, m)) : Ok (sem T fn_palanquinref1_Same [v, w]) H fun r H' => r = .bool true ∧ H' = H := by
  refine ok_palanquinref1_Same ?_
  unfold f_palanquinref1_Same
  refine ok_bind (ok_tostr hv (vb_map' l) ?_)
  refine ok_bind (ok_tostr hw (vb_map' l) ?_)
  simp (maxSteps := 1000000) (disch := first | omega | (simp only [RY] <;> omega) | decide) only [↓RD, RZ, eq_self, Int.reduceToNat, Int.reduceAdd, Int.reduceSub, Int.reduceMul, Nat.reduceAdd, Nat.reduceSub, Nat.reduceMul, Nat.reduceDiv, Nat.reduceMod, Nat.reduceBEq, Nat.reduceLeDiff, beq_self_eq_true]

theorem long_ok {H : Heap} {v : V} {f : Fr} (hf : FrR 0 H v f) (fo : FrO f) : Ok (sem T fn_palanquinlaw9_long [v]) H fun r H' => (∃ b, r = .bool b) ∧ Grow H H' := by
  obtain ⟨a, b, c, d, e, g, rfl, hf⟩ := hf
  obtain ⟨ca, cb, cc, cd, ce, cg⟩ := fr_dti hf
  refine ok_palanquinlaw9_long ?_
  unfold f_palanquinlaw9_long
  unfold fcells
  simp (maxSteps := 1000000) (disch := first | omega | (simp only [RY] <;> omega) | decide) only [↓RD, RZ, eq_self, Int.reduceToNat, Int.reduceAdd, Int.reduceSub, Int.reduceMul, Nat.reduceAdd, Nat.reduceSub, Nat.reduceMul, Nat.reduceDiv, Nat.reduceMod, Nat.reduceBEq, Nat.reduceLeDiff, ca.1, ca.2, cb.1, cb.2, cc.1, cc.2, cd.1, cd.2, ce.1, ce.2, cg.1, cg.2]
  generalize hH1 : Heap.new H _ = H1
  have s1 : Grow H H1 := by rw [← hH1]; exact Grow.new _ _
  have n1 : H1.next = H.next + 1 := by rw [← hH1]; rfl
  have f1 : H1.get H.next = some ⟨ty_depend_Frame, fcells f a b c d e g, none⟩ := by rw [← hH1]; unfold fcells; exact get_new_self _ _
  clear hH1
  unfold fcells at f1
  have hs := (hf.s.ext s1).val
  unfold scells at hs
  refine ok_bind' (heavy9_ok hs fo.s) ?_
  rintro _ H2 ⟨⟨b1, rfl, -⟩, s2⟩
  have f2 : H2.get H.next = _ := (s2.same _ (by omega)).trans f1
  cases b1 with
  | true =>
    simp (maxSteps := 1000000) (disch := first | omega | (simp only [RY] <;> omega) | decide) only [↓RD, RZ, eq_self, Int.reduceToNat, Int.reduceAdd, Int.reduceSub, Int.reduceMul, Nat.reduceAdd, Nat.reduceSub, Nat.reduceMul, Nat.reduceDiv, Nat.reduceMod, Nat.reduceBEq, Nat.reduceLeDiff]
    exact ⟨⟨_, rfl⟩, s1.trans s2⟩
  | false =>
    have hf2 := hf.ext (s1.trans s2)
    simp (maxSteps := 1000000) (disch := first | omega | (simp only [RY] <;> omega) | decide) only [↓RD, RZ, eq_self, Int.reduceToNat, Int.reduceAdd, Int.reduceSub, Int.reduceMul, Nat.reduceAdd, Nat.reduceSub, Nat.reduceMul, Nat.reduceDiv, Nat.reduceMod, Nat.reduceBEq, Nat.reduceLeDiff, RG, f2, hf2.dti.vlen, hf2.dif.vlen, hf2.cha.vlen]
    exact ⟨⟨_, rfl⟩, s1.trans s2⟩

set_option maxHeartbeats 6400000 in
theorem dsays_ok {H : Heap} {v w : V} {f : Fr} {k : Sr} (hf : ∀ lo H, FrR lo H v f) (hk : ∀ lo H, SrR lo H w k) (fo : FrO f) (ko : SrO k) :
    Ok (sem T fn_palanquinlaw9_DependSays [v, w]) H fun r H' => r = .bool true := by
  obtain ⟨a, b, c, d, e, g, rfl, hf0⟩ := hf 0 H
  obtain ⟨p, q, r, rfl, hk0⟩ := hk 0 H
  obtain ⟨ca, cb, cc, cd, ce, cg⟩ := fr_dti hf0
  have kts := hk0.ts.cel
  have kpr := hk0.pro.cel
  have ksi := hk0.siz.cel
  have hfc : ∀ H, FrC 0 H f a b c d e g := fun H => by
    obtain ⟨a', b', c', d', e', g', he, hh⟩ := hf 0 H
    unfold fcells at he
    simp only [V.agg.injEq, List.cons.injEq, and_true, true_and] at he
    obtain ⟨rfl, rfl, rfl, rfl, rfl, rfl⟩ := he
    exact hh
  refine ok_palanquinlaw9_DependSays ?_
  unfold f_palanquinlaw9_DependSays
  unfold fcells scells
  simp (maxSteps := 1000000) (disch := first | omega | (simp only [RY] <;> omega) | decide) only [↓RD, RZ, eq_self, Int.reduceToNat, Int.reduceAdd, Int.reduceSub, Int.reduceMul, Nat.reduceAdd, Nat.reduceSub, Nat.reduceMul, Nat.reduceDiv, Nat.reduceMod, Nat.reduceBEq, Nat.reduceLeDiff, ca.1, ca.2, cb.1, cb.2, cc.1, cc.2, cd.1, cd.2, ce.1, ce.2, cg.1, cg.2, kts.1, kts.2, kpr.1, kpr.2, ksi.1, ksi.2]
  generalize hH1 : Heap.new (Heap.new H _) _ = H1
  have s1 : Grow H H1 := by rw [← hH1]; exact (Grow.new _ _).trans (Grow.new _ _)
  have n1 : H1.next = H.next + 2 := by rw [← hH1]; rfl
  have f1 : H1.get H.next = some ⟨ty_depend_Frame, fcells f a b c d e g, none⟩ := by rw [← hH1]; unfold fcells; simp (maxSteps := 1000000) (disch := first | omega | (simp only [RY] <;> omega) | decide) only [↓RD, RZ, eq_self, Int.reduceToNat, Int.reduceAdd, Int.reduceSub, Int.reduceMul, Nat.reduceAdd, Nat.reduceSub, Nat.reduceMul, Nat.reduceDiv, Nat.reduceMod, Nat.reduceBEq, Nat.reduceLeDiff]
  have y1 : H1.get (H.next + 1) = some ⟨ty_depend_Structure, [.int .i64 k.off, .int .i64 k.tar, p, .int .i64 k.cha, q, r], none⟩ := by rw [← hH1]; simp (maxSteps := 1000000) (disch := first | omega | (simp only [RY] <;> omega) | decide) only [↓RD, RZ, eq_self, Int.reduceToNat, Int.reduceAdd, Int.reduceSub, Int.reduceMul, Nat.reduceAdd, Nat.reduceSub, Nat.reduceMul, Nat.reduceDiv, Nat.reduceMod, Nat.reduceBEq, Nat.reduceLeDiff]
  clear hH1
  unfold fcells at f1
  refine ok_bind' awake9_ok ?_
  rintro _ H2 ⟨rfl, s2⟩
  have n2 := s2.next
  have f2 : H2.get H.next = _ := (s2.same _ (by omega)).trans f1
  have y2 : H2.get (H.next + 1) = _ := (s2.same _ (by omega)).trans y1
  simp (maxSteps := 1000000) (disch := first | omega | (simp only [RY] <;> omega) | decide) only [↓RD, RZ, eq_self, Int.reduceToNat, Int.reduceAdd, Int.reduceSub, Int.reduceMul, Nat.reduceAdd, Nat.reduceSub, Nat.reduceMul, Nat.reduceDiv, Nat.reduceMod, Nat.reduceBEq, Nat.reduceLeDiff, f2]
  refine ok_bind' (long_ok (hf 0 _) fo) ?_
  rintro _ H3 ⟨⟨b1, rfl⟩, s3⟩
  have n3 := s3.next
  have f3 : H3.get H.next = _ := (s3.same _ (by omega)).trans f2
  have y3 : H3.get (H.next + 1) = _ := (s3.same _ (by omega)).trans y2
  cases b1 with
  | true => simp (maxSteps := 1000000) (disch := first | omega | (simp only [RY] <;> omega) | decide) only [↓RD, RZ, eq_self, Int.reduceToNat, Int.reduceAdd, Int.reduceSub, Int.reduceMul, Nat.reduceAdd, Nat.reduceSub, Nat.reduceMul, Nat.reduceDiv, Nat.reduceMod, Nat.reduceBEq, Nat.reduceLeDiff]
  | false =>
  simp (maxSteps := 1000000) (disch := first | omega | (simp only [RY] <;> omega) | decide) only [↓RD, RZ, eq_self, Int.reduceToNat, Int.reduceAdd, Int.reduceSub, Int.reduceMul, Nat.reduceAdd, Nat.reduceSub, Nat.reduceMul, Nat.reduceDiv, Nat.reduceMod, Nat.reduceBEq, Nat.reduceLeDiff, y3]
  refine ok_bind' (heavy9_ok (hk 0 _) ko) ?_
  rintro _ H4 ⟨⟨b2, rfl, -⟩, s4⟩
  have n4 := s4.next
  have f4 : H4.get H.next = _ := (s4.same _ (by omega)).trans f3
  have y4 : H4.get (H.next + 1) = _ := (s4.same _ (by omega)).trans y3
  cases b2 with
  | true => simp (maxSteps := 1000000) (disch := first | omega | (simp only [RY] <;> omega) | decide) only [↓RD, RZ, eq_self, Int.reduceToNat, Int.reduceAdd, Int.reduceSub, Int.reduceMul, Nat.reduceAdd, Nat.reduceSub, Nat.reduceMul, Nat.reduceDiv, Nat.reduceMod, Nat.reduceBEq, Nat.reduceLeDiff]
  | false =>
  simp (maxSteps := 1000000) (disch := first | omega | (simp only [RY] <;> omega) | decide) only [↓RD, RZ, eq_self, Int.reduceToNat, Int.reduceAdd, Int.reduceSub, Int.reduceMul, Nat.reduceAdd, Nat.reduceSub, Nat.reduceMul, Nat.reduceDiv, Nat.reduceMod, Nat.reduceBEq, Nat.reduceLeDiff, f4, y4]
  refine ok_bind' (HFrame_ok (hf 0 _) fo) ?_
  rintro _ H5 ⟨⟨a', b', c', d', e', g', rfl, hf5⟩, s5⟩
  have n5 := s5.next
  have u5 : H5.get (H.next + 1) = H4.get (H.next + 1) := s5.same _ (by omega)
  simp (maxSteps := 1000000) (disch := first | omega | (simp only [RY] <;> omega) | decide) only [↓RD, RZ, eq_self, Int.reduceToNat, Int.reduceAdd, Int.reduceSub, Int.reduceMul, Nat.reduceAdd, Nat.reduceSub, Nat.reduceMul, Nat.reduceDiv, Nat.reduceMod, Nat.reduceBEq, Nat.reduceLeDiff, u5]
  refine ok_bind' (Structure_ok (hk 0 _) ko) ?_
  rintro _ H6 ⟨⟨p', q', r', rfl, hk6⟩, s6⟩
  have n6 := s6.next
  obtain ⟨ca', cb', cc', cd', ce', cg'⟩ := fr_dti hf5
  have kts' := hk6.ts.cel
  have kpr' := hk6.pro.cel
  have ksi' := hk6.siz.cel
  unfold fcells scells
  simp (maxSteps := 1000000) (disch := first | omega | (simp only [RY] <;> omega) | decide) only [↓RD, RZ, eq_self, Int.reduceToNat, Int.reduceAdd, Int.reduceSub, Int.reduceMul, Nat.reduceAdd, Nat.reduceSub, Nat.reduceMul, Nat.reduceDiv, Nat.reduceMod, Nat.reduceBEq, Nat.reduceLeDiff, ca'.1, ca'.2, cb'.1, cb'.2, cc'.1, cc'.2, cd'.1, cd'.2, ce'.1, ce'.2, cg'.1, cg'.2, kts'.1, kts'.2, kpr'.1, kpr'.2, ksi'.1, ksi'.2, ((s5.trans s6).same _ (by omega)).trans f4, ((s5.trans s6).same _ (by omega)).trans y4]
  generalize hH7 : Heap.set (Heap.set _ _ _) _ _ = H7
  have s7 : Grow H6 H7 := by
    rw [← hH7]
    first
      | exact ((((Grow.new _ _).trans (Grow.new _ _)).set (by rfl) _).set (by rw [next_set, next_new, next_new]; omega) _)
      | exact (((Grow.new _ _).trans (Grow.new _ _)).set (by omega) _).set (by omega) _
  have n7 : H7.next = H6.next + 2 := by rw [← hH7]; rfl
  have f7 : H7.get H6.next = some ⟨ty_palanquinref9_Frame, fcells f a' b' c' d' e' g', none⟩ := by rw [← hH7]; unfold fcells; simp (maxSteps := 1000000) (disch := first | omega | (simp only [RY] <;> omega) | decide) only [↓RD, RZ, eq_self, Int.reduceToNat, Int.reduceAdd, Int.reduceSub, Int.reduceMul, Nat.reduceAdd, Nat.reduceSub, Nat.reduceMul, Nat.reduceDiv, Nat.reduceMod, Nat.reduceBEq, Nat.reduceLeDiff]
  have y7 : H7.get (H6.next + 1) = some ⟨ty_palanquinref9_Structure, [.int .i64 k.off, .int .i64 k.tar, p', .int .i64 k.cha, q', r'], none⟩ := by rw [← hH7]; simp (maxSteps := 1000000) (disch := first | omega | (simp only [RY] <;> omega) | decide) only [↓RD, RZ, eq_self, Int.reduceToNat, Int.reduceAdd, Int.reduceSub, Int.reduceMul, Nat.reduceAdd, Nat.reduceSub, Nat.reduceMul, Nat.reduceDiv, Nat.reduceMod, Nat.reduceBEq, Nat.reduceLeDiff]
  clear hH7
  unfold fcells at f7
  have s47 := (s5.trans s6).trans s7
  have f7o : H7.get H.next = _ := (s47.same _ (by omega)).trans f4
  have y7o : H7.get (H.next + 1) = _ := (s47.same _ (by omega)).trans y4
  have hf7 := (hf5.ext s6).ext s7
  have hk7 := hk6.ext s7
  refine ok_bind' (Of_ok (hf 0 _) (hk 0 _) fo ko) ?_
  rintro t30 H8 ⟨ht30, s8⟩
  obtain ⟨x1, x2, x3, rfl, hx⟩ := ht30.get
  clear ht30
  have n8 := s8.next
  have cx1 := hx.dti.cel
  have cx2 := hx.dif.cel
  have cx3 := hx.cha.cel
  generalize hot : tmOf (hold f k) f.id = ot at *
  have f8 : H8.get H6.next = _ := (s8.same _ (by omega)).trans f7
  have y8 : H8.get (H6.next + 1) = _ := (s8.same _ (by omega)).trans y7
  simp (maxSteps := 1000000) (disch := first | omega | (simp only [RY] <;> omega) | decide) only [↓RD, RZ, eq_self, Int.reduceToNat, Int.reduceAdd, Int.reduceSub, Int.reduceMul, Nat.reduceAdd, Nat.reduceSub, Nat.reduceMul, Nat.reduceDiv, Nat.reduceMod, Nat.reduceBEq, Nat.reduceLeDiff, cx1.1, cx1.2, cx2.1, cx2.2, cx3.1, cx3.2, f8, y8]
  generalize hH9 : Heap.set (Heap.new H8 _) _ _ = H9
  have s9 : Grow H8 H9 := by rw [← hH9]; exact (Grow.new _ _).set (Nat.le_refl _) _
  have n9 : H9.next = H8.next + 1 := by rw [← hH9]; rfl
  have t9 : H9.get H8.next = some ⟨ty_depend_Template, [.int .i64 (ot.getD Tm0).sp, .int .i64 (ot.getD Tm0).te, x1, x2, x3], none⟩ := by rw [← hH9]; simp (maxSteps := 1000000) (disch := first | omega | (simp only [RY] <;> omega) | decide) only [↓RD, RZ, eq_self, Int.reduceToNat, Int.reduceAdd, Int.reduceSub, Int.reduceMul, Nat.reduceAdd, Nat.reduceSub, Nat.reduceMul, Nat.reduceDiv, Nat.reduceMod, Nat.reduceBEq, Nat.reduceLeDiff]
  clear hH9
  have s79 := s8.trans s9
  have f9 : H9.get H6.next = _ := (s79.same _ (by omega)).trans f7
  have y9 : H9.get (H6.next + 1) = _ := (s79.same _ (by omega)).trans y7
  have hf9 := hf7.ext s79
  have hk9 := hk7.ext s79
  have hx9 := hx.ext s9
  have hf9v := hf9.val
  have hk9v := hk9.val
  unfold fcells at hf9v
  unfold scells at hk9v
  refine ok_bind' (Of2_ok hf9v hk9v fo ko) ?_
  rintro t36 H10 ⟨ht36, s10⟩
  rw [hot] at ht36
  obtain ⟨z1, z2, z3, rfl, hz⟩ := ht36.get
  clear ht36
  have n10 := s10.next
  have cz1 := hz.dti.cel
  have cz2 := hz.dif.cel
  have cz3 := hz.cha.cel
  have f10 : H10.get H.next = _ := ((s79.trans s10).same _ (by omega)).trans f7o
  have y10 : H10.get (H.next + 1) = _ := ((s79.trans s10).same _ (by omega)).trans y7o
  simp (maxSteps := 1000000) (disch := first | omega | (simp only [RY] <;> omega) | decide) only [↓RD, RZ, eq_self, Int.reduceToNat, Int.reduceAdd, Int.reduceSub, Int.reduceMul, Nat.reduceAdd, Nat.reduceSub, Nat.reduceMul, Nat.reduceDiv, Nat.reduceMod, Nat.reduceBEq, Nat.reduceLeDiff, cz1.1, cz1.2, cz2.1, cz2.2, cz3.1, cz3.2, f10, y10]
  generalize hH11 : Heap.set (Heap.new H10 _) _ _ = H11
  have s11 : Grow H10 H11 := by rw [← hH11]; exact (Grow.new _ _).set (Nat.le_refl _) _
  have n11 : H11.next = H10.next + 1 := by rw [← hH11]; rfl
  have t11 : H11.get H10.next = some ⟨ty_palanquinref9_Template, [.int .i64 (ot.getD Tm0).sp, .int .i64 (ot.getD Tm0).te, z1, z2, z3], none⟩ := by rw [← hH11]; simp (maxSteps := 1000000) (disch := first | omega | (simp only [RY] <;> omega) | decide) only [↓RD, RZ, eq_self, Int.reduceToNat, Int.reduceAdd, Int.reduceSub, Int.reduceMul, Nat.reduceAdd, Nat.reduceSub, Nat.reduceMul, Nat.reduceDiv, Nat.reduceMod, Nat.reduceBEq, Nat.reduceLeDiff]
  clear hH11
  have s911 := s10.trans s11
  have hz11 := hz.ext s11
  have hx11 := hx9.ext s911
  have s711 := s79.trans s911
  have f11o : H11.get H.next = _ := (s711.same _ (by omega)).trans f7o
  have y11o : H11.get (H.next + 1) = _ := (s711.same _ (by omega)).trans y7o
  have f11 : H11.get H6.next = _ := (s711.same _ (by omega)).trans f7
  have y11 : H11.get (H6.next + 1) = _ := (s711.same _ (by omega)).trans y7
  have t11o : H11.get H8.next = _ := (s911.same _ (by omega)).trans t9
  refine ok_bind' (BytesD_ok (hf 0 _) (hk 0 _) fo ko) ?_
  rintro t42 H12 ⟨ht42, s12⟩
  have n12 := s12.next
  obtain ⟨bx, ex, rfl, hbx⟩ : ∃ bx ex, t42 = .tup [bx, .int .i64 ex] ∧ (if good f k = true then ex = 0 ∧ ∃ l, Pk (frB f k).length l (frB f k) ∧ By 0 H12 bx l else ex = 1 ∧ bx = .nils) := by
    by_cases hg : good f k = true
    · rw [if_pos hg] at ht42
      obtain ⟨x, l, h1, h2, h3⟩ := ht42
      exact ⟨x, 0, h1, by rw [if_pos hg]; exact ⟨rfl, l, h2, h3⟩⟩
    · rw [if_neg hg] at ht42
      exact ⟨.nils, 1, ht42, by rw [if_neg hg]; exact ⟨rfl, rfl⟩⟩
  have f12 : H12.get H6.next = _ := (s12.same _ (by omega)).trans f11
  have y12 : H12.get (H6.next + 1) = _ := (s12.same _ (by omega)).trans y11
  have s712 := s711.trans s12
  simp (maxSteps := 1000000) (disch := first | omega | (simp only [RY] <;> omega) | decide) only [↓RD, RZ, eq_self, Int.reduceToNat, Int.reduceAdd, Int.reduceSub, Int.reduceMul, Nat.reduceAdd, Nat.reduceSub, Nat.reduceMul, Nat.reduceDiv, Nat.reduceMod, Nat.reduceBEq, Nat.reduceLeDiff, f12, y12]
  have hf12v := (hf7.ext s712).val
  have hk12v := (hk7.ext s712).val
  unfold fcells at hf12v
  unfold scells at hk12v
  refine ok_bind' (Bytes2D_ok hf12v hk12v fo ko) ?_
  rintro t48 H13 ⟨ht48, s13⟩
  have n13 := s13.next
  obtain ⟨by', ey, rfl, hby⟩ : ∃ bx ex, t48 = .tup [bx, .int .i64 ex] ∧ (if good f k = true then ex = 0 ∧ ∃ l, Pk (frB f k).length l (frB f k) ∧ rcells 1 H13 bx = some (l.map by8, l.length) ∧ ∃ id, bx.pid = some id ∧ id < H13.next else ex = 1 ∧ bx = .nils) := by
    by_cases hg : good f k = true
    · rw [if_pos hg] at ht48
      obtain ⟨x, l, h1, h2, h3, id, i1, i2, i3⟩ := ht48
      exact ⟨x, 0, h1, by rw [if_pos hg]; exact ⟨rfl, l, h2, h3, id, i1, i3⟩⟩
    · rw [if_neg hg] at ht48
      exact ⟨.nils, 1, ht48, by rw [if_neg hg]; exact ⟨rfl, rfl⟩⟩
  have s713 := s712.trans s13
  have f13o : H13.get H.next = _ := (s713.same _ (by omega)).trans f7o
  have y13o : H13.get (H.next + 1) = _ := (s713.same _ (by omega)).trans y7o
  have f13 : H13.get H6.next = _ := (s713.same _ (by omega)).trans f7
  have y13 : H13.get (H6.next + 1) = _ := (s713.same _ (by omega)).trans y7
  simp (maxSteps := 1000000) (disch := first | omega | (simp only [RY] <;> omega) | decide) only [↓RD, RZ, eq_self, Int.reduceToNat, Int.reduceAdd, Int.reduceSub, Int.reduceMul, Nat.reduceAdd, Nat.reduceSub, Nat.reduceMul, Nat.reduceDiv, Nat.reduceMod, Nat.reduceBEq, Nat.reduceLeDiff, y13o, y13]
  refine ok_bind' (Fine_ok (hk 0 _) ko) ?_
  rintro _ H14 ⟨rfl, s14⟩
  have n14 := s14.next
  have u14 : H14.get (H6.next + 1) = H13.get (H6.next + 1) := s14.same _ (by omega)
  have hk14v := (hk7.ext (s713.trans s14)).val
  unfold scells at hk14v
  simp (maxSteps := 1000000) (disch := first | omega | (simp only [RY] <;> omega) | decide) only [↓RD, RZ, eq_self, Int.reduceToNat, Int.reduceAdd, Int.reduceSub, Int.reduceMul, Nat.reduceAdd, Nat.reduceSub, Nat.reduceMul, Nat.reduceDiv, Nat.reduceMod, Nat.reduceBEq, Nat.reduceLeDiff, u14]
  refine ok_bind' (Fine2_ok hk14v ko) ?_
  rintro _ H15 ⟨rfl, s15⟩
  have n15 := s15.next
  have s715 := (s713.trans s14).trans s15
  have f15o : H15.get H.next = _ := (s715.same _ (by omega)).trans f7o
  have f15 : H15.get H6.next = _ := (s715.same _ (by omega)).trans f7
  simp (maxSteps := 1000000) (disch := first | omega | (simp only [RY] <;> omega) | decide) only [↓RD, RZ, eq_self, Int.reduceToNat, Int.reduceAdd, Int.reduceSub, Int.reduceMul, Nat.reduceAdd, Nat.reduceSub, Nat.reduceMul, Nat.reduceDiv, Nat.reduceMod, Nat.reduceBEq, Nat.reduceLeDiff, beq_self_eq_true, f15o, f15]
  have hs15 := (hfc H15).s.val
  unfold scells at hs15
  refine ok_bind' (Fine_ok hs15 fo.s) ?_
  rintro _ H16 ⟨rfl, s16⟩
  have n16 := s16.next
  have s716 := s715.trans s16
  have u16 : H16.get H6.next = H15.get H6.next := s16.same _ (by omega)
  have f16 : H16.get H6.next = _ := (s716.same _ (by omega)).trans f7
  have hs16 := (hf7.ext s716).s.val
  unfold scells at hs16
  simp (maxSteps := 1000000) (disch := first | omega | (simp only [RY] <;> omega) | decide) only [↓RD, RZ, eq_self, Int.reduceToNat, Int.reduceAdd, Int.reduceSub, Int.reduceMul, Nat.reduceAdd, Nat.reduceSub, Nat.reduceMul, Nat.reduceDiv, Nat.reduceMod, Nat.reduceBEq, Nat.reduceLeDiff, u16, f15]
  refine ok_bind' (Fine2_ok hs16 fo.s) ?_
  rintro _ H17 ⟨rfl, s17⟩
  have n17 := s17.next
  have s717 := s716.trans s17
  have s1117 := (((((s12.trans s13).trans s14).trans s15).trans s16).trans s17)
  have t17 : H17.get H8.next = _ := (s1117.same _ (by omega)).trans t11o
  have t17' : H17.get H10.next = _ := (s1117.same _ (by omega)).trans t11
  have hx17 := hx11.ext s1117
  have hz17 := hz11.ext s1117
  have lx1 : (ot.getD Tm0).dti.length ≤ 1099511627776 ∧ (ot.getD Tm0).dif.length ≤ 1099511627776 ∧ (ot.getD Tm0).cha.length ≤ 1099511627776 := by
    cases ot with
    | none => decide
    | some t =>
      have hm : t ∈ (hold f k).ts := by
        unfold tmOf tmPl at hot
        split at hot
        · split at hot
          · exact List.mem_of_getElem? hot
          · cases hot
        · cases hot
      have := (SrO.hold fo ko).tm t hm
      have h1 := this.dti.2
      have h2 := this.dif.2
      have h3 := this.cha.2
      exact ⟨by show t.dti.length ≤ _; omega, by show t.dif.length ≤ _; omega, by show t.cha.length ≤ _; omega⟩
  simp (maxSteps := 1000000) (disch := first | omega | (simp only [RY] <;> omega) | decide) only [↓RD, RZ, eq_self, Int.reduceToNat, Int.reduceAdd, Int.reduceSub, Int.reduceMul, Nat.reduceAdd, Nat.reduceSub, Nat.reduceMul, Nat.reduceDiv, Nat.reduceMod, Nat.reduceBEq, Nat.reduceLeDiff, beq_self_eq_true, t17, t17', decide_true]
  refine ok_bind' (SameInts_same hx17.dti hz17.dti lx1.1) ?_
  rintro _ H18 ⟨rfl, rfl⟩
  simp (maxSteps := 1000000) (disch := first | omega | (simp only [RY] <;> omega) | decide) only [↓RD, RZ, eq_self, Int.reduceToNat, Int.reduceAdd, Int.reduceSub, Int.reduceMul, Nat.reduceAdd, Nat.reduceSub, Nat.reduceMul, Nat.reduceDiv, Nat.reduceMod, Nat.reduceBEq, Nat.reduceLeDiff, t17, t17']
  refine ok_bind' (SameInts_same hx17.dif hz17.dif lx1.2.1) ?_
  rintro _ H18 ⟨rfl, rfl⟩
  simp (maxSteps := 1000000) (disch := first | omega | (simp only [RY] <;> omega) | decide) only [↓RD, RZ, eq_self, Int.reduceToNat, Int.reduceAdd, Int.reduceSub, Int.reduceMul, Nat.reduceAdd, Nat.reduceSub, Nat.reduceMul, Nat.reduceDiv, Nat.reduceMod, Nat.reduceBEq, Nat.reduceLeDiff, t17, t17']
  refine ok_bind' (SameInts_same hx17.cha hz17.cha lx1.2.2) ?_
  rintro _ H18 ⟨rfl, rfl⟩
  have f18o : H18.get H.next = _ := (s717.same _ (by omega)).trans f7o
  have y18o : H18.get (H.next + 1) = _ := (s717.same _ (by omega)).trans y7o
  have f18 : H18.get H6.next = _ := (s717.same _ (by omega)).trans f7
  have y18 : H18.get (H6.next + 1) = _ := (s717.same _ (by omega)).trans y7
  simp (maxSteps := 1000000) (disch := first | omega | (simp only [RY] <;> omega) | decide) only [↓RD, RZ, eq_self, Int.reduceToNat, Int.reduceAdd, Int.reduceSub, Int.reduceMul, Nat.reduceAdd, Nat.reduceSub, Nat.reduceMul, Nat.reduceDiv, Nat.reduceMod, Nat.reduceBEq, Nat.reduceLeDiff, f18o, y18o]
  refine ok_bind' (Good_ok (hf 0 _) (hk 0 _) fo ko) ?_
  rintro _ H19 ⟨rfl, s19⟩
  have s719 := s717.trans s19
  have n19 := s19.next
  have u19 : H19.get H6.next = H18.get H6.next := s19.same _ (by omega)
  have u19' : H19.get (H6.next + 1) = H18.get (H6.next + 1) := s19.same _ (by omega)
  simp (maxSteps := 1000000) (disch := first | omega | (simp only [RY] <;> omega) | decide) only [↓RD, RZ, eq_self, Int.reduceToNat, Int.reduceAdd, Int.reduceSub, Int.reduceMul, Nat.reduceAdd, Nat.reduceSub, Nat.reduceMul, Nat.reduceDiv, Nat.reduceMod, Nat.reduceBEq, Nat.reduceLeDiff, u19, u19', f18, y18]
  have hf19v := (hf7.ext s719).val
  have hk19v := (hk7.ext s719).val
  unfold fcells at hf19v
  unfold scells at hk19v
  refine ok_bind' (Good2_ok hf19v hk19v fo ko) ?_
  rintro _ H20 ⟨rfl, s20⟩
  have s1320 := (((s14.trans s15).trans (s16.trans s17)).trans s19).trans s20
  by_cases hg : good f k = true
  · rw [if_pos hg] at hbx hby
    obtain ⟨rfl, l, hp, hb⟩ := hbx
    obtain ⟨rfl, l', hp', hb', id, hid, hidl⟩ := hby
    have el := hp.unique hp'
    subst el
    simp (maxSteps := 1000000) (disch := first | omega | (simp only [RY] <;> omega) | decide) only [↓RD, RZ, eq_self, Int.reduceToNat, Int.reduceAdd, Int.reduceSub, Int.reduceMul, Nat.reduceAdd, Nat.reduceSub, Nat.reduceMul, Nat.reduceDiv, Nat.reduceMod, Nat.reduceBEq, Nat.reduceLeDiff, beq_self_eq_true]
    refine ok_bind' (Same_rc (hb.ext (s13.trans s1320)).rc ((rcells_to fun i hi => s1320.same i (by rw [hid] at hi; cases hi; exact hidl)).trans hb')) ?_
    rintro _ H21 ⟨rfl, rfl⟩
    simp (maxSteps := 1000000) (disch := first | omega | (simp only [RY] <;> omega) | decide) only [↓RD, RZ, eq_self, Int.reduceToNat, Int.reduceAdd, Int.reduceSub, Int.reduceMul, Nat.reduceAdd, Nat.reduceSub, Nat.reduceMul, Nat.reduceDiv, Nat.reduceMod, Nat.reduceBEq, Nat.reduceLeDiff]
  · rw [if_neg hg] at hbx hby
    obtain ⟨rfl, rfl⟩ := hbx
    obtain ⟨rfl, rfl⟩ := hby
    simp (maxSteps := 1000000) (disch := first | omega | (simp only [RY] <;> omega) | decide) only [↓RD, RZ, eq_self, Int.reduceToNat, Int.reduceAdd, Int.reduceSub, Int.reduceMul, Nat.reduceAdd, Nat.reduceSub, Nat.reduceMul, Nat.reduceDiv, Nat.reduceMod, Nat.reduceBEq, Nat.reduceLeDiff, beq_self_eq_true]
    refine ok_bind' (Same_rc (l := []) rfl rfl) ?_
    rintro _ H21 ⟨rfl, rfl⟩
    simp (maxSteps := 1000000) (disch := first | omega | (simp only [RY] <;> omega) | decide) only [↓RD, RZ, eq_self, Int.reduceToNat, Int.reduceAdd, Int.reduceSub, Int.reduceMul, Nat.reduceAdd, Nat.reduceSub, Nat.reduceMul, Nat.reduceDiv, Nat.reduceMod, Nat.reduceBEq, Nat.reduceLeDiff]

end Go.Ax.D9
namespace Go.Ax
open D9
theorem law_dependSays (us : List V) (h : TyArgs [.st shFr, .st shSr] us) (hb : V.blks us ≤ 1048576) : ∃ H', sem T fn_palanquinlaw9_DependSays us H0 = some (.bool true, H') := by
  obtain ⟨u0, u1, rfl⟩ : ∃ u0 u1, us = [u0, u1] := by
    rcases us with _ | ⟨u0, _ | ⟨u1, _ | ⟨u2, us⟩⟩⟩
    · cases h
    · cases h.2
    · exact ⟨_, _, rfl⟩
    · cases h.2.2
  simp only [V.blks] at hb
  obtain ⟨f, hf, fo⟩ := fr_arg h.1 (by omega)
  obtain ⟨s, hs, ho⟩ := sr_arg h.2.1 (by omega)
  obtain ⟨r, H', e1, rfl⟩ := dsays_ok (H := H0) hf hs fo ho
  exact ⟨H', e1⟩

end Go.Ax
