/-
  Depend: what the program calls fine, whole.
-/
import Derived.Test.YtblfcdaedibdnaaDep4
set_option maxRecDepth 100000
set_option linter.unusedVariables false
set_option linter.unusedSimpArgs false
namespace Go.Ax.D9
open Go.Ax

theorem spatial_ok {lo : Nat} {H : Heap} {s : Sr} {a b c : V} (h : SrC lo H s a b c) (hn : s.ts.length ≤ 1099511627776) (hr : ∀ t ∈ s.ts, 0 ≤ t.sp ∧ t.sp ≤ 4) :
    Ok (sem T fn_depend_spatial [.agg (scells s a b c)]) H fun r H' => r = .int .i64 (if s.ts.length = 0 then 0 else top s.ts + 1) ∧ Grow H H' := by
  refine ok_depend_spatial ?_
  unfold f_depend_spatial
  unfold scells
  simp (disch := first | omega | (simp only [nx_new, nx_set, List.length_cons, List.length_nil] <;> omega) | decide) only [↓RD, RC, RH, RO, RN, RL, RX, RS, RM, eq_self, Int.reduceToNat, Int.reduceAdd, Int.reduceSub, Int.reduceMul, Nat.reduceAdd, Nat.reduceSub, Nat.reduceMul, Nat.reduceDiv, Nat.reduceMod, Nat.reduceBEq, Nat.reduceLeDiff, h.ts.cells1, h.ts.okc, h.pro.cells1, h.pro.okc, h.siz.cells1, h.siz.okc, h.ts.vlen]
  generalize hH1 : Heap.new H _ = H1
  have s1 : Grow H H1 := by rw [← hH1]; exact Grow.new _ _
  clear hH1
  have tb : ∀ k, 0 ≤ top (s.ts.take k) ∧ top (s.ts.take k) ≤ 4 := by
    intro k
    induction k with
    | zero => simp [top]
    | succ k ih =>
      by_cases hk : k < s.ts.length
      · rw [top_take hk]
        have := hr _ (List.getElem_mem hk)
        omega
      · rw [List.take_of_length_le (by omega)]
        rw [List.take_of_length_le (by omega)] at ih
        exact ih
  refine ok_loop (fun k L H' => ∃ m : Int, L = [.int .i64 m, .int .i64 (k : Nat)] ∧ m = (if k = 0 then 0 else top (s.ts.take k) + 1) ∧ Grow H H') s.ts.length ?_ ?_ ?_
  · exact ⟨0, rfl, rfl, s1⟩
  · rintro k L H2 hk ⟨m, rfl, hm, s2⟩
    obtain ⟨q, d, e, f, i1, l1, w1⟩ := (h.ts.ext s2).at hk
    obtain ⟨-, -, -, -, -, l2⟩ := pl5 l1
    have hd := w1.dti.cel
    have he := w1.dif.cel
    have hf := w1.cha.cel
    have hb := hr _ (List.getElem_mem hk)
    unfold f_depend_spatial_0
    simp (disch := first | omega | (simp only [nx_new, nx_set, List.length_cons, List.length_nil] <;> omega) | decide) only [↓RD, RC, RH, RO, RN, RL, RX, RS, RM, eq_self, Int.reduceToNat, Int.reduceAdd, Int.reduceSub, Int.reduceMul, Nat.reduceAdd, Nat.reduceSub, Nat.reduceMul, Nat.reduceDiv, Nat.reduceMod, Nat.reduceBEq, Nat.reduceLeDiff, i1, l2, hd.1, hd.2, he.1, he.2, hf.1, hf.2, mm1]
    refine ⟨_, by rfl, ?_, s2.trans ((Grow.new _ _).set (by omega) _)⟩
    rw [if_neg (by omega), top_take hk]
    have := tb k
    by_cases h0 : k = 0
    · rw [if_pos h0] at hm
      subst h0
      have : top (s.ts.take 0) = 0 := rfl
      omega
    · rw [if_neg h0] at hm
      omega
  · rintro L H2 ⟨m, rfl, hm, s2⟩
    unfold f_depend_spatial_0
    rw [List.take_length] at hm
    rw [← hm]
    simp (disch := first | omega | (simp only [nx_new, nx_set, List.length_cons, List.length_nil] <;> omega) | decide) only [↓RD, RC, RH, RO, RN, RL, RX, RS, RM, eq_self, Int.reduceToNat, Int.reduceAdd, Int.reduceSub, Int.reduceMul, Nat.reduceAdd, Nat.reduceSub, Nat.reduceMul, Nat.reduceDiv, Nat.reduceMod, Nat.reduceBEq, Nat.reduceLeDiff]
    exact s2

theorem fineT_ok {lo : Nat} {H : Heap} {s : Sr} {t : Tm} {a b c d e f : V} (ha : Cel a) (hb : Cel b) (hc : Cel c) (h : TmR lo H t d e f) (ho : TmO t) :
    Ok (sem T fn_depend_Structure_fine [.agg (scells s a b c), .agg [.int .i64 t.sp, .int .i64 t.te, d, e, f]]) H fun r H' => r = .bool (fineT s.tar s.cha t) ∧ Grow H H' := by
  refine ok_depend_Structure_fine ?_
  unfold f_depend_Structure_fine
  have n1 := ho.dti.2
  have n2 := ho.dif.2
  have n3 := ho.cha.2
  unfold scells
  simp (disch := first | omega | (simp only [nx_new, nx_set, List.length_cons, List.length_nil] <;> omega) | decide) only [↓RD, RC, RH, RO, RN, RL, RX, RS, RM, eq_self, Int.reduceToNat, Int.reduceAdd, Int.reduceSub, Int.reduceMul, Nat.reduceAdd, Nat.reduceSub, Nat.reduceMul, Nat.reduceDiv, Nat.reduceMod, Nat.reduceBEq, Nat.reduceLeDiff, ha.1, ha.2, hb.1, hb.2, hc.1, hc.2, h.dti.cells1, h.dti.okc, h.dif.cells1, h.dif.okc, h.cha.cells1, h.cha.okc]
  generalize hH2 : Heap.new (Heap.new H _) _ = H2
  have s2 : Grow H H2 := by rw [← hH2]; exact (Grow.new _ _).trans (Grow.new _ _)
  have m2 : H2.next = H.next + 2 := by rw [← hH2]; rfl
  have g1 : H2.get H.next = some ⟨ty_depend_Structure, [.int .i64 s.off, .int .i64 s.tar, a, .int .i64 s.cha, b, c], none⟩ := by rw [← hH2, get_new_ne _ _ (by rw [next_new]; omega), get_new_self]
  have g2 : H2.get (H.next + 1) = some ⟨ty_depend_Template, [.int .i64 t.sp, .int .i64 t.te, d, e, f], none⟩ := by rw [← hH2]; exact get_new_self _ _
  clear hH2
  refine ok_bind' (within_ok (h.dti.ext s2) s.tar 0 3 (by omega)) ?_
  rintro _ H3 ⟨rfl, s3⟩
  have a1 : H3.get H.next = _ := (s3.same _ (by omega)).trans g1
  have a2 : H3.get (H.next + 1) = _ := (s3.same _ (by omega)).trans g2
  have s23 := s2.trans s3
  unfold fineT
  cases w1 : wi t.dti s.tar 0 3 with
  | false =>
    simp (disch := first | omega | (simp only [nx_new, nx_set, List.length_cons, List.length_nil] <;> omega) | decide) only [↓RD, RC, RH, RO, RN, RL, RX, RS, RM, eq_self, Int.reduceToNat, Int.reduceAdd, Int.reduceSub, Int.reduceMul, Nat.reduceAdd, Nat.reduceSub, Nat.reduceMul, Nat.reduceDiv, Nat.reduceMod, Nat.reduceBEq, Nat.reduceLeDiff]
    exact ⟨rfl, s23⟩
  | true =>
    simp (disch := first | omega | (simp only [nx_new, nx_set, List.length_cons, List.length_nil] <;> omega) | decide) only [↓RD, RC, RH, RO, RN, RL, RX, RS, RM, eq_self, Int.reduceToNat, Int.reduceAdd, Int.reduceSub, Int.reduceMul, Nat.reduceAdd, Nat.reduceSub, Nat.reduceMul, Nat.reduceDiv, Nat.reduceMod, Nat.reduceBEq, Nat.reduceLeDiff, a2]
    refine ok_bind' (diffs_ok (h.dif.ext s23) 8 16 (by omega)) ?_
    rintro _ H4 ⟨rfl, s4⟩
    have n3 := s3.next
    have a3 : H4.get H.next = _ := (s4.same _ (by omega)).trans a1
    have a4 : H4.get (H.next + 1) = _ := (s4.same _ (by omega)).trans a2
    cases w2 : di t.dif 8 16 with
    | false =>
      simp (disch := first | omega | (simp only [nx_new, nx_set, List.length_cons, List.length_nil] <;> omega) | decide) only [↓RD, RC, RH, RO, RN, RL, RX, RS, RM, eq_self, Int.reduceToNat, Int.reduceAdd, Int.reduceSub, Int.reduceMul, Nat.reduceAdd, Nat.reduceSub, Nat.reduceMul, Nat.reduceDiv, Nat.reduceMod, Nat.reduceBEq, Nat.reduceLeDiff]
      exact ⟨rfl, s23.trans s4⟩
    | true =>
      simp (disch := first | omega | (simp only [nx_new, nx_set, List.length_cons, List.length_nil] <;> omega) | decide) only [↓RD, RC, RH, RO, RN, RL, RX, RS, RM, eq_self, Int.reduceToNat, Int.reduceAdd, Int.reduceSub, Int.reduceMul, Nat.reduceAdd, Nat.reduceSub, Nat.reduceMul, Nat.reduceDiv, Nat.reduceMod, Nat.reduceBEq, Nat.reduceLeDiff, a3, a4]
      refine ok_bind' (within_ok (h.cha.ext (s23.trans s4)) s.cha 0 15 (by omega)) ?_
      rintro _ H5 ⟨rfl, s5⟩
      simp (disch := first | omega | (simp only [nx_new, nx_set, List.length_cons, List.length_nil] <;> omega) | decide) only [↓RD, RC, RH, RO, RN, RL, RX, RS, RM, eq_self, Int.reduceToNat, Int.reduceAdd, Int.reduceSub, Int.reduceMul, Nat.reduceAdd, Nat.reduceSub, Nat.reduceMul, Nat.reduceDiv, Nat.reduceMod, Nat.reduceBEq, Nat.reduceLeDiff]
      exact ⟨by simp, (s23.trans s4).trans s5⟩

theorem IndexFuncT_ok {lo : Nat} {H : Heap} {v f : V} {ts : List Tm} (h : Tms lo H v ts) (P : Tm → Bool) (hn : ts.length ≤ 1099511627776)
    (hf : ∀ H', Grow H H' → ∀ (t : Tm), t ∈ ts → ∀ (a b c : V), TmR lo H' t a b c → Ok (callv (sem T) f [.agg [.int .i64 t.sp, .int .i64 t.te, a, b, c]]) H' fun r H'' => r = .bool (P t) ∧ Grow H' H'') :
    Ok (sem T fn_slices_IndexFunc_depend_Template_depend_Template [v, f]) H fun r H' => r = idxV (ts.findIdx? P) ∧ Grow H H' := by
  refine ok_slices_IndexFunc_depend_Template_depend_Template ?_
  unfold f_slices_IndexFunc_depend_Template_depend_Template
  simp (disch := first | omega | (simp only [nx_new, nx_set, List.length_cons, List.length_nil] <;> omega) | decide) only [↓RD, RC, RH, RO, RN, RL, RX, RS, RM, eq_self, Int.reduceToNat, Int.reduceAdd, Int.reduceSub, Int.reduceMul, Nat.reduceAdd, Nat.reduceSub, Nat.reduceMul, Nat.reduceDiv, Nat.reduceMod, Nat.reduceBEq, Nat.reduceLeDiff, h.vlen]
  refine ok_loop (fun k L H' => L = [.int .i64 (k : Nat)] ∧ Grow H H' ∧ ∀ j (hj : j < ts.length), j < k → P ts[j] = false) ts.length ?_ ?_ ?_
  · exact ⟨rfl, Grow.refl _, fun j hj hk => absurd hk (by omega)⟩
  · rintro k L H1 hk ⟨rfl, s1, hP⟩
    obtain ⟨q, a, b, c, i1, l1, w1⟩ := (h.ext s1).at hk
    obtain ⟨-, -, -, -, -, l2⟩ := pl5 l1
    unfold f_slices_IndexFunc_depend_Template_depend_Template_0
    simp (disch := first | omega | (simp only [nx_new, nx_set, List.length_cons, List.length_nil] <;> omega) | decide) only [↓RD, RC, RH, RO, RN, RL, RX, RS, RM, eq_self, Int.reduceToNat, Int.reduceAdd, Int.reduceSub, Int.reduceMul, Nat.reduceAdd, Nat.reduceSub, Nat.reduceMul, Nat.reduceDiv, Nat.reduceMod, Nat.reduceBEq, Nat.reduceLeDiff, i1, l2]
    refine ok_bind' (hf H1 s1 _ (List.getElem_mem hk) a b c w1) ?_
    rintro _ H2 ⟨rfl, s2⟩
    cases hp : P ts[k] with
    | true =>
      simp (disch := first | omega | (simp only [nx_new, nx_set, List.length_cons, List.length_nil] <;> omega) | decide) only [↓RD, RC, RH, RO, RN, RL, RX, RS, RM, eq_self, Int.reduceToNat, Int.reduceAdd, Int.reduceSub, Int.reduceMul, Nat.reduceAdd, Nat.reduceSub, Nat.reduceMul, Nat.reduceDiv, Nat.reduceMod, Nat.reduceBEq, Nat.reduceLeDiff]
      refine ⟨?_, s1.trans s2⟩
      have : ts.findIdx? P = some k := List.findIdx?_eq_some_iff_getElem.2 ⟨hk, hp, fun j hj => by rw [hP j (by omega) hj]; decide⟩
      rw [this]; rfl
    | false =>
      simp (disch := first | omega | (simp only [nx_new, nx_set, List.length_cons, List.length_nil] <;> omega) | decide) only [↓RD, RC, RH, RO, RN, RL, RX, RS, RM, eq_self, Int.reduceToNat, Int.reduceAdd, Int.reduceSub, Int.reduceMul, Nat.reduceAdd, Nat.reduceSub, Nat.reduceMul, Nat.reduceDiv, Nat.reduceMod, Nat.reduceBEq, Nat.reduceLeDiff]
      refine ⟨by rfl, s1.trans s2, fun j hj hjk => ?_⟩
      rcases Nat.lt_or_ge j k with h | h
      · exact hP j hj h
      · have : j = k := by omega
        subst this; exact hp
  · rintro L H1 ⟨rfl, s1, hP⟩
    unfold f_slices_IndexFunc_depend_Template_depend_Template_0
    simp (disch := first | omega | (simp only [nx_new, nx_set, List.length_cons, List.length_nil] <;> omega) | decide) only [↓RD, RC, RH, RO, RN, RL, RX, RS, RM, eq_self, Int.reduceToNat, Int.reduceAdd, Int.reduceSub, Int.reduceMul, Nat.reduceAdd, Nat.reduceSub, Nat.reduceMul, Nat.reduceDiv, Nat.reduceMod, Nat.reduceBEq, Nat.reduceLeDiff]
    refine ⟨?_, s1⟩
    have : ts.findIdx? P = none := List.findIdx?_eq_none_iff.2 fun x hx => by
      obtain ⟨j, hj, rfl⟩ := List.getElem_of_mem hx
      exact hP j hj hj
    rw [this]; rfl

theorem ContainsT_ok {lo : Nat} {H : Heap} {v f : V} {ts : List Tm} (h : Tms lo H v ts) (P : Tm → Bool) (hn : ts.length ≤ 1099511627776)
    (hf : ∀ H', Grow H H' → ∀ (t : Tm), t ∈ ts → ∀ (a b c : V), TmR lo H' t a b c → Ok (callv (sem T) f [.agg [.int .i64 t.sp, .int .i64 t.te, a, b, c]]) H' fun r H'' => r = .bool (!P t) ∧ Grow H' H'') :
    Ok (sem T fn_slices_ContainsFunc_depend_Template_depend_Template [v, f]) H fun r H' => r = .bool (!ts.all P) ∧ Grow H H' := by
  refine ok_slices_ContainsFunc_depend_Template_depend_Template ?_
  unfold f_slices_ContainsFunc_depend_Template_depend_Template
  refine ok_bind' (IndexFuncT_ok h (fun x => !P x) hn hf) ?_
  rintro _ H1 ⟨rfl, s1⟩
  rw [← all_idx]
  cases ts.findIdx? (fun x => !P x) with
  | none => unfold idxV; simp (disch := first | omega | (simp only [nx_new, nx_set, List.length_cons, List.length_nil] <;> omega) | decide) only [↓RD, RC, RH, RO, RN, RL, RX, RS, RM, eq_self, Int.reduceToNat, Int.reduceAdd, Int.reduceSub, Int.reduceMul, Nat.reduceAdd, Nat.reduceSub, Nat.reduceMul, Nat.reduceDiv, Nat.reduceMod, Nat.reduceBEq, Nat.reduceLeDiff]; exact ⟨rfl, s1⟩
  | some i => unfold idxV; simp (disch := first | omega | (simp only [nx_new, nx_set, List.length_cons, List.length_nil] <;> omega) | decide) only [↓RD, RC, RH, RO, RN, RL, RX, RS, RM, eq_self, Int.reduceToNat, Int.reduceAdd, Int.reduceSub, Int.reduceMul, Nat.reduceAdd, Nat.reduceSub, Nat.reduceMul, Nat.reduceDiv, Nat.reduceMod, Nat.reduceBEq, Nat.reduceLeDiff]; exact ⟨rfl, s1⟩

theorem box_il {H : Heap} {id : Nat} {ty : TypeId} {x y : Int} (h : H.get id = some ⟨ty, [.int .i64 x, .int .i64 y], none⟩) (hi : id < H.next) : Il 0 H (.sl id 0 2 (.fix 2)) [x, y] := by
  refine ⟨?_, fun i hi' => ?_, Nat.le_refl _⟩
  · simp only [rcells, h, Option.bind_some]
    rw [if_pos (by simp)]; rfl
  · simp only [V.pid, Option.some.injEq] at hi'
    subst hi'; exact ⟨Nat.zero_le _, hi⟩

theorem Fine_ok {lo : Nat} {H : Heap} {v : V} {s : Sr} (h : SrR lo H v s) (ho : SrO s) :
    Ok (sem T fn_depend_Fine [v]) H fun r H' => r = .bool (fine s) ∧ Grow H H' := by
  obtain ⟨a, b, c, rfl, h⟩ := h
  have nt := ho.ts
  have np := ho.pro.2
  have ns := ho.siz.1
  refine ok_depend_Fine ?_
  unfold f_depend_Fine
  unfold scells
  simp (disch := first | omega | (simp only [nx_new, nx_set, List.length_cons, List.length_nil] <;> omega) | decide) only [↓RD, RC, RH, RO, RN, RL, RX, RS, RM, eq_self, Int.reduceToNat, Int.reduceAdd, Int.reduceSub, Int.reduceMul, Nat.reduceAdd, Nat.reduceSub, Nat.reduceMul, Nat.reduceDiv, Nat.reduceMod, Nat.reduceBEq, Nat.reduceLeDiff, h.ts.cells1, h.ts.okc, h.pro.cells1, h.pro.okc, h.siz.cells1, h.siz.okc]
  generalize hH1 : Heap.new H _ = H1
  have s1 : Grow H H1 := by rw [← hH1]; exact Grow.new _ _
  have n1 : H1.next = H.next + 1 := by rw [← hH1]; rfl
  have g1 : H1.get H.next = some ⟨ty_depend_Structure, [.int .i64 s.off, .int .i64 s.tar, a, .int .i64 s.cha, b, c], none⟩ := by rw [← hH1]; exact get_new_self _ _
  clear hH1
  generalize hpc : (if s.cha = 0 then 0 else s.tar : Int) = pc
  refine ok_mono (Q := fun r H' => r = Res.nrm [.int .i64 pc] ∧ H' = H1) ?_ ?_
  · refine ok_iteb (fun hz => ?_) fun hz => ?_
    · simp (disch := first | omega | (simp only [nx_new, nx_set, List.length_cons, List.length_nil] <;> omega) | decide) only [↓RD, RC, RH, RO, RN, RL, RX, RS, RM, eq_self, Int.reduceToNat, Int.reduceAdd, Int.reduceSub, Int.reduceMul, Nat.reduceAdd, Nat.reduceSub, Nat.reduceMul, Nat.reduceDiv, Nat.reduceMod, Nat.reduceBEq, Nat.reduceLeDiff]
      rw [← hpc, if_pos hz]
    · simp (disch := first | omega | (simp only [nx_new, nx_set, List.length_cons, List.length_nil] <;> omega) | decide) only [↓RD, RC, RH, RO, RN, RL, RX, RS, RM, eq_self, Int.reduceToNat, Int.reduceAdd, Int.reduceSub, Int.reduceMul, Nat.reduceAdd, Nat.reduceSub, Nat.reduceMul, Nat.reduceDiv, Nat.reduceMod, Nat.reduceBEq, Nat.reduceLeDiff]
      rw [← hpc, if_neg hz]
  rintro _ H' ⟨rfl, hH'⟩
  have : H' = H1 := hH'
  subst this
  by_cases a1 : s.off < 0
  · simp (disch := first | omega | (simp only [nx_new, nx_set, List.length_cons, List.length_nil] <;> omega) | decide) only [↓RD, RC, RH, RO, RN, RL, RX, RS, RM, eq_self, Int.reduceToNat, Int.reduceAdd, Int.reduceSub, Int.reduceMul, Nat.reduceAdd, Nat.reduceSub, Nat.reduceMul, Nat.reduceDiv, Nat.reduceMod, Nat.reduceBEq, Nat.reduceLeDiff, g1]
    exact ⟨by rw [fine_no fun h => by have := h.off; omega], s1⟩
  by_cases a2 : 64 ≤ s.off
  · simp (disch := first | omega | (simp only [nx_new, nx_set, List.length_cons, List.length_nil] <;> omega) | decide) only [↓RD, RC, RH, RO, RN, RL, RX, RS, RM, eq_self, Int.reduceToNat, Int.reduceAdd, Int.reduceSub, Int.reduceMul, Nat.reduceAdd, Nat.reduceSub, Nat.reduceMul, Nat.reduceDiv, Nat.reduceMod, Nat.reduceBEq, Nat.reduceLeDiff, g1]
    exact ⟨by rw [fine_no fun h => by have := h.off; omega], s1⟩
  by_cases a3 : s.tar < 1
  · simp (disch := first | omega | (simp only [nx_new, nx_set, List.length_cons, List.length_nil] <;> omega) | decide) only [↓RD, RC, RH, RO, RN, RL, RX, RS, RM, eq_self, Int.reduceToNat, Int.reduceAdd, Int.reduceSub, Int.reduceMul, Nat.reduceAdd, Nat.reduceSub, Nat.reduceMul, Nat.reduceDiv, Nat.reduceMod, Nat.reduceBEq, Nat.reduceLeDiff, g1]
    exact ⟨by rw [fine_no fun h => by have := h.tar; omega], s1⟩
  by_cases a4 : 32 < s.tar
  · simp (disch := first | omega | (simp only [nx_new, nx_set, List.length_cons, List.length_nil] <;> omega) | decide) only [↓RD, RC, RH, RO, RN, RL, RX, RS, RM, eq_self, Int.reduceToNat, Int.reduceAdd, Int.reduceSub, Int.reduceMul, Nat.reduceAdd, Nat.reduceSub, Nat.reduceMul, Nat.reduceDiv, Nat.reduceMod, Nat.reduceBEq, Nat.reduceLeDiff, g1]
    exact ⟨by rw [fine_no fun h => by have := h.tar; omega], s1⟩
  by_cases a5 : s.cha < 0
  · simp (disch := first | omega | (simp only [nx_new, nx_set, List.length_cons, List.length_nil] <;> omega) | decide) only [↓RD, RC, RH, RO, RN, RL, RX, RS, RM, eq_self, Int.reduceToNat, Int.reduceAdd, Int.reduceSub, Int.reduceMul, Nat.reduceAdd, Nat.reduceSub, Nat.reduceMul, Nat.reduceDiv, Nat.reduceMod, Nat.reduceBEq, Nat.reduceLeDiff, g1]
    exact ⟨by rw [fine_no fun h => by have := h.cha; omega], s1⟩
  by_cases a6 : s.tar < s.cha
  · simp (disch := first | omega | (simp only [nx_new, nx_set, List.length_cons, List.length_nil] <;> omega) | decide) only [↓RD, RC, RH, RO, RN, RL, RX, RS, RM, eq_self, Int.reduceToNat, Int.reduceAdd, Int.reduceSub, Int.reduceMul, Nat.reduceAdd, Nat.reduceSub, Nat.reduceMul, Nat.reduceDiv, Nat.reduceMod, Nat.reduceBEq, Nat.reduceLeDiff, g1]
    exact ⟨by rw [fine_no fun h => by have := h.cha; omega], s1⟩
  simp (disch := first | omega | (simp only [nx_new, nx_set, List.length_cons, List.length_nil] <;> omega) | decide) only [↓RD, RC, RH, RO, RN, RL, RX, RS, RM, eq_self, Int.reduceToNat, Int.reduceAdd, Int.reduceSub, Int.reduceMul, Nat.reduceAdd, Nat.reduceSub, Nat.reduceMul, Nat.reduceDiv, Nat.reduceMod, Nat.reduceBEq, Nat.reduceLeDiff, g1]
  refine ok_bind' (within_ok (h.pro.ext s1) pc 0 (s.cha - 1) (by omega)) ?_
  rintro _ H2 ⟨rfl, s2⟩
  have n2 := s2.next
  have g2 : H2.get H.next = _ := (s2.same _ (by omega)).trans g1
  have s12 := s1.trans s2
  cases w1 : wi s.pro pc 0 (s.cha - 1) with
  | false =>
    simp (disch := first | omega | (simp only [nx_new, nx_set, List.length_cons, List.length_nil] <;> omega) | decide) only [↓RD, RC, RH, RO, RN, RL, RX, RS, RM, eq_self, Int.reduceToNat, Int.reduceAdd, Int.reduceSub, Int.reduceMul, Nat.reduceAdd, Nat.reduceSub, Nat.reduceMul, Nat.reduceDiv, Nat.reduceMod, Nat.reduceBEq, Nat.reduceLeDiff]
    exact ⟨by rw [fine_no fun h => by have := h.pro; rw [hpc, w1] at this; cases this], s12⟩
  | true =>
  simp (disch := first | omega | (simp only [nx_new, nx_set, List.length_cons, List.length_nil] <;> omega) | decide) only [↓RD, RC, RH, RO, RN, RL, RX, RS, RM, eq_self, Int.reduceToNat, Int.reduceAdd, Int.reduceSub, Int.reduceMul, Nat.reduceAdd, Nat.reduceSub, Nat.reduceMul, Nat.reduceDiv, Nat.reduceMod, Nat.reduceBEq, Nat.reduceLeDiff, g2]
  refine ok_bind' (layers_ok (h.ext s12) (by omega)) ?_
  rintro _ H3 ⟨rfl, s3⟩
  have n3 := s3.next
  have g3 : H3.get H.next = _ := (s3.same _ (by omega)).trans g2
  have s13 := s12.trans s3
  rcases Classical.em (Lay s.ts) with w2 | w2
  rotate_left
  · rw [dec_no w2]
    simp (disch := first | omega | (simp only [nx_new, nx_set, List.length_cons, List.length_nil] <;> omega) | decide) only [↓RD, RC, RH, RO, RN, RL, RX, RS, RM, eq_self, Int.reduceToNat, Int.reduceAdd, Int.reduceSub, Int.reduceMul, Nat.reduceAdd, Nat.reduceSub, Nat.reduceMul, Nat.reduceDiv, Nat.reduceMod, Nat.reduceBEq, Nat.reduceLeDiff]
    exact ⟨by rw [fine_no fun h => w2 ⟨h.len, h.lay⟩], s13⟩
  rw [dec_yes w2]
  have rng : ∀ t ∈ s.ts, 0 ≤ t.sp ∧ t.sp ≤ 3 ∧ 0 ≤ t.te ∧ t.te ≤ 7 := fun t ht => by
    obtain ⟨j, hj, rfl⟩ := List.getElem_of_mem ht
    have := layAt_rng (w2.2 j hj)
    rwa [getD_get hj] at this
  obtain ⟨⟨w3, w4⟩, w5⟩ := w2
  -- the sizes' number
  have last : ∀ H4, H.next < H4.next → Grow H H4 → H4.get H.next = some ⟨ty_depend_Structure, [.int .i64 s.off, .int .i64 s.tar, a, .int .i64 s.cha, b, c], none⟩ → (s.siz.length = 0 ∨ (s.siz.length : Int) = top s.ts + 1) →
      Ok (M.iter (f_depend_Fine_0 (sem T) (.int .i64 (s.siz.length : Nat)) c) [.int .i64 0]) H4 fun r H' => Grow H H' ∧ (H.next < H'.next ∧ H'.get H.next = some ⟨ty_depend_Structure, [.int .i64 s.off, .int .i64 s.tar, a, .int .i64 s.cha, b, c], none⟩) ∧ ((r = .ex 0 [] ∧ ∀ x ∈ s.siz, (1 ≤ x.1 ∧ x.1 ≤ 65536) ∧ (1 ≤ x.2 ∧ x.2 ≤ 65536)) ∨ (r = .ret [.bool false] ∧ fine s = false)) := by
    intro H4 hlt s4 g4 _
    refine ok_loop (fun k L H' => L = [.int .i64 (k : Nat)] ∧ Grow H4 H' ∧ ∀ j (hj : j < s.siz.length), j < k → (1 ≤ s.siz[j].1 ∧ s.siz[j].1 ≤ 65536) ∧ (1 ≤ s.siz[j].2 ∧ s.siz[j].2 ≤ 65536)) s.siz.length ?_ ?_ ?_
    · exact ⟨rfl, Grow.refl _, fun j hj hk => absurd hk (by omega)⟩
    · rintro k L H5 hk ⟨rfl, s5, hP⟩
      obtain ⟨q, i1, l1⟩ := szs_at ((h.siz.ext s4).ext s5) hk
      obtain ⟨-, -, l2⟩ := pl2 l1
      unfold f_depend_Fine_0
      have ev : vslice (.arr 2) 1 (.ptr H5.next 0) none none none = some (.sl H5.next 0 2 (.fix 2)) := by simp [vslice, optInt]
      simp (disch := first | omega | (simp only [nx_new, nx_set, List.length_cons, List.length_nil] <;> omega) | decide) only [↓RD, RC, RH, RO, RN, RL, RX, RS, RM, eq_self, Int.reduceToNat, Int.reduceAdd, Int.reduceSub, Int.reduceMul, Nat.reduceAdd, Nat.reduceSub, Nat.reduceMul, Nat.reduceDiv, Nat.reduceMod, Nat.reduceBEq, Nat.reduceLeDiff, i1, l2, ev]
      generalize hH6 : Heap.set _ _ _ = H6
      have s6 : Grow H5 H6 := by rw [← hH6]; exact (Grow.new _ _).set (by omega) _
      have n6 : H6.next = H5.next + 1 := by rw [← hH6]; rfl
      have g6 : H6.get H5.next = some ⟨ty_2_int, [.int .i64 s.siz[k].1, .int .i64 s.siz[k].2], none⟩ := by rw [← hH6]; exact get_set_self _ _ _
      clear hH6
      refine ok_bind' (within_ok (box_il g6 (by omega)) 2 1 65536 (by simp)) ?_
      rintro _ H7 ⟨rfl, s7⟩
      cases w6 : wi [s.siz[k].1, s.siz[k].2] 2 1 65536 with
      | false =>
        simp (disch := first | omega | (simp only [nx_new, nx_set, List.length_cons, List.length_nil] <;> omega) | decide) only [↓RD, RC, RH, RO, RN, RL, RX, RS, RM, eq_self, Int.reduceToNat, Int.reduceAdd, Int.reduceSub, Int.reduceMul, Nat.reduceAdd, Nat.reduceSub, Nat.reduceMul, Nat.reduceDiv, Nat.reduceMod, Nat.reduceBEq, Nat.reduceLeDiff]
        refine ⟨((s4.trans s5).trans s6).trans s7, ⟨Nat.lt_of_lt_of_le hlt ((s5.trans s6).trans s7).next, (((s5.trans s6).trans s7).same _ hlt).trans g4⟩, .inr (fine_no fun h => ?_)⟩
        have := h.szs _ (List.getElem_mem hk)
        have : wi [s.siz[k].1, s.siz[k].2] 2 1 65536 = true := wi_iff.2 ⟨rfl, fun x hx => by
          simp only [List.mem_cons, List.not_mem_nil, or_false] at hx
          rcases hx with rfl | rfl
          · exact this.1
          · exact this.2⟩
        rw [this] at w6; cases w6
      | true =>
        simp (disch := first | omega | (simp only [nx_new, nx_set, List.length_cons, List.length_nil] <;> omega) | decide) only [↓RD, RC, RH, RO, RN, RL, RX, RS, RM, eq_self, Int.reduceToNat, Int.reduceAdd, Int.reduceSub, Int.reduceMul, Nat.reduceAdd, Nat.reduceSub, Nat.reduceMul, Nat.reduceDiv, Nat.reduceMod, Nat.reduceBEq, Nat.reduceLeDiff]
        refine ⟨by rfl, (s5.trans s6).trans s7, fun j hj hjk => ?_⟩
        rcases Nat.lt_or_ge j k with h | h
        · exact hP j hj h
        · have : j = k := by omega
          subst this
          have := (wi_iff.1 w6).2
          exact ⟨this _ (by simp), this _ (by simp)⟩
    · rintro L H5 ⟨rfl, s5, hP⟩
      unfold f_depend_Fine_0
      simp (disch := first | omega | (simp only [nx_new, nx_set, List.length_cons, List.length_nil] <;> omega) | decide) only [↓RD, RC, RH, RO, RN, RL, RX, RS, RM, eq_self, Int.reduceToNat, Int.reduceAdd, Int.reduceSub, Int.reduceMul, Nat.reduceAdd, Nat.reduceSub, Nat.reduceMul, Nat.reduceDiv, Nat.reduceMod, Nat.reduceBEq, Nat.reduceLeDiff]
      refine ⟨s4.trans s5, ⟨Nat.lt_of_lt_of_le hlt s5.next, (s5.same _ hlt).trans g4⟩, .inl fun x hx => ?_⟩
      obtain ⟨j, hj, rfl⟩ := List.getElem_of_mem hx
      exact hP j hj hj
  have fin : ∀ H5, H.next < H5.next → Grow H H5 → H5.get H.next = some ⟨ty_depend_Structure, [.int .i64 s.off, .int .i64 s.tar, a, .int .i64 s.cha, b, c], none⟩ → (s.siz.length = 0 ∨ (s.siz.length : Int) = top s.ts + 1) → (∀ x ∈ s.siz, (1 ≤ x.1 ∧ x.1 ≤ 65536) ∧ (1 ≤ x.2 ∧ x.2 ≤ 65536)) →
      Ok (sem T fn_slices_ContainsFunc_depend_Template_depend_Template [a, .fn fn_depend_Fine_1 [.ptr H.next 0]]) H5 fun r H' => r = .bool (!fine s) ∧ Grow H H' := by
    intro H5 hlt s5 g5 e1 e2
    refine ok_mono (ContainsT_ok (h.ts.ext s5) (fineT s.tar s.cha) (by omega) fun H6 s6 t ht d e f w => ?_) ?_
    · have g6 : H6.get H.next = _ := (s6.same _ hlt).trans g5
      show Ok (sem T fn_depend_Fine_1 [.agg [.int .i64 t.sp, .int .i64 t.te, d, e, f], .ptr H.next 0]) H6 _
      refine ok_depend_Fine_1 ?_
      unfold f_depend_Fine_1
      have := s6.next
      simp (disch := first | omega | (simp only [nx_new, nx_set, List.length_cons, List.length_nil] <;> omega) | decide) only [↓RD, RC, RH, RO, RN, RL, RX, RS, RM, eq_self, Int.reduceToNat, Int.reduceAdd, Int.reduceSub, Int.reduceMul, Nat.reduceAdd, Nat.reduceSub, Nat.reduceMul, Nat.reduceDiv, Nat.reduceMod, Nat.reduceBEq, Nat.reduceLeDiff, w.dti.cells1, w.dti.okc, w.dif.cells1, w.dif.okc, w.cha.cells1, w.cha.okc, g6]
      refine ok_bind' (fineT_ok (s := s) h.ts.cel h.pro.cel h.siz.cel (w.ext (Grow.new _ _)) (ho.tm t ht)) ?_
      rintro _ H7 ⟨rfl, s7⟩
      simp (disch := first | omega | (simp only [nx_new, nx_set, List.length_cons, List.length_nil] <;> omega) | decide) only [↓RD, RC, RH, RO, RN, RL, RX, RS, RM, eq_self, Int.reduceToNat, Int.reduceAdd, Int.reduceSub, Int.reduceMul, Nat.reduceAdd, Nat.reduceSub, Nat.reduceMul, Nat.reduceDiv, Nat.reduceMod, Nat.reduceBEq, Nat.reduceLeDiff]
      exact (Grow.new _ _).trans s7
    · rintro _ H6 ⟨rfl, s6⟩
      refine ⟨?_, s5.trans s6⟩
      congr 2
      cases hall : s.ts.all (fineT s.tar s.cha) with
      | true => rw [fine_yes ⟨by omega, by omega, by omega, ⟨w3, w4⟩, by rw [hpc]; exact w1, w5, e1, e2, fun t ht => List.all_eq_true.1 hall t ht⟩]
      | false => rw [fine_no fun h => by rw [List.all_eq_true.2 h.tms] at hall; cases hall]
  by_cases hs0 : s.siz.length = 0
  · simp (disch := first | omega | (simp only [nx_new, nx_set, List.length_cons, List.length_nil] <;> omega) | decide) only [↓RD, RC, RH, RO, RN, RL, RX, RS, RM, eq_self, Int.reduceToNat, Int.reduceAdd, Int.reduceSub, Int.reduceMul, Nat.reduceAdd, Nat.reduceSub, Nat.reduceMul, Nat.reduceDiv, Nat.reduceMod, Nat.reduceBEq, Nat.reduceLeDiff, g3, h.siz.vlen, hs0]
    have l0 := last H3 (by omega) s13 g3 (.inl hs0)
    rw [hs0] at l0
    refine ok_mono l0 ?_
    rintro r H' ⟨h1, ⟨h0, h2⟩, ⟨rfl, h3⟩ | ⟨rfl, h3⟩⟩
    · simp (disch := first | omega | (simp only [nx_new, nx_set, List.length_cons, List.length_nil] <;> omega) | decide) only [↓RD, RC, RH, RO, RN, RL, RX, RS, RM, eq_self, Int.reduceToNat, Int.reduceAdd, Int.reduceSub, Int.reduceMul, Nat.reduceAdd, Nat.reduceSub, Nat.reduceMul, Nat.reduceDiv, Nat.reduceMod, Nat.reduceBEq, Nat.reduceLeDiff, h2]
      refine ok_bind' (fin _ h0 h1 h2 (.inl hs0) h3) ?_
      rintro _ H5 ⟨rfl, s5⟩
      simp (disch := first | omega | (simp only [nx_new, nx_set, List.length_cons, List.length_nil] <;> omega) | decide) only [↓RD, RC, RH, RO, RN, RL, RX, RS, RM, eq_self, Int.reduceToNat, Int.reduceAdd, Int.reduceSub, Int.reduceMul, Nat.reduceAdd, Nat.reduceSub, Nat.reduceMul, Nat.reduceDiv, Nat.reduceMod, Nat.reduceBEq, Nat.reduceLeDiff]
      exact ⟨by simp, s5⟩
    · simp (disch := first | omega | (simp only [nx_new, nx_set, List.length_cons, List.length_nil] <;> omega) | decide) only [↓RD, RC, RH, RO, RN, RL, RX, RS, RM, eq_self, Int.reduceToNat, Int.reduceAdd, Int.reduceSub, Int.reduceMul, Nat.reduceAdd, Nat.reduceSub, Nat.reduceMul, Nat.reduceDiv, Nat.reduceMod, Nat.reduceBEq, Nat.reduceLeDiff]
      exact ⟨by rw [h3], h1⟩
  · simp (disch := first | omega | (simp only [nx_new, nx_set, List.length_cons, List.length_nil] <;> omega) | decide) only [↓RD, RC, RH, RO, RN, RL, RX, RS, RM, eq_self, Int.reduceToNat, Int.reduceAdd, Int.reduceSub, Int.reduceMul, Nat.reduceAdd, Nat.reduceSub, Nat.reduceMul, Nat.reduceDiv, Nat.reduceMod, Nat.reduceBEq, Nat.reduceLeDiff, g3, h.siz.vlen]
    refine ok_bind' (spatial_ok (h.ext s13) (by omega) fun t ht => by have := rng t ht; omega) ?_
    rintro _ H4 ⟨rfl, s4⟩
    have n4 := s4.next
    have g4 : H4.get H.next = _ := (s4.same _ (by omega)).trans g3
    rw [if_neg (by omega)]
    by_cases hs1 : (s.siz.length : Int) = top s.ts + 1
    · rw [← hs1]
      simp (disch := first | omega | (simp only [nx_new, nx_set, List.length_cons, List.length_nil] <;> omega) | decide) only [↓RD, RC, RH, RO, RN, RL, RX, RS, RM, eq_self, Int.reduceToNat, Int.reduceAdd, Int.reduceSub, Int.reduceMul, Nat.reduceAdd, Nat.reduceSub, Nat.reduceMul, Nat.reduceDiv, Nat.reduceMod, Nat.reduceBEq, Nat.reduceLeDiff, g4, h.siz.vlen]
      refine ok_mono (last H4 (by omega) (s13.trans s4) g4 (.inr hs1)) ?_
      rintro r H' ⟨h1, ⟨h0, h2⟩, ⟨rfl, h3⟩ | ⟨rfl, h3⟩⟩
      · simp (disch := first | omega | (simp only [nx_new, nx_set, List.length_cons, List.length_nil] <;> omega) | decide) only [↓RD, RC, RH, RO, RN, RL, RX, RS, RM, eq_self, Int.reduceToNat, Int.reduceAdd, Int.reduceSub, Int.reduceMul, Nat.reduceAdd, Nat.reduceSub, Nat.reduceMul, Nat.reduceDiv, Nat.reduceMod, Nat.reduceBEq, Nat.reduceLeDiff, h2]
        refine ok_bind' (fin _ h0 h1 h2 (.inr hs1) h3) ?_
        rintro _ H5 ⟨rfl, s5⟩
        simp (disch := first | omega | (simp only [nx_new, nx_set, List.length_cons, List.length_nil] <;> omega) | decide) only [↓RD, RC, RH, RO, RN, RL, RX, RS, RM, eq_self, Int.reduceToNat, Int.reduceAdd, Int.reduceSub, Int.reduceMul, Nat.reduceAdd, Nat.reduceSub, Nat.reduceMul, Nat.reduceDiv, Nat.reduceMod, Nat.reduceBEq, Nat.reduceLeDiff]
        exact ⟨by simp, s5⟩
      · simp (disch := first | omega | (simp only [nx_new, nx_set, List.length_cons, List.length_nil] <;> omega) | decide) only [↓RD, RC, RH, RO, RN, RL, RX, RS, RM, eq_self, Int.reduceToNat, Int.reduceAdd, Int.reduceSub, Int.reduceMul, Nat.reduceAdd, Nat.reduceSub, Nat.reduceMul, Nat.reduceDiv, Nat.reduceMod, Nat.reduceBEq, Nat.reduceLeDiff]
        exact ⟨by rw [h3], h1⟩
    · simp (disch := first | omega | (simp only [nx_new, nx_set, List.length_cons, List.length_nil] <;> omega) | decide) only [↓RD, RC, RH, RO, RN, RL, RX, RS, RM, eq_self, Int.reduceToNat, Int.reduceAdd, Int.reduceSub, Int.reduceMul, Nat.reduceAdd, Nat.reduceSub, Nat.reduceMul, Nat.reduceDiv, Nat.reduceMod, Nat.reduceBEq, Nat.reduceLeDiff, g4]
      exact ⟨by rw [fine_no fun h => by have := h.siz; omega], s13.trans s4⟩

end Go.Ax.D9
