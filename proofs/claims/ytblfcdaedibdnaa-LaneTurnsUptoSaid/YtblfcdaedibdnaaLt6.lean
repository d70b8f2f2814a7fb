/-
  Texts of mine, put together by program (wip/slim.py), for law_laneTurns: part 6.
-/
import Derived.Test.YtblfcdaedibdnaaLt5
set_option linter.unusedVariables false
set_option linter.unusedSimpArgs false
set_option linter.defProp false
set_option maxRecDepth 100000
/- Dep7 -/
namespace Go.Ax.D9
open Go.Ax
def wi2 (l : List Int) (n lo hi : Int) : Bool := (decide (n < 0) || decide ((l.length : Int) = n)) && inr lo hi l
theorem wi2_wi {l : List Int} {n lo hi : Int} (h : 0 ≤ n) : wi2 l n lo hi = wi l n lo hi := by
 unfold wi2 wi
 rw [decide_eq_false (by omega), Bool.false_or]
theorem wi2_neg {l : List Int} {lo hi : Int} : wi2 l (-1) lo hi = inr lo hi l := by
 unfold wi2
 rw [decide_eq_true (by omega), Bool.true_or, Bool.true_and]
theorem within2_ok {lo : Nat} {H : Heap} {v : V} {l : List Int} (h : Il lo H v l) (n a b : Int) (hl : l.length ≤ 1099511627776) :
  Ok (sem T zay [v, .int .i64 n, .int .i64 a, .int .i64 b]) H fun r H' => r = .bool (wi2 l n a b) ∧ H' = H := by
 refine zen ?_
 unfold zda
 have loop : (n < 0 ∨ (l.length : Int) = n) → Ok (M.iter (zbA (sem T) (.int .i64 a) v (.int .i64 b)) [.int .i64 0]) H fun r H' => H' = H ∧ ((r = .ex 0 [] ∧ wi2 l n a b = true) ∨ (r = .ret [.bool false] ∧ wi2 l n a b = false)) := by
  intro hn
  have e : wi2 l n a b = inr a b l := by
   unfold wi2
   rcases hn with hn | hn
   ·rw [decide_eq_true hn]; simp
   ·rw [decide_eq_true hn]; simp
  rw [e]
  refine zaP (fun k L H' => L = [.int .i64 (k : Nat)] ∧ H' = H ∧ ∀ j (hj : j < l.length), j < k → a ≤ l[j] ∧ l[j] ≤ b) l.length ?_ ?_ ?_
  ·exact ⟨rfl, rfl, fun j hj hk => absurd hk (by omega)⟩
  ·rintro k L H1 hk ⟨rfl, rfl, hP⟩
   obtain ⟨p, hp, ld, -⟩ := il_at h (i := (k : Nat)) (by omega) (by omega)
   rw [Int.toNat_natCast, getD_get hk] at ld
   have bad : ¬ (a ≤ l[k] ∧ l[k] ≤ b) → inr a b l = false := fun hb => by
    cases e : inr a b l with
    | false => rfl
    | true => exact absurd (inr_iff.1 e _ (List.getElem_mem hk)) hb
   unfold zbA
   by_cases h1 : l[k] < a
   ·simp (disch := omega) only [↓RD, RZ, h.vlen, hp, ld]
    exact .inr (bad (by omega))
   by_cases h2 : b < l[k]
   ·simp (disch := omega) only [↓RD, RZ, h.vlen, hp, ld]
    exact .inr (bad (by omega))
   simp (disch := omega) only [↓RD, RZ, h.vlen, hp, ld]
   refine ⟨by rfl, fun j hj hjk => ?_⟩
   rcases Nat.lt_or_ge j k with h | h
   ·exact hP j hj h
   ·have : j = k := by omega
    subst this; omega
  ·rintro L H1 ⟨rfl, rfl, hP⟩
   unfold zbA
   simp (disch := omega) only [↓RD, RZ, h.vlen]
   refine .inl (inr_iff.2 fun x hx => ?_)
   obtain ⟨j, hj, rfl⟩ := List.getElem_of_mem hx
   exact hP j hj hj
 by_cases h0 : 0 ≤ n
 ·by_cases h1 : (l.length : Int) = n
  ·simp (disch := omega) only [↓RD, RZ, h.vlen, h1]
   refine zaM (loop (.inr h1)) ?_
   rintro r H' ⟨rfl, ⟨rfl, e⟩ | ⟨rfl, e⟩⟩
   ·rw [e]; simp (disch := omega) only [↓RD, RZ]
   ·rw [e]; simp (disch := omega) only [↓RD, RZ]
  ·simp (disch := omega) only [↓RD, RZ, h.vlen]
   unfold wi2
   rw [decide_eq_false (by omega), decide_eq_false h1]; rfl
 ·simp (disch := omega) only [↓RD, RZ]
  refine zaM (loop (.inl (by omega))) ?_
  rintro r H' ⟨rfl, ⟨rfl, e⟩ | ⟨rfl, e⟩⟩
  ·rw [e]; simp (disch := omega) only [↓RD, RZ]
  ·rw [e]; simp (disch := omega) only [↓RD, RZ]
theorem Pl.arr {H : Heap} {p : V} {cs : List V} {own : Option Nat} (h : Pl H p cs own) {n i : Nat} {k : IntKind} (hi : i < n) : Ax.iaddr (some n) 1 p (.int k (i : Nat)) = some (fa p i) := by
 have := @Pl.fa _ _ _ _ h 0
 cases p <;> simp only [Ax.faddr, reduceCtorEq] at this
 ·rw [zhg (by omega) (by omega)]; simp [fa]
 ·rw [zgP (by omega) (by omega)]; simp [fa]
def nxI : Option Nat → Int
 | some k => (k : Nat)
 | none => 3
theorem nx_lt {s t : Tm} {k : Nat} (h : nx s t = some k) : k < 3 := by
 unfold nx at h
 split at h
 ·cases h; decide
 ·split at h
  ·cases h; decide
  ·split at h
   ·cases h; decide
   ·cases h
theorem step_ok {H : Heap} (s t : Tm) (a b c d e g : V) (hs : 0 ≤ s.sp ∧ s.sp ≤ 3) (ht : 0 ≤ s.te ∧ s.te ≤ 7) (ha : Cel a) (hb : Cel b) (hc : Cel c) (hd : Cel d) (he : Cel e) (hg : Cel g) :
  Ok (sem T zbq [.agg [.int .i64 s.sp, .int .i64 s.te, a, b, c], .agg [.int .i64 t.sp, .int .i64 t.te, d, e, g]]) H fun r H' => r = .int .i64 (nxI (nx s t)) ∧ Grow H H' := by
 refine zeN ?_
 unfold zdF
 have g2 : ∀ (x y : Blk), Grow H ((H.new x).new y) := fun x y => (Grow.new _ _).trans (Grow.new _ _)
 simp (disch := first | omega | (simp only [RY] <;> omega) | decide) only [↓RD, RZ, Nat.reduceAdd, ha.1, ha.2, hb.1, hb.2, hc.1, hc.2, hd.1, hd.2, he.1, he.2, hg.1, hg.2]
 unfold nx
 by_cases h1 : s.sp = t.sp
 ·by_cases h2 : s.te = t.te
  ·rw [if_pos ⟨h1.symm, h2.symm⟩]
   simp (disch := first | omega | (simp only [RY] <;> omega) | decide) only [↓RD, RZ, Nat.reduceAdd, h1, h2]
   exact ⟨rfl, g2 _ _⟩
  ·rw [if_neg (fun h => h2 h.2.symm)]
   by_cases h3 : s.te + 1 = t.te
   ·rw [if_pos ⟨h1.symm, h3.symm⟩]
    simp (disch := first | omega | (simp only [RY] <;> omega) | decide) only [↓RD, RZ, Nat.reduceAdd, h1, h3]
    exact ⟨rfl, g2 _ _⟩
   ·rw [if_neg (fun h => h3 h.2.symm), if_neg (by omega)]
    simp (disch := first | omega | (simp only [RY] <;> omega) | decide) only [↓RD, RZ, Nat.reduceAdd, h1]
    exact ⟨rfl, g2 _ _⟩
 ·rw [if_neg (fun h => h1 h.1.symm), if_neg (fun h => h1 h.1.symm)]
  by_cases h2 : s.sp + 1 = t.sp
  ·by_cases h3 : t.te = 0
   ·rw [if_pos ⟨h2.symm, h3⟩]
    simp (disch := first | omega | (simp only [RY] <;> omega) | decide) only [↓RD, RZ, Nat.reduceAdd, h2, h3]
    exact ⟨rfl, g2 _ _⟩
   ·rw [if_neg (fun h => h3 h.2)]
    simp (disch := first | omega | (simp only [RY] <;> omega) | decide) only [↓RD, RZ, Nat.reduceAdd, h2]
    exact ⟨rfl, g2 _ _⟩
  ·rw [if_neg (fun h => h2 h.1.symm)]
   simp (disch := first | omega | (simp only [RY] <;> omega) | decide) only [↓RD, RZ, Nat.reduceAdd]
   exact ⟨rfl, g2 _ _⟩
theorem top2_ok {lo : Nat} {H : Heap} {s : Sr} {a b c : V} (h : SrC lo H s a b c) (hn : s.ts.length ≤ 1099511627776) :
  Ok (sem T zbY [.agg (scells s a b c)]) H fun r H' => r = .int .i64 (top s.ts) ∧ Grow H H' := by
 refine zfd ?_
 unfold zdX
 unfold scells
 simp (disch := omega) only [↓RD, RZ, h.ts.cells1, h.ts.okc, h.pro.cells1, h.pro.okc, h.siz.cells1, h.siz.okc]
 generalize hH1 : Heap.new H _ = H1
 have s1 : Grow H H1 := by rw [← hH1]; exact Grow.new _ _
 have g1 : H1.get H.next = some ⟨zaf, [.int .i64 s.off, .int .i64 s.tar, a, .int .i64 s.cha, b, c], none⟩ := by rw [← hH1]; exact zao _ _
 clear hH1
 refine zaP (fun k L H' => L = [.int .i64 (top (s.ts.take k)), .int .i64 (k : Nat)] ∧ H' = H1) s.ts.length ?_ ?_ ?_
 ·exact ⟨rfl, rfl⟩
 ·rintro k L H2 hk ⟨rfl, rfl⟩
  obtain ⟨q, d, e, f, i1, l1, w1⟩ := (h.ts.ext s1).at hk
  obtain ⟨l2, -⟩ := pl5 l1
  unfold zcv
  simp (disch := omega) only [↓RD, RZ, g1, h.ts.vlen, i1, l1.fa, l2, mm1]
  rw [top_take hk]; rfl
 ·rintro L H2 ⟨rfl, rfl⟩
  unfold zcv
  rw [List.take_length]
  simp (disch := omega) only [↓RD, RZ, g1, h.ts.vlen]
  exact s1
theorem nxI_3 {o : Option Nat} (h : ∀ k, o = some k → k < 3) : (nxI o == 3) = o.isNone := by
 cases o with
 | none => rfl
 | some k =>
  have := h k rfl
  simp only [nxI, Option.isNone_some]
  rw [beq_eq_false_iff_ne]; omega
theorem Fine2_ok {lo : Nat} {H : Heap} {v : V} {s : Sr} (h : SrR lo H v s) (ho : SrO s) :
  Ok (sem T zbV [v]) H fun r H' => r = .bool (fine s) ∧ Grow H H' := by
 obtain ⟨a, b, c, rfl, h⟩ := h
 have nt := ho.ts
 have np := ho.pro.2
 have ns := ho.siz.1
 refine zeP ?_
 unfold zdH
 unfold scells
 simp (disch := first | omega | (simp only [RY] <;> omega) | decide) only [↓RD, RZ, eq_self, Int.reduceToNat, Int.reduceAdd, Nat.reduceAdd, Nat.reduceSub, Nat.reduceMul, Nat.reduceLeDiff, h.ts.cells1, h.ts.okc, h.pro.cells1, h.pro.okc, h.siz.cells1, h.siz.okc]
 generalize hH1 : Heap.new H _ = H1
 have s1 : Grow H H1 := by rw [← hH1]; exact Grow.new _ _
 have n1 : H1.next = H.next + 1 := by rw [← hH1]; rfl
 have g1 : H1.get H.next = some ⟨zaf, [.int .i64 s.off, .int .i64 s.tar, a, .int .i64 s.cha, b, c], none⟩ := by rw [← hH1]; exact zao _ _
 clear hH1
 have vt := h.ts.vlen
 by_cases a1 : s.off < 0
 ·simp (disch := first | omega | (simp only [RY] <;> omega) | decide) only [↓RD, RZ, eq_self, Int.reduceToNat, Int.reduceAdd, Nat.reduceAdd, Nat.reduceSub, Nat.reduceMul, Nat.reduceLeDiff, g1, vt]
  exact ⟨by rw [fine_no fun h => by have := h.off; omega], s1⟩
 by_cases a2 : 63 < s.off
 ·simp (disch := first | omega | (simp only [RY] <;> omega) | decide) only [↓RD, RZ, eq_self, Int.reduceToNat, Int.reduceAdd, Nat.reduceAdd, Nat.reduceSub, Nat.reduceMul, Nat.reduceLeDiff, g1, vt]
  exact ⟨by rw [fine_no fun h => by have := h.off; omega], s1⟩
 by_cases a3 : s.tar < 1
 ·simp (disch := first | omega | (simp only [RY] <;> omega) | decide) only [↓RD, RZ, eq_self, Int.reduceToNat, Int.reduceAdd, Nat.reduceAdd, Nat.reduceSub, Nat.reduceMul, Nat.reduceLeDiff, g1, vt]
  exact ⟨by rw [fine_no fun h => by have := h.tar; omega], s1⟩
 by_cases a4 : 32 < s.tar
 ·simp (disch := first | omega | (simp only [RY] <;> omega) | decide) only [↓RD, RZ, eq_self, Int.reduceToNat, Int.reduceAdd, Nat.reduceAdd, Nat.reduceSub, Nat.reduceMul, Nat.reduceLeDiff, g1, vt]
  exact ⟨by rw [fine_no fun h => by have := h.tar; omega], s1⟩
 by_cases a7 : s.ts.length < 1
 ·simp (disch := first | omega | (simp only [RY] <;> omega) | decide) only [↓RD, RZ, eq_self, Int.reduceToNat, Int.reduceAdd, Nat.reduceAdd, Nat.reduceSub, Nat.reduceMul, Nat.reduceLeDiff, g1, vt]
  exact ⟨by rw [fine_no fun h => by have := h.len; omega], s1⟩
 by_cases a8 : 64 < s.ts.length
 ·simp (disch := first | omega | (simp only [RY] <;> omega) | decide) only [↓RD, RZ, eq_self, Int.reduceToNat, Int.reduceAdd, Nat.reduceAdd, Nat.reduceSub, Nat.reduceMul, Nat.reduceLeDiff, g1, vt]
  exact ⟨by rw [fine_no fun h => by have := h.len; omega], s1⟩
 by_cases a5 : s.cha < 0
 ·simp (disch := first | omega | (simp only [RY] <;> omega) | decide) only [↓RD, RZ, eq_self, Int.reduceToNat, Int.reduceAdd, Nat.reduceAdd, Nat.reduceSub, Nat.reduceMul, Nat.reduceLeDiff, g1, vt]
  exact ⟨by rw [fine_no fun h => by have := h.cha; omega], s1⟩
 by_cases a6 : s.tar < s.cha
 ·simp (disch := first | omega | (simp only [RY] <;> omega) | decide) only [↓RD, RZ, eq_self, Int.reduceToNat, Int.reduceAdd, Nat.reduceAdd, Nat.reduceSub, Nat.reduceMul, Nat.reduceLeDiff, g1, vt]
  exact ⟨by rw [fine_no fun h => by have := h.cha; omega], s1⟩
 simp (disch := first | omega | (simp only [RY] <;> omega) | decide) only [↓RD, RZ, eq_self, Int.reduceToNat, Int.reduceAdd, Nat.reduceAdd, Nat.reduceSub, Nat.reduceMul, Nat.reduceLeDiff, g1, vt]
 refine zaM (Q := fun r H' => Grow H1 H' ∧ ((r = Res.ex 0 [] ∧ ∀ j (hj : j < s.ts.length), LayAt s.ts j ∧ fineT s.tar s.cha s.ts[j] = true) ∨ (r = .ret [.bool false] ∧ fine s = false))) ?_ ?_
 ·refine zaP (fun k L H' => L = [.int .i64 (k : Nat)] ∧ Grow H1 H' ∧ ∀ j (hj : j < s.ts.length), j < k → LayAt s.ts j ∧ fineT s.tar s.cha s.ts[j] = true) s.ts.length ?_ ?_ ?_
  ·exact ⟨rfl, Grow.refl _, fun j hj hk => absurd hk (by omega)⟩
  ·rintro k L H2 hk ⟨rfl, s2, hP⟩
   have n2 := s2.next
   have g2 : H2.get H.next = _ := (s2.same _ (by omega)).trans g1
   obtain ⟨q, d, e, f, i1, l1, w1⟩ := (h.ts.ext (s1.trans s2)).at hk
   obtain ⟨-, -, -, -, -, l2⟩ := pl5 l1
   have hd := w1.dti.cel
   have he := w1.dif.cel
   have hf := w1.cha.cel
   have o1 := (ho.tm _ (List.getElem_mem hk)).dti.2
   have o2 := (ho.tm _ (List.getElem_mem hk)).dif.2
   have o3 := (ho.tm _ (List.getElem_mem hk)).cha.2
   unfold zci
   have nolay : ¬ LayAt s.ts k → fine s = false := fun hl => fine_no fun hf => hl (hf.lay k hk)
   have nofin : fineT s.tar s.cha s.ts[k] = false → fine s = false := fun hl => fine_no fun hf => by have := hf.tms _ (List.getElem_mem hk); rw [hl] at this; cases this
   simp (disch := first | omega | (simp only [RY] <;> omega) | decide) only [↓RD, RZ, eq_self, Int.reduceToNat, Int.reduceAdd, Nat.reduceAdd, Nat.reduceSub, Nat.reduceMul, Nat.reduceLeDiff, g2, i1, l2, hd.1, hd.2, he.1, he.2, hf.1, hf.2]
   generalize hH3 : Heap.set _ _ _ = H3
   have s3 : Grow H2 H3 := by rw [← hH3]; exact (Grow.new _ _).set (by omega) _
   have n3 : H3.next = H2.next + 1 := by rw [← hH3]; rfl
   have c3 : H3.get H2.next = some ⟨zaq, [.int .i64 s.ts[k].sp, .int .i64 s.ts[k].te, d, e, f], none⟩ := by rw [← hH3]; exact zan _ _ _
   clear hH3
   have g3 : H3.get H.next = _ := (s3.same _ (by omega)).trans g2
   have s23 := s2.trans s3
   have lay_eq : LayAt s.ts k ↔ (if k = 0 then s.ts[k].sp = 0 ∧ s.ts[k].te = 0 else (nx (s.ts.getD (k - 1) Tm0) s.ts[k]).isSome = true ∧ 0 ≤ s.ts[k].sp ∧ s.ts[k].sp ≤ 3 ∧ 0 ≤ s.ts[k].te ∧ s.ts[k].te ≤ 7) := by
    unfold LayAt; dsimp only; rw [getD_get hk]
   by_cases b1 : s.ts[k].sp < 0
   ·simp (disch := first | omega | (simp only [RY] <;> omega) | decide) only [↓RD, RZ, eq_self, Int.reduceToNat, Int.reduceAdd, Nat.reduceAdd, Nat.reduceSub, Nat.reduceMul, Nat.reduceLeDiff, c3]
    exact ⟨s23, .inr (nolay fun hl => by have := layAt_rng hl; rw [getD_get hk] at this; omega)⟩
   by_cases b2 : 3 < s.ts[k].sp
   ·simp (disch := first | omega | (simp only [RY] <;> omega) | decide) only [↓RD, RZ, eq_self, Int.reduceToNat, Int.reduceAdd, Nat.reduceAdd, Nat.reduceSub, Nat.reduceMul, Nat.reduceLeDiff, c3]
    exact ⟨s23, .inr (nolay fun hl => by have := layAt_rng hl; rw [getD_get hk] at this; omega)⟩
   by_cases b3 : s.ts[k].te < 0
   ·simp (disch := first | omega | (simp only [RY] <;> omega) | decide) only [↓RD, RZ, eq_self, Int.reduceToNat, Int.reduceAdd, Nat.reduceAdd, Nat.reduceSub, Nat.reduceMul, Nat.reduceLeDiff, c3]
    exact ⟨s23, .inr (nolay fun hl => by have := layAt_rng hl; rw [getD_get hk] at this; omega)⟩
   by_cases b4 : 7 < s.ts[k].te
   ·simp (disch := first | omega | (simp only [RY] <;> omega) | decide) only [↓RD, RZ, eq_self, Int.reduceToNat, Int.reduceAdd, Nat.reduceAdd, Nat.reduceSub, Nat.reduceMul, Nat.reduceLeDiff, c3]
    exact ⟨s23, .inr (nolay fun hl => by have := layAt_rng hl; rw [getD_get hk] at this; omega)⟩
   have go : ∀ {H5 : Heap}, Grow H1 H5 → LayAt s.ts k → fineT s.tar s.cha s.ts[k] = true → Grow H1 H5 ∧ ∀ j (hj : j < s.ts.length), j < k + 1 → LayAt s.ts j ∧ fineT s.tar s.cha s.ts[j] = true := fun g h1 h2 => ⟨g, fun j hj hjk => by
    rcases Nat.lt_or_ge j k with h | h
    ·exact hP j hj h
    ·have : j = k := by omega
     subst this; exact ⟨h1, h2⟩⟩
   by_cases k0 : k = 0
   ·subst k0
    rw [if_pos rfl] at lay_eq
    by_cases e1 : s.ts[0].sp = 0
    ·by_cases e2 : s.ts[0].te = 0
     ·have hL := lay_eq.2 ⟨e1, e2⟩
      rw [e1, e2] at c3
      have d4 := w1.dti.ext (s3.trans (Grow.refl H3))
      have e4 := w1.dif.ext (s3.trans (Grow.refl H3))
      have f4 := w1.cha.ext (s3.trans (Grow.refl H3))
      have r1 := @zcc _ _ _ _ (within2_ok d4 s.tar 0 3 (by omega))
      have r2 := @zcc _ _ _ _ (within2_ok e4 (-1) 1 16 (by omega))
      have r3 := @zcc _ _ _ _ (within2_ok f4 s.cha 0 15 (by omega))
      have fin : Grow H1 H3 := s23.trans (Grow.refl H3)
      have v4 := e4.vlen
      cases x1 : wi2 s.ts[0].dti s.tar 0 3 with
      | false =>
       simp (disch := first | omega | (simp only [RY] <;> omega) | decide) only [↓RD, RZ, eq_self, Int.reduceToNat, Int.reduceAdd, Nat.reduceAdd, Nat.reduceSub, Nat.reduceMul, Nat.reduceLeDiff, c3, g3, r1, x1]
       exact ⟨fin, .inr (nofin (by unfold fineT; rw [← wi2_wi (by omega), x1]; rfl))⟩
      | true =>
       by_cases x2 : 8 < s.ts[0].dif.length
       ·simp (disch := first | omega | (simp only [RY] <;> omega) | decide) only [↓RD, RZ, eq_self, Int.reduceToNat, Int.reduceAdd, Nat.reduceAdd, Nat.reduceSub, Nat.reduceMul, Nat.reduceLeDiff, c3, g3, r1, x1, v4]
        exact ⟨fin, .inr (nofin (by unfold fineT di; rw [decide_eq_false (by omega)]; simp))⟩
       cases x3 : wi2 s.ts[0].dif (-1) 1 16 with
       | false =>
        simp (disch := first | omega | (simp only [RY] <;> omega) | decide) only [↓RD, RZ, eq_self, Int.reduceToNat, Int.reduceAdd, Nat.reduceAdd, Nat.reduceSub, Nat.reduceMul, Nat.reduceLeDiff, c3, g3, r1, x1, v4, r2, x3]
        exact ⟨fin, .inr (nofin (by rw [wi2_neg] at x3; unfold fineT di; rw [x3]; simp))⟩
       | true =>
        cases x4 : wi2 s.ts[0].cha s.cha 0 15 with
        | false =>
         simp (disch := first | omega | (simp only [RY] <;> omega) | decide) only [↓RD, RZ, eq_self, Int.reduceToNat, Int.reduceAdd, Nat.reduceAdd, Nat.reduceSub, Nat.reduceMul, Nat.reduceLeDiff, c3, g3, r1, x1, v4, r2, x3, r3, x4]
         exact ⟨fin, .inr (nofin (by rw [wi2_wi (by omega)] at x4; unfold fineT; rw [x4]; simp))⟩
        | true =>
         simp (disch := first | omega | (simp only [RY] <;> omega) | decide) only [↓RD, RZ, eq_self, Int.reduceToNat, Int.reduceAdd, Nat.reduceAdd, Nat.reduceSub, Nat.reduceMul, Nat.reduceLeDiff, c3, g3, r1, x1, v4, r2, x3, r3, x4]
         have y1 := x1
         have y4 := x4
         rw [wi2_wi (by omega)] at y1 y4
         rw [wi2_neg] at x3
         exact ⟨by rfl, go fin hL (by unfold fineT di; rw [y1, x3, y4, decide_eq_true (by omega)]; rfl)⟩
     ·simp (disch := first | omega | (simp only [RY] <;> omega) | decide) only [↓RD, RZ, eq_self, Int.reduceToNat, Int.reduceAdd, Nat.reduceAdd, Nat.reduceSub, Nat.reduceMul, Nat.reduceLeDiff, c3, e1]
      exact ⟨s23, .inr (nolay fun hl => e2 (lay_eq.1 hl).2)⟩
    ·simp (disch := first | omega | (simp only [RY] <;> omega) | decide) only [↓RD, RZ, eq_self, Int.reduceToNat, Int.reduceAdd, Nat.reduceAdd, Nat.reduceSub, Nat.reduceMul, Nat.reduceLeDiff, c3]
     exact ⟨s23, .inr (nolay fun hl => e1 (lay_eq.1 hl).1)⟩
   ·rw [if_neg k0] at lay_eq
    have hk1 : k - 1 < s.ts.length := by omega
    have ek : (k : Int) - 1 = ((k - 1 : Nat) : Int) := by omega
    obtain ⟨q', d', e', f', i1', l1', w1'⟩ := (h.ts.ext ((s1.trans s2).trans s3)).at hk1
    obtain ⟨-, -, -, -, -, l2'⟩ := pl5 l1'
    have hpr := layAt_rng (hP (k - 1) hk1 (by omega)).1
    rw [getD_get hk1] at hpr lay_eq
    simp (disch := first | omega | (simp only [RY] <;> omega) | decide) only [↓RD, RZ, eq_self, Int.reduceToNat, Int.reduceAdd, Nat.reduceAdd, Nat.reduceSub, Nat.reduceMul, Nat.reduceLeDiff, c3, g3, ek, i1', l2']
    refine zac (step_ok s.ts[k - 1] s.ts[k] d' e' f' d e f (by omega) (by omega) w1'.dti.cel w1'.dif.cel w1'.cha.cel hd he hf) ?_
    rintro _ H4 ⟨rfl, s4⟩
    have c4 : H4.get H2.next = _ := (s4.same _ (by omega)).trans c3
    have g4 : H4.get H.next = _ := (s4.same _ (by omega)).trans g3
    have en := nxI_3 (fun m hm => nx_lt (s := s.ts[k - 1]) (t := s.ts[k]) hm)
    cases hx : nx s.ts[k - 1] s.ts[k] with
    | none =>
     unfold nxI
     simp (disch := first | omega | (simp only [RY] <;> omega) | decide) only [↓RD, RZ, eq_self, Int.reduceToNat, Int.reduceAdd, Nat.reduceAdd, Nat.reduceSub, Nat.reduceMul, Nat.reduceLeDiff]
     exact ⟨s23.trans s4, .inr (nolay fun hl => by have := (lay_eq.1 hl).1; rw [hx] at this; cases this)⟩
    | some m =>
     have hm := nx_lt hx
     have hL := lay_eq.2 ⟨by rw [hx]; rfl, by omega, by omega, by omega, by omega⟩
     unfold nxI
     have d4 := w1.dti.ext (s3.trans s4)
     have e4 := w1.dif.ext (s3.trans s4)
     have f4 := w1.cha.ext (s3.trans s4)
     have r1 := @zcc _ _ _ _ (within2_ok d4 s.tar 0 3 (by omega))
     have r2 := @zcc _ _ _ _ (within2_ok e4 (-1) 1 16 (by omega))
     have r3 := @zcc _ _ _ _ (within2_ok f4 s.cha 0 15 (by omega))
     have fin : Grow H1 H4 := s23.trans s4
     have v4 := e4.vlen
     cases x1 : wi2 s.ts[k].dti s.tar 0 3 with
     | false =>
      simp (disch := first | omega | (simp only [RY] <;> omega) | decide) only [↓RD, RZ, eq_self, Int.reduceToNat, Int.reduceAdd, Nat.reduceAdd, Nat.reduceSub, Nat.reduceMul, Nat.reduceLeDiff, c4, g4, r1, x1]
      exact ⟨fin, .inr (nofin (by unfold fineT; rw [← wi2_wi (by omega), x1]; rfl))⟩
     | true =>
      by_cases x2 : 8 < s.ts[k].dif.length
      ·simp (disch := first | omega | (simp only [RY] <;> omega) | decide) only [↓RD, RZ, eq_self, Int.reduceToNat, Int.reduceAdd, Nat.reduceAdd, Nat.reduceSub, Nat.reduceMul, Nat.reduceLeDiff, c4, g4, r1, x1, v4]
       exact ⟨fin, .inr (nofin (by unfold fineT di; rw [decide_eq_false (by omega)]; simp))⟩
      cases x3 : wi2 s.ts[k].dif (-1) 1 16 with
      | false =>
       simp (disch := first | omega | (simp only [RY] <;> omega) | decide) only [↓RD, RZ, eq_self, Int.reduceToNat, Int.reduceAdd, Nat.reduceAdd, Nat.reduceSub, Nat.reduceMul, Nat.reduceLeDiff, c4, g4, r1, x1, v4, r2, x3]
       exact ⟨fin, .inr (nofin (by rw [wi2_neg] at x3; unfold fineT di; rw [x3]; simp))⟩
      | true =>
       cases x4 : wi2 s.ts[k].cha s.cha 0 15 with
       | false =>
        simp (disch := first | omega | (simp only [RY] <;> omega) | decide) only [↓RD, RZ, eq_self, Int.reduceToNat, Int.reduceAdd, Nat.reduceAdd, Nat.reduceSub, Nat.reduceMul, Nat.reduceLeDiff, c4, g4, r1, x1, v4, r2, x3, r3, x4]
        exact ⟨fin, .inr (nofin (by rw [wi2_wi (by omega)] at x4; unfold fineT; rw [x4]; simp))⟩
       | true =>
        simp (disch := first | omega | (simp only [RY] <;> omega) | decide) only [↓RD, RZ, eq_self, Int.reduceToNat, Int.reduceAdd, Nat.reduceAdd, Nat.reduceSub, Nat.reduceMul, Nat.reduceLeDiff, c4, g4, r1, x1, v4, r2, x3, r3, x4]
        have y1 := x1
        have y4 := x4
        rw [wi2_wi (by omega)] at y1 y4
        rw [wi2_neg] at x3
        exact ⟨by rfl, go fin hL (by unfold fineT di; rw [y1, x3, y4, decide_eq_true (by omega)]; rfl)⟩
  ·rintro L H2 ⟨rfl, s2, hP⟩
   unfold zci
   simp (disch := first | omega | (simp only [RY] <;> omega) | decide) only [↓RD, RZ, eq_self, Int.reduceToNat, Int.reduceAdd, Nat.reduceAdd, Nat.reduceSub, Nat.reduceMul, Nat.reduceLeDiff]
   exact ⟨s2, .inl fun j hj => hP j hj hj⟩
 ·rintro r H2 ⟨s2, ⟨rfl, hP⟩ | ⟨rfl, hP⟩⟩
  rotate_left
  ·simp (disch := first | omega | (simp only [RY] <;> omega) | decide) only [↓RD, RZ, eq_self, Int.reduceToNat, Int.reduceAdd, Nat.reduceAdd, Nat.reduceSub, Nat.reduceMul, Nat.reduceLeDiff]
   exact ⟨by rw [hP], s1.trans s2⟩
  have n2 := s2.next
  have g2 : H2.get H.next = _ := (s2.same _ (by omega)).trans g1
  have s12 := s1.trans s2
  have rng : ∀ t ∈ s.ts, 0 ≤ t.sp ∧ t.sp ≤ 3 ∧ 0 ≤ t.te ∧ t.te ≤ 7 := fun t ht => by
   obtain ⟨j, hj, rfl⟩ := List.getElem_of_mem ht
   have := layAt_rng (hP j hj).1
   rwa [getD_get hj] at this
  have tp := top_le rng s.ts.length
  rw [List.take_length] at tp
  generalize hpc : (if s.cha = 0 then 0 else s.tar : Int) = pc
  simp (disch := first | omega | (simp only [RY] <;> omega) | decide) only [↓RD, RZ, eq_self, Int.reduceToNat, Int.reduceAdd, Nat.reduceAdd, Nat.reduceSub, Nat.reduceMul, Nat.reduceLeDiff, g2]
  refine zaM (Q := fun r H' => r = Res.nrm [.int .i64 pc] ∧ H' = H2) ?_ ?_
  ·by_cases hz : 0 < s.cha
   ·simp (disch := first | omega | (simp only [RY] <;> omega) | decide) only [↓RD, RZ, eq_self, Int.reduceToNat, Int.reduceAdd, Nat.reduceAdd, Nat.reduceSub, Nat.reduceMul, Nat.reduceLeDiff, g2]
    rw [← hpc, if_neg (by omega)]
   ·simp (disch := first | omega | (simp only [RY] <;> omega) | decide) only [↓RD, RZ, eq_self, Int.reduceToNat, Int.reduceAdd, Nat.reduceAdd, Nat.reduceSub, Nat.reduceMul, Nat.reduceLeDiff]
    rw [← hpc, if_pos (by omega)]
  rintro _ H' ⟨rfl, hH'⟩
  have : H' = H2 := hH'
  subst this
  have hp0 : 0 ≤ pc := by rw [← hpc]; split <;> omega
  have r1 := @zcc _ _ _ _ (within2_ok (h.pro.ext s12) pc 0 (s.cha - 1) (by omega))
  have vs := h.siz.vlen
  -- the sizes
  have sizes : ∀ H4, Grow H' H4 → Ok (M.iter (zbR (sem T) (.ptr H.next 0)) [.int .i64 0]) H4 fun r H' => Grow H H' ∧ ((r = .ex 2 [] ∧ ∀ x ∈ s.siz, (1 ≤ x.1 ∧ x.1 ≤ 65536) ∧ (1 ≤ x.2 ∧ x.2 ≤ 65536)) ∨ (r = .ret [.bool false] ∧ fine s = false)) := by
   intro H4 s4
   have n4 := s4.next
   refine zaP (fun k L H' => L = [.int .i64 (k : Nat)] ∧ Grow H4 H' ∧ ∀ j (hj : j < s.siz.length), j < k → (1 ≤ s.siz[j].1 ∧ s.siz[j].1 ≤ 65536) ∧ (1 ≤ s.siz[j].2 ∧ s.siz[j].2 ≤ 65536)) s.siz.length ?_ ?_ ?_
   ·exact ⟨rfl, Grow.refl _, fun j hj hk => absurd hk (by omega)⟩
   ·rintro k L H5 hk ⟨rfl, s5, hP5⟩
    have n5 := s5.next
    have g5 : H5.get H.next = _ := ((s4.trans s5).same _ (by omega)).trans g2
    obtain ⟨q, i1, l1⟩ := szs_at (h.siz.ext ((s12.trans s4).trans s5)) hk
    obtain ⟨l2, l3, -⟩ := pl2 l1
    have w0 : Ax.iaddr (some 2) 1 q (.int .i64 0) = some (fa q 0) := Pl.arr l1 (n := 2) (k := .i64) (i := 0) (by omega)
    have w1 : Ax.iaddr (some 2) 1 q (.int .i64 1) = some (fa q 1) := Pl.arr l1 (n := 2) (k := .i64) (i := 1) (by omega)
    unfold zbR
    simp (disch := first | omega | (simp only [RY] <;> omega) | decide) only [↓RD, RZ, eq_self, Int.reduceToNat, Int.reduceAdd, Nat.reduceAdd, Nat.reduceSub, Nat.reduceMul, Nat.reduceLeDiff, g5, vs, i1, l2, l3, w0, w1]
    refine zac (within2_ok (box_il (x := s.siz[k].1) (y := s.siz[k].2) (by first | exact zao _ _ | exact zan _ _ _) (by rw [zap]; omega)) 2 1 65536 (by simp)) ?_
    rintro _ H7 ⟨rfl, rfl⟩
    rw [wi2_wi (by omega)]
    cases w6 : wi [s.siz[k].1, s.siz[k].2] 2 1 65536 with
    | false =>
     simp (disch := first | omega | (simp only [RY] <;> omega) | decide) only [↓RD, RZ, eq_self, Int.reduceToNat, Int.reduceAdd, Nat.reduceAdd, Nat.reduceSub, Nat.reduceMul, Nat.reduceLeDiff]
     refine ⟨((s12.trans s4).trans s5).trans (Grow.new _ _), .inr (fine_no fun h => ?_)⟩
     have := h.szs _ (List.getElem_mem hk)
     have : wi [s.siz[k].1, s.siz[k].2] 2 1 65536 = true := wi_iff.2 ⟨rfl, fun x hx => by
      simp only [List.mem_cons, List.not_mem_nil, or_false] at hx
      rcases hx with rfl | rfl
      ·exact this.1
      ·exact this.2⟩
     rw [this] at w6; cases w6
    | true =>
     simp (disch := first | omega | (simp only [RY] <;> omega) | decide) only [↓RD, RZ, eq_self, Int.reduceToNat, Int.reduceAdd, Nat.reduceAdd, Nat.reduceSub, Nat.reduceMul, Nat.reduceLeDiff]
     refine ⟨by rfl, s5.trans (Grow.new _ _), fun j hj hjk => ?_⟩
     rcases Nat.lt_or_ge j k with h | h
     ·exact hP5 j hj h
     ·have : j = k := by omega
      subst this
      have := (wi_iff.1 w6).2
      exact ⟨this _ (by simp), this _ (by simp)⟩
   ·rintro L H5 ⟨rfl, s5, hP5⟩
    have g5 : H5.get H.next = _ := ((s4.trans s5).same _ (by omega)).trans g2
    unfold zbR
    simp (disch := first | omega | (simp only [RY] <;> omega) | decide) only [↓RD, RZ, eq_self, Int.reduceToNat, Int.reduceAdd, Nat.reduceAdd, Nat.reduceSub, Nat.reduceMul, Nat.reduceLeDiff, g5, vs]
    exact ⟨(s12.trans s4).trans s5, .inl fun x hx => by
     obtain ⟨j, hj, rfl⟩ := List.getElem_of_mem hx
     exact hP5 j hj hj⟩
  cases y1 : wi2 s.pro pc 0 (s.cha - 1) with
  | false =>
   simp (disch := first | omega | (simp only [RY] <;> omega) | decide) only [↓RD, RZ, eq_self, Int.reduceToNat, Int.reduceAdd, Nat.reduceAdd, Nat.reduceSub, Nat.reduceMul, Nat.reduceLeDiff, g2, r1, y1]
   exact ⟨by rw [fine_no fun h => by have := h.pro; rw [hpc, ← wi2_wi hp0, y1] at this; cases this], s12⟩
  | true =>
   have yes : (s.siz.length = 0 ∨ (s.siz.length : Int) = top s.ts + 1) → (∀ x ∈ s.siz, (1 ≤ x.1 ∧ x.1 ≤ 65536) ∧ (1 ≤ x.2 ∧ x.2 ≤ 65536)) → fine s = true := fun h1 h2 => fine_yes ⟨by omega, by omega, by omega, by omega, by rw [hpc, ← wi2_wi hp0]; exact y1, fun j hj => (hP j hj).1, h1, h2, fun t ht => by
    obtain ⟨j, hj, rfl⟩ := List.getElem_of_mem ht
    exact (hP j hj).2⟩
   by_cases hs0 : s.siz.length = 0
   ·simp (disch := first | omega | (simp only [RY] <;> omega) | decide) only [↓RD, RZ, eq_self, Int.reduceToNat, Int.reduceAdd, Nat.reduceAdd, Nat.reduceSub, Nat.reduceMul, Nat.reduceLeDiff, g2, r1, y1, vs, hs0]
    refine zaM (sizes _ (Grow.refl _)) ?_
    rintro r H6 ⟨h1, ⟨rfl, h3⟩ | ⟨rfl, h3⟩⟩
    ·simp (disch := first | omega | (simp only [RY] <;> omega) | decide) only [↓RD, RZ, eq_self, Int.reduceToNat, Int.reduceAdd, Nat.reduceAdd, Nat.reduceSub, Nat.reduceMul, Nat.reduceLeDiff]
     exact ⟨by rw [yes (.inl hs0) h3], h1⟩
    ·simp (disch := first | omega | (simp only [RY] <;> omega) | decide) only [↓RD, RZ, eq_self, Int.reduceToNat, Int.reduceAdd, Nat.reduceAdd, Nat.reduceSub, Nat.reduceMul, Nat.reduceLeDiff]
     exact ⟨by rw [h3], h1⟩
   ·simp (disch := first | omega | (simp only [RY] <;> omega) | decide) only [↓RD, RZ, eq_self, Int.reduceToNat, Int.reduceAdd, Nat.reduceAdd, Nat.reduceSub, Nat.reduceMul, Nat.reduceLeDiff, g2, r1, y1, vs]
    refine zac (top2_ok (h.ext s12) (by omega)) ?_
    rintro _ H4 ⟨rfl, s4⟩
    have g4 : H4.get H.next = _ := (s4.same _ (by omega)).trans g2
    by_cases hs1 : (s.siz.length : Int) = top s.ts + 1
    ·simp (disch := first | omega | (simp only [RY] <;> omega) | decide) only [↓RD, RZ, eq_self, Int.reduceToNat, Int.reduceAdd, Nat.reduceAdd, Nat.reduceSub, Nat.reduceMul, Nat.reduceLeDiff, g4, g2, vs, ← hs1]
     refine zaM (sizes _ s4) ?_
     rintro r H6 ⟨h1, ⟨rfl, h3⟩ | ⟨rfl, h3⟩⟩
     ·simp (disch := first | omega | (simp only [RY] <;> omega) | decide) only [↓RD, RZ, eq_self, Int.reduceToNat, Int.reduceAdd, Nat.reduceAdd, Nat.reduceSub, Nat.reduceMul, Nat.reduceLeDiff]
      exact ⟨by rw [yes (.inr hs1) h3], h1⟩
     ·simp (disch := first | omega | (simp only [RY] <;> omega) | decide) only [↓RD, RZ, eq_self, Int.reduceToNat, Int.reduceAdd, Nat.reduceAdd, Nat.reduceSub, Nat.reduceMul, Nat.reduceLeDiff]
      exact ⟨by rw [h3], h1⟩
    ·simp (disch := first | omega | (simp only [RY] <;> omega) | decide) only [↓RD, RZ, eq_self, Int.reduceToNat, Int.reduceAdd, Nat.reduceAdd, Nat.reduceSub, Nat.reduceMul, Nat.reduceLeDiff, g4, g2, vs]
     exact ⟨by rw [fine_no fun h => by have := h.siz; omega], s12.trans s4⟩
end Go.Ax.D9
/- Dep8 -/
namespace Go.Ax.D9
open Go.Ax
theorem shr1 (v i : Nat) : shr v i &&& 1 = (v.testBit i).toNat := by
 rw [shr_def, Nat.toNat_testBit, Nat.and_one_is_mod, Nat.shiftRight_eq_div_pow]
theorem ftF_skip {s : Sr} {act : Nat} {sp te : Int} {x : Int × Int × Int × Bool} {i : Nat} (h : (ly s i).2.2 = false ∨ act.testBit i = false ∨ (ly s i).1 > sp ∨ (ly s i).2.1 > te) : ftF s act sp te x i = x := by
 unfold ftF; dsimp only; rw [if_pos h]
theorem ftF_take {s : Sr} {act : Nat} {sp te : Int} {x : Int × Int × Int × Bool} {i : Nat} (h1 : (ly s i).2.2 = true) (h2 : act.testBit i = true) (h3 : ¬ (ly s i).1 > sp) (h4 : ¬ (ly s i).2.1 > te) (h : x.2.2.2 = false ∨ (ly s i).1 > x.2.1 ∨ ((ly s i).1 = x.2.1 ∧ (ly s i).2.1 > x.2.2.1)) : ftF s act sp te x i = (((i : Nat) : Int), (ly s i).1, (ly s i).2.1, true) := by
 unfold ftF; dsimp only; rw [if_neg (by rw [h1, h2]; rintro (h | h | h | h); cases h; cases h; exact h3 h; exact h4 h), if_pos h]
theorem ftF_keep {s : Sr} {act : Nat} {sp te : Int} {x : Int × Int × Int × Bool} {i : Nat} (h : ¬ (x.2.2.2 = false ∨ (ly s i).1 > x.2.1 ∨ ((ly s i).1 = x.2.1 ∧ (ly s i).2.1 > x.2.2.1))) : ftF s act sp te x i = x := by
 unfold ftF; dsimp only
 rw [if_neg h]
 split <;> rfl
def ftV (x : Int × Int × Int × Bool) : V := .tup [.int .i64 x.1, .bool x.2.2.2]
theorem Fits_step {lo : Nat} {H : Heap} {s : Sr} {a b c : V} (h : SrC lo H s a b c) (ho : SrO s) (box : Nat) (hb : box < H.next) (hg : H.get box = some ⟨zag, [.int .i64 s.off, .int .i64 s.tar, a, .int .i64 s.cha, b, c], none⟩) (act : Nat) (hact : act < 4294967296) (sp te : Int) (t5 t6 t7 : V) (k : Nat) (hk : k < s.tar) (hk32 : k < 32) (x : Int × Int × Int × Bool) {P : Res → Heap → Prop}
  (hP : ∀ H', Grow H H' → P (.nrm [.int .i64 (ftF s act sp te x k).1, .int .i64 (ftF s act sp te x k).2.1, .int .i64 (ftF s act sp te x k).2.2.1, .bool (ftF s act sp te x k).2.2.2, .int .i64 ((k : Int) + 1)]) H') :
  Ok (zdM (sem T) (.int .i64 s.tar) (.ptr box 0) (.int .u32 act) (.int .i64 sp) (.int .i64 te) t6 t7 [.int .i64 x.1, .int .i64 x.2.1, .int .i64 x.2.2.1, .bool x.2.2.2, .int .i64 (k : Nat)]) H P := by
 unfold zdM
 simp (disch := first | omega | (simp only [RY] <;> omega) | decide) only [↓RD, RZ, eq_self, Nat.reduceAdd, Int.reduceAdd, Int.reduceToNat, Nat.reduceMul, hg]
 refine zac (Layers_ok h.val ho (k : Nat)) ?_
 rintro _ H1 ⟨rfl, s1⟩
 specialize hP H1 s1
 unfold lyV
 have sk := @ftF_skip s act sp te x k
 have tk := @ftF_take s act sp te x k
 have kp := @ftF_keep s act sp te x k
 generalize ly s k = y at *
 obtain ⟨y1, y2, y3⟩ := y
 obtain ⟨x1, x2, x3, x4⟩ := x
 dsimp only at sk tk kp ⊢
 cases y3 with
 | false =>
  rw [sk (.inl rfl)] at hP
  simp (disch := first | omega | (simp only [RY] <;> omega) | decide) only [↓RD, RZ, eq_self, Nat.reduceAdd, Int.reduceAdd, Int.reduceToNat, Nat.reduceMul]
  exact hP
 | true =>
 have sb := shr1 act k
 have hsh := shr_le act k
 cases e2 : act.testBit k with
 | false =>
  rw [sk (.inr (.inl e2))] at hP
  rw [e2] at sb
  simp (disch := first | omega | (simp only [RY] <;> omega) | decide) only [↓RD, RZ, eq_self, Nat.reduceAdd, Int.reduceAdd, Int.reduceToNat, Nat.reduceMul, sb, Bool.toNat_false]
  exact hP
 | true =>
 rw [e2] at sb
 by_cases e3 : sp < y1
 ·rw [sk (.inr (.inr (.inl e3)))] at hP
  simp (disch := first | omega | (simp only [RY] <;> omega) | decide) only [↓RD, RZ, eq_self, Nat.reduceAdd, Int.reduceAdd, Int.reduceToNat, Nat.reduceMul, sb, Bool.toNat_true]
  exact hP
 by_cases e4 : te < y2
 ·rw [sk (.inr (.inr (.inr e4)))] at hP
  simp (disch := first | omega | (simp only [RY] <;> omega) | decide) only [↓RD, RZ, eq_self, Nat.reduceAdd, Int.reduceAdd, Int.reduceToNat, Nat.reduceMul, sb, Bool.toNat_true]
  exact hP
 cases x4 with
 | false =>
  rw [tk rfl e2 e3 e4 (.inl rfl)] at hP
  simp (disch := first | omega | (simp only [RY] <;> omega) | decide) only [↓RD, RZ, eq_self, Nat.reduceAdd, Int.reduceAdd, Int.reduceToNat, Nat.reduceMul, sb, Bool.toNat_true]
  exact hP
 | true =>
 by_cases e5 : x2 < y1
 ·rw [tk rfl e2 e3 e4 (.inr (.inl e5))] at hP
  simp (disch := first | omega | (simp only [RY] <;> omega) | decide) only [↓RD, RZ, eq_self, Nat.reduceAdd, Int.reduceAdd, Int.reduceToNat, Nat.reduceMul, sb, Bool.toNat_true]
  exact hP
 by_cases e6 : y1 = x2
 ·by_cases e7 : x3 < y2
  ·rw [tk rfl e2 e3 e4 (.inr (.inr ⟨e6, e7⟩))] at hP
   subst e6
   simp (disch := first | omega | (simp only [RY] <;> omega) | decide) only [↓RD, RZ, eq_self, Nat.reduceAdd, Int.reduceAdd, Int.reduceToNat, Nat.reduceMul, sb, Bool.toNat_true]
   exact hP
  ·rw [kp (by rintro (h | h | h); cases h; exact e5 h; exact e7 h.2)] at hP
   subst e6
   simp (disch := first | omega | (simp only [RY] <;> omega) | decide) only [↓RD, RZ, eq_self, Nat.reduceAdd, Int.reduceAdd, Int.reduceToNat, Nat.reduceMul, sb, Bool.toNat_true]
   exact hP
 ·rw [kp (by rintro (h | h | h); cases h; exact e5 h; exact e6 h.1)] at hP
  simp (disch := first | omega | (simp only [RY] <;> omega) | decide) only [↓RD, RZ, eq_self, Nat.reduceAdd, Int.reduceAdd, Int.reduceToNat, Nat.reduceMul, sb, Bool.toNat_true]
  exact hP
theorem ly_high {s : Sr} {i : Nat} (h : fine s = true → s.tar ≤ i) : (ly s i).2.2 = false := by
 rw [ly_out (by rintro ⟨h1, h2, h3⟩; have := h h1; omega)]
theorem ft_32 {s : Sr} (h : fine s = true) (act : Nat) (sp te : Int) : ft s act sp te 32 = ft s act sp te s.tar.toNat := by
 have hF := (fine_iff.1 h).tar
 have := ft_more s act sp te s.tar.toNat (32 - s.tar.toNat) fun i hi => ly_high fun _ => by omega
 rw [← this]; congr 1; omega
theorem ft_no {s : Sr} (h : fine s = false) (act : Nat) (sp te : Int) : ft s act sp te 32 = (0, 0, 0, false) := by
 have := ft_more s act sp te 0 32 fun i hi => ly_high fun h' => by rw [h] at h'; cases h'
 rw [Nat.zero_add] at this
 rw [this]; rfl
theorem Fits_ok {lo : Nat} {H : Heap} {v : V} {s : Sr} (h : SrR lo H v s) (ho : SrO s) (act : Nat) (hact : act < 4294967296) (sp te : Int) :
  Ok (sem T zd1 [v, .int .u32 act, .int .i64 sp, .int .i64 te]) H fun r H' => r = ftV (ft s act sp te 32) ∧ Grow H H' := by
 obtain ⟨a, b, c, rfl, h⟩ := h
 refine zgI ?_
 unfold zgb
 unfold scells
 simp (disch := first | omega | (simp only [RY] <;> omega) | decide) only [↓RD, RZ, Nat.reduceAdd, h.ts.cells1, h.ts.okc, h.pro.cells1, h.pro.okc, h.siz.cells1, h.siz.okc]
 generalize hH1 : Heap.new H _ = H1
 have s1 : Grow H H1 := by rw [← hH1]; exact Grow.new _ _
 have n1 : H1.next = H.next + 1 := by rw [← hH1]; rfl
 have g1 : H1.get H.next = some ⟨zag, [.int .i64 s.off, .int .i64 s.tar, a, .int .i64 s.cha, b, c], none⟩ := by rw [← hH1]; exact zao _ _
 clear hH1
 refine zac (Fine_ok (h.ext s1).val ho) ?_
 rintro _ H2 ⟨rfl, s2⟩
 have n2 := s2.next
 have g2 : H2.get H.next = _ := (s2.same _ (by omega)).trans g1
 have s12 := s1.trans s2
 cases hf : fine s with
 | false =>
  rw [ft_no hf]
  simp (disch := first | omega | (simp only [RY] <;> omega) | decide) only [↓RD, RZ, Nat.reduceAdd]
  exact ⟨rfl, s12⟩
 | true =>
 have hF := (fine_iff.1 hf).tar
 rw [ft_32 hf]
 have et : s.tar = (s.tar.toNat : Int) := by omega
 generalize s.tar.toNat = n at *
 simp (disch := first | omega | (simp only [RY] <;> omega) | decide) only [↓RD, RZ, Nat.reduceAdd, g2]
 refine zaP (fun k L H' => ∃ x, x = ft s act sp te k ∧ L = [.int .i64 x.1, .int .i64 x.2.1, .int .i64 x.2.2.1, .bool x.2.2.2, .int .i64 (k : Nat)] ∧ Grow H2 H') n ?_ ?_ ?_
 ·exact ⟨_, rfl, rfl, Grow.refl _⟩
 ·rintro k L H3 hk ⟨x, hx, rfl, s3⟩
  refine Fits_step (h.ext (s12.trans s3)) ho H.next (by have := s3.next; omega) ((s3.same _ (by omega)).trans g2) act hact sp te (.bool false) _ _ k (by omega) (by omega) x fun H4 s4 => ?_
  simp (disch := first | omega | (simp only [RY] <;> omega) | decide) only [↓RD, RZ, Nat.reduceAdd]
  refine ⟨_, ?_, by rfl, s3.trans s4⟩
  rw [ft_succ, hx]
 ·rintro L H3 ⟨x, hx, rfl, s3⟩
  unfold zdM
  rw [et]
  simp (disch := first | omega | (simp only [RY] <;> omega) | decide) only [↓RD, RZ, Nat.reduceAdd]
  rw [hx]
  exact ⟨rfl, s12.trans s3⟩
end Go.Ax.D9
/- DepS1 -/
namespace Go.Ax.D9
open Go.Ax
theorem list_ne {a b : List Int} {k : Nat} (h : k < a.length) (h' : k < b.length) (e : a[k] ≠ b[k]) : a ≠ b := fun he => by subst he; exact e rfl
theorem list_eq {a b : List Int} (hl : a.length = b.length) (h : ∀ j (hj : j < a.length), a[j] = b[j]'(by omega)) : a = b := List.ext_getElem hl fun i h1 h2 => h i h1
theorem Equal_ok {lo lo' : Nat} {H : Heap} {v w : V} {a b : List Int} (ha : Il lo H v a) (hb : Il lo' H w b) (hl : a.length ≤ 1099511627776) :
  Ok (sem T za1 [v, w]) H fun r H' => r = .bool (decide (a = b)) ∧ H' = H := by
 refine zek ?_
 unfold zc7
 by_cases e : a.length = b.length
 ·simp (disch := omega) only [↓RD, RZ, ha.vlen, hb.vlen, e]
  rw [← e]
  refine zaM (Q := fun r H' => H' = H ∧ ((r = Res.ex 0 [] ∧ a = b) ∨ (r = .ret [.bool false] ∧ a ≠ b))) ?_ ?_
  ·refine zaP (fun k L H' => L = [.int .i64 (k : Nat)] ∧ H' = H ∧ ∀ j (hj : j < a.length), j < k → a[j] = b[j]'(by omega)) a.length ?_ ?_ ?_
   ·exact ⟨rfl, rfl, fun j hj hk => absurd hk (by omega)⟩
   ·rintro k L H1 hk ⟨rfl, rfl, hP⟩
    obtain ⟨p, hp, lp, -⟩ := il_at ha (i := (k : Nat)) (by omega) (by omega)
    obtain ⟨q, hq, lq, -⟩ := il_at hb (i := (k : Nat)) (by omega) (by omega)
    rw [Int.toNat_natCast, getD_get hk] at lp
    rw [Int.toNat_natCast, getD_get (by omega)] at lq
    unfold zb0
    by_cases e1 : a[k] = b[k]'(by omega)
    ·simp (disch := omega) only [↓RD, RZ, hp, lp, hq, lq, e1]
     refine ⟨by rfl, fun j hj hjk => ?_⟩
     rcases Nat.lt_or_ge j k with h | h
     ·exact hP j hj h
     ·have : j = k := by omega
      subst this; exact e1
    ·simp (disch := omega) only [↓RD, RZ, hp, lp, hq, lq]
     exact .inr (list_ne hk (by omega) e1)
   ·rintro L H1 ⟨rfl, rfl, hP⟩
    unfold zb0
    simp (disch := omega) only [↓RD, RZ]
    exact .inl (list_eq e fun j hj => hP j hj hj)
  ·rintro r H' ⟨rfl, ⟨rfl, h⟩ | ⟨rfl, h⟩⟩
   ·simp (disch := omega) only [↓RD, RZ]
    rw [decide_eq_true h]
   ·simp (disch := omega) only [↓RD, RZ]
    rw [decide_eq_false h]
 ·simp (disch := omega) only [↓RD, RZ, ha.vlen, hb.vlen]
  rw [decide_eq_false fun h => e (by rw [h])]
theorem SameInts_ok {lo lo' : Nat} {H : Heap} {v w : V} {a b : List Int} (ha : Il lo H v a) (hb : Il lo' H w b) (hl : a.length ≤ 1099511627776) :
  Ok (sem T zaS [v, w]) H fun r H' => r = .bool (decide (a = b)) ∧ H' = H := by
 refine zd5 ?_
 unfold zcU
 by_cases e : a.length = b.length
 ·have hbv := hb.vlen
  rw [← e] at hbv
  simp (disch := omega) only [↓RD, RZ, ha.vlen, hbv]
  refine zaM (Q := fun r H' => H' = H ∧ ((r = Res.ex 0 [] ∧ a = b) ∨ (r = .ret [.bool false] ∧ a ≠ b))) ?_ ?_
  ·refine zaP (fun k L H' => L = [.int .i64 (k : Nat)] ∧ H' = H ∧ ∀ j (hj : j < a.length), j < k → a[j] = b[j]'(by omega)) a.length ?_ ?_ ?_
   ·exact ⟨rfl, rfl, fun j hj hk => absurd hk (by omega)⟩
   ·rintro k L H1 hk ⟨rfl, rfl, hP⟩
    obtain ⟨p, hp, lp, -⟩ := il_at ha (i := (k : Nat)) (by omega) (by omega)
    obtain ⟨q, hq, lq, -⟩ := il_at hb (i := (k : Nat)) (by omega) (by omega)
    rw [Int.toNat_natCast, getD_get hk] at lp
    rw [Int.toNat_natCast, getD_get (by omega)] at lq
    unfold zbT
    by_cases e1 : a[k] = b[k]'(by omega)
    ·simp (disch := omega) only [↓RD, RZ, ha.vlen, hp, lp, hq, lq, e1]
     refine ⟨by rfl, fun j hj hjk => ?_⟩
     rcases Nat.lt_or_ge j k with h | h
     ·exact hP j hj h
     ·have : j = k := by omega
      subst this; exact e1
    ·simp (disch := omega) only [↓RD, RZ, ha.vlen, hp, lp, hq, lq]
     exact .inr (list_ne hk (by omega) e1)
   ·rintro L H1 ⟨rfl, rfl, hP⟩
    unfold zbT
    simp (disch := omega) only [↓RD, RZ, ha.vlen]
    exact .inl (list_eq e fun j hj => hP j hj hj)
  ·rintro r H' ⟨rfl, ⟨rfl, h⟩ | ⟨rfl, h⟩⟩
   ·simp (disch := omega) only [↓RD, RZ]
    rw [decide_eq_true h]
   ·simp (disch := omega) only [↓RD, RZ]
    rw [decide_eq_false h]
 ·simp (disch := omega) only [↓RD, RZ, ha.vlen, hb.vlen]
  rw [decide_eq_false fun h => e (by rw [h])]
theorem okb_copy {β : Type} {ty e bytes m : Nat} {H : Heap} {y : V} {q : List V} {f : V → M β} {Q : β → Heap → Prop} (hy : acells e H y = some (q, m)) (hp : ∀ id, y.pid = some id → id < H.next) (hq : q.length = m * e)
  (hb : m * bytes ≤ 140737488355328) (hm : m ≤ 140737488355328)
  (k : ∀ x' H', App ty e H.next H' x' q m → Grow H H' → Ok (f x') H' Q) : Ok ((mappend ty e bytes (.sl H.next 0 0 (.fix 0)) y).bind f) (H.new ⟨ty, [], none⟩) Q := by
 have ha : App ty e H.next (H.new ⟨ty, [], none⟩) (.sl H.next 0 0 (.fix 0)) [] 0 := .lit (zao _ _) (Nat.le_refl _) (by rw [zap]; omega)
 refine zfk ha (by rw [zap]; omega) (by rw [acells_to fun i hi => zat _ _ (by have := hp i hi; omega)]; exact hy) hq (by simpa using hb) (by omega) fun x' H' h hs => ?_
 refine k x' H' (by simpa using h) ⟨by have := hs.next; rw [zap] at this; omega, fun i hi => ?_⟩
 rw [hs.same i (by rw [zap]; omega) (by simp [V.pid]; omega), zat _ _ (by omega)]
theorem CloneI_ok {lo : Nat} {H : Heap} {v : V} {l : List Int} (h : Il lo H v l) (hl : l.length ≤ 1099511627776) : Ok (sem T za3 [v]) H fun r H' => Il H.next H' r l ∧ Grow H H' := by
 refine zel ?_
 unfold zc8
 rcases h.cases with ⟨rfl, hc, hn⟩ | ⟨id, off, cap, b, rfl, _⟩ | ⟨cs, rfl, _⟩
 ·simp (disch := omega) only [↓RD, RZ]
  have : l = [] := List.eq_nil_of_length_eq_zero hn
  subst this
  exact ⟨Lc.nil, Grow.refl _⟩
 ·simp (disch := omega) only [↓RD, RZ]
  refine okb_copy h.ac (fun i hi => (h.own i hi).2) (by simp) (by omega) (by omega) fun x' H' ha hg => ?_
  simp (disch := omega) only [↓RD, RZ]
  exact ⟨ha.lc, hg⟩
 ·simp (disch := omega) only [↓RD, RZ]
  refine okb_copy h.ac (fun i hi => (h.own i hi).2) (by simp) (by omega) (by omega) fun x' H' ha hg => ?_
  simp (disch := omega) only [↓RD, RZ]
  exact ⟨ha.lc, hg⟩
theorem copied_ok {H : Heap} {t : Tm} {a b c : V} (h : TmR 0 H t a b c) (ho : TmO t) : Ok (sem T zcO [.agg [.int .i64 t.sp, .int .i64 t.te, a, b, c]]) H fun r H' => (∃ d e f, r = .agg [.int .i64 t.sp, .int .i64 t.te, d, e, f] ∧ TmR H.next H' t d e f) ∧ Grow H H' := by
 have n1 := ho.dti.2
 have n2 := ho.dif.2
 have n3 := ho.cha.2
 refine zfX ?_
 unfold ze5
 simp (disch := first | omega | (simp only [RY] <;> omega) | decide) only [↓RD, RZ, eq_self, Int.reduceToNat, Int.reduceAdd, Nat.reduceAdd, Nat.reduceSub, Nat.reduceMul, Nat.reduceLeDiff, h.dti.cells1, h.dti.okc, h.dif.cells1, h.dif.okc, h.cha.cells1, h.cha.okc]
 generalize hH1 : Heap.new (Heap.new H _) _ = H1
 have s1 : Grow H H1 := by rw [← hH1]; exact (Grow.new _ _).trans (Grow.new _ _)
 have m1 : H1.next = H.next + 2 := by rw [← hH1]; rfl
 have g1 : H1.get H.next = some ⟨zak, [.int .i64 t.sp, .int .i64 t.te, a, b, c], none⟩ := by rw [← hH1]; simp (disch := first | omega | (simp only [RY] <;> omega) | decide) only [↓RD, RZ, eq_self, Int.reduceToNat, Int.reduceAdd, Nat.reduceAdd, Nat.reduceSub, Nat.reduceMul, Nat.reduceLeDiff]
 have z1 : H1.get (H.next + 1) = some ⟨zak, [.int .i64 0, .int .i64 0, .nils, .nils, .nils], none⟩ := by rw [← hH1]; simp (disch := first | omega | (simp only [RY] <;> omega) | decide) only [↓RD, RZ, eq_self, Int.reduceToNat, Int.reduceAdd, Nat.reduceAdd, Nat.reduceSub, Nat.reduceMul, Nat.reduceLeDiff]
 clear hH1
 refine zac (CloneI_ok (h.dti.ext s1) (by omega)) ?_
 rintro d H2 ⟨hd, s2⟩
 have m2 := s2.next
 have g2 : H2.get H.next = _ := (s2.same _ (by omega)).trans g1
 have z2 : H2.get (H.next + 1) = _ := (s2.same _ (by omega)).trans z1
 simp (disch := first | omega | (simp only [RY] <;> omega) | decide) only [↓RD, RZ, eq_self, Int.reduceToNat, Int.reduceAdd, Nat.reduceAdd, Nat.reduceSub, Nat.reduceMul, Nat.reduceLeDiff, g1, g2]
 refine zac (CloneI_ok (h.dif.ext (s1.trans s2)) (by omega)) ?_
 rintro e H3 ⟨he, s3⟩
 have m3 := s3.next
 have g3 : H3.get H.next = _ := (s3.same _ (by omega)).trans g2
 have z3 : H3.get (H.next + 1) = _ := (s3.same _ (by omega)).trans z2
 simp (disch := first | omega | (simp only [RY] <;> omega) | decide) only [↓RD, RZ, eq_self, Int.reduceToNat, Int.reduceAdd, Nat.reduceAdd, Nat.reduceSub, Nat.reduceMul, Nat.reduceLeDiff, g2, g3]
 refine zac (CloneI_ok (h.cha.ext ((s1.trans s2).trans s3)) (by omega)) ?_
 rintro f H4 ⟨hf, s4⟩
 have m4 := s4.next
 have g4 : H4.get H.next = _ := (s4.same _ (by omega)).trans g3
 have z4 : H4.get (H.next + 1) = _ := (s4.same _ (by omega)).trans z3
 simp (disch := first | omega | (simp only [RY] <;> omega) | decide) only [↓RD, RZ, eq_self, Int.reduceToNat, Int.reduceAdd, Nat.reduceAdd, Nat.reduceSub, Nat.reduceMul, Nat.reduceLeDiff, g4, z4, hd.cells1, hd.okc, he.cells1, he.okc, hf.cells1, hf.okc]
 generalize hH5 : Heap.set _ _ _ = H5
 have s5 : Grow H H5 := by
  rw [← hH5]
  have := ((s1.trans s2).trans s3).trans s4
  first
   | exact (this.set (by omega) _).set (by omega) _
   | exact (((this.set (by omega) _).set (by omega) _).set (by omega) _).set (by omega) _
   | exact ((this.set (by omega) _).set (by omega) _).set (by omega) _
 have k5 : Keep H1.next H4 H5 := by
  rw [← hH5]
  have ks := fun (H : Heap) (w : Nat) (b : Option Blk) (hw : w < H1.next) => Keep.set (lo := H1.next) H hw b
  first
   | exact (ks _ _ _ (by omega)).trans (ks _ _ _ (by omega))
   | exact (((ks _ _ _ (by omega)).trans (ks _ _ _ (by omega))).trans (ks _ _ _ (by omega))).trans (ks _ _ _ (by omega))
   | exact ((ks _ _ _ (by omega)).trans (ks _ _ _ (by omega))).trans (ks _ _ _ (by omega))
 clear hH5
 exact ⟨⟨d, e, f, rfl, ⟨((hd.ext (s3.trans s4)).keep k5).low (by omega), (((he.low m2).ext s4).keep k5).low (by omega), ((hf.low (by omega)).keep k5).low (by omega)⟩⟩, s5⟩
def TmQ (lo : Nat) (H : Heap) (o : Option Tm) (r : V) : Prop := match o with
 | none => r = .tup [.agg [.int .i64 0, .int .i64 0, .nils, .nils, .nils], .bool false]
 | some t => ∃ a b c, r = .tup [.agg [.int .i64 t.sp, .int .i64 t.te, a, b, c], .bool true] ∧ TmR lo H t a b c
theorem TmQ.get {lo : Nat} {H : Heap} {o : Option Tm} {r : V} (h : TmQ lo H o r) : ∃ a b c, r = .tup [.agg [.int .i64 (o.getD Tm0).sp, .int .i64 (o.getD Tm0).te, a, b, c], .bool o.isSome] ∧ TmR lo H (o.getD Tm0) a b c := by
 cases o with
 | none => exact ⟨_, _, _, h, Lc.nil, Lc.nil, Lc.nil⟩
 | some t => exact h
theorem rem64 {x : Int} (h0 : 0 ≤ x) (h1 : x < 1000) : Ax.bin .rem (.int .i64 x) (.int .i64 64) = some (.int .i64 (x % 64)) := by
 have e : Int.tmod x 64 = x % 64 := Int.tmod_eq_emod_of_nonneg h0
 simp [Ax.bin, intBin, e, IntKind.wrap, IntKind.signed, IntKind.bits]
theorem template_ok {lo : Nat} {H : Heap} {v : V} {s : Sr} (h : SrR 0 H v s) (ho : SrO s) (hoff : 0 ≤ s.off ∧ s.off ≤ 63) (id : Int) : Ok (sem T zcm [v, .int .i64 id]) H fun r H' => TmQ H.next H' (tmPl s id) r ∧ Grow H H' := by
 obtain ⟨a, b, c, rfl, h⟩ := h
 have nt := ho.ts
 refine zfv ?_
 unfold zef
 unfold scells
 simp (disch := first | omega | (simp only [RY] <;> omega) | decide) only [↓RD, RZ, eq_self, Int.reduceToNat, Int.reduceAdd, Nat.reduceAdd, Nat.reduceSub, Nat.reduceMul, Nat.reduceLeDiff, h.ts.cells1, h.ts.okc, h.pro.cells1, h.pro.okc, h.siz.cells1, h.siz.okc]
 generalize hH1 : Heap.new (Heap.new H _) _ = H1
 have s1 : Grow H H1 := by rw [← hH1]; exact (Grow.new _ _).trans (Grow.new _ _)
 have n1 : H1.next = H.next + 2 := by rw [← hH1]; rfl
 have g1 : H1.get H.next = some ⟨zag, [.int .i64 s.off, .int .i64 s.tar, a, .int .i64 s.cha, b, c], none⟩ := by rw [← hH1]; simp (disch := first | omega | (simp only [RY] <;> omega) | decide) only [↓RD, RZ, eq_self, Int.reduceToNat, Int.reduceAdd, Nat.reduceAdd, Nat.reduceSub, Nat.reduceMul, Nat.reduceLeDiff]
 have z1 : H1.get (H.next + 1) = some ⟨zak, [.int .i64 0, .int .i64 0, .nils, .nils, .nils], none⟩ := by rw [← hH1]; simp (disch := first | omega | (simp only [RY] <;> omega) | decide) only [↓RD, RZ, eq_self, Int.reduceToNat, Int.reduceAdd, Nat.reduceAdd, Nat.reduceSub, Nat.reduceMul, Nat.reduceLeDiff]
 clear hH1
 have s1' : ∀ b, Grow H (H1.set (H.next + 1) b) := fun b => s1.set (by omega) b
 unfold tmPl
 by_cases a1 : id < 0
 ·rw [if_neg (by omega)]
  simp (disch := first | omega | (simp only [RY] <;> omega) | decide) only [↓RD, RZ, eq_self, Int.reduceToNat, Int.reduceAdd, Nat.reduceAdd, Nat.reduceSub, Nat.reduceMul, Nat.reduceLeDiff, z1]
  exact ⟨rfl, s1' _⟩
 by_cases a2 : 64 ≤ id
 ·rw [if_neg (by omega)]
  simp (disch := first | omega | (simp only [RY] <;> omega) | decide) only [↓RD, RZ, eq_self, Int.reduceToNat, Int.reduceAdd, Nat.reduceAdd, Nat.reduceSub, Nat.reduceMul, Nat.reduceLeDiff, z1]
  exact ⟨rfl, s1' _⟩
 rw [if_pos (by omega)]
 have er := rem64 (x := id + 64 - s.off) (by omega) (by omega)
 obtain ⟨m, hm⟩ : ∃ m : Nat, (id + 64 - s.off) % 64 = (m : Int) := ⟨((id + 64 - s.off) % 64).toNat, by omega⟩
 rw [hm] at er ⊢
 rw [Int.toNat_natCast]
 by_cases a3 : s.ts.length ≤ m
 ·rw [List.getElem?_eq_none a3]
  simp (disch := first | omega | (simp only [RY] <;> omega) | decide) only [↓RD, RZ, eq_self, Int.reduceToNat, Int.reduceAdd, Nat.reduceAdd, Nat.reduceSub, Nat.reduceMul, Nat.reduceLeDiff, g1, er, h.ts.vlen, z1]
  exact ⟨rfl, s1' _⟩
 ·have hm' : m < s.ts.length := by omega
  rw [List.getElem?_eq_getElem hm']
  obtain ⟨q, d, e, f, i1, l1, w1⟩ := (h.ts.ext s1).at hm'
  obtain ⟨-, -, -, -, -, l2⟩ := pl5 l1
  simp (disch := first | omega | (simp only [RY] <;> omega) | decide) only [↓RD, RZ, eq_self, Int.reduceToNat, Int.reduceAdd, Nat.reduceAdd, Nat.reduceSub, Nat.reduceMul, Nat.reduceLeDiff, g1, er, h.ts.vlen, i1, l2]
  refine zac (copied_ok w1 (ho.tm _ (List.getElem_mem hm'))) ?_
  rintro _ H2 ⟨⟨d', e', f', rfl, w2⟩, s2⟩
  have z2 : H2.get (H.next + 1) = _ := (s2.same _ (by omega)).trans z1
  simp (disch := first | omega | (simp only [RY] <;> omega) | decide) only [↓RD, RZ, eq_self, Int.reduceToNat, Int.reduceAdd, Nat.reduceAdd, Nat.reduceSub, Nat.reduceMul, Nat.reduceLeDiff, z2, w2.dti.cells1, w2.dti.okc, w2.dif.cells1, w2.dif.okc, w2.cha.cells1, w2.cha.okc]
  exact ⟨⟨d', e', f', rfl, (w2.keep (Keep.set (lo := H1.next) H2 (by omega) _)).low (by omega)⟩, (s1.trans s2).set (by omega) _⟩
theorem Tms.at2 {lo : Nat} {H : Heap} {v : V} {ts : List Tm} (h : Tms lo H v ts) {i : Nat} (hi : i < ts.length) : ∃ q a b c, (∀ {k : IntKind}, Ax.iaddr none 5 v (.int k i) = some q) ∧ TmR lo H ts[i] a b c ∧ ∀ H', Grow H H' → Pl H' q [.int .i64 ts[i].sp, .int .i64 ts[i].te, a, b, c] v.pid := by
 obtain ⟨ws, rfl, h2, h3⟩ := h
 rw [List.length_map] at hi
 obtain ⟨p, hp, -⟩ := h2.at (i := (i : Nat)) (by omega) (by omega)
 refine ⟨p, ws[i].2.1, ws[i].2.2.1, ws[i].2.2.2, hp, by simpa using h3 _ (List.getElem_mem hi), fun H' s => ?_⟩
 obtain ⟨p', hp', hl⟩ := (h2.ext s).at (i := (i : Nat)) (by omega) (by omega)
 have : p = p' := by
  have := (hp (k := .i64)).symm.trans (hp' (k := .i64))
  simpa using this
 subst this
 have e : ((ws.map tc).flatten.drop (i * 5)).take 5 = tc ws[i] := by
  rw [flat_piece _ (tc_len ws) i (by rw [List.length_map]; exact hi), List.getElem_map]
 rw [Int.toNat_natCast, e] at hl
 simpa [tc] using hl
def HoC (f : Fr) (a b c p q r x y z : V) : Prop := if f.new = true then x = a ∧ y = b ∧ z = c else x = p ∧ y = q ∧ z = r
theorem HoC.src {H : Heap} {f : Fr} {k : Sr} {a b c d e g p q r x y z : V} (h : HoC f a b c p q r x y z) (hf : FrC 0 H f a b c d e g) (hk : SrC 0 H k p q r) : SrC 0 H (hold f k) x y z := by
 unfold HoC at h
 unfold hold
 split at h
 ·obtain ⟨rfl, rfl, rfl⟩ := h; rw [if_pos ‹_›]; exact hf.s
 ·obtain ⟨rfl, rfl, rfl⟩ := h; rw [if_neg ‹_›]; exact hk
theorem hold_ok {H : Heap} {f : Fr} {k : Sr} {a b c d e g p q r : V} (hf : FrC 0 H f a b c d e g) (hk : SrC 0 H k p q r) :
  Ok (sem T zct [.agg (fcells f a b c d e g), .agg (scells k p q r)]) H fun v H' => (∃ x y z, v = .agg (scells (hold f k) x y z) ∧ HoC f a b c p q r x y z) ∧ Grow H H' := by
 obtain ⟨ca, cb, cc, cd, ce, cg⟩ := fr_dti hf
 refine zf6 ?_
 unfold zfi
 unfold fcells scells hold HoC
 simp (disch := first | omega | (simp only [RY] <;> omega) | decide) only [↓RD, RZ, eq_self, Int.reduceToNat, Int.reduceAdd, Nat.reduceAdd, Nat.reduceSub, Nat.reduceMul, Nat.reduceLeDiff, ca.1, ca.2, cb.1, cb.2, cc.1, cc.2, cd.1, cd.2, ce.1, ce.2, cg.1, cg.2, hk.ts.cells1, hk.ts.okc, hk.pro.cells1, hk.pro.okc, hk.siz.cells1, hk.siz.okc]
 cases f.new with
 | true =>
  simp (disch := first | omega | (simp only [RY] <;> omega) | decide) only [↓RD, RZ, eq_self, Int.reduceToNat, Int.reduceAdd, Nat.reduceAdd, Nat.reduceSub, Nat.reduceMul, Nat.reduceLeDiff, ca.1, ca.2, cb.1, cb.2, cc.1, cc.2]
  have s1 : ∀ x y z w, Grow H ((((H.new x).new y).new z).set (H.next + 1 + 1) w) := fun x y z w => (((Grow.new _ _).trans (Grow.new _ _)).trans (Grow.new _ _)).set (by omega) _
  exact ⟨⟨a, b, c, rfl, rfl, rfl, rfl⟩, s1 _ _ _ _⟩
 | false =>
  simp (disch := first | omega | (simp only [RY] <;> omega) | decide) only [↓RD, RZ, eq_self, Int.reduceToNat, Int.reduceAdd, Nat.reduceAdd, Nat.reduceSub, Nat.reduceMul, Nat.reduceLeDiff, hk.ts.cells1, hk.ts.okc, hk.pro.cells1, hk.pro.okc, hk.siz.cells1, hk.siz.okc]
  have s1 : ∀ x y z w, Grow H ((((H.new x).new y).new z).set (H.next + 1 + 1) w) := fun x y z w => (((Grow.new _ _).trans (Grow.new _ _)).trans (Grow.new _ _)).set (by omega) _
  exact ⟨⟨p, q, r, rfl, rfl, rfl, rfl⟩, s1 _ _ _ _⟩
theorem hold2_ok {H : Heap} {f : Fr} {k : Sr} {a b c d e g p q r : V} (hf : FrC 0 H f a b c d e g) (hk : SrC 0 H k p q r) :
  Ok (sem T za8 [.agg (fcells f a b c d e g), .agg (scells k p q r)]) H fun v H' => (∃ x y z, v = .agg (scells (hold f k) x y z) ∧ HoC f a b c p q r x y z) ∧ Grow H H' := by
 obtain ⟨ca, cb, cc, cd, ce, cg⟩ := fr_dti hf
 refine zeF ?_
 unfold zdq
 unfold fcells scells hold HoC
 simp (disch := first | omega | (simp only [RY] <;> omega) | decide) only [↓RD, RZ, eq_self, Int.reduceToNat, Int.reduceAdd, Nat.reduceAdd, Nat.reduceSub, Nat.reduceMul, Nat.reduceLeDiff, ca.1, ca.2, cb.1, cb.2, cc.1, cc.2, cd.1, cd.2, ce.1, ce.2, cg.1, cg.2, hk.ts.cells1, hk.ts.okc, hk.pro.cells1, hk.pro.okc, hk.siz.cells1, hk.siz.okc]
 cases f.new with
 | true =>
  simp (disch := first | omega | (simp only [RY] <;> omega) | decide) only [↓RD, RZ, eq_self, Int.reduceToNat, Int.reduceAdd, Nat.reduceAdd, Nat.reduceSub, Nat.reduceMul, Nat.reduceLeDiff, ca.1, ca.2, cb.1, cb.2, cc.1, cc.2]
  have s1 : ∀ x y z w, Grow H ((((H.new x).new y).new z).set (H.next + 1 + 1) w) := fun x y z w => (((Grow.new _ _).trans (Grow.new _ _)).trans (Grow.new _ _)).set (by omega) _
  exact ⟨⟨a, b, c, rfl, rfl, rfl, rfl⟩, s1 _ _ _ _⟩
 | false =>
  simp (disch := first | omega | (simp only [RY] <;> omega) | decide) only [↓RD, RZ, eq_self, Int.reduceToNat, Int.reduceAdd, Nat.reduceAdd, Nat.reduceSub, Nat.reduceMul, Nat.reduceLeDiff, hk.ts.cells1, hk.ts.okc, hk.pro.cells1, hk.pro.okc, hk.siz.cells1, hk.siz.okc]
  have s1 : ∀ x y z w, Grow H ((((H.new x).new y).new z).set (H.next + 1 + 1) w) := fun x y z w => (((Grow.new _ _).trans (Grow.new _ _)).trans (Grow.new _ _)).set (by omega) _
  exact ⟨⟨p, q, r, rfl, rfl, rfl, rfl⟩, s1 _ _ _ _⟩
end Go.Ax.D9
/- Wb1 -/
namespace Go.Ax.B6
structure Pk (N : Nat) (l : List Nat) (bits : List Bool) : Prop where
 len : l.length = (N + 7) / 8
 lt : ∀ i (h : i < l.length), l[i] < 256
 bit : ∀ i j (h : i < l.length), j < 8 → (l[i]).testBit (7 - j) = bits.getD (8 * i + j) false
theorem Pk.nil : Pk 0 [] [] := ⟨rfl, fun i h => absurd h (by simp), fun i j h => absurd h (by simp)⟩
theorem Pk.zeros (N : Nat) : Pk N (List.replicate ((N + 7) / 8) 0) [] := by
 refine ⟨by simp, fun i h => by simp, fun i j h hj => by simp⟩
theorem Pk.more {l : List Nat} {bits : List Bool} (h : Pk bits.length l bits) (h0 : bits.length % 8 = 0) : Pk (bits.length + 1) (l ++ [0]) bits := by
 have hl := h.len
 refine ⟨by simp; omega, fun i hi => ?_, fun i j hi hj => ?_⟩
 ·rw [List.getElem_append]
  split
  ·exact h.lt i _
  ·simp
 ·rw [List.getElem_append]
  split
  ·exact h.bit i j _ hj
  ·rename_i hn
   simp only [List.getElem_singleton, Nat.zero_testBit]
   rw [List.getD_eq_getElem?_getD, List.getElem?_eq_none (by omega)]; rfl
theorem Pk.same {l : List Nat} {bits : List Bool} (h : Pk bits.length l bits) (h0 : bits.length % 8 ≠ 0) : Pk (bits.length + 1) l bits := ⟨by rw [h.len]; omega, h.lt, h.bit⟩
theorem getD_snoc (bits : List Bool) (b : Bool) (k : Nat) : (bits ++ [b]).getD k false = if k = bits.length then b else bits.getD k false := by
 simp only [List.getD_eq_getElem?_getD, List.getElem?_append]
 split
 ·rw [if_neg (by omega)]
 ·by_cases e : k = bits.length
  ·subst e; simp
  ·rw [if_neg e, List.getElem?_eq_none (by simp; omega), List.getElem?_eq_none (by omega)]
theorem Pk.off {N : Nat} {l : List Nat} {bits : List Bool} (h : Pk N l bits) : Pk N l (bits ++ [false]) := by
 refine ⟨h.len, h.lt, fun i j hi hj => ?_⟩
 rw [h.bit i j hi hj, getD_snoc]
 split
 ·rename_i e; rw [e, List.getD_eq_getElem?_getD, List.getElem?_eq_none (by omega)]; rfl
 ·rfl
theorem testBit_128 (k j : Nat) (hj : j < 8) (hk : k < 8) : (128 >>> k).testBit (7 - j) = decide (j = k) := by
 rw [Nat.testBit_shiftRight, show (128 : Nat) = 2 ^ 7 from rfl, Nat.testBit_two_pow]
 congr 1
 exact propext ⟨fun h => by omega, fun h => by omega⟩
theorem Pk.on {N : Nat} {l : List Nat} {bits : List Bool} (h : Pk N l bits) (hn : bits.length < N) (hl : bits.length / 8 < l.length) : Pk N (l.set (bits.length / 8) (l[bits.length / 8] ||| 128 >>> (bits.length % 8))) (bits ++ [true]) := by
 refine ⟨by rw [List.length_set, h.len], fun i hi => ?_, fun i j hi hj => ?_⟩
 ·rw [List.getElem_set]
  split
  ·refine Nat.or_lt_two_pow (n := 8) (h.lt _ hl) ?_
   exact Nat.lt_of_le_of_lt (Nat.shiftRight_le ..) (by decide)
  ·exact h.lt i _
 ·rw [List.getElem_set, getD_snoc]
  rw [List.length_set] at hi
  split
  ·rename_i e
   subst e
   rw [Nat.testBit_or, h.bit _ j hl hj, testBit_128 _ _ hj (Nat.mod_lt _ (by decide))]
   by_cases e : j = bits.length % 8
   ·rw [if_pos (by omega)]; simp [e]
   ·rw [if_neg (by omega)]; simp [e]
  ·rename_i e
   rw [h.bit i j hi hj, if_neg (by omega)]
def nb (v : Nat) : Nat → List Bool
 | 0 => []
 | n + 1 => v.testBit n :: nb v n
theorem zau (v n : Nat) : (nb v n).length = n := by induction n with | zero => rfl | succ n ih => simp [nb, ih]
def val (l : List Bool) : Nat := l.foldl (fun a b => 2 * a + b.toNat) 0
def bl (n : Nat) : Nat := if n = 0 then 0 else n.log2 + 1
theorem bl_div (n : Nat) (h : 0 < n) : bl n = bl (n / 2) + 1 := by
 unfold bl
 rw [if_neg (by omega)]
 by_cases e : n / 2 = 0
 ·rw [if_pos e]
  have : n = 1 := by omega
  subst this; rfl
 ·rw [if_neg e, Nat.log2_def, if_pos (by omega)]
theorem lt_bl (n : Nat) : n < 2 ^ bl n := by
 unfold bl
 split
 ·omega
 ·exact Nat.lt_log2_self
theorem bl_le (n : Nat) (h : 0 < n) : 2 ^ (bl n - 1) ≤ n := by
 unfold bl
 rw [if_neg (by omega)]
 exact Nat.log2_self_le (by omega)
theorem bl_le_iff (n k : Nat) : bl n ≤ k ↔ n < 2 ^ k := by
 constructor
 ·intro h; exact Nat.lt_of_lt_of_le (lt_bl n) (Nat.pow_le_pow_right (by decide) h)
 ·intro h
  by_cases h0 : n = 0
  ·subst h0; simp [bl]
  ·by_cases hk : bl n ≤ k
   ·exact hk
   ·have h1 := bl_le n (by omega)
    have : 2 ^ k ≤ 2 ^ (bl n - 1) := Nat.pow_le_pow_right (by decide) (by omega)
    omega
end Go.Ax.B6
/- DepR1 -/
namespace Go.Ax.D9
open Go.Ax B6
abbrev St : Type := Except Int (List Bool)
abbrev S (α : Type) : Type := St → α × St
def sb {α β : Type} (x : S α) (f : α → S β) : S β := fun σ => f (x σ).1 (x σ).2
def sp {α : Type} (a : α) : S α := fun σ => (a, σ)
def rd (n : Nat) : S Int := fun σ => match σ with
 | .error e => (0, .error e)
 | .ok bs => if bs.length < n then (0, .error 3) else ((val (bs.take n) : Nat), .ok (bs.drop n))
def fail (e : Int) : S Unit := fun σ => match σ with
 | .error x => ((), .error x)
 | .ok _ => ((), .error e)
def Stb {α : Type} (x : S α) : Prop := ∀ e, (x (.error e)).2 = .error e
def Sim {α : Type} (x y : S α) : Prop := ∀ σ, (x σ).2 = (y σ).2 ∧ ∀ bs, (x σ).2 = .ok bs → (x σ).1 = (y σ).1
theorem Sim.refl {α : Type} (x : S α) : Sim x x := fun σ => ⟨rfl, fun _ _ => rfl⟩
theorem Sim.bind {α β : Type} {x y : S α} {f g : α → S β} (h : Sim x y) (k : ∀ a, Sim (f a) (g a)) (hf : ∀ a, Stb (f a)) (hg : ∀ a, Stb (g a)) : Sim (sb x f) (sb y g) := by
 intro σ
 obtain ⟨h1, h2⟩ := h σ
 unfold sb
 rw [← h1]
 cases e : (x σ).2 with
 | ok bs =>
  rw [h2 bs e]
  exact k _ _
 | error c =>
  rw [hf, hg]
  exact ⟨rfl, fun bs h => by cases h⟩
def eachN (f : Tm → S Tm) (ts : List Tm) : Nat → S (List Tm)
 | 0 => sp []
 | k + 1 => sb (eachN f ts k) fun l => sb (f (ts.getD k Tm0)) fun t => sp (l ++ [t])
def each (f : Tm → S Tm) (ts : List Tm) : S (List Tm) := eachN f ts ts.length
def tbad (l : List Tm) (t : Tm) : Prop := 3 < t.sp ∨ 7 < t.te ∨ 64 ≤ l.length
instance (l : List Tm) (t : Tm) : Decidable (tbad l t) := by unfold tbad; infer_instance
def last (l : List Tm) : Tm := l.getD (l.length - 1) Tm0
structure Way where
 tm : S (List Tm)
 df : S (List Int)
 ea : (Tm → S Tm) → Tm → S Tm
end Go.Ax.D9
/- DepR2 -/
namespace Go.Ax.D9
open Go.Ax B6
def zeros : S Unit := fun σ => match σ with
 | .error e => ((), .error e)
 | .ok bs => if bs.all (!·) then ((), .ok []) else ((), .error 2)
def cut (x : Fr × St) : Fr × St := match x.2 with
 | .error e => (Fr0, .error e)
 | .ok bs => (x.1, .ok bs)
end Go.Ax.D9
/- DepS2 -/
namespace Go.Ax.D9
open Go.Ax
theorem SrO.hold {f : Fr} {k : Sr} (hf : FrO f) (hk : SrO k) : SrO (hold f k) := by
 unfold D9.hold; split
 ·exact hf.s
 ·exact hk
theorem tmOf_fine {s : Sr} {id : Int} {t : Tm} (h : tmOf s id = some t) : Fine s := by
 unfold tmOf at h
 split at h
 ·exact fine_iff.1 ‹_›
 ·cases h
theorem Of_ok {H : Heap} {v w : V} {f : Fr} {k : Sr} (hf : FrR 0 H v f) (hk : SrR 0 H w k) (fo : FrO f) (ko : SrO k) :
  Ok (sem T zd2 [v, w]) H fun r H' => TmQ 0 H' (tmOf (hold f k) f.id) r ∧ Grow H H' := by
 obtain ⟨a, b, c, d, e, g, rfl, hf⟩ := hf
 obtain ⟨p, q, r, rfl, hk⟩ := hk
 obtain ⟨ca, cb, cc, cd, ce, cg⟩ := fr_dti hf
 refine zgK ?_
 unfold zgc
 unfold fcells scells
 simp (disch := first | omega | (simp only [RY] <;> omega) | decide) only [↓RD, RZ, eq_self, Int.reduceToNat, Int.reduceAdd, Nat.reduceAdd, Nat.reduceSub, Nat.reduceMul, Nat.reduceLeDiff, ca.1, ca.2, cb.1, cb.2, cc.1, cc.2, cd.1, cd.2, ce.1, ce.2, cg.1, cg.2, hk.ts.cells1, hk.ts.okc, hk.pro.cells1, hk.pro.okc, hk.siz.cells1, hk.siz.okc]
 generalize hH1 : Heap.new (Heap.new (Heap.new H _) _) _ = H1
 have s1 : Grow H H1 := by rw [← hH1]; exact ((Grow.new _ _).trans (Grow.new _ _)).trans (Grow.new _ _)
 have n1 : H1.next = H.next + 3 := by rw [← hH1]; rfl
 have f1 : H1.get H.next = some ⟨zal, fcells f a b c d e g, none⟩ := by rw [← hH1]; unfold fcells; simp (disch := first | omega | (simp only [RY] <;> omega) | decide) only [↓RD, RZ, eq_self, Int.reduceToNat, Int.reduceAdd, Nat.reduceAdd, Nat.reduceSub, Nat.reduceMul, Nat.reduceLeDiff]
 have z1 : H1.get (H.next + 2) = some ⟨zak, [.int .i64 0, .int .i64 0, .nils, .nils, .nils], none⟩ := by rw [← hH1]; simp (disch := first | omega | (simp only [RY] <;> omega) | decide) only [↓RD, RZ, eq_self, Int.reduceToNat, Int.reduceAdd, Nat.reduceAdd, Nat.reduceSub, Nat.reduceMul, Nat.reduceLeDiff]
 clear hH1
 unfold fcells at f1
 refine zac (hold_ok (hf.ext s1) (hk.ext s1)) ?_
 rintro _ H2 ⟨⟨x, y, z, rfl, hh0⟩, s2⟩
 have hh0 := hh0.src hf hk
 have hh := hh0.ext (s1.trans s2)
 have so := SrO.hold fo ko
 have n2 := s2.next
 have f2 : H2.get H.next = _ := (s2.same _ (by omega)).trans f1
 have z2 : H2.get (H.next + 2) = _ := (s2.same _ (by omega)).trans z1
 generalize hold f k = s at *
 unfold scells
 simp (disch := first | omega | (simp only [RY] <;> omega) | decide) only [↓RD, RZ, eq_self, Int.reduceToNat, Int.reduceAdd, Nat.reduceAdd, Nat.reduceSub, Nat.reduceMul, Nat.reduceLeDiff, hh.ts.cells1, hh.ts.okc, hh.pro.cells1, hh.pro.okc, hh.siz.cells1, hh.siz.okc]
 generalize hH3 : Heap.set _ _ _ = H3
 have s3 : Grow H2 H3 := by rw [← hH3]; exact (Grow.new _ _).set (by omega) _
 have n3 : H3.next = H2.next + 1 := by rw [← hH3]; rfl
 have g3 : H3.get H2.next = some ⟨zag, [.int .i64 s.off, .int .i64 s.tar, x, .int .i64 s.cha, y, z], none⟩ := by rw [← hH3]; simp (disch := first | omega | (simp only [RY] <;> omega) | decide) only [↓RD, RZ, eq_self, Int.reduceToNat, Int.reduceAdd, Nat.reduceAdd, Nat.reduceSub, Nat.reduceMul, Nat.reduceLeDiff]
 clear hH3
 have f3 : H3.get H.next = _ := (s3.same _ (by omega)).trans f2
 have z3 : H3.get (H.next + 2) = _ := (s3.same _ (by omega)).trans z2
 refine zac (Fine_ok (hh.ext s3).val so) ?_
 rintro _ H4 ⟨rfl, s4⟩
 have n4 := s4.next
 have f4 : H4.get H.next = _ := (s4.same _ (by omega)).trans f3
 have z4 : H4.get (H.next + 2) = _ := (s4.same _ (by omega)).trans z3
 have g4 : H4.get H2.next = _ := (s4.same _ (by omega)).trans g3
 have s14 := ((s1.trans s2).trans s3).trans s4
 unfold tmOf
 cases hfi : fine s with
 | false =>
  rw [if_neg (by decide)]
  simp (disch := first | omega | (simp only [RY] <;> omega) | decide) only [↓RD, RZ, eq_self, Int.reduceToNat, Int.reduceAdd, Nat.reduceAdd, Nat.reduceSub, Nat.reduceMul, Nat.reduceLeDiff, z4]
  exact ⟨rfl, s14.set (by omega) _⟩
 | true =>
  rw [if_pos rfl]
  have off := (fine_iff.1 hfi).off
  simp (disch := first | omega | (simp only [RY] <;> omega) | decide) only [↓RD, RZ, eq_self, Int.reduceToNat, Int.reduceAdd, Nat.reduceAdd, Nat.reduceSub, Nat.reduceMul, Nat.reduceLeDiff, g4, f4]
  refine zac (template_ok (lo := 0) (hh.ext (s3.trans s4)).val so off f.id) ?_
  rintro _ H5 ⟨hq, s5⟩
  have z5 : H5.get (H.next + 2) = _ := (s5.same _ (by omega)).trans z4
  obtain ⟨a', b', c', rfl, w⟩ := hq.get
  simp (disch := first | omega | (simp only [RY] <;> omega) | decide) only [↓RD, RZ, eq_self, Int.reduceToNat, Int.reduceAdd, Nat.reduceAdd, Nat.reduceSub, Nat.reduceMul, Nat.reduceLeDiff, z5, w.dti.cells1, w.dti.okc, w.dif.cells1, w.dif.okc, w.cha.cells1, w.cha.okc]
  have k5 : ∀ b, Keep H4.next H5 (H5.set (H.next + 2) b) := fun b => Keep.set _ (by omega) b
  refine ⟨?_, (s14.trans s5).set (by omega) _⟩
  cases ho : tmPl s f.id with
  | none =>
   rw [ho] at hq
   have hq : V.tup _ = V.tup _ := hq
   simp only [V.tup.injEq, List.cons.injEq, V.agg.injEq] at hq
   obtain ⟨⟨-, -, rfl, rfl, rfl, -⟩, -⟩ := hq
   rfl
  | some t =>
   rw [ho] at w
   exact ⟨a', b', c', rfl, (w.keep (k5 _)).low (by omega)⟩
theorem Of2_ok {H : Heap} {v w : V} {f : Fr} {k : Sr} (hf : FrR 0 H v f) (hk : SrR 0 H w k) (fo : FrO f) (ko : SrO k) :
  Ok (sem T zca [v, w]) H fun r H' => TmQ 0 H' (tmOf (hold f k) f.id) r ∧ Grow H H' := by
 obtain ⟨a, b, c, d, e, g, rfl, hf⟩ := hf
 obtain ⟨p, q, r, rfl, hk⟩ := hk
 obtain ⟨ca, cb, cc, cd, ce, cg⟩ := fr_dti hf
 refine zfn ?_
 unfold zd3
 unfold fcells scells
 simp (disch := first | omega | (simp only [RY] <;> omega) | decide) only [↓RD, RZ, eq_self, Int.reduceToNat, Int.reduceAdd, Nat.reduceAdd, Nat.reduceSub, Nat.reduceMul, Nat.reduceLeDiff, ca.1, ca.2, cb.1, cb.2, cc.1, cc.2, cd.1, cd.2, ce.1, ce.2, cg.1, cg.2, hk.ts.cells1, hk.ts.okc, hk.pro.cells1, hk.pro.okc, hk.siz.cells1, hk.siz.okc]
 generalize hH1 : Heap.new (Heap.new (Heap.new H _) _) _ = H1
 have s1 : Grow H H1 := by rw [← hH1]; exact ((Grow.new _ _).trans (Grow.new _ _)).trans (Grow.new _ _)
 have n1 : H1.next = H.next + 3 := by rw [← hH1]; rfl
 have f1 : H1.get H.next = some ⟨zaw, fcells f a b c d e g, none⟩ := by rw [← hH1]; unfold fcells; simp (disch := first | omega | (simp only [RY] <;> omega) | decide) only [↓RD, RZ, eq_self, Int.reduceToNat, Int.reduceAdd, Nat.reduceAdd, Nat.reduceSub, Nat.reduceMul, Nat.reduceLeDiff]
 have z1 : H1.get (H.next + 2) = some ⟨zaq, [.int .i64 0, .int .i64 0, .nils, .nils, .nils], none⟩ := by rw [← hH1]; simp (disch := first | omega | (simp only [RY] <;> omega) | decide) only [↓RD, RZ, eq_self, Int.reduceToNat, Int.reduceAdd, Nat.reduceAdd, Nat.reduceSub, Nat.reduceMul, Nat.reduceLeDiff]
 clear hH1
 unfold fcells at f1
 refine zac (hold2_ok (hf.ext s1) (hk.ext s1)) ?_
 rintro _ H2 ⟨⟨x, y, z, rfl, hh0⟩, s2⟩
 have hh0 := hh0.src hf hk
 have hh := hh0.ext (s1.trans s2)
 have so := SrO.hold fo ko
 have n2 := s2.next
 have f2 : H2.get H.next = _ := (s2.same _ (by omega)).trans f1
 have z2 : H2.get (H.next + 2) = _ := (s2.same _ (by omega)).trans z1
 generalize hold f k = s at *
 unfold scells
 simp (disch := first | omega | (simp only [RY] <;> omega) | decide) only [↓RD, RZ, eq_self, Int.reduceToNat, Int.reduceAdd, Nat.reduceAdd, Nat.reduceSub, Nat.reduceMul, Nat.reduceLeDiff, f2, hh.ts.cells1, hh.ts.okc, hh.pro.cells1, hh.pro.okc, hh.siz.cells1, hh.siz.okc]
 generalize hH3 : Heap.set _ _ _ = H3
 have s3 : Grow H2 H3 := by rw [← hH3]; exact (Grow.new _ _).set (by omega) _
 have n3 : H3.next = H2.next + 1 := by rw [← hH3]; rfl
 have g3 : H3.get H2.next = some ⟨zaf, [.int .i64 s.off, .int .i64 s.tar, x, .int .i64 s.cha, y, z], none⟩ := by rw [← hH3]; simp (disch := first | omega | (simp only [RY] <;> omega) | decide) only [↓RD, RZ, eq_self, Int.reduceToNat, Int.reduceAdd, Nat.reduceAdd, Nat.reduceSub, Nat.reduceMul, Nat.reduceLeDiff]
 clear hH3
 have f3 : H3.get H.next = _ := (s3.same _ (by omega)).trans f2
 have z3 : H3.get (H.next + 2) = _ := (s3.same _ (by omega)).trans z2
 have s13 := (s1.trans s2).trans s3
 by_cases a1 : f.id < 0
 ·have : tmOf s f.id = none := by unfold tmOf tmPl; split; rw [if_neg (by omega)]; rfl
  rw [this]
  simp (disch := first | omega | (simp only [RY] <;> omega) | decide) only [↓RD, RZ, eq_self, Int.reduceToNat, Int.reduceAdd, Nat.reduceAdd, Nat.reduceSub, Nat.reduceMul, Nat.reduceLeDiff, f3, z3]
  exact ⟨rfl, s13.set (by omega) _⟩
 by_cases a2 : 63 < f.id
 ·have : tmOf s f.id = none := by unfold tmOf tmPl; split; rw [if_neg (by omega)]; rfl
  rw [this]
  simp (disch := first | omega | (simp only [RY] <;> omega) | decide) only [↓RD, RZ, eq_self, Int.reduceToNat, Int.reduceAdd, Nat.reduceAdd, Nat.reduceSub, Nat.reduceMul, Nat.reduceLeDiff, f3, z3]
  exact ⟨rfl, s13.set (by omega) _⟩
 simp (disch := first | omega | (simp only [RY] <;> omega) | decide) only [↓RD, RZ, eq_self, Int.reduceToNat, Int.reduceAdd, Nat.reduceAdd, Nat.reduceSub, Nat.reduceMul, Nat.reduceLeDiff, f3, g3]
 refine zac (Fine2_ok (hh.ext s3).val so) ?_
 rintro _ H4 ⟨rfl, s4⟩
 have n4 := s4.next
 have f4 : H4.get H.next = _ := (s4.same _ (by omega)).trans f3
 have z4 : H4.get (H.next + 2) = _ := (s4.same _ (by omega)).trans z3
 have g4 : H4.get H2.next = _ := (s4.same _ (by omega)).trans g3
 have s14 := s13.trans s4
 unfold tmOf
 cases hfi : fine s with
 | false =>
  rw [if_neg (by decide)]
  simp (disch := first | omega | (simp only [RY] <;> omega) | decide) only [↓RD, RZ, eq_self, Int.reduceToNat, Int.reduceAdd, Nat.reduceAdd, Nat.reduceSub, Nat.reduceMul, Nat.reduceLeDiff, z4]
  exact ⟨rfl, s14.set (by omega) _⟩
 | true =>
  rw [if_pos rfl]
  have off := (fine_iff.1 hfi).off
  have len := (fine_iff.1 hfi).len
  unfold tmPl
  rw [if_pos (by omega)]
  have er := rem64 (x := f.id + 64 - s.off) (by omega) (by omega)
  obtain ⟨m, hm⟩ : ∃ m : Nat, (f.id + 64 - s.off) % 64 = (m : Int) := ⟨((f.id + 64 - s.off) % 64).toNat, by omega⟩
  rw [hm] at er ⊢
  rw [Int.toNat_natCast]
  have h4 := hh.ext (s3.trans s4)
  by_cases a3 : s.ts.length ≤ m
  ·rw [List.getElem?_eq_none a3]
   simp (disch := first | omega | (simp only [RY] <;> omega) | decide) only [↓RD, RZ, eq_self, Int.reduceToNat, Int.reduceAdd, Nat.reduceAdd, Nat.reduceSub, Nat.reduceMul, Nat.reduceLeDiff, f4, g4, er, h4.ts.vlen, z4]
   exact ⟨rfl, s14.set (by omega) _⟩
  ·have hm' : m < s.ts.length := by omega
   rw [List.getElem?_eq_getElem hm']
   obtain ⟨q, d', e', f', i1, w1, l1⟩ := hh0.ts.at2 hm'
   obtain ⟨-, -, -, -, -, l2⟩ := pl5 (l1 _ s14)
   simp (disch := first | omega | (simp only [RY] <;> omega) | decide) only [↓RD, RZ, eq_self, Int.reduceToNat, Int.reduceAdd, Nat.reduceAdd, Nat.reduceSub, Nat.reduceMul, Nat.reduceLeDiff, f4, g4, er, h4.ts.vlen, i1, l2, z4, w1.dti.cells1, w1.dti.okc, w1.dif.cells1, w1.dif.okc, w1.cha.cells1, w1.cha.okc]
   exact ⟨⟨d', e', f', rfl, w1.ext (s14.set (by omega) _)⟩, s14.set (by omega) _⟩
def isZ (s : Sr) : Bool := decide (s.off = 0 ∧ s.tar = 0 ∧ s.cha = 0 ∧ s.ts.length = 0 ∧ s.pro.length = 0 ∧ s.siz.length = 0)
theorem none_ok {lo : Nat} {H : Heap} {s : Sr} {a b c : V} (h : SrC lo H s a b c) (ho : SrO s) : Ok (sem T zdk [.agg (scells s a b c)]) H fun r H' => r = .bool (isZ s) ∧ Grow H H' := by
 have n1 := ho.ts
 have n2 := ho.pro.2
 have n3 := ho.siz.1
 have hv1 := h.ts.vlen
 have hv2 := h.pro.vlen
 have hv3 := h.siz.vlen
 have e1 : (s.ts.length : Int) + (s.pro.length : Nat) = ((s.ts.length + s.pro.length : Nat) : Int) := rfl
 have e2 : ((s.ts.length + s.pro.length : Nat) : Int) + (s.siz.length : Nat) = ((s.ts.length + s.pro.length + s.siz.length : Nat) : Int) := rfl
 refine zgi ?_
 unfold zfx
 unfold scells isZ
 by_cases a1 : s.off = 0
 ·by_cases a2 : s.tar = 0
  ·by_cases a3 : s.cha = 0
   ·by_cases a4 : s.ts.length + s.pro.length + s.siz.length = 0
    ·simp (disch := omega) only [↓RD, RZ, h.ts.cells1, h.ts.okc, h.pro.cells1, h.pro.okc, h.siz.cells1, h.siz.okc, hv1, hv2, hv3, a1, a2, a3, e1, e2, a4]
     exact ⟨by rw [decide_eq_true (by omega)], Grow.new _ _⟩
    ·simp (disch := omega) only [↓RD, RZ, h.ts.cells1, h.ts.okc, h.pro.cells1, h.pro.okc, h.siz.cells1, h.siz.okc, hv1, hv2, hv3, a1, a2, a3, e1, e2]
     exact ⟨by rw [decide_eq_false (by omega)], Grow.new _ _⟩
   ·simp (disch := omega) only [↓RD, RZ, h.ts.cells1, h.ts.okc, h.pro.cells1, h.pro.okc, h.siz.cells1, h.siz.okc, a1, a2]
    exact ⟨by rw [decide_eq_false (by omega)], Grow.new _ _⟩
  ·simp (disch := omega) only [↓RD, RZ, h.ts.cells1, h.ts.okc, h.pro.cells1, h.pro.okc, h.siz.cells1, h.siz.okc, a1]
   exact ⟨by rw [decide_eq_false (by omega)], Grow.new _ _⟩
 ·simp (disch := omega) only [↓RD, RZ, h.ts.cells1, h.ts.okc, h.pro.cells1, h.pro.okc, h.siz.cells1, h.siz.okc]
  exact ⟨by rw [decide_eq_false (by omega)], Grow.new _ _⟩
theorem zero_ok {lo : Nat} {H : Heap} {s : Sr} {a b c : V} (h : SrC lo H s a b c) : Ok (sem T zbp [.agg (scells s a b c)]) H fun r H' => r = .bool (isZ s) ∧ Grow H H' := by
 have hv1 := h.ts.vlen
 have hv2 := h.pro.vlen
 have hv3 := h.siz.vlen
 refine zeM ?_
 unfold zdE
 unfold scells isZ
 by_cases a1 : s.off = 0
 ·by_cases a2 : s.tar = 0
  ·by_cases a4 : s.ts.length = 0
   ·by_cases a3 : s.cha = 0
    ·by_cases a5 : s.pro.length = 0
     ·by_cases a6 : s.siz.length = 0
      ·simp (disch := omega) only [↓RD, RZ, h.ts.cells1, h.ts.okc, h.pro.cells1, h.pro.okc, h.siz.cells1, h.siz.okc, hv1, hv2, hv3, a1, a2, a3, a4, a5, a6]
       exact Grow.new _ _
      ·simp (disch := omega) only [↓RD, RZ, h.ts.cells1, h.ts.okc, h.pro.cells1, h.pro.okc, h.siz.cells1, h.siz.okc, hv1, hv2, hv3, a1, a2, a3, a4, a5]
       exact ⟨by rw [decide_eq_false (by omega)], Grow.new _ _⟩
     ·simp (disch := omega) only [↓RD, RZ, h.ts.cells1, h.ts.okc, h.pro.cells1, h.pro.okc, h.siz.cells1, h.siz.okc, hv1, hv2, hv3, a1, a2, a3, a4]
      exact ⟨by rw [decide_eq_false (by omega)], Grow.new _ _⟩
    ·simp (disch := omega) only [↓RD, RZ, h.ts.cells1, h.ts.okc, h.pro.cells1, h.pro.okc, h.siz.cells1, h.siz.okc, hv1, a1, a2, a4]
     exact ⟨by rw [decide_eq_false (by omega)], Grow.new _ _⟩
   ·simp (disch := omega) only [↓RD, RZ, h.ts.cells1, h.ts.okc, h.pro.cells1, h.pro.okc, h.siz.cells1, h.siz.okc, hv1, a1, a2]
    exact ⟨by rw [decide_eq_false (by omega)], Grow.new _ _⟩
  ·simp (disch := omega) only [↓RD, RZ, h.ts.cells1, h.ts.okc, h.pro.cells1, h.pro.okc, h.siz.cells1, h.siz.okc, a1]
   exact ⟨by rw [decide_eq_false (by omega)], Grow.new _ _⟩
 ·simp (disch := omega) only [↓RD, RZ, h.ts.cells1, h.ts.okc, h.pro.cells1, h.pro.okc, h.siz.cells1, h.siz.okc]
  exact ⟨by rw [decide_eq_false (by omega)], Grow.new _ _⟩
end Go.Ax.D9
/- DepS3 -/
namespace Go.Ax.D9
open Go.Ax
structure GoodT (f : Fr) (s : Sr) (t : Tm) : Prop where
 z : f.new = true ∨ isZ f.s = true
 a : f.has = true ∨ f.act = 0
 b : f.act < 2 ^ s.tar.toNat
 d : if f.od = true then wi f.dti s.tar 0 3 = true else f.dti = t.dti
 e : if f.of' = true then di f.dif 16 4096 = true else f.dif = t.dif
 c : if f.oc = true then wi f.cha s.cha 0 255 = true else f.cha = t.cha
def GoodP (f : Fr) (k : Sr) : Prop := ∃ t, tmOf (hold f k) f.id = some t ∧ GoodT f (hold f k) t
noncomputable def good (f : Fr) (k : Sr) : Bool := dec (GoodP f k)
theorem shr0 (a n : Nat) : shr a n = 0 ↔ a < 2 ^ n := by
 rw [shr_def, Nat.shiftRight_eq_div_pow, Nat.div_eq_zero_iff]
 have := Nat.two_pow_pos n
 omega
structure GS (B : Heap) (tf tt ts : TypeId) (bf bt bs : Nat) (cf ct cs : List V) (H : Heap) : Prop where
 gr : Grow B H
 lt : bf < H.next ∧ bt < H.next ∧ bs < H.next
 f : H.get bf = some ⟨tf, cf, none⟩
 t : H.get bt = some ⟨tt, ct, none⟩
 s : H.get bs = some ⟨ts, cs, none⟩
theorem GS.ext {B : Heap} {tf tt ts : TypeId} {bf bt bs : Nat} {cf ct cs : List V} {H H' : Heap} (h : GS B tf tt ts bf bt bs cf ct cs H) (s : Grow H H') : GS B tf tt ts bf bt bs cf ct cs H' :=
 ⟨h.gr.trans s, by have := s.next; have := h.lt; omega, (s.same _ h.lt.1).trans h.f, (s.same _ h.lt.2.1).trans h.t, (s.same _ h.lt.2.2).trans h.s⟩
theorem wi_neg1 {l : List Int} {many : Nat} {most : Int} : di l many most = (decide (l.length ≤ many) && wi2 l (-1) 1 most) := by unfold di; rw [wi2_neg]
set_option maxHeartbeats 1600000 in
theorem Good_ok {H : Heap} {v w : V} {f : Fr} {k : Sr} (hf : FrR 0 H v f) (hk : SrR 0 H w k) (fo : FrO f) (ko : SrO k) :
  Ok (sem T zdm [v, w]) H fun r H' => r = .bool (good f k) ∧ Grow H H' := by
 obtain ⟨a, b, c, d, e, g, rfl, hf⟩ := hf
 obtain ⟨p, q, r, rfl, hk⟩ := hk
 obtain ⟨ca, cb, cc, cd, ce, cg⟩ := fr_dti hf
 have kts := hk.ts.cel
 have kpr := hk.pro.cel
 have ksi := hk.siz.cel
 refine zgk ?_
 unfold zfz
 unfold fcells scells
 simp (disch := first | omega | (simp only [RY] <;> omega) | decide) only [↓RD, RZ, eq_self, Int.reduceToNat, Int.reduceAdd, Nat.reduceAdd, Nat.reduceSub, Nat.reduceMul, Nat.reduceLeDiff, ca.1, ca.2, cb.1, cb.2, cc.1, cc.2, cd.1, cd.2, ce.1, ce.2, cg.1, cg.2, kts.1, kts.2, kpr.1, kpr.2, ksi.1, ksi.2]
 generalize hH1 : Heap.new (Heap.new H _) _ = H1
 have s1 : Grow H H1 := by rw [← hH1]; exact (Grow.new _ _).trans (Grow.new _ _)
 have n1 : H1.next = H.next + 2 := by rw [← hH1]; rfl
 have f1 : H1.get H.next = some ⟨zal, fcells f a b c d e g, none⟩ := by rw [← hH1]; unfold fcells; simp (disch := first | omega | (simp only [RY] <;> omega) | decide) only [↓RD, RZ, eq_self, Int.reduceToNat, Int.reduceAdd, Nat.reduceAdd, Nat.reduceSub, Nat.reduceMul, Nat.reduceLeDiff]
 have k1 : H1.get (H.next + 1) = some ⟨zag, scells k p q r, none⟩ := by rw [← hH1]; unfold scells; simp (disch := first | omega | (simp only [RY] <;> omega) | decide) only [↓RD, RZ, eq_self, Int.reduceToNat, Int.reduceAdd, Nat.reduceAdd, Nat.reduceSub, Nat.reduceMul, Nat.reduceLeDiff]
 clear hH1
 unfold fcells at f1
 unfold scells at k1
 refine zac (Of_ok (hf.ext s1).val (hk.ext s1).val fo ko) ?_
 rintro _ H2 ⟨hq, s2⟩
 have n2 := s2.next
 have f2 : H2.get H.next = _ := (s2.same _ (by omega)).trans f1
 have k2 : H2.get (H.next + 1) = _ := (s2.same _ (by omega)).trans k1
 obtain ⟨x1, x2, x3, rfl, wt⟩ := hq.get
 unfold good GoodP
 have so := SrO.hold fo ko
 generalize ho : tmOf (hold f k) f.id = o at *
 simp (disch := first | omega | (simp only [RY] <;> omega) | decide) only [↓RD, RZ, eq_self, Int.reduceToNat, Int.reduceAdd, Nat.reduceAdd, Nat.reduceSub, Nat.reduceMul, Nat.reduceLeDiff, f2, k2, wt.dti.cells1, wt.dti.okc, wt.dif.cells1, wt.dif.okc, wt.cha.cells1, wt.cha.okc]
 generalize hH3 : Heap.set _ _ _ = H3
 have s3 : Grow H2 H3 := by rw [← hH3]; exact (Grow.new _ _).set (by omega) _
 have n3 : H3.next = H2.next + 1 := by rw [← hH3]; rfl
 have f3 : H3.get H.next = _ := (s3.same _ (by omega)).trans f2
 have k3 : H3.get (H.next + 1) = _ := (s3.same _ (by omega)).trans k2
 have t3 : H3.get H2.next = some ⟨zak, [.int .i64 (o.getD Tm0).sp, .int .i64 (o.getD Tm0).te, x1, x2, x3], none⟩ := by rw [← hH3]; simp (disch := first | omega | (simp only [RY] <;> omega) | decide) only [↓RD, RZ, eq_self, Int.reduceToNat, Int.reduceAdd, Nat.reduceAdd, Nat.reduceSub, Nat.reduceMul, Nat.reduceLeDiff]
 clear hH3
 replace wt := wt.ext s3
 have s13 := (s1.trans s2).trans s3
 refine zac (hold_ok (hf.ext s13) (hk.ext s13)) ?_
 rintro _ H4 ⟨⟨y1, y2, y3, rfl, hh⟩, s4⟩
 have n4 := s4.next
 replace hh := hh.src (hf.ext (s13.trans s4)) (hk.ext (s13.trans s4))
 unfold scells
 have hts := hh.ts.cel
 have hpr := hh.pro.cel
 have hsi := hh.siz.cel
 simp (disch := first | omega | (simp only [RY] <;> omega) | decide) only [↓RD, RZ, eq_self, Int.reduceToNat, Int.reduceAdd, Nat.reduceAdd, Nat.reduceSub, Nat.reduceMul, Nat.reduceLeDiff, hts.1, hts.2, hpr.1, hpr.2, hsi.1, hsi.2]
 generalize hH5 : Heap.set _ _ _ = H5
 have s5 : Grow H4 H5 := by rw [← hH5]; exact (Grow.new _ _).set (by omega) _
 have n5 : H5.next = H4.next + 1 := by rw [← hH5]; rfl
 have h5 : H5.get H4.next = some ⟨zag, [.int .i64 (hold f k).off, .int .i64 (hold f k).tar, y1, .int .i64 (hold f k).cha, y2, y3], none⟩ := by rw [← hH5]; simp (disch := first | omega | (simp only [RY] <;> omega) | decide) only [↓RD, RZ, eq_self, Int.reduceToNat, Int.reduceAdd, Nat.reduceAdd, Nat.reduceSub, Nat.reduceMul, Nat.reduceLeDiff]
 clear hH5
 have st : GS H3 zal zak zag H.next H2.next H4.next [.bool f.st, .bool f.en, .int .i64 f.id, .int .u16 f.num, .bool f.new, .int .i64 f.s.off, .int .i64 f.s.tar, a, .int .i64 f.s.cha, b, c, .bool f.has, .int .u32 f.act, .bool f.od, .bool f.of', .bool f.oc, d, e, g] [.int .i64 (o.getD Tm0).sp, .int .i64 (o.getD Tm0).te, x1, x2, x3] [.int .i64 (hold f k).off, .int .i64 (hold f k).tar, y1, .int .i64 (hold f k).cha, y2, y3] H5 :=
  ⟨s4.trans s5, by omega, ((s4.trans s5).same _ (by omega)).trans f3, ((s4.trans s5).same _ (by omega)).trans t3, h5⟩
 have goF : ∀ {H' : Heap}, Grow H3 H' → Grow H H' := fun g => s13.trans g
 have n16 := fo.dti.2
 have n17 := fo.dif.2
 have n18 := fo.cha.2
 cases o with
 | none =>
  simp (disch := first | omega | (simp only [RY] <;> omega) | decide) only [↓RD, RZ, eq_self, Int.reduceToNat, Int.reduceAdd, Nat.reduceAdd, Nat.reduceSub, Nat.reduceMul, Nat.reduceLeDiff, Option.isSome_none]
  exact ⟨by rw [dec_no (by rintro ⟨t, h, _⟩; cases h)], goF st.gr⟩
 | some t =>
 have hF := tmOf_fine ho
 have hT := hF.tar
 have hC := hF.cha
 generalize hold f k = s at *
 have bad : ¬ GoodT f s t → dec (∃ t', some t = some t' ∧ GoodT f s t') = false := fun h => dec_no (by rintro ⟨t', ⟨rfl⟩, h'⟩; exact h h')
 have yes : GoodT f s t → dec (∃ t', some t = some t' ∧ GoodT f s t') = true := fun h => dec_yes ⟨t, rfl, h⟩
 simp only [Option.getD_some, Option.isSome_some] at *
 obtain ⟨m, hm⟩ : ∃ m : Nat, s.tar = (m : Int) := ⟨s.tar.toNat, by omega⟩
 have hb : shr f.act m = 0 ↔ f.act < 2 ^ s.tar.toNat := by rw [hm, Int.toNat_natCast]; exact shr0 _ _
 have hsl := shr_le f.act m
 have fact := fo.act
 have A : (f.new = false ∧ isZ f.s = false) ∨ (f.new = false ∧ isZ f.s = true) ∨ f.new = true := by
  cases f.new <;> cases isZ f.s <;> simp
 have stc := st
 rcases A with ⟨hn, hz⟩ | A
 ·simp (disch := first | omega | (simp only [RY] <;> omega) | decide) only [↓RD, RZ, eq_self, Int.reduceToNat, Int.reduceAdd, Nat.reduceAdd, Nat.reduceSub, Nat.reduceMul, Nat.reduceLeDiff, st.f, hn, Option.isSome_some, Bool.not_true]
  refine zac (none_ok (hf.s.ext (goF st.gr)) fo.s) ?_
  rintro _ _ ⟨rfl, sA⟩
  rw [hz]
  simp (disch := first | omega | (simp only [RY] <;> omega) | decide) only [↓RD, RZ, eq_self, Int.reduceToNat, Int.reduceAdd, Nat.reduceAdd, Nat.reduceSub, Nat.reduceMul, Nat.reduceLeDiff, Option.isSome_some, Bool.not_true]
  exact ⟨by rw [bad fun h => by have := h.z; rw [hn, hz] at this; simp at this], goF (st.gr.trans sA)⟩
 have hz : f.new = true ∨ isZ f.s = true := by rcases A with ⟨_, h⟩ | h; exact .inr h; exact .inl h
 rcases A with ⟨hn, hz'⟩ | hn
 all_goals try (
  simp (disch := first | omega | (simp only [RY] <;> omega) | decide) only [↓RD, RZ, eq_self, Int.reduceToNat, Int.reduceAdd, Nat.reduceAdd, Nat.reduceSub, Nat.reduceMul, Nat.reduceLeDiff, st.f, hn, Option.isSome_some, Bool.not_true]
  refine zac (none_ok (hf.s.ext (goF st.gr)) fo.s) ?_
  rintro _ _ ⟨rfl, sA⟩
  replace st := st.ext sA
  rw [hz'])
 all_goals (
  by_cases hB : f.has = true ∨ f.act = 0
  rotate_left
  ·have h1 : f.has = false := by cases h : f.has; rfl; exact absurd (.inl h) hB
   have h2 : ¬ f.act = 0 := fun h => hB (.inr h)
   simp (disch := first | omega | (simp only [RY] <;> omega) | decide) only [↓RD, RZ, eq_self, Int.reduceToNat, Int.reduceAdd, Nat.reduceAdd, Nat.reduceSub, Nat.reduceMul, Nat.reduceLeDiff, st.f, h1, hn, Option.isSome_some, Bool.not_true]
   exact ⟨by rw [bad fun h => hB h.a], goF st.gr⟩
  by_cases hB2 : shr f.act m = 0
  rotate_left
  ·have h3 : ¬ f.act = 0 := fun h => by rw [h] at hB2; exact hB2 ((shr0 0 m).2 (Nat.two_pow_pos m))
   have h1 : f.has = true := by rcases hB with h | h; exact h; exact absurd h h3
   simp (disch := first | omega | (simp only [RY] <;> omega) | decide) only [↓RD, RZ, eq_self, Int.reduceToNat, Int.reduceAdd, Nat.reduceAdd, Nat.reduceSub, Nat.reduceMul, Nat.reduceLeDiff, st.f, st.s, h1, hn, Option.isSome_some, Bool.not_true, hm]
   exact ⟨by rw [bad fun h => hB2 (hb.2 h.b)], goF st.gr⟩
  rcases (show f.has = true ∨ (f.has = false ∧ f.act = 0) by cases h : f.has; exact .inr ⟨rfl, by rcases hB with h' | h'; rw [h] at h'; cases h'; exact h'⟩; exact .inl rfl) with h1 | ⟨h1, h2⟩
  simp (disch := first | omega | (simp only [RY] <;> omega) | decide) only [↓RD, RZ, eq_self, Int.reduceToNat, Int.reduceAdd, Nat.reduceAdd, Nat.reduceSub, Nat.reduceMul, Nat.reduceLeDiff, st.f, st.s, h1, hn, Option.isSome_some, Bool.not_true, hm, hB2]
  rotate_left
  rw [h2] at hB2
  simp (disch := first | omega | (simp only [RY] <;> omega) | decide) only [↓RD, RZ, eq_self, Int.reduceToNat, Int.reduceAdd, Nat.reduceAdd, Nat.reduceSub, Nat.reduceMul, Nat.reduceLeDiff, st.f, st.s, h1, hn, Option.isSome_some, Bool.not_true, hm, h2, hB2])
 all_goals (
  rcases hD : f.od with _ | _
  by_cases qD : f.dti = t.dti
  simp (disch := first | omega | (simp only [RY] <;> omega) | decide) only [↓RD, RZ, eq_self, Int.reduceToNat, Int.reduceAdd, Nat.reduceAdd, Nat.reduceSub, Nat.reduceMul, Nat.reduceLeDiff, st.f, st.t, hD]
  refine zac (Equal_ok (hf.dti.ext (goF st.gr)) (wt.dti.ext st.gr) (by omega)) ?_
  rintro _ _ ⟨rfl, rfl⟩
  rw [decide_eq_true qD]
  rotate_left
  ·simp (disch := first | omega | (simp only [RY] <;> omega) | decide) only [↓RD, RZ, eq_self, Int.reduceToNat, Int.reduceAdd, Nat.reduceAdd, Nat.reduceSub, Nat.reduceMul, Nat.reduceLeDiff, st.f, st.t, hD]
   refine zac (Equal_ok (hf.dti.ext (goF st.gr)) (wt.dti.ext st.gr) (by omega)) ?_
   rintro _ _ ⟨rfl, rfl⟩
   rw [decide_eq_false qD]
   simp (disch := first | omega | (simp only [RY] <;> omega) | decide) only [↓RD, RZ, eq_self, Int.reduceToNat, Int.reduceAdd, Nat.reduceAdd, Nat.reduceSub, Nat.reduceMul, Nat.reduceLeDiff]
   exact ⟨by rw [bad fun h => by have := h.d; rw [hD, if_neg (by decide)] at this; exact qD this], goF st.gr⟩
  simp (disch := first | omega | (simp only [RY] <;> omega) | decide) only [↓RD, RZ, eq_self, Int.reduceToNat, Int.reduceAdd, Nat.reduceAdd, Nat.reduceSub, Nat.reduceMul, Nat.reduceLeDiff, st.f, st.s, hD]
  refine zac (within_ok (hf.dti.ext (goF st.gr)) s.tar 0 3 (by omega)) ?_
  rintro _ _ ⟨rfl, s'⟩
  replace st := st.ext s'
  rcases wD : wi f.dti s.tar 0 3 with _ | _
  ·simp (disch := first | omega | (simp only [RY] <;> omega) | decide) only [↓RD, RZ, eq_self, Int.reduceToNat, Int.reduceAdd, Nat.reduceAdd, Nat.reduceSub, Nat.reduceMul, Nat.reduceLeDiff, st.f, hD]
   exact ⟨by rw [bad fun h => by have := h.d; rw [hD, if_pos rfl, wD] at this; cases this], goF st.gr⟩)
 all_goals (
  rcases hE : f.of' with _ | _
  by_cases qE : f.dif = t.dif
  simp (disch := first | omega | (simp only [RY] <;> omega) | decide) only [↓RD, RZ, eq_self, Int.reduceToNat, Int.reduceAdd, Nat.reduceAdd, Nat.reduceSub, Nat.reduceMul, Nat.reduceLeDiff, st.f, st.t, hD, hE]
  refine zac (Equal_ok (hf.dif.ext (goF st.gr)) (wt.dif.ext st.gr) (by omega)) ?_
  rintro _ _ ⟨rfl, rfl⟩
  rw [decide_eq_true qE]
  rotate_left
  ·simp (disch := first | omega | (simp only [RY] <;> omega) | decide) only [↓RD, RZ, eq_self, Int.reduceToNat, Int.reduceAdd, Nat.reduceAdd, Nat.reduceSub, Nat.reduceMul, Nat.reduceLeDiff, st.f, st.t, hD, hE]
   refine zac (Equal_ok (hf.dif.ext (goF st.gr)) (wt.dif.ext st.gr) (by omega)) ?_
   rintro _ _ ⟨rfl, rfl⟩
   rw [decide_eq_false qE]
   simp (disch := first | omega | (simp only [RY] <;> omega) | decide) only [↓RD, RZ, eq_self, Int.reduceToNat, Int.reduceAdd, Nat.reduceAdd, Nat.reduceSub, Nat.reduceMul, Nat.reduceLeDiff]
   exact ⟨by rw [bad fun h => by have := h.e; rw [hE, if_neg (by decide)] at this; exact qE this], goF st.gr⟩
  simp (disch := first | omega | (simp only [RY] <;> omega) | decide) only [↓RD, RZ, eq_self, Int.reduceToNat, Int.reduceAdd, Nat.reduceAdd, Nat.reduceSub, Nat.reduceMul, Nat.reduceLeDiff, st.f, st.s, hD, hE]
  refine zac (diffs_ok (hf.dif.ext (goF st.gr)) 16 4096 (by omega)) ?_
  rintro _ _ ⟨rfl, s'⟩
  replace st := st.ext s'
  rcases wE : di f.dif 16 4096 with _ | _
  ·simp (disch := first | omega | (simp only [RY] <;> omega) | decide) only [↓RD, RZ, eq_self, Int.reduceToNat, Int.reduceAdd, Nat.reduceAdd, Nat.reduceSub, Nat.reduceMul, Nat.reduceLeDiff, st.f, hD, hE]
   exact ⟨by rw [bad fun h => by have := h.e; rw [hE, if_pos rfl, wE] at this; cases this], goF st.gr⟩)
 all_goals (
  have hd : if f.od = true then wi f.dti s.tar 0 3 = true else f.dti = t.dti := by
   rw [hD]
   first | exact wD | exact qD
  have he : if f.of' = true then di f.dif 16 4096 = true else f.dif = t.dif := by
   rw [hE]
   first | exact wE | exact qE
  cases hC' : f.oc with
  | true =>
   simp (disch := first | omega | (simp only [RY] <;> omega) | decide) only [↓RD, RZ, eq_self, Int.reduceToNat, Int.reduceAdd, Nat.reduceAdd, Nat.reduceSub, Nat.reduceMul, Nat.reduceLeDiff, st.f, st.s, hE, hC']
   refine zac (within_ok (hf.cha.ext (goF st.gr)) s.cha 0 255 (by omega)) ?_
   rintro _ _ ⟨rfl, s'⟩
   replace st := st.ext s'
   simp (disch := first | omega | (simp only [RY] <;> omega) | decide) only [↓RD, RZ, eq_self, Int.reduceToNat, Int.reduceAdd, Nat.reduceAdd, Nat.reduceSub, Nat.reduceMul, Nat.reduceLeDiff]
   refine ⟨?_, goF st.gr⟩
   congr 1
   cases wC : wi f.cha s.cha 0 255 with
   | true => rw [yes ⟨hz, hB, hb.1 (by first | exact hB2 | (rw [‹f.act = 0›]; exact hB2)), hd, he, by rw [hC', if_pos rfl]; exact wC⟩]
   | false => rw [bad fun h => by have := h.c; rw [hC', if_pos rfl, wC] at this; cases this]
  | false =>
   simp (disch := first | omega | (simp only [RY] <;> omega) | decide) only [↓RD, RZ, eq_self, Int.reduceToNat, Int.reduceAdd, Nat.reduceAdd, Nat.reduceSub, Nat.reduceMul, Nat.reduceLeDiff, st.f, st.t, hE, hC']
   refine zac (Equal_ok (hf.cha.ext (goF st.gr)) (wt.cha.ext st.gr) (by omega)) ?_
   rintro _ _ ⟨rfl, rfl⟩
   by_cases qC : f.cha = t.cha
   ·rw [decide_eq_true qC]
    simp (disch := first | omega | (simp only [RY] <;> omega) | decide) only [↓RD, RZ, eq_self, Int.reduceToNat, Int.reduceAdd, Nat.reduceAdd, Nat.reduceSub, Nat.reduceMul, Nat.reduceLeDiff]
    exact ⟨by rw [yes ⟨hz, hB, hb.1 (by first | exact hB2 | (rw [‹f.act = 0›]; exact hB2)), hd, he, by rw [hC', if_neg (by decide)]; exact qC⟩], goF st.gr⟩
   ·rw [decide_eq_false qC]
    simp (disch := first | omega | (simp only [RY] <;> omega) | decide) only [↓RD, RZ, eq_self, Int.reduceToNat, Int.reduceAdd, Nat.reduceAdd, Nat.reduceSub, Nat.reduceMul, Nat.reduceLeDiff]
    exact ⟨by rw [bad fun h => by have := h.c; rw [hC', if_neg (by decide)] at this; exact qC this], goF st.gr⟩)
end Go.Ax.D9
/- DepR3 -/
namespace Go.Ax.D9
open Go.Ax B6
/-! Layers. -/
structure TmL (l : List Tm) : Prop where
 len : 1 ≤ l.length ∧ l.length ≤ 64
 lay : ∀ i, i < l.length → LayAt l i
 emp : ∀ t ∈ l, t.dti = [] ∧ t.dif = [] ∧ t.cha = []
theorem TmL.one : TmL [Tm0] := by
 refine ⟨by simp, fun i hi => ?_, fun t ht => ?_⟩
 ·have : i = 0 := by simpa using hi
  subst this
  exact ⟨rfl, rfl⟩
 ·simp only [List.mem_singleton] at ht
  subst ht
  exact ⟨rfl, rfl, rfl⟩
theorem top_max {ts : List Tm} (h : ∀ t ∈ ts, 0 ≤ t.sp ∧ t.sp ≤ 3) : 0 ≤ top ts ∧ top ts ≤ 3 := by
 have : ∀ (l : List Tm) (x : Int), 0 ≤ x → x ≤ 3 → (∀ t ∈ l, 0 ≤ t.sp ∧ t.sp ≤ 3) → 0 ≤ l.foldl (fun n t => max n t.sp) x ∧ l.foldl (fun n t => max n t.sp) x ≤ 3 := by
  intro l
  induction l with
  | nil => intro x h1 h2 _; exact ⟨h1, h2⟩
  | cons t l ih =>
   intro x h1 h2 h3
   have := h3 t (List.mem_cons_self ..)
   exact ih _ (show 0 ≤ max x t.sp by omega) (show max x t.sp ≤ 3 by omega) fun u hu => h3 u (List.mem_cons_of_mem _ hu)
 exact this ts 0 (by decide) (by decide) h
structure TmB (ts0 : List Tm) (tar c : Nat) (i : Nat) (t : Tm) : Prop where
 sp : t.sp = (ts0.getD i Tm0).sp
 te : t.te = (ts0.getD i Tm0).te
 dti : wi t.dti tar 0 3 = true
 dif : di t.dif 8 16 = true
 cha : wi t.cha c 0 15 = true
end Go.Ax.D9
/- Wb2 -/
namespace Go.Ax.B6
open Go.Ax
end Go.Ax.B6
/- Wb3 -/
namespace Go.Ax.B6
open Go.Ax
structure WRep (H : Heap) (w : Nat) (bits : List Bool) (F : List Nat) : Prop where
 mk' ::
 ex : ∃ bv l, H.get w = some ⟨zgf, [bv, .int .i64 (bits.length : Nat)], none⟩ ∧ Pk bits.length l bits ∧ Opn zaD 1 H bv (l.map by8) l.length ∧ F = w :: bv.pid.toList ∧ bv.pid ≠ some w
 low : Below F H
theorem WRep.to {H H' : Heap} {w : Nat} {bits : List Bool} {F : List Nat} (h : WRep H w bits F) (hs : ∀ i ∈ F, H'.get i = H.get i) (hn : H.next ≤ H'.next) : WRep H' w bits F := by
 obtain ⟨⟨bv, l, h1, h2, h3, rfl, h5⟩, hb⟩ := h
 refine ⟨⟨bv, l, ?_, h2, h3.to fun i hi => hs i (by simp [hi]), rfl, h5⟩, fun i hi => Nat.lt_of_lt_of_le (hb i hi) hn⟩
 rw [hs w (by simp), h1]
theorem nb_take (v k j : Nat) (h : j < k) : (nb v k).take (j + 1) = (nb v k).take j ++ [v.testBit (k - 1 - j)] := by
 induction k generalizing j with
 | zero => omega
 | succ k ih =>
  cases j with
  | zero => simp [nb]
  | succ j =>
   simp only [nb, List.take_succ_cons, List.cons_append]
   rw [ih j (by omega)]
   have : k + 1 - 1 - (j + 1) = k - 1 - j := by omega
   rw [this]
theorem shr1 (v i : Nat) : shr v i &&& 1 = (v.testBit i).toNat := by
 rw [shr_def, Nat.toNat_testBit, Nat.and_one_is_mod, Nat.shiftRight_eq_div_pow]
def addE (v : Nat) (n : Int) : Int := if n < 0 ∨ 64 < n ∨ n < bl v then 1 else 0
def addB (bits : List Bool) (v : Nat) (n : Int) : List Bool := if n < 0 ∨ 64 < n ∨ n < bl v then bits else bits ++ nb v n.toNat
def addNSE (v n : Nat) : Int := if n < 1 ∨ 4294967296 < n ∨ n ≤ v then 1 else 0
def addNSB (bits : List Bool) (v n : Nat) : List Bool := if n < 1 ∨ 4294967296 < n ∨ n ≤ v then bits else if v < 2 ^ bl n - n then bits ++ nb v (bl n - 1) else bits ++ nb (v + (2 ^ bl n - n)) (bl n)
theorem addNS_lt {v n : Nat} (h0 : 1 ≤ n) (h1 : n ≤ 4294967296) (h : v < n) : 2 ^ bl n ≤ 8589934592 ∧ n < 2 ^ bl n ∧ 2 ^ bl n ≤ 2 * n ∧ 1 ≤ bl n ∧ bl n ≤ 33 ∧ (v < 2 ^ bl n - n → bl v ≤ bl n - 1) ∧ (¬ v < 2 ^ bl n - n → bl (v + (2 ^ bl n - n)) ≤ bl n) := by
 have h2 := lt_bl n
 have h3 := bl_le n h0
 have h33 : bl n ≤ 33 := (bl_le_iff n 33).2 (by omega)
 have hp : 1 ≤ bl n := by
  rcases Nat.eq_zero_or_pos (bl n) with e | e
  ·rw [e] at h2; simp at h2; omega
  ·exact e
 have e : 2 ^ bl n = 2 * 2 ^ (bl n - 1) := by
  obtain ⟨m, hm⟩ : ∃ m, bl n = m + 1 := ⟨bl n - 1, by omega⟩
  rw [hm, Nat.pow_succ, Nat.mul_comm]; rfl
 have h4 : 2 ^ bl n ≤ 2 ^ 33 := Nat.pow_le_pow_right (by decide) h33
 refine ⟨by omega, h2, by omega, hp, h33, fun hv => (bl_le_iff _ _).2 (by omega), fun hv => (bl_le_iff _ _).2 (by omega)⟩
end Go.Ax.B6
/- Wb4 -/
namespace Go.Ax.B6
open Go.Ax
structure RRep (H : Heap) (w : Nat) (bits : List Bool) (F : List Nat) : Prop where
 mk' ::
 ex : ∃ bv, H.get w = some ⟨zaZ, [bv], none⟩ ∧ Opn zf2 1 H bv (bits.map V.bool) bits.length ∧ F = w :: bv.pid.toList ∧ bv.pid ≠ some w
 low : Below F H
theorem RRep.to {H H' : Heap} {w : Nat} {bits : List Bool} {F : List Nat} (h : RRep H w bits F) (hs : ∀ i ∈ F, H'.get i = H.get i) (hn : H.next ≤ H'.next) : RRep H' w bits F := by
 obtain ⟨⟨bv, h1, h3, rfl, h5⟩, hb⟩ := h
 refine ⟨⟨bv, ?_, h3.to fun i hi => hs i (by simp [hi]), rfl, h5⟩, fun i hi => Nat.lt_of_lt_of_le (hb i hi) hn⟩
 rw [hs w (by simp), h1]
theorem shr_bl (v n : Nat) : shr v n = 0 ↔ bl v ≤ n := by
 rw [bl_le_iff, shr_pow]
 constructor
 ·intro h
  exact Nat.lt_of_div_eq_zero (Nat.two_pow_pos n) h
 ·exact Nat.div_eq_of_lt
theorem RAdd_loop {H : Heap} {w : Nat} {bits : List Bool} {F : List Nat} (h : RRep H w bits F) (v i : Nat) (hv : v < 18446744073709551616) (hi : i < 64) (hl : bits.length < 1099511627776) (t6 : V) {Q : Res → Heap → Prop}
  (k : ∀ H' F', RRep H' w (bits ++ [v.testBit i]) F' → Step H H' F F' → Q (.nrm [.int .i64 ((i : Int) - 1)]) H') :
  Ok (zaV (sem T) (.ptr w 0) (.int .u64 v) t6 [.int .i64 (i : Int)]) H Q := by
 obtain ⟨⟨bv, hw, ho, rfl, hne⟩, hb⟩ := h
 have hw0 : w < H.next := hb w (by simp)
 have hsh := shr_le v i
 have hbit : (v.testBit i).toNat ≤ 1 := Bool.toNat_le _
 have hbe : (((v.testBit i).toNat : Int) == 1) = v.testBit i := by cases v.testBit i <;> rfl
 unfold zaV
 simp (disch := first | omega | decide) only [↓RD, RC, RH, RO, RN, RL, RX, RS, eq_self, Int.reduceToNat, Int.reduceAdd, Int.reduceSub, Int.reduceMul, Nat.reduceAdd, Nat.reduceSub, Nat.reduceMul, Nat.reduceDiv, Nat.reduceMod, Nat.reduceBEq, Nat.reduceLeDiff, hw, shr1, hbe]
 refine zfF (bytes := 1) (n := bits.length) (m := 1) (q := [V.bool (v.testBit i)]) (ho.to fun i hi => zat _ _ ?_) (acells_fresh rfl) rfl (by omega) (by omega) fun bv' H1 ho1 hs hf => ?_
 ·have := hb i (by simp [hi]); omega
 have hw1 : H1.get w = some ⟨zaZ, [bv], none⟩ := by
  rw [hs.same w (by rw [zap]; omega) (by rw [mem_pid]; exact hne), zat _ _ (by omega), hw]
 have hn := hs.next
 rw [zap] at hn
 have hne1 : bv'.pid ≠ some w := fun e => by
  have := hf (.inr (by decide)) w e
  rw [zap] at this; omega
 simp (disch := first | omega | decide) only [↓RD, RC, RH, RO, RN, RL, RX, RS, eq_self, Int.reduceToNat, Int.reduceAdd, Int.reduceSub, Int.reduceMul, Nat.reduceAdd, Nat.reduceSub, Nat.reduceMul, Nat.reduceDiv, Nat.reduceMod, Nat.reduceBEq, Nat.reduceLeDiff, hw1, ho1.cells1, ho1.okc]
 refine k _ (w :: bv'.pid.toList) ⟨⟨bv', ?_, ?_, rfl, hne1⟩, ?_⟩ (((Step.new H _ _).trans (hs.cons w)).trans (Step.set _ (by simp)))
 ·rw [zan]
 ·simp only [List.map_append, List.length_append]
  exact ho1.to fun j hj => zai _ _ fun e => hne1 (e ▸ hj)
 ·refine Below.cons (by rw [zaL]; omega) fun j hj => ?_
  rw [zaL]
  exact hs.below (fun i hi => by rw [zap]; have := hb i (List.mem_cons_of_mem _ hi); omega) j hj
theorem RAdd_ok {H : Heap} {w : Nat} {bits : List Bool} {F : List Nat} (h : RRep H w bits F) (v : Nat) (n : Int) (hv : v < 18446744073709551616) (hl : bits.length < 549755813888) (hn : -9223372036854775808 ≤ n ∧ n ≤ 9223372036854775807) :
  Ok (sem T zae [.ptr w 0, .int .u64 v, .int .i64 n]) H fun r H' => ∃ F', r = .int .i64 (addE v n) ∧ RRep H' w (addB bits v n) F' ∧ Step H H' F F' := by
 refine zdP ?_
 unfold zcF addE addB
 have h64 : bl v ≤ 64 := (bl_le_iff v 64).2 hv
 simp (disch := first | omega | decide) only [↓RD, RC, RH, RO, RN, RL, RX, RS, eq_self, Int.reduceToNat, Int.reduceAdd, Int.reduceSub, Int.reduceMul, Nat.reduceAdd, Nat.reduceSub, Nat.reduceMul, Nat.reduceDiv, Nat.reduceMod, Nat.reduceBEq, Nat.reduceLeDiff]
 refine zgJ (fun h1 => ?_) fun h1 => ?_
 ·simp (disch := first | omega | decide) only [↓RD, RC, RH, RO, RN, RL, RX, RS, eq_self, Int.reduceToNat, Int.reduceAdd, Int.reduceSub, Int.reduceMul, Nat.reduceAdd, Nat.reduceSub, Nat.reduceMul, Nat.reduceDiv, Nat.reduceMod, Nat.reduceBEq, Nat.reduceLeDiff]
  rw [if_pos (.inl h1), if_pos (.inl h1)]
  exact ⟨F, rfl, h, Step.refl _ _⟩
 ·simp (disch := first | omega | decide) only [↓RD, RC, RH, RO, RN, RL, RX, RS, eq_self, Int.reduceToNat, Int.reduceAdd, Int.reduceSub, Int.reduceMul, Nat.reduceAdd, Nat.reduceSub, Nat.reduceMul, Nat.reduceDiv, Nat.reduceMod, Nat.reduceBEq, Nat.reduceLeDiff]
  refine zgJ (fun h2 => ?_) fun h2 => ?_
  ·simp (disch := first | omega | decide) only [↓RD, RC, RH, RO, RN, RL, RX, RS, eq_self, Int.reduceToNat, Int.reduceAdd, Int.reduceSub, Int.reduceMul, Nat.reduceAdd, Nat.reduceSub, Nat.reduceMul, Nat.reduceDiv, Nat.reduceMod, Nat.reduceBEq, Nat.reduceLeDiff]
   rw [if_pos (.inr (.inl h2)), if_pos (.inr (.inl h2))]
   exact ⟨F, rfl, h, Step.refl _ _⟩
  ·obtain ⟨m, rfl⟩ := Int.eq_ofNat_of_zero_le (show 0 ≤ n by omega)
   have hsh := shr_le v m
   -- the loop
   have rest : ¬ m < bl v → Ok (M.blk 0 (M.iter (zaV (sem T) (.ptr w 0) (.int .u64 v) (.int .i64 0)) [.int .i64 ((m : Int) - 1)]) fun _ => M.pure (.ret [.int .i64 0])) H fun r H' => ∃ L, r = .ret L ∧ ∃ F', zdD L = .int .i64 0 ∧ RRep H' w (bits ++ nb v m) F' ∧ Step H H' F F' := by
    intro h3
    simp (disch := first | omega | decide) only [↓RD, RC, RH, RO, RN, RL, RX, RS, eq_self, Int.reduceToNat, Int.reduceAdd, Int.reduceSub, Int.reduceMul, Nat.reduceAdd, Nat.reduceSub, Nat.reduceMul, Nat.reduceDiv, Nat.reduceMod, Nat.reduceBEq, Nat.reduceLeDiff]
    refine zaP (fun j L H' => ∃ F', L = [.int .i64 ((m : Int) - 1 - j)] ∧ RRep H' w (bits ++ (nb v m).take j) F' ∧ Step H H' F F') m ⟨F, by simp, by simpa using h, Step.refl _ _⟩ ?_ ?_
    ·rintro j L H1 hj ⟨F1, rfl, h1, s1⟩
     have e : (m : Int) - 1 - j = ((m - 1 - j : Nat) : Int) := by omega
     rw [e]
     refine RAdd_loop h1 v _ hv (by omega) (by simp only [List.length_append, List.length_take, zau]; omega) _ fun H2 F2 h2 s2 => ?_
     refine ⟨F2, by congr 2; omega, ?_, s1.trans s2⟩
     rw [nb_take v m j hj, ← List.append_assoc]; exact h2
    ·rintro L H1 ⟨F1, rfl, h1, s1⟩
     unfold zaV
     simp (disch := first | omega | decide) only [↓RD, RC, RH, RO, RN, RL, RX, RS, eq_self, Int.reduceToNat, Int.reduceAdd, Int.reduceSub, Int.reduceMul, Nat.reduceAdd, Nat.reduceSub, Nat.reduceMul, Nat.reduceDiv, Nat.reduceMod, Nat.reduceBEq, Nat.reduceLeDiff]
     rw [List.take_of_length_le (by rw [zau]; omega)] at h1
     exact ⟨F1, h1, s1⟩
   simp (disch := first | omega | decide) only [↓RD, RC, RH, RO, RN, RL, RX, RS, eq_self, Int.reduceToNat, Int.reduceAdd, Int.reduceSub, Int.reduceMul, Nat.reduceAdd, Nat.reduceSub, Nat.reduceMul, Nat.reduceDiv, Nat.reduceMod, Nat.reduceBEq, Nat.reduceLeDiff]
   refine zgJ (fun h3 => ?_) fun h3 => ?_
   ·simp (disch := first | omega | decide) only [↓RD, RC, RH, RO, RN, RL, RX, RS, eq_self, Int.reduceToNat, Int.reduceAdd, Int.reduceSub, Int.reduceMul, Nat.reduceAdd, Nat.reduceSub, Nat.reduceMul, Nat.reduceDiv, Nat.reduceMod, Nat.reduceBEq, Nat.reduceLeDiff]
    refine ok_itenb (fun h4 => ?_) fun h4 => ?_
    ·have : ¬ bl v ≤ m := fun e => by have := (shr_bl v m).2 e; omega
     simp (disch := first | omega | decide) only [↓RD, RC, RH, RO, RN, RL, RX, RS, eq_self, Int.reduceToNat, Int.reduceAdd, Int.reduceSub, Int.reduceMul, Nat.reduceAdd, Nat.reduceSub, Nat.reduceMul, Nat.reduceDiv, Nat.reduceMod, Nat.reduceBEq, Nat.reduceLeDiff]
     rw [if_pos (by omega), if_pos (by omega)]
     exact ⟨F, rfl, h, Step.refl _ _⟩
    ·have := (shr_bl v m).1 (by omega)
     rw [if_neg (by omega), if_neg (by omega)]
     simp (disch := first | omega | decide) only [↓RD, RC, RH, RO, RN, RL, RX, RS, eq_self, Int.reduceToNat, Int.reduceAdd, Int.reduceSub, Int.reduceMul, Nat.reduceAdd, Nat.reduceSub, Nat.reduceMul, Nat.reduceDiv, Nat.reduceMod, Nat.reduceBEq, Nat.reduceLeDiff]
     simpa only [↓RD, RC] using rest (by omega)
   ·rw [if_neg (by omega), if_neg (by omega)]
    simp (disch := first | omega | decide) only [↓RD, RC, RH, RO, RN, RL, RX, RS, eq_self, Int.reduceToNat, Int.reduceAdd, Int.reduceSub, Int.reduceMul, Nat.reduceAdd, Nat.reduceSub, Nat.reduceMul, Nat.reduceDiv, Nat.reduceMod, Nat.reduceBEq, Nat.reduceLeDiff]
    simpa only [↓RD, RC] using rest (by omega)
theorem RBytes_ok {H : Heap} {w : Nat} {bits : List Bool} {F : List Nat} (h : RRep H w bits F) (hl : bits.length < 549755813888) :
  Ok (sem T zaN [.ptr w 0]) H fun r H' => ∃ l, Pk bits.length l bits ∧ rcells 1 H' r = some (l.map by8, l.length) ∧ (∃ id, r.pid = some id ∧ H.next ≤ id ∧ id < H'.next ∧ ∃ n, r = .sl id 0 n (.fix n)) ∧ Step H H' [] r.pid.toList := by
 have hR := h
 obtain ⟨⟨bv, hw, ho, rfl, hne⟩, hb⟩ := h
 have hw0 : w < H.next := hb w (by simp)
 refine zdz ?_
 unfold zcq
 simp (disch := first | omega | decide) only [↓RD, RC, RH, RO, RN, RL, RX, RS, eq_self, Int.reduceToNat, Int.reduceAdd, Int.reduceSub, Int.reduceMul, Nat.reduceAdd, Nat.reduceSub, Nat.reduceMul, Nat.reduceDiv, Nat.reduceMod, Nat.reduceBEq, Nat.reduceLeDiff, hw, ho.vlen]
 have e : (((bits.length : Int) + 7) / 8).toNat = (bits.length + 7) / 8 := by omega
 refine ⟨⟨by omega, by omega, by omega, by omega⟩, ?_⟩
 rw [e, zeros1]
 generalize hH1 : H.new _ = H1
 have hn1 : H1.next = H.next + 1 := by rw [← hH1, zap]
 have hg1 : H1.get H.next = some ⟨zaD, List.replicate ((bits.length + 7) / 8) (.int .u8 0), none⟩ := by rw [← hH1, zao]
 have hs1 : Step H H1 [] [H.next] := by rw [← hH1]; exact Step.newo H _ []
 have hbv : ∀ i, bv.pid = some i → i < H.next := fun i hi => hb i (by simp [hi])
 refine zaP (fun k L H' => L = [.int .i64 (k : Nat)] ∧ ∃ l, H'.get H.next = some ⟨zaD, l.map by8, none⟩ ∧ Pk bits.length l (bits.take k) ∧ Step H1 H' [H.next] [H.next]) bits.length ⟨rfl, List.replicate ((bits.length + 7) / 8) 0, by rw [hg1, List.map_replicate]; rfl, by rw [List.take_zero]; exact Pk.zeros _, Step.refl _ _⟩ ?_ ?_
 ·rintro k L H2 hk ⟨rfl, l, hg2, hp2, hs2⟩
  have hpl := hp2.len
  have hw2 : H2.get w = some ⟨zaZ, [bv], none⟩ := by rw [hs2.same w (by omega) (by simp; omega), hs1.same w hw0 (by simp), hw]
  have ho2 : Opn zf2 1 H2 bv (bits.map V.bool) bits.length := ho.to fun i hi => by
   have := hbv i hi
   rw [hs2.same i (by omega) (by simp; omega), hs1.same i this (by simp)]
  unfold zbs
  obtain ⟨id, rfl, hg, hia⟩ := ho2.at (k := .i64) (i := (k : Nat)) (by omega) (by omega)
  have hat : bits.take (k + 1) = bits.take k ++ [bits[k]] := by rw [List.take_add_one, List.getElem?_eq_getElem hk]; rfl
  have hk' : (bits.take k).length = k := by rw [List.length_take]; omega
  have hlt : k / 8 < l.length := by omega
  have hx : l[k / 8] < 256 := hp2.lt _ hlt
  have hs8 := shr_le 128 (k % 8)
  have e8 : ((k : Int) / 8).toNat = k / 8 := by omega
  have e9 : ((k : Int) % 8).toNat = k % 8 := by omega
  simp (disch := first | omega | decide) only [↓RD, RC, RH, RO, RN, RL, RX, RS, eq_self, Int.reduceToNat, Int.reduceAdd, Int.reduceSub, Int.reduceMul, Nat.reduceAdd, Nat.reduceSub, Nat.reduceMul, Nat.reduceDiv, Nat.reduceMod, Nat.reduceBEq, Nat.reduceLeDiff, hw2, hia, hg, List.getElem?_map, List.getElem?_eq_getElem hk, e8, e9, hg2, List.getElem?_eq_getElem hlt, by8]
  refine zeR (fun hbt => ?_) fun hbt => ?_
  ·simp (disch := first | omega | decide) only [↓RD, RC, RH, RO, RN, RL, RX, RS, eq_self, Int.reduceToNat, Int.reduceAdd, Int.reduceSub, Int.reduceMul, Nat.reduceAdd, Nat.reduceSub, Nat.reduceMul, Nat.reduceDiv, Nat.reduceMod, Nat.reduceBEq, Nat.reduceLeDiff, hw2, hia, hg, List.getElem?_map, List.getElem?_eq_getElem hk, e8, e9, hg2, List.getElem?_eq_getElem hlt, by8]
   have hon := hp2.on (by omega) (by rw [hk']; exact hlt)
   simp only [hk'] at hon
   refine ⟨by rw [List.length_map]; omega, rfl, l.set (k / 8) (l[k / 8] ||| shr 128 (k % 8)), ?_, ?_, hs2.trans (Step.set _ (by simp))⟩
   ·try rw [zan]
    rw [sp_set _ _ _ (by rw [List.length_map]; omega), List.map_set]; rfl
   ·rw [hat, hbt]; exact hon
  ·simp (disch := first | omega | decide) only [↓RD, RC, RH, RO, RN, RL, RX, RS, eq_self, Int.reduceToNat, Int.reduceAdd, Int.reduceSub, Int.reduceMul, Nat.reduceAdd, Nat.reduceSub, Nat.reduceMul, Nat.reduceDiv, Nat.reduceMod, Nat.reduceBEq, Nat.reduceLeDiff]
   refine ⟨rfl, l, hg2, ?_, hs2⟩
   rw [hat, hbt]; exact hp2.off
 ·rintro L H2 ⟨rfl, l, hg2, hp2, hs2⟩
  have hpl := hp2.len
  have hw2 : H2.get w = some ⟨zaZ, [bv], none⟩ := by rw [hs2.same w (by omega) (by simp; omega), hs1.same w hw0 (by simp), hw]
  have ho2 : Opn zf2 1 H2 bv (bits.map V.bool) bits.length := ho.to fun i hi => by
   have := hbv i hi
   rw [hs2.same i (by omega) (by simp; omega), hs1.same i this (by simp)]
  unfold zbs
  simp (disch := first | omega | decide) only [↓RD, RC, RH, RO, RN, RL, RX, RS, eq_self, Int.reduceToNat, Int.reduceAdd, Int.reduceSub, Int.reduceMul, Nat.reduceAdd, Nat.reduceSub, Nat.reduceMul, Nat.reduceDiv, Nat.reduceMod, Nat.reduceBEq, Nat.reduceLeDiff, hw2, ho2.vlen]
  rw [List.take_length] at hp2
  refine ⟨l, hp2, ?_, ⟨H.next, rfl, Nat.le_refl _, Nat.lt_of_lt_of_le (by omega) hs2.next, _, rfl⟩, hs1.trans hs2⟩
  simp only [rcells, hg2, Option.bind_some]
  rw [if_pos (by simp; omega), List.drop_zero, List.take_of_length_le (by simp; omega), hpl]
theorem width_eq (n : Nat) (h0 : 1 ≤ n) (h : n ≤ 4294967296) : sem T zbP [.int .u64 n] = M.pure (.tup [.int .i64 (bl n : Nat), .int .u64 ((2 ^ bl n - n : Nat) : Int)]) := by
 have h1 := lt_bl n
 have h33 : bl n ≤ 33 := (bl_le_iff n 33).2 (by omega)
 have h2 : 2 ^ bl n ≤ 2 ^ 33 := Nat.pow_le_pow_right (by decide) h33
 have e : shl 1 (bl n) % 18446744073709551616 = 2 ^ bl n := by
  rw [shl_def, Nat.one_shiftLeft]; exact Nat.mod_eq_of_lt (by omega)
 refine pure_of_ok fun H => ?_
 refine zeI ?_
 unfold zdt
 simp (disch := first | omega | decide) only [↓RD, RC, RH, RO, RN, RL, RX, RS, eq_self, Int.reduceToNat, Int.reduceAdd, Int.reduceSub, Int.reduceMul, Nat.reduceAdd, Nat.reduceSub, Nat.reduceMul, Nat.reduceDiv, Nat.reduceMod, Nat.reduceBEq, Nat.reduceLeDiff]
 refine zej (fun L H' m => ∃ x k : Nat, L = [.int .i64 (k : Nat), .int .u64 (x : Nat)] ∧ m = x ∧ x ≤ n ∧ bl n = bl x + k ∧ H' = H) n ⟨n, 0, rfl, rfl, Nat.le_refl _, rfl, rfl⟩ ?_
 rintro L H' m ⟨x, k, rfl, rfl, hx, hb, rfl⟩
 unfold zc1
 simp (disch := first | omega | decide) only [↓RD, RC, RH, RO, RN, RL, RX, RS, eq_self, Int.reduceToNat, Int.reduceAdd, Int.reduceSub, Int.reduceMul, Nat.reduceAdd, Nat.reduceSub, Nat.reduceMul, Nat.reduceDiv, Nat.reduceMod, Nat.reduceBEq, Nat.reduceLeDiff]
 refine zg8 (fun h3 => ?_) fun h3 => ?_
 ·have hd := bl_div m (by omega)
  simp (disch := first | omega | decide) only [↓RD, RC, RH, RO, RN, RL, RX, RS, eq_self, Int.reduceToNat, Int.reduceAdd, Int.reduceSub, Int.reduceMul, Nat.reduceAdd, Nat.reduceSub, Nat.reduceMul, Nat.reduceDiv, Nat.reduceMod, Nat.reduceBEq, Nat.reduceLeDiff]
  exact ⟨m / 2, by omega, m / 2, k + 1, rfl, rfl, by omega, by omega⟩
 ·have : m = 0 := by omega
  subst this
  have hk : bl n = k := by simpa [bl] using hb
  subst hk
  simp (disch := first | omega | decide) only [↓RD, RC, RH, RO, RN, RL, RX, RS, eq_self, Int.reduceToNat, Int.reduceAdd, Int.reduceSub, Int.reduceMul, Nat.reduceAdd, Nat.reduceSub, Nat.reduceMul, Nat.reduceDiv, Nat.reduceMod, Nat.reduceBEq, Nat.reduceLeDiff, e, Int.toNat_one]
  rw [Int.ofNat_sub (by omega)]
theorem RAddNS_ok {H : Heap} {w : Nat} {bits : List Bool} {F : List Nat} (h : RRep H w bits F) (v n : Nat) (hv : v < 18446744073709551616) (hn : n < 18446744073709551616) (hl : bits.length < 549755813888) :
  Ok (sem T zaO [.ptr w 0, .int .u64 v, .int .u64 n]) H fun r H' => ∃ F', r = .int .i64 (addNSE v n) ∧ RRep H' w (addNSB bits v n) F' ∧ Step H H' F F' := by
 refine zdA ?_
 unfold zcr addNSE addNSB
 simp (disch := first | omega | decide) only [↓RD, RC, RH, RO, RN, RL, RX, RS, eq_self, Int.reduceToNat, Int.reduceAdd, Int.reduceSub, Int.reduceMul, Nat.reduceAdd, Nat.reduceSub, Nat.reduceMul, Nat.reduceDiv, Nat.reduceMod, Nat.reduceBEq, Nat.reduceLeDiff]
 refine zgJ (fun h1 => ?_) fun h1 => ?_
 ·simp (disch := first | omega | decide) only [↓RD, RC, RH, RO, RN, RL, RX, RS, eq_self, Int.reduceToNat, Int.reduceAdd, Int.reduceSub, Int.reduceMul, Nat.reduceAdd, Nat.reduceSub, Nat.reduceMul, Nat.reduceDiv, Nat.reduceMod, Nat.reduceBEq, Nat.reduceLeDiff]
  rw [if_pos (by omega), if_pos (by omega)]
  exact ⟨F, rfl, h, Step.refl _ _⟩
 ·simp (disch := first | omega | decide) only [↓RD, RC, RH, RO, RN, RL, RX, RS, eq_self, Int.reduceToNat, Int.reduceAdd, Int.reduceSub, Int.reduceMul, Nat.reduceAdd, Nat.reduceSub, Nat.reduceMul, Nat.reduceDiv, Nat.reduceMod, Nat.reduceBEq, Nat.reduceLeDiff]
  refine zgJ (fun h2 => ?_) fun h2 => ?_
  ·simp (disch := first | omega | decide) only [↓RD, RC, RH, RO, RN, RL, RX, RS, eq_self, Int.reduceToNat, Int.reduceAdd, Int.reduceSub, Int.reduceMul, Nat.reduceAdd, Nat.reduceSub, Nat.reduceMul, Nat.reduceDiv, Nat.reduceMod, Nat.reduceBEq, Nat.reduceLeDiff]
   rw [if_pos (by omega), if_pos (by omega)]
   exact ⟨F, rfl, h, Step.refl _ _⟩
  ·simp (disch := first | omega | decide) only [↓RD, RC, RH, RO, RN, RL, RX, RS, eq_self, Int.reduceToNat, Int.reduceAdd, Int.reduceSub, Int.reduceMul, Nat.reduceAdd, Nat.reduceSub, Nat.reduceMul, Nat.reduceDiv, Nat.reduceMod, Nat.reduceBEq, Nat.reduceLeDiff]
   refine zg8 (fun h3 => ?_) fun h3 => ?_
   ·simp (disch := first | omega | decide) only [↓RD, RC, RH, RO, RN, RL, RX, RS, eq_self, Int.reduceToNat, Int.reduceAdd, Int.reduceSub, Int.reduceMul, Nat.reduceAdd, Nat.reduceSub, Nat.reduceMul, Nat.reduceDiv, Nat.reduceMod, Nat.reduceBEq, Nat.reduceLeDiff]
    rw [if_pos (by omega), if_pos (by omega)]
    exact ⟨F, rfl, h, Step.refl _ _⟩
   ·rw [if_neg (by omega), if_neg (by omega)]
    obtain ⟨a1, a2, a3, a4, a5, a6, a7⟩ := addNS_lt (v := v) (n := n) (by omega) (by omega) (by omega)
    simp (disch := first | omega | decide) only [↓RD, RC, RH, RO, RN, RL, RX, RS, eq_self, Int.reduceToNat, Int.reduceAdd, Int.reduceSub, Int.reduceMul, Nat.reduceAdd, Nat.reduceSub, Nat.reduceMul, Nat.reduceDiv, Nat.reduceMod, Nat.reduceBEq, Nat.reduceLeDiff, width_eq]
    refine zg8 (fun h4 => ?_) fun h4 => ?_
    ·have a6' := a6 (by omega)
     simp (disch := first | omega | decide) only [↓RD, RC, RH, RO, RN, RL, RX, RS, eq_self, Int.reduceToNat, Int.reduceAdd, Int.reduceSub, Int.reduceMul, Nat.reduceAdd, Nat.reduceSub, Nat.reduceMul, Nat.reduceDiv, Nat.reduceMod, Nat.reduceBEq, Nat.reduceLeDiff]
     rw [if_pos (by omega)]
     have e : (bl n : Int) - 1 = ((bl n - 1 : Nat) : Int) := by omega
     rw [e]
     refine zac (RAdd_ok h v _ hv hl ⟨by omega, by omega⟩) ?_
     rintro r H1 ⟨F1, rfl, hw1, hs1⟩
     simp only [addE, addB] at hw1 ⊢
     rw [if_neg (by omega)] at hw1
     rw [if_neg (by omega)]
     simp (disch := first | omega | decide) only [↓RD, RC, RH, RO, RN, RL, RX, RS, eq_self, Int.reduceToNat, Int.reduceAdd, Int.reduceSub, Int.reduceMul, Nat.reduceAdd, Nat.reduceSub, Nat.reduceMul, Nat.reduceDiv, Nat.reduceMod, Nat.reduceBEq, Nat.reduceLeDiff]
     exact ⟨F1, hw1, hs1⟩
    ·have a7' := a7 (by omega)
     simp (disch := first | omega | decide) only [↓RD, RC, RH, RO, RN, RL, RX, RS, eq_self, Int.reduceToNat, Int.reduceAdd, Int.reduceSub, Int.reduceMul, Nat.reduceAdd, Nat.reduceSub, Nat.reduceMul, Nat.reduceDiv, Nat.reduceMod, Nat.reduceBEq, Nat.reduceLeDiff]
     rw [if_neg (by omega)]
     have e : (v : Int) + ((2 ^ bl n - n : Nat) : Int) = ((v + (2 ^ bl n - n) : Nat) : Int) := by omega
     rw [e]
     refine zac (RAdd_ok h _ _ (by omega) hl ⟨by omega, by omega⟩) ?_
     rintro r H1 ⟨F1, rfl, hw1, hs1⟩
     simp only [addE, addB] at hw1 ⊢
     rw [if_neg (by omega)] at hw1
     rw [if_neg (by omega)]
     simp (disch := first | omega | decide) only [↓RD, RC, RH, RO, RN, RL, RX, RS, eq_self, Int.reduceToNat, Int.reduceAdd, Int.reduceSub, Int.reduceMul, Nat.reduceAdd, Nat.reduceSub, Nat.reduceMul, Nat.reduceDiv, Nat.reduceMod, Nat.reduceBEq, Nat.reduceLeDiff]
     exact ⟨F1, hw1, hs1⟩
end Go.Ax.B6
/- Wb6 -/
namespace Go.Ax.B6
open Go.Ax
def ub (l : List Nat) : List Bool := (List.range (8 * l.length)).map fun k => (l.getD (k / 8) 0).testBit (7 - k % 8)
structure PRd (H : Heap) (m : Nat × Nat) (r : Nat) (l : List Nat) (at' : Nat) : Prop where
 mk' ::
 ex : ∃ bv, H.get r = some ⟨zgg, [bv, .int .i64 (at' : Nat)], none⟩ ∧ Opn zaD 1 H bv (l.map by8) l.length ∧ bv.pid ≠ some r ∧ ∀ i, bv.pid = some i → m.1 ≤ i ∧ i < m.2
 low : m.1 ≤ r ∧ r < m.2
 lt : ∀ i (h : i < l.length), l[i] < 256
 len : l.length ≤ 1099511627776
 le : at' ≤ 8 * l.length
theorem PRd.frame {H H' : Heap} {m : Nat × Nat} {r : Nat} {l : List Nat} {at' : Nat} (h : PRd H m r l at') (hs : ∀ i, m.1 ≤ i → i < m.2 → H'.get i = H.get i) : PRd H' m r l at' := by
 obtain ⟨⟨bv, h1, h2, h3, h4⟩, h5, h6, h7, h8⟩ := h
 exact ⟨⟨bv, by rw [hs r h5.1 h5.2, h1], h2.to fun i hi => hs i (h4 i hi).1 (h4 i hi).2, h3, h4⟩, h5, h6, h7, h8⟩
def RStep (H H' : Heap) (r : Nat) : Prop := H'.next = H.next ∧ ∀ i, i ≠ r → H'.get i = H.get i
theorem RStep.refl (H : Heap) (r : Nat) : RStep H H r := ⟨rfl, fun _ _ => rfl⟩
theorem RStep.trans {H H1 H2 : Heap} {r : Nat} (h : RStep H H1 r) (k : RStep H1 H2 r) : RStep H H2 r := ⟨k.1.trans h.1, fun i hi => (k.2 i hi).trans (h.2 i hi)⟩
theorem RStep.set (H : Heap) (r : Nat) (b : Option Blk) : RStep H (H.set r b) r := ⟨rfl, fun i hi => zai _ _ hi⟩
structure RRd (H : Heap) (r : Nat) (l : List Nat) (at' : Nat) : Prop where
 mk' ::
 ex : ∃ bv, H.get r = some ⟨zei, [bv, .int .i64 (at' : Nat)], none⟩ ∧ ((bv = .nils ∧ l = []) ∨ bv = .rs (l.map by8) l.length)
 low : r < H.next
 lt : ∀ i (h : i < l.length), l[i] < 256
 len : l.length ≤ 1099511627776
 le : at' ≤ 8 * l.length
theorem RRd.frame {H H' : Heap} {r : Nat} {l : List Nat} {at' : Nat} (h : RRd H r l at') (hs : H'.get r = H.get r) (hn : H.next ≤ H'.next) : RRd H' r l at' := by
 obtain ⟨⟨bv, h1, h2⟩, h5, h6, h7, h8⟩ := h
 exact ⟨⟨bv, by rw [hs, h1], h2⟩, Nat.lt_of_lt_of_le h5 hn, h6, h7, h8⟩
end Go.Ax.B6
/- DepW1 -/
namespace Go.Ax.D9
open Go.Ax B6
structure Kp (R : Heap → List Bool → List Nat → Prop) : Prop where
 to : ∀ {H H' : Heap} {bits : List Bool} {F : List Nat}, R H bits F → (∀ i ∈ F, H'.get i = H.get i) → H.next ≤ H'.next → R H' bits F
 low : ∀ {H : Heap} {bits : List Bool} {F : List Nat}, R H bits F → Below F H
abbrev DR (w : Nat) (H : Heap) (bits : List Bool) (F : List Nat) : Prop := RRep H w bits F
theorem kpD (w : Nat) : Kp (DR w) := ⟨fun h => h.to, fun h => h.low⟩
structure Wk (R : Heap → List Bool → List Nat → Prop) (B : Heap) (ks : List (Nat × Blk)) (H : Heap) (bits : List Bool) : Prop where
 kp : Kp R
 ex : ∃ F, R H bits F ∧ (∀ i ∈ F, B.next ≤ i) ∧ ∀ k ∈ ks, k.1 ∉ F
 gr : Grow B H
 kk : ∀ k ∈ ks, k.1 < H.next ∧ H.get k.1 = some k.2
section
variable {R : Heap → List Bool → List Nat → Prop} {B H H' : Heap} {ks : List (Nat × Blk)} {bits bits' : List Bool}
theorem Wk.step {x : M V} {P : V → Prop} (h : Wk R B ks H bits) (hop : ∀ F, R H bits F → Ok x H fun r H' => ∃ F', P r ∧ R H' bits' F' ∧ Step H H' F F') : Ok x H fun r H' => P r ∧ Wk R B ks H' bits' := by
 obtain ⟨hR, ⟨F, hF, hlo, hks⟩, gr, kk⟩ := h
 refine zaM (hop F hF) ?_
 rintro r H' ⟨F', hp, hF', s⟩
 have gn := gr.next
 refine ⟨hp, hR, ⟨F', hF', fun i hi => ?_, fun k hk => s.ne (kk k hk).1 (hks k hk)⟩, ⟨Nat.le_trans gr.next s.next, fun i hi => ?_⟩, fun k hk => ⟨Nat.lt_of_lt_of_le (kk k hk).1 s.next, ?_⟩⟩
 ·rcases s.own i hi with h | h
  ·exact hlo i h
  ·omega
 ·rw [s.same i (by omega) (fun h => by have := hlo i h; omega), gr.same i hi]
 ·rw [s.same _ (kk k hk).1 (hks k hk)]; exact (kk k hk).2
theorem Wk.add (h : Wk R B ks H bits) (s : Grow H H') {id : Nat} {b : Blk} (h0 : H.next ≤ id) (h1 : id < H'.next) (hg : H'.get id = some b) : Wk R B ((id, b) :: ks) H' bits := by
 obtain ⟨hR, ⟨F, hF, hlo, hks⟩, gr, kk⟩ := h
 have hb := hR.low hF
 refine ⟨hR, ⟨F, hR.to hF (fun i hi => s.same i (hb i hi)) s.next, hlo, fun k hk => ?_⟩, gr.trans s, fun k hk => ?_⟩
 ·rcases List.mem_cons.1 hk with rfl | hk
  ·exact fun hi => by have := hb _ hi; omega
  ·exact hks k hk
 ·rcases List.mem_cons.1 hk with rfl | hk
  ·exact ⟨h1, hg⟩
  ·exact ⟨Nat.lt_of_lt_of_le (kk k hk).1 s.next, (s.same _ (kk k hk).1).trans (kk k hk).2⟩
theorem Wk.grow (h : Wk R B ks H bits) (s : Grow H H') : Wk R B ks H' bits := by
 obtain ⟨hR, ⟨F, hF, hlo, hks⟩, gr, kk⟩ := h
 have hb := hR.low hF
 exact ⟨hR, ⟨F, hR.to hF (fun i hi => s.same i (hb i hi)) s.next, hlo, hks⟩, gr.trans s, fun k hk => ⟨Nat.lt_of_lt_of_le (kk k hk).1 s.next, (s.same _ (kk k hk).1).trans (kk k hk).2⟩⟩
theorem Wk.new (h : Wk R B ks H bits) (b : Blk) : Wk R B ((H.next, b) :: ks) (H.new b) bits := h.add (Grow.new H b) (Nat.le_refl _) (by rw [zap]; omega) (zao _ _)
theorem Wk.drop {k : Nat × Blk} (h : Wk R B (k :: ks) H bits) : Wk R B ks H bits := by
 obtain ⟨hR, ⟨F, hF, hlo, hks⟩, gr, kk⟩ := h
 exact ⟨hR, ⟨F, hF, hlo, fun k hk => hks k (List.mem_cons_of_mem _ hk)⟩, gr, fun k hk => kk k (List.mem_cons_of_mem _ hk)⟩
theorem Wk.get {id : Nat} {b : Blk} (h : Wk R B ((id, b) :: ks) H bits) : H.get id = some b := (h.kk _ (List.mem_cons_self ..)).2
theorem Wk.lt {id : Nat} {b : Blk} (h : Wk R B ((id, b) :: ks) H bits) : id < H.next := (h.kk _ (List.mem_cons_self ..)).1
end
theorem addB_eq {bits : List Bool} {v n : Nat} (h : v < 2 ^ n) (hn : n ≤ 64) : addB bits v (n : Nat) = bits ++ nb v n := by
 unfold addB
 have := (bl_le_iff v n).2 h
 rw [if_neg (by omega)]; simp
theorem pow64 {v n : Nat} (h : v < 2 ^ n) (hn : n ≤ 63) : v < 9223372036854775808 := by
 have : 2 ^ n ≤ 2 ^ 63 := Nat.pow_le_pow_right (by decide) hn
 omega
abbrev By (lo : Nat) (H : Heap) (v : V) (l : List Nat) : Prop := Lc 1 lo H v (l.map by8) l.length
def headB (f : Fr) : List Bool := [f.st, f.en] ++ nb f.id.toNat 6 ++ nb f.num 16
theorem headB_len (f : Fr) : (headB f).length = 24 := by simp [headB, zau]
theorem good_id {f : Fr} {k : Sr} (h : good f k = true) : 0 ≤ f.id ∧ f.id ≤ 63 := by
 obtain ⟨t, h1, -⟩ := dec_iff.1 h
 unfold tmOf tmPl at h1
 split at h1
 ·split at h1
  ·assumption
  ·cases h1
 ·cases h1
end Go.Ax.D9
/- DepR4 -/
namespace Go.Ax
structure Ko (a m : Nat) (H H' : Heap) : Prop where
 next : H.next ≤ H'.next
 same : ∀ i, i < H.next → (i < a ∨ m ≤ i) → H'.get i = H.get i
theorem Ko.refl (a m : Nat) (H : Heap) : Ko a m H H := ⟨Nat.le_refl _, fun _ _ _ => rfl⟩
theorem Ko.trans {a m : Nat} {H H1 H2 : Heap} (h : Ko a m H H1) (k : Ko a m H1 H2) : Ko a m H H2 := ⟨Nat.le_trans h.next k.next, fun i hi ho => by rw [k.same i (Nat.lt_of_lt_of_le hi h.next) ho, h.same i hi ho]⟩
theorem Grow.ko {H H' : Heap} (h : Grow H H') (a m : Nat) : Ko a m H H' := ⟨h.next, fun i hi _ => h.same i hi⟩
theorem Ko.keep {a m lo : Nat} {H H' : Heap} (h : Ko a m H H') (hl : m ≤ lo) : Keep lo H H' := ⟨h.next, fun i hl' hi => h.same i hi (.inr (by omega))⟩
theorem Ko.grow {a m : Nat} {B H H' : Heap} (g : Grow B H) (hb : B.next ≤ a) (h : Ko a m H H') : Grow B H' := ⟨Nat.le_trans g.next h.next, fun i hi => by rw [h.same i (by have := g.next; omega) (.inl (by omega)), g.same i hi]⟩
theorem Step.ko {H H' : Heap} {F F' : List Nat} (h : Step H H' F F') {a m : Nat} {B : Heap} (k : Ko a m B H) (hF : ∀ i ∈ F, B.next ≤ i) : Ko a m B H' :=
 ⟨Nat.le_trans k.next h.next, fun i hi ho => by rw [h.same i (by have := k.next; omega) (fun hm => by have := hF i hm; omega), k.same i hi ho]⟩
theorem Ko.set {a m : Nat} {B H : Heap} (h : Ko a m B H) {w : Nat} (hw : B.next ≤ w) (b : Option Blk) : Ko a m B (H.set w b) := ⟨by rw [zaL]; exact h.next, fun i hi ho => by rw [zai _ _ (by omega), h.same i hi ho]⟩
theorem Ko.new {a m : Nat} {B H : Heap} (h : Ko a m B H) (b : Blk) : Ko a m B (H.new b) := h.trans ((Grow.new H b).ko a m)
inductive Af (ty e lo : Nat) (H : Heap) : V → List V → Nat → Prop
 | opn {v : V} {cells : List V} {n : Nat} (h : Opn ty e H v cells n) (ho : ∀ id, v.pid = some id → lo ≤ id ∧ id < H.next) : Af ty e lo H v cells n
 | full {id n : Nat} {cells : List V} (h : H.get id = some ⟨ty, cells, none⟩) (hl : cells.length = n * e) (h0 : lo ≤ id) (h1 : id < H.next) : Af ty e lo H (.sl id 0 n (.fix n)) cells n
section
variable {ty e lo n : Nat} {H H' : Heap} {v : V} {cells : List V}
theorem Af.lc (h : Af ty e lo H v cells n) : Lc e lo H v cells n := by
 cases h with
 | opn h ho => exact h.lc ho
 | full h hl h0 h1 =>
  refine ⟨?_, fun id hi => by simp only [V.pid, Option.some.injEq] at hi; subst hi; exact ⟨h0, h1⟩, Nat.le_refl _⟩
  simp only [rcells, h, Option.bind_some]
  rw [if_pos (by simp [hl]), List.drop_zero, ← hl, List.take_length]
theorem Af.nil : Af ty e lo H .nils [] 0 := .opn .nil fun _ h => by cases h
theorem Af.keep (h : Af ty e lo H v cells n) (k : Keep lo H H') : Af ty e lo H' v cells n := by
 cases h with
 | opn h ho => exact .opn (h.to fun i hi => k.same i (ho i hi).1 (ho i hi).2) fun i hi => ⟨(ho i hi).1, Nat.lt_of_lt_of_le (ho i hi).2 k.next⟩
 | full h hl h0 h1 => exact .full (by rw [k.same _ h0 h1, h]) hl h0 (Nat.lt_of_lt_of_le h1 k.next)
theorem Af.to (h : Af ty e lo H v cells n) (hn : H.next ≤ H'.next) (hs : ∀ i, v.pid = some i → H'.get i = H.get i) : Af ty e lo H' v cells n := by
 cases h with
 | opn h ho => exact .opn (h.to hs) fun i hi => ⟨(ho i hi).1, Nat.lt_of_lt_of_le (ho i hi).2 hn⟩
 | full h hl h0 h1 => exact .full (by rw [hs _ rfl, h]) hl h0 (Nat.lt_of_lt_of_le h1 hn)
theorem Af.own (h : Af ty e lo H v cells n) : ∀ i ∈ v.pid.toList, lo ≤ i := fun i hi => (h.lc.own i (mem_pid.1 hi)).1
theorem Af.blk (h : Af ty e lo H v cells n) (hn : 0 < n) : ∃ id cap o, v = .sl id 0 n cap ∧ H.get id = some ⟨ty, cells, o⟩ ∧ lo ≤ id ∧ id < H.next ∧ cells.length = n * e ∧ V.capOk e v := by
 cases h with
 | opn h ho =>
  rcases h with ⟨rfl, _, rfl⟩ | ⟨id, rfl, hg, hl⟩
  ·omega
  ·exact ⟨id, _, _, rfl, hg, (ho id rfl).1, (ho id rfl).2, hl, rfl⟩
 | full h hl h0 h1 => exact ⟨_, _, _, rfl, h, h0, h1, hl, Nat.le_refl _⟩
theorem okb_snoc {β : Type} {bytes : Nat} {xs : List V} {f : V → M β} {Q : β → Heap → Prop} (hv : Af ty e lo H v cells n) (hlo : lo ≤ H.next) (hx : xs.length = e) (hb : bytes ≤ 1000) (hn : n ≤ 1048576)
  (k : ∀ v' H', Af ty e lo H' v' (cells ++ xs) (n + 1) → Step H H' v.pid.toList v'.pid.toList → Ok (f v') H' Q) : Ok ((mappend ty e bytes v (.sl H.next 0 1 (.fix 1))).bind f) (H.new ⟨ty, xs, none⟩) Q := by
 have hB : (n + 1) * bytes ≤ 140737488355328 := Nat.le_trans (Nat.mul_le_mul_left _ hb) (by omega)
 have hy : acells e (H.new ⟨ty, xs, none⟩) (.sl H.next 0 1 (.fix 1)) = some (xs, 1) := acells_fresh (by omega)
 have s0 := Step.new H ⟨ty, xs, none⟩ v.pid.toList
 cases hv with
 | opn h ho =>
  have h' : Opn ty e (H.new ⟨ty, xs, none⟩) v cells n := h.to fun i hi => zat _ _ (by have := (ho i hi).2; omega)
  refine zfF h' hy (by omega) hB (by omega) fun x' H' h1 hs _ => k x' H' (.opn h1 fun i hi => ?_) (s0.trans hs)
  rcases hs.own i (by simp [hi]) with h2 | h2
  ·obtain ⟨h3, h4⟩ := ho i (by simpa [mem_pid] using h2)
   exact ⟨h3, Nat.lt_of_lt_of_le h4 (s0.trans hs).next⟩
  ·rw [zap] at h2
   exact ⟨by omega, h2.2⟩
 | full h hl h0 h1 =>
  rename_i id
  have hml : n + 1 ≤ maxLen := Nat.le_trans (by omega : n + 1 ≤ 140737488355328) byte_bound
  have hg : (H.new ⟨ty, xs, none⟩).get id = some ⟨ty, cells, none⟩ := by rw [zat _ _ (by omega), h]
  refine zb9 ⟨.sl (H.next + 1) 0 (n + 1) (.opn e), (H.new ⟨ty, xs, none⟩).new ⟨ty, cells ++ xs, some e⟩, ?_, ?_⟩
  ·simp only [mappend, hy, Option.bind_some, mappendq, hg]
   rw [if_pos ⟨by omega, trivial⟩, if_neg (by omega), if_pos ⟨hB, hml⟩]
   simp only [List.drop_zero, zap]
   rw [← hl, List.take_length]
  ·refine k _ _ (.opn (.inr ⟨H.next + 1, rfl, zao _ _, ?_⟩) fun i hi => ?_) ⟨by rw [zap, zap]; omega, fun i hi _ => ?_, fun i hi => .inr ?_⟩
   ·rw [List.length_append, hl, hx, Nat.succ_mul]
   ·simp only [V.pid, Option.some.injEq] at hi
    subst hi
    rw [zap, zap]; omega
   ·rw [zat _ _ (by rw [zap]; omega), zat _ _ (by omega)]
   ·simp only [V.pid, Option.toList_some, List.mem_singleton] at hi
    subst hi
    rw [zap, zap]; omega
end
end Go.Ax
namespace Go.Ax.D9
open Go.Ax B6
def Sg (e : Int) (l : List Nat) (at' : Nat) : St → Prop
 | .ok bs => e = 0 ∧ bs = (ub l).drop at'
 | .error c => e = c ∧ c ≠ 0 ∧ -9223372036854775808 ≤ c ∧ c ≤ 9223372036854775807
structure PR (a m rb : Nat) (σ : St) (H : Heap) : Prop where
 ex : ∃ rk e at' l, H.get rb = some ⟨zeA, [.ptr rk 0, .int .i64 e], none⟩ ∧ PRd H (a, rb) rk l at' ∧ Sg e l at' σ
 low : a ≤ rb ∧ rb < m ∧ m ≤ H.next
section
variable {a m rb : Nat} {σ : St} {H H' : Heap}
theorem PR.keep (h : PR a m rb σ H) (hs : ∀ i, a ≤ i → i < m → H'.get i = H.get i) (hn : H.next ≤ H'.next) : PR a m rb σ H' := by
 obtain ⟨⟨rk, e, at', l, h1, h3, h6⟩, h7, h8, h9⟩ := h
 exact ⟨⟨rk, e, at', l, (hs rb h7 h8).trans h1, h3.frame fun i h1 h2 => hs i h1 (Nat.lt_trans h2 h8), h6⟩, h7, h8, by omega⟩
theorem PR.ko {B : Heap} (h : PR a m rb σ H) (hs : ∀ i, i < m → H'.get i = H.get i) (hn : H.next ≤ H'.next) : PR a m rb σ H' := h.keep (fun i _ hi => hs i hi) hn
theorem PR.grow (h : PR a m rb σ H) (g : Grow H H') : PR a m rb σ H' := h.keep (fun i _ hi => g.same i (by have := h.low; omega)) g.next
theorem PR.set (h : PR a m rb σ H) {w : Nat} (hw : w < a ∨ m ≤ w) (b : Option Blk) : PR a m rb σ (H.set w b) := h.keep (fun i _ hi => zai _ _ (by omega)) (Nat.le_refl _)
theorem PR.step {F F' : List Nat} (h : PR a m rb σ H) (s : Step H H' F F') (hF : ∀ i ∈ F, m ≤ i) : PR a m rb σ H' := h.keep (fun i _ hi => s.same i (by have := h.low; omega) fun k => by have := hF i k; omega) s.next
def St.err : St → Int
 | .ok _ => 0
 | .error c => c
theorem PR.get (h : PR a m rb σ H) : ∃ rk, H.get rb = some ⟨zeA, [.ptr rk 0, .int .i64 (St.err σ)], none⟩ := by
 obtain ⟨⟨rk, e, at', l, h1, h3, h6⟩, h7⟩ := h
 refine ⟨rk, ?_⟩
 cases σ with
 | ok bs => rw [h1, h6.1]; rfl
 | error c => rw [h1, h6.1]; rfl
theorem PR.rng (h : PR a m rb σ H) : -9223372036854775808 ≤ St.err σ ∧ St.err σ ≤ 9223372036854775807 ∧ (St.err σ = 0 ↔ ∃ bs, σ = .ok bs) := by
 obtain ⟨⟨rk, e, at', l, h1, h3, h6⟩, h7⟩ := h
 cases σ with
 | ok bs => exact ⟨(by decide : (-9223372036854775808 : Int) ≤ 0), (by decide : (0 : Int) ≤ 9223372036854775807), ⟨fun _ => ⟨bs, rfl⟩, fun _ => rfl⟩⟩
 | error c => exact ⟨h6.2.2.1, h6.2.2.2, ⟨fun h => absurd h h6.2.1, fun ⟨bs, h⟩ => by cases h⟩⟩
end
end Go.Ax.D9
/- Ax26 -/
namespace Go.Ax
def gv (b w : Bool) (v : V) : V := if b = w then v else .undef
section
variable {b w : Bool} {v x y : V} {α β : Type} {H : Heap} {f : V → M β} {Q : β → Heap → Prop}
theorem gv_tt : gv true true v = v := rfl
theorem gv_ff : gv false false v = v := rfl
theorem gv_tf : gv true false v = .undef := rfl
theorem gv_ft : gv false true v = .undef := rfl
theorem g_congr {x y : M V} (h : b = w → x = y) : zaa [(0, .bool b)] (some (0, w)) x = zaa [(0, .bool b)] (some (0, w)) y := by
 show (if b = w then x else M.pure .undef) = (if b = w then y else M.pure .undef)
 by_cases e : b = w
 ·rw [if_pos e, if_pos e, h e]
 ·rw [if_neg e, if_neg e]
theorem gv_on (h : b = w) : gv b w v = v := if_pos h
theorem g_pure : zaa [(0, .bool b)] (some (0, w)) (M.pure v) = M.pure (gv b w v) := by
 show (if b = w then M.pure v else M.pure .undef) = _
 unfold gv
 split <;> rfl
theorem g_lift : zaa [(0, .bool b)] (some (0, w)) (M.lift (some v)) = M.pure (gv b w v) := g_pure
theorem g_pgv : zaa [(0, .bool b)] (some (0, w)) (M.pure (gv b w v)) = M.pure (gv b w v) := by
 rw [g_pure]; unfold gv; split <;> rfl
theorem g_load {n : Option Nat} : zaa [(0, .bool b)] (some (0, w)) (zab n (gv b w x)) = zaa [(0, .bool b)] (some (0, w)) (zab n x) := g_congr fun h => by rw [gv_on h]
theorem g_nilck : zaa [(0, .bool b)] (some (0, w)) (M.lift (Ax.nilck (gv b w x))) = zaa [(0, .bool b)] (some (0, w)) (M.lift (Ax.nilck x)) := g_congr fun h => by rw [gv_on h]
theorem g_faddr {o : Nat} : zaa [(0, .bool b)] (some (0, w)) (M.lift (Ax.faddr o (gv b w x))) = zaa [(0, .bool b)] (some (0, w)) (M.lift (Ax.faddr o x)) := g_congr fun h => by rw [gv_on h]
theorem g_un {op : UnOp} : zaa [(0, .bool b)] (some (0, w)) (M.lift (Ax.un op (gv b w x))) = zaa [(0, .bool b)] (some (0, w)) (M.lift (Ax.un op x)) := g_congr fun h => by rw [gv_on h]
theorem g_cint {k : IntKind} : zaa [(0, .bool b)] (some (0, w)) (M.lift (Ax.cint k (gv b w x))) = zaa [(0, .bool b)] (some (0, w)) (M.lift (Ax.cint k x)) := g_congr fun h => by rw [gv_on h]
theorem g_vlen : zaa [(0, .bool b)] (some (0, w)) (M.lift (Ax.vlen (gv b w x))) = zaa [(0, .bool b)] (some (0, w)) (M.lift (Ax.vlen x)) := g_congr fun h => by rw [gv_on h]
theorem g_slen : zaa [(0, .bool b)] (some (0, w)) (M.lift (Ax.slen (gv b w x))) = zaa [(0, .bool b)] (some (0, w)) (M.lift (Ax.slen x)) := g_congr fun h => by rw [gv_on h]
theorem g_ext {i : Nat} : zaa [(0, .bool b)] (some (0, w)) (M.lift (Ax.ext i (gv b w x))) = zaa [(0, .bool b)] (some (0, w)) (M.lift (Ax.ext i x)) := g_congr fun h => by rw [gv_on h]
theorem g_field {o : Nat} {n : Option Nat} : zaa [(0, .bool b)] (some (0, w)) (M.lift (Ax.field o n (gv b w x))) = zaa [(0, .bool b)] (some (0, w)) (M.lift (Ax.field o n x)) := g_congr fun h => by rw [gv_on h]
theorem g_bin1 {op : BinOp} : zaa [(0, .bool b)] (some (0, w)) (M.lift (Ax.bin op (gv b w x) y)) = zaa [(0, .bool b)] (some (0, w)) (M.lift (Ax.bin op x y)) := g_congr fun h => by rw [gv_on h]
theorem g_bin2 {op : BinOp} : zaa [(0, .bool b)] (some (0, w)) (M.lift (Ax.bin op x (gv b w y))) = zaa [(0, .bool b)] (some (0, w)) (M.lift (Ax.bin op x y)) := g_congr fun h => by rw [gv_on h]
theorem g_eqr1 {k : EK} {n : Bool} : zaa [(0, .bool b)] (some (0, w)) (M.lift (eqr k n (gv b w x) y)) = zaa [(0, .bool b)] (some (0, w)) (M.lift (eqr k n x y)) := g_congr fun h => by rw [gv_on h]
theorem g_eqr2 {k : EK} {n : Bool} : zaa [(0, .bool b)] (some (0, w)) (M.lift (eqr k n x (gv b w y))) = zaa [(0, .bool b)] (some (0, w)) (M.lift (eqr k n x y)) := g_congr fun h => by rw [gv_on h]
theorem g_iaddr1 {a : Option Nat} {e : Nat} : zaa [(0, .bool b)] (some (0, w)) (M.lift (Ax.iaddr a e (gv b w x) y)) = zaa [(0, .bool b)] (some (0, w)) (M.lift (Ax.iaddr a e x y)) := g_congr fun h => by rw [gv_on h]
theorem g_iaddr2 {a : Option Nat} {e : Nat} : zaa [(0, .bool b)] (some (0, w)) (M.lift (Ax.iaddr a e x (gv b w y))) = zaa [(0, .bool b)] (some (0, w)) (M.lift (Ax.iaddr a e x y)) := g_congr fun h => by rw [gv_on h]
theorem g_heap {x y : M V} (h : x H = y H) : @OkB V β (zaa [(0, .bool b)] (some (0, w)) x) H ⟨f⟩ ⟨Q⟩ ↔ @OkB V β (zaa [(0, .bool b)] (some (0, w)) y) H ⟨f⟩ ⟨Q⟩ := by
 have e : (zaa [(0, .bool b)] (some (0, w)) x) H = (zaa [(0, .bool b)] (some (0, w)) y) H := by
  show (if b = w then x else M.pure .undef) H = (if b = w then y else M.pure .undef) H
  by_cases e : b = w
  ·rw [if_pos e, if_pos e, h]
  ·rw [if_neg e, if_neg e]
 show Ok (M.bind _ _) _ _ ↔ Ok (M.bind _ _) _ _
 unfold Ok
 simp only [M.bind, e]
theorem g_loadp {n : Option Nat} {id off : Nat} : @OkB V β (zaa [(0, .bool b)] (some (0, w)) (zab n (.ptr id off))) H ⟨f⟩ ⟨Q⟩ ↔ @OkB V β (zaa [(0, .bool b)] (some (0, w)) (M.lift ((H.get id).bind fun b => ldc n b.cells off))) H ⟨f⟩ ⟨Q⟩ :=
 g_heap (by
  simp only [zab, M.lift]
  cases H.get id with
  | none => rfl
  | some b => rfl)
theorem g_loadr {n : Option Nat} {cells : List V} {off : Nat} : zaa [(0, .bool b)] (some (0, w)) (zab n (.rp cells off)) = zaa [(0, .bool b)] (some (0, w)) (M.lift (ldc n cells off)) := g_congr fun _ => rfl
theorem pick_gt {c : Bool} : Ax.pick (.bool b) (gv b true (.bool c)) (.bool false) = some (.bool (b && c)) := by cases b <;> rfl
theorem pick_gf {c : Bool} : Ax.pick (.bool b) (.bool true) (gv b false (.bool c)) = some (.bool (b || c)) := by cases b <;> rfl
end
def RG := And.intro @gv_tt <| And.intro @gv_ff <| And.intro @gv_tf <| And.intro @gv_ft <| And.intro @g_pgv <| And.intro @g_pure <| And.intro @g_lift <| And.intro @g_load <| And.intro @g_nilck <| And.intro @g_faddr <| And.intro @g_un <| And.intro @g_cint <| And.intro @g_vlen <| And.intro @g_slen <| And.intro @g_ext <| And.intro @g_field <| And.intro @g_bin1 <| And.intro @g_bin2 <| And.intro @g_eqr1 <| And.intro @g_eqr2 <| And.intro @g_iaddr1 <| And.intro @g_iaddr2 <| And.intro @g_loadp <| And.intro @g_loadr <| And.intro @pick_gt @pick_gf
end Go.Ax
/- Lan1 -/
namespace Go.Ax.LN
open Go.Ax D9
def byw (n : Nat) : V := .int .u16 (n : Nat)
abbrev Wl (lo : Nat) (H : Heap) (v : V) (l : List Nat) : Prop := Lc 1 lo H v (l.map byw) l.length
theorem wl_at {lo : Nat} {H : Heap} {v : V} {l : List Nat} (h : Wl lo H v l) {i : Nat} (hi : i < l.length) : ∃ p, (∀ {k : IntKind}, Ax.iaddr none 1 v (.int k (i : Nat)) = some p) ∧ LdR none H p (.int .u16 (l[i] : Nat)) ∧ p.pid = v.pid := by
 obtain ⟨p, hp, hpl⟩ := h.at (i := (i : Nat)) (by omega) (by omega)
 have e : ((l.map byw).drop ((i : Int).toNat * 1)).take 1 = [byw l[i]] := by
  rw [Int.toNat_natCast, Nat.mul_one, ← List.map_drop, List.drop_eq_getElem_cons hi]; rfl
 rw [e] at hpl
 refine ⟨p, hp, fun f Q => ?_, hpl.pid.1⟩
 rw [hpl.ld0 (by simp)]; exact b_lift
theorem Contains_ok {lo : Nat} {H : Heap} {v : V} {l : List Nat} (h : Wl lo H v l) (n : Nat) (hl : l.length ≤ 1048576) : Ok (sem T zaQ [v, .int .u16 (n : Nat)]) H fun r H' => r = .bool (decide (n ∈ l)) ∧ H' = H := by
 refine zc6 ?_
 unfold zb1
 have hix : Ok (sem T zbc [v, .int .u16 (n : Nat)]) H fun r H' => ∃ i : Int, r = .int .i64 i ∧ (0 ≤ i ↔ n ∈ l) ∧ H' = H := by
  refine zdw ?_
  unfold zcn
  simp (disch := omega) only [↓RD, RZ, h.vlen]
  refine zaM (Q := fun r H' => H' = H ∧ ((r = Res.ex 0 [] ∧ n ∉ l) ∨ (∃ k : Nat, r = .ret [.int .i64 (k : Nat)] ∧ n ∈ l))) ?_ ?_
  ·refine zaP (fun k L H' => L = [.int .i64 (k : Nat)] ∧ H' = H ∧ n ∉ l.take k) l.length ?_ ?_ ?_
   ·exact ⟨rfl, rfl, by simp⟩
   ·rintro k L H1 hk ⟨rfl, rfl, hP⟩
    obtain ⟨p, hp, lp, -⟩ := wl_at h hk
    unfold zbr
    by_cases e1 : n = l[k]
    ·simp (disch := omega) only [↓RD, RZ, hp, lp, ← e1]
     exact .inr ⟨k, by rfl, by rw [e1]; exact List.getElem_mem hk⟩
    ·have e2 : ¬ ((n : Nat) : Int) = ((l[k] : Nat) : Int) := by omega
     simp (disch := omega) only [↓RD, RZ, hp, lp, e2]
     refine ⟨by rfl, ?_⟩
     rw [List.take_succ_eq_append_getElem hk, List.mem_append, List.mem_singleton]
     exact fun h => h.elim hP e1
   ·rintro L H1 ⟨rfl, rfl, hP⟩
    unfold zbr
    simp (disch := omega) only [↓RD, RZ]
    rw [List.take_length] at hP
    exact .inl hP
  ·rintro r H' ⟨rfl, ⟨rfl, h⟩ | ⟨k, rfl, h⟩⟩
   ·simp (disch := omega) only [↓RD, RZ]
    exact ⟨-1, rfl, ⟨fun h1 => by omega, fun h1 => absurd h1 h⟩⟩
   ·simp (disch := omega) only [↓RD, RZ]
    exact ⟨k, rfl, ⟨fun _ => h, fun _ => by omega⟩⟩
 refine zac hix ?_
 rintro _ H1 ⟨i, rfl, hi, rfl⟩
 simp (disch := omega) only [↓RD, RZ]
 rw [decide_eq_decide.2 hi]
theorem Has_ok {lo : Nat} {H : Heap} {v : V} {l : List Nat} (h : Wl lo H v l) (n : Nat) (hl : l.length ≤ 1048576) : Ok (sem T zdS [v, .int .u16 (n : Nat)]) H fun r H' => r = .bool (decide (n ∈ l)) ∧ H' = H := by
 refine zg2 ?_
 unfold zgs
 refine zac (Contains_ok h n hl) ?_
 rintro _ H1 ⟨rfl, rfl⟩
 simp (disch := omega) only [↓RD, RZ]
def sub16 (n : Nat) (d : Int) : Nat := (n + 65536 - d.toNat) % 65536
def fit (l : List Nat) (n : Nat) (ds : List Int) : Bool := ds.all fun d => decide (1 ≤ d ∧ d ≤ 4096 ∧ sub16 n d ∈ l)
theorem Fit_ok {lo lo' : Nat} {H : Heap} {v w : V} {l : List Nat} {ds : List Int} (h : Wl lo H v l) (hd : Il lo' H w ds) (n : Nat) (hn : n < 65536) (hl : l.length ≤ 1048576) (hdl : ds.length ≤ 1048576) :
  Ok (sem T zew [v, .int .u16 (n : Nat), w]) H fun r H' => r = .bool (fit l n ds) ∧ H' = H := by
 refine zg3 ?_
 unfold zgt
 simp (disch := omega) only [↓RD, RZ, hd.vlen]
 refine zaM (Q := fun r H' => H' = H ∧ ((r = Res.ex 0 [] ∧ fit l n ds = true) ∨ (r = .ret [.bool false] ∧ fit l n ds = false))) ?_ ?_
 ·refine zaP (fun k L H' => L = [.int .i64 (k : Nat)] ∧ H' = H ∧ fit l n (ds.take k) = true) ds.length ?_ ?_ ?_
  ·exact ⟨rfl, rfl, rfl⟩
  ·rintro k L H1 hk ⟨rfl, rfl, hP⟩
   obtain ⟨p, hp, lp, -⟩ := il_at hd (i := (k : Nat)) (by omega) (by omega)
   rw [Int.toNat_natCast, getD_get hk] at lp
   have hno : ¬ (1 ≤ ds[k] ∧ ds[k] ≤ 4096 ∧ sub16 n ds[k] ∈ l) → fit l n ds = false := fun hc => by
    unfold fit
    rw [List.all_eq_false]
    exact ⟨ds[k], List.getElem_mem hk, by rw [decide_eq_false hc]; decide⟩
   unfold zeZ
   by_cases c1 : ds[k] < 1
   ·simp (disch := omega) only [↓RD, RZ, hp, lp]
    exact .inr (hno (by omega))
   ·by_cases c2 : 4096 < ds[k]
    ·simp (disch := omega) only [↓RD, RZ, hp, lp]
     exact .inr (hno (by omega))
    ·have w1 : IntKind.u16.wrap ds[k] = ds[k] := wrapin_u16 (by omega) (by omega)
     have w2 : IntKind.u16.wrap ((n : Nat) - ds[k]) = ((sub16 n ds[k] : Nat) : Int) := by rw [wrap_u16]; unfold sub16; omega
     have hh := @zcc _ _ _ _ (Has_ok h (sub16 n ds[k]) hl)
     simp (disch := omega) only [↓RD, RZ, hp, lp, w1, bin_sub, w2, hh]
     by_cases c3 : sub16 n ds[k] ∈ l
     ·simp (disch := omega) only [↓RD, RZ, decide_eq_true c3]
      refine ⟨by rfl, ?_⟩
      unfold fit at hP ⊢
      rw [List.take_succ_eq_append_getElem hk, List.all_append, hP, List.all_cons, List.all_nil, decide_eq_true ⟨by omega, by omega, c3⟩]; rfl
     ·simp (disch := omega) only [↓RD, RZ, decide_eq_false c3]
      exact .inr (hno (fun h => c3 h.2.2))
  ·rintro L H1 ⟨rfl, rfl, hP⟩
   rw [List.take_length] at hP
   unfold zeZ
   simp (disch := omega) only [↓RD, RZ]
   exact .inl hP
 ·rintro r H' ⟨rfl, ⟨rfl, h⟩ | ⟨rfl, h⟩⟩
  ·simp (disch := omega) only [↓RD, RZ]
   rw [h]
  ·simp (disch := omega) only [↓RD, RZ]
   rw [h]
theorem CloneW_ok {lo : Nat} {H : Heap} {v : V} {l : List Nat} (h : Wl lo H v l) (hl : l.length ≤ 1099511627776) : Ok (sem T zbe [v]) H fun r H' => App za9 1 H.next H' r (l.map byw) l.length ∧ Grow H H' := by
 refine zdy ?_
 unfold zcp
 rcases h.cases with ⟨rfl, hc, hn⟩ | ⟨id, off, cap, b, rfl, _⟩ | ⟨cs, rfl, _⟩
 ·simp (disch := omega) only [↓RD, RZ]
  have : l = [] := List.eq_nil_of_length_eq_zero hn
  subst this
  exact ⟨App.nil, Grow.refl _⟩
 ·simp (disch := omega) only [↓RD, RZ]
  refine okb_copy h.ac (fun i hi => (h.own i hi).2) (by simp) (by omega) (by omega) fun x' H' ha hg => ?_
  simp (disch := omega) only [↓RD, RZ]
  exact ⟨ha, hg⟩
 ·simp (disch := omega) only [↓RD, RZ]
  refine okb_copy h.ac (fun i hi => (h.own i hi).2) (by simp) (by omega) (by omega) fun x' H' ha hg => ?_
  simp (disch := omega) only [↓RD, RZ]
  exact ⟨ha, hg⟩
theorem Grow.own {B H H' : Heap} {F F' : List Nat} (g : Grow B H) (s : Step H H' F F') (hF : ∀ i ∈ F, B.next ≤ i) : Grow B H' :=
 ⟨Nat.le_trans g.next s.next, fun i hi => by rw [s.same i (by have := g.next; omega) (fun hm => by have := hF i hm; omega), g.same i hi]⟩
theorem mem_swap {l : List Nat} {i j : Nat} (hi : i < l.length) (hj : j < l.length) (x : Nat) : x ∈ (l.set i l[j]).set j l[i] ↔ x ∈ l := by
 constructor
 ·intro h
  rcases List.mem_or_eq_of_mem_set h with h | rfl
  ·rcases List.mem_or_eq_of_mem_set h with h | rfl
   ·exact h
   ·exact List.getElem_mem hj
  ·exact List.getElem_mem hi
 ·intro h
  obtain ⟨k, hk, rfl⟩ := List.getElem_of_mem h
  by_cases e1 : k = j
  ·subst e1
   by_cases e2 : i = k
   ·subst e2
    exact List.mem_iff_getElem.2 ⟨i, by simp [hi], by simp⟩
   ·exact List.mem_iff_getElem.2 ⟨i, by simp [hi], by rw [List.getElem_set_ne (by omega), List.getElem_set_self]⟩
  ·by_cases e2 : k = i
   ·subst e2
    exact List.mem_iff_getElem.2 ⟨j, by simp [hj], by rw [List.getElem_set_self]⟩
   ·exact List.mem_iff_getElem.2 ⟨k, by simp [hk], by rw [List.getElem_set_ne (by omega), List.getElem_set_ne (by omega)]⟩
def Rv (id : Nat) (cap : Cap) (o : Option Nat) (l : List Nat) (H H' : Heap) : Prop :=
 H'.next = H.next ∧ (∀ i, i ≠ id → H'.get i = H.get i) ∧ ∃ l' : List Nat, H'.get id = some ⟨za9, l'.map byw, o⟩ ∧ l'.length = l.length ∧ ∀ x, x ∈ l' ↔ x ∈ l
theorem map_at {l : List Nat} {i : Nat} (hi : i < l.length) : (l.map byw)[i]? = some (.int .u16 (l[i] : Nat)) := by
 rw [List.getElem?_map, List.getElem?_eq_getElem hi]; rfl
theorem Reverse_ok {H : Heap} {id n : Nat} {cap : Cap} {o : Option Nat} {l : List Nat} (hn : n = l.length) (hg : H.get id = some ⟨za9, l.map byw, o⟩) (hl : l.length ≤ 1048576) :
  Ok (sem T za0 [.sl id 0 n cap]) H fun r H' => Rv id cap o l H H' := by
 subst hn
 refine zde ?_
 unfold zb7
 have hvl : Ax.vlen (.sl id 0 l.length cap) = some (.int .i64 (l.length : Nat)) := rfl
 simp (disch := omega) only [↓RD, RZ, hvl]
 refine zej (fun L H' m => ∃ i j : Int, L = [.int .i64 i, .int .i64 j] ∧ 0 ≤ i ∧ j < l.length ∧ -1 ≤ j ∧ i ≤ l.length ∧ (m : Int) = l.length + j - i + 1 ∧ Rv id cap o l H H') (2 * l.length) ?_ ?_
 ·exact ⟨0, (l.length : Nat) - 1, rfl, by omega, by omega, by omega, by omega, by omega, rfl, fun i _ => rfl, l, hg, rfl, fun x => Iff.rfl⟩
 ·rintro L H1 m ⟨i, j, rfl, i0, j1, j0, i1, hm, hn1, hs, l', hg', hl', hmem⟩
  unfold zbX
  by_cases hij : i < j
  ·obtain ⟨a, rfl⟩ := Int.eq_ofNat_of_zero_le i0
   obtain ⟨b, rfl⟩ := Int.eq_ofNat_of_zero_le (show 0 ≤ j by omega)
   have ia : ∀ {k : IntKind}, Ax.iaddr none 1 (.sl id 0 l.length cap) (.int k ((a : Nat) : Int)) = some (.ptr id a) := fun {k} => by
    simp only [Ax.iaddr]; rw [if_pos (by omega)]; simp
   have ib : ∀ {k : IntKind}, Ax.iaddr none 1 (.sl id 0 l.length cap) (.int k ((b : Nat) : Int)) = some (.ptr id b) := fun {k} => by
    simp only [Ax.iaddr]; rw [if_pos (by omega)]; simp
   have ha : a < l'.length := by omega
   have hb : b < l'.length := by omega
   have sp1 : splice (l'.map byw) a [.int .u16 (l'[b] : Nat)] = (l'.set a l'[b]).map byw := by
    rw [sp_set _ _ _ (by rw [List.length_map]; exact ha), List.map_set]; rfl
   have sp2 : splice ((l'.set a l'[b]).map byw) b [.int .u16 (l'[a] : Nat)] = ((l'.set a l'[b]).set b l'[a]).map byw := by
    rw [sp_set _ _ _ (by rw [List.length_map, List.length_set]; exact hb)]; exact List.map_set.symm
   simp (disch := omega) only [↓RD, RZ, ia, ib, hg', map_at ha, map_at hb, sp1, sp2, List.length_map, List.length_set]
   refine ⟨by omega, by omega, (l.length + ((b : Nat) - 1) - ((a : Nat) + 1) + 1 : Int).toNat, by omega, ((a : Nat) : Int) + 1, ((b : Nat) : Int) - 1, by rfl, by omega, by omega, by omega, by omega, by omega, ?_, fun i hi => ?_, (l'.set a l'[b]).set b l'[a], ?_, by simp [hl'], fun x => (mem_swap ha hb x).trans (hmem x)⟩
   ·rw [zaL, zaL]; exact hn1
   ·rw [zai _ _ hi, zai _ _ hi]; exact hs i hi
   ·rw [zan]
  ·simp (disch := omega) only [↓RD, RZ]
   exact ⟨hn1, hs, l', hg', hl', hmem⟩
theorem App.blk' {ty e lo n : Nat} {H : Heap} {v : V} {cells : List V} (h : App ty e lo H v cells n) : (v = .nils ∧ cells = [] ∧ n = 0) ∨ ∃ id cap o, v = .sl id 0 n cap ∧ H.get id = some ⟨ty, cells, o⟩ ∧ lo ≤ id ∧ id < H.next ∧ V.capOk e v := by
 cases h with
 | opn h ho =>
  rcases h with ⟨rfl, h1, h2⟩ | ⟨id, rfl, hg, hl⟩
  ·exact .inl ⟨rfl, h1, h2⟩
  ·exact .inr ⟨id, _, _, rfl, hg, (ho id rfl).1, (ho id rfl).2, rfl⟩
 | lit h h0 h1 => exact .inr ⟨_, _, _, rfl, h, h0, h1, Nat.le_refl _⟩
theorem Af.blk' {ty e lo n : Nat} {H : Heap} {v : V} {cells : List V} (h : Af ty e lo H v cells n) : (v = .nils ∧ cells = [] ∧ n = 0) ∨ ∃ id cap o, v = .sl id 0 n cap ∧ H.get id = some ⟨ty, cells, o⟩ ∧ lo ≤ id ∧ id < H.next ∧ V.capOk e v := by
 cases h with
 | opn h ho =>
  rcases h with ⟨rfl, h1, h2⟩ | ⟨id, rfl, hg, hl⟩
  ·exact .inl ⟨rfl, h1, h2⟩
  ·exact .inr ⟨id, _, _, rfl, hg, (ho id rfl).1, (ho id rfl).2, rfl⟩
 | full h hl h0 h1 => exact .inr ⟨_, _, _, rfl, h, h0, h1, Nat.le_refl _⟩
set_option maxHeartbeats 1600000 in
theorem Add_ok {lo : Nat} {H : Heap} {v : V} {l : List Nat} (h : Wl lo H v l) (n : Nat) (hl : l.length ≤ 255) :
  Ok (sem T zex [v, .int .u16 (n : Nat)]) H fun r H' => (∃ l' : List Nat, Wl H.next H' r l' ∧ l'.length ≤ l.length + 1 ∧ ∀ x, x ∈ l' ↔ x ∈ l ∨ x = n) ∧ Grow H H' := by
 refine zg4 ?_
 unfold zgu
 refine zac (CloneW_ok h (by omega)) ?_
 rintro t9 H1 ⟨h1, s1⟩
 simp (disch := omega) only [↓RD, RZ]
 have n1 := s1.next
 have s01 := Grow.new H1 ⟨za9, [.int .u16 (n : Nat)], none⟩
 have h1' : App za9 1 H.next (H1.new ⟨za9, [.int .u16 (n : Nat)], none⟩) t9 (l.map byw) l.length := h1.keep (s01.keep _)
 refine zfk h1' (by rw [zap]; omega) (acells_fresh (by rfl)) (by rfl) (by omega) (by omega) fun all H2 h2 st2 => ?_
 have e1 : l.map byw ++ [.int .u16 (n : Nat)] = (l ++ [n]).map byw := by rw [List.map_append]; rfl
 rw [e1] at h2
 have hm : (l ++ [n]).length = l.length + 1 := by rw [List.length_append]; rfl
 rw [← hm] at h2
 have g2 : Grow H H2 := Grow.own (s1.trans s01) st2 fun i hi => (h1'.lc.own i (mem_pid.1 hi)).1
 have hal : Wl H.next H2 all (l ++ [n]) := h2.lc
 have n2 := g2.next
 simp (disch := omega) only [↓RD, RZ, hal.vlen]
 have has : ∀ x, x ∈ l ++ [n] ↔ x ∈ l ∨ x = n := fun x => by rw [List.mem_append, List.mem_singleton]
 clear h2 st2 h1 h1' s01 e1
 generalize l ++ [n] = al at *
 refine zaM (Q := fun r H' => ∃ (w : V) (out : List Nat), r = .ex 0 [w] ∧ Af za9 1 H2.next H' w (out.map byw) out.length ∧ out.length ≤ al.length ∧ (∀ x, x ∈ out ↔ x ∈ al) ∧ Grow H2 H') ?_ ?_
 ·refine zaP (fun k L H' => ∃ (w : V) (out : List Nat), L = [w, .int .i64 ((al.length : Nat) - 1 - (k : Nat))] ∧ Af za9 1 H2.next H' w (out.map byw) out.length ∧ out.length ≤ k ∧ (∀ x, x ∈ out ↔ x ∈ al.drop (al.length - k)) ∧ Grow H2 H') al.length ?_ ?_ ?_
  ·exact ⟨.nils, [], by simp, Af.nil, by simp, fun x => by simp, Grow.refl _⟩
  ·rintro k L H3 hk ⟨w, out, rfl, hw, hol, hmem, g3⟩
   obtain ⟨j, hj⟩ : ∃ j : Nat, al.length - 1 - k = j := ⟨_, rfl⟩
   have ej : ((al.length : Nat) : Int) - 1 - (k : Nat) = (j : Nat) := by omega
   have hjl : j < al.length := by omega
   have ek : ((al.length : Nat) : Int) - 1 - (k : Nat) - 1 = ((al.length : Nat) : Int) - 1 - ((k + 1 : Nat) : Int) := by omega
   obtain ⟨p, hp, lp, -⟩ := wl_at (hal.ext g3) hjl
   have hcb := @zcc _ _ _ _ (Contains_ok hw.lc al[j] (by omega))
   have hd : al.drop (al.length - (k + 1)) = al[j] :: al.drop (al.length - k) := by
    rw [show al.length - (k + 1) = j by omega, List.drop_eq_getElem_cons hjl, show j + 1 = al.length - k by omega]
   unfold ze0
   simp (disch := omega) only [↓RD, RZ, ej, hw.lc.vlen, hp, lp, hcb]
   by_cases hin : al[j] ∈ out
   ·simp (disch := omega) only [↓RD, RZ, decide_eq_true hin]
    refine ⟨w, out, by rw [ek], hw, by omega, fun x => ?_, g3⟩
    rw [hd, List.mem_cons, ← hmem]
    exact ⟨fun h => .inr h, fun h => h.elim (fun e => by rw [e]; exact hin) id⟩
   ·simp (disch := omega) only [↓RD, RZ, decide_eq_false hin, ej, hp, lp]
    refine okb_snoc hw g3.next (by rfl) (by decide) (by omega) fun w' H4 hw' s4 => ?_
    simp (disch := omega) only [↓RD, RZ]
    have e2 : out.map byw ++ [.int .u16 (al[j] : Nat)] = (out ++ [al[j]]).map byw := by rw [List.map_append]; rfl
    rw [e2] at hw'
    refine ⟨w', out ++ [al[j]], by rw [ek], by simpa using hw', by simp; omega, fun x => ?_, Grow.own g3 s4 fun i hi => (hw.lc.own i (mem_pid.1 hi)).1⟩
    rw [hd, List.mem_cons, List.mem_append, List.mem_singleton, hmem]
    exact ⟨fun h => h.elim .inr .inl, fun h => h.elim .inr .inl⟩
  ·rintro L H3 ⟨w, out, rfl, hw, hol, hmem, g3⟩
   have ej : ((al.length : Nat) : Int) - 1 - ((al.length : Nat) : Int) = -1 := by omega
   unfold ze0
   simp (disch := omega) only [↓RD, RZ, ej, hw.lc.vlen]
   refine ⟨w, out, by rfl, hw, hol, fun x => ?_, g3⟩
   rw [hmem, Nat.sub_self, List.drop_zero]
 ·rintro _ H3 ⟨w, out, rfl, hw, hol, hmem, g3⟩
  simp (disch := omega) only [↓RD, RZ]
  rcases Af.blk' hw with ⟨rfl, ho, hn0⟩ | ⟨id, cap, o, rfl, hg, i0, i1, hcap⟩
  ·exfalso
   have : out = [] := List.eq_nil_of_length_eq_zero hn0
   subst this
   have := (hmem n).2 ((has n).2 (.inr rfl))
   cases this
  ·have n3 := g3.next
   refine zac (Reverse_ok (cap := cap) rfl hg (by omega)) ?_
   rintro _ H4 ⟨hn4, hs4, l', hg', hl', hm'⟩
   simp (disch := omega) only [↓RD, RZ]
   refine ⟨⟨l', ⟨?_, fun i hi => ?_, hcap⟩, by omega, fun x => by rw [hm', hmem, has]⟩, ?_⟩
   ·simp only [rcells, hg', Option.bind_some]
    rw [if_pos (by rw [List.length_map]; omega), List.drop_zero, hl', List.take_of_length_le (by rw [List.length_map]; omega)]
   ·simp only [V.pid, Option.some.injEq] at hi
    subst hi
    omega
   ·exact ⟨by omega, fun i hi => by rw [hs4 i (by omega), g3.same i (by omega), g2.same i hi]⟩
end Go.Ax.LN
/- Lan2 -/
namespace Go.Ax.LN
open Go.Ax D9
structure Ca where
 any : Bool
 now : Int
 want : Int
def caC (c : Ca) : List V := [.bool c.any, .int .i64 c.now, .int .i64 c.want]
def srcB (i : Int) : Bool := decide (0 ≤ i) && decide (i < 3)
def goodC (c : Ca) : Bool := srcB c.now && srcB c.want && (c.any || decide (c.now = 0))
def runs (c : Ca) (i : Int) : Bool := c.any && decide (c.now = i)
def castOn (c : Ca) (i : Int) (key : Bool) : Ca × Bool × Bool :=
 if goodC c = false then (c, false, false) else if (decide (i = c.want) && key && !runs c i) = true then ({ c with any := true, now := i }, true, true) else (c, runs c i, false)
def castAsk (c : Ca) (i : Int) : Ca × Int := if goodC c = true ∧ srcB i = true then ({ c with want := i }, 0) else (c, 1)
theorem source_ok {H : Heap} (i : Int) : Ok (sem T zcg [.int .i64 i]) H fun r H' => r = .bool (srcB i) ∧ H' = H := by
 refine zgm ?_
 unfold zfB srcB
 by_cases h0 : 0 ≤ i
 ·simp (disch := omega) only [↓RD, RZ, decide_eq_true h0, Bool.true_and]
 ·simp (disch := omega) only [↓RD, RZ, decide_eq_false h0, Bool.false_and]
theorem goodC_ok {H : Heap} (c : Ca) : Ok (sem T zdp [.agg (caC c)]) H fun r H' => r = .bool (goodC c) ∧ Grow H H' := by
 refine zgL ?_
 unfold zgd caC goodC
 have g1 := fun (b : Blk) => Grow.new H b
 have e1 := @zcc _ _ _ _ (source_ok (H := H.new ⟨zaE, [.bool c.any, .int .i64 c.now, .int .i64 c.want], none⟩) c.now)
 have e2 := @zcc _ _ _ _ (source_ok (H := H.new ⟨zaE, [.bool c.any, .int .i64 c.now, .int .i64 c.want], none⟩) c.want)
 cases h1 : srcB c.now with
 | false => simp (disch := omega) only [↓RD, RZ, e1, e2, h1, g1, Bool.false_and]
 | true =>
  cases h2 : srcB c.want with
  | false => simp (disch := omega) only [↓RD, RZ, e1, e2, h1, h2, g1, Bool.false_and, Bool.true_and]
  | true =>
   cases h3 : c.any with
   | true => rw [h3] at e1 e2; simp (disch := omega) only [↓RD, RZ, e1, e2, h1, h2, g1, Bool.true_and, Bool.true_or]
   | false => rw [h3] at e1 e2; simp (disch := omega) only [↓RD, RZ, e1, e2, h1, h2, g1, Bool.true_and, Bool.false_or]; rfl
theorem runs_ok {H : Heap} (c : Ca) (i : Int) : Ok (sem T zbZ [.agg (caC c), .int .i64 i]) H fun r H' => r = .bool (runs c i) ∧ Grow H H' := by
 refine zfJ ?_
 unfold zeE caC runs
 have g1 := fun (b : Blk) => Grow.new H b
 cases h3 : c.any with
 | true => simp (disch := omega) only [↓RD, RZ, g1, Bool.true_and]; rfl
 | false => simp (disch := omega) only [↓RD, RZ, g1, Bool.false_and]
theorem On_ok {H : Heap} (c : Ca) (i : Int) (key : Bool) : Ok (sem T zea [.agg (caC c), .int .i64 i, .bool key]) H fun r H' => r = .tup [.agg (caC (castOn c i key).1), .bool (castOn c i key).2.1, .bool (castOn c i key).2.2] ∧ Grow H H' := by
 refine zhq ?_
 unfold zgU
 unfold caC
 simp (disch := first | omega | (simp only [RY] <;> omega) | decide) only [↓RD, RZ, eq_self, Int.reduceToNat, Int.reduceAdd, Nat.reduceAdd, Nat.reduceSub, Nat.reduceMul, Nat.reduceLeDiff]
 generalize hH1 : Heap.new (Heap.new H _) _ = H1
 have s1 : Grow H H1 := by rw [← hH1]; exact (Grow.new _ _).trans (Grow.new _ _)
 have n1 : H1.next = H.next + 2 := by rw [← hH1]; rfl
 have g1 : H1.get H.next = some ⟨zaE, [.bool c.any, .int .i64 c.now, .int .i64 c.want], none⟩ := by rw [← hH1]; simp (disch := first | omega | (simp only [RY] <;> omega) | decide) only [↓RD, RZ, eq_self, Int.reduceToNat, Int.reduceAdd, Nat.reduceAdd, Nat.reduceSub, Nat.reduceMul, Nat.reduceLeDiff]
 have g1' : H1.get (H.next + 1) = some ⟨zaE, [.bool false, .int .i64 0, .int .i64 0], none⟩ := by rw [← hH1]; simp (disch := first | omega | (simp only [RY] <;> omega) | decide) only [↓RD, RZ, eq_self, Int.reduceToNat, Int.reduceAdd, Nat.reduceAdd, Nat.reduceSub, Nat.reduceMul, Nat.reduceLeDiff]
 clear hH1
 refine zac (goodC_ok c) ?_
 rintro _ H2 ⟨rfl, s2⟩
 have n2 := s2.next
 have g2 : H2.get H.next = _ := (s2.same _ (by omega)).trans g1
 have g2' : H2.get (H.next + 1) = _ := (s2.same _ (by omega)).trans g1'
 have s12 := s1.trans s2
 have fin : ∀ {H3 : Heap} (x : Ca), Grow H H3 → H3.next = H2.next → Grow H (H3.set (H.next + 1) (some ⟨zaE, caC x, none⟩)) := fun x h hn => h.set (by omega) _
 cases hg : goodC c with
 | false =>
  have e : castOn c i key = (c, false, false) := by unfold castOn; rw [if_pos hg]
  simp (disch := first | omega | (simp only [RY] <;> omega) | decide) only [↓RD, RZ, eq_self, Int.reduceToNat, Int.reduceAdd, Nat.reduceAdd, Nat.reduceSub, Nat.reduceMul, Nat.reduceLeDiff, g2, g2', e]
  exact fin c s12 rfl
 | true =>
  simp (disch := first | omega | (simp only [RY] <;> omega) | decide) only [↓RD, RZ, eq_self, Int.reduceToNat, Int.reduceAdd, Nat.reduceAdd, Nat.reduceSub, Nat.reduceMul, Nat.reduceLeDiff, g2]
  refine zaM (Q := fun r H' => (r = Res.nrm [] ∧ Grow H2 H' ∧ (decide (i = c.want) && key && !runs c i) = false) ∨ ((decide (i = c.want) && key && !runs c i) = true ∧ r = .ret [.agg (caC { c with any := true, now := i }), .bool true, .bool true] ∧ Grow H H')) ?_ ?_
  ·by_cases h1 : i = c.want
   ·have d1 : decide (i = c.want) = true := decide_eq_true h1
    cases key with
    | false =>
     simp (disch := first | omega | (simp only [RY] <;> omega) | decide) only [↓RD, RZ, eq_self, Int.reduceToNat, Int.reduceAdd, Nat.reduceAdd, Nat.reduceSub, Nat.reduceMul, Nat.reduceLeDiff, g2, h1, Bool.and_false, Bool.false_and]
     exact .inl (Grow.refl _)
    | true =>
     simp (disch := first | omega | (simp only [RY] <;> omega) | decide) only [↓RD, RZ, eq_self, Int.reduceToNat, Int.reduceAdd, Nat.reduceAdd, Nat.reduceSub, Nat.reduceMul, Nat.reduceLeDiff, g2, h1]
     refine zac (runs_ok c c.want) ?_
     rintro _ H3 ⟨rfl, s3⟩
     have n3 := s3.next
     have g3 : H3.get H.next = _ := (s3.same _ (by omega)).trans g2
     have g3' : H3.get (H.next + 1) = _ := (s3.same _ (by omega)).trans g2'
     cases hr : runs c c.want with
     | true =>
      simp (disch := first | omega | (simp only [RY] <;> omega) | decide) only [↓RD, RZ, eq_self, Int.reduceToNat, Int.reduceAdd, Nat.reduceAdd, Nat.reduceSub, Nat.reduceMul, Nat.reduceLeDiff, g3, Bool.and_false, Bool.not_true]
      exact .inl s3
     | false =>
      simp (disch := first | omega | (simp only [RY] <;> omega) | decide) only [↓RD, RZ, eq_self, Int.reduceToNat, Int.reduceAdd, Nat.reduceAdd, Nat.reduceSub, Nat.reduceMul, Nat.reduceLeDiff, g3, g3', decide_true, Bool.and_true, Bool.not_false]
      refine .inr ⟨by rfl, ?_⟩
      exact ((((s12.trans s3).set (Nat.le_refl _) _).set (Nat.le_refl _) _).set (Nat.le_succ _) _)
   ·simp (disch := first | omega | (simp only [RY] <;> omega) | decide) only [↓RD, RZ, eq_self, Int.reduceToNat, Int.reduceAdd, Nat.reduceAdd, Nat.reduceSub, Nat.reduceMul, Nat.reduceLeDiff, g2, h1, decide_false, Bool.false_and]
    exact .inl (Grow.refl _)
  ·rintro r H3 (⟨rfl, s3, hc⟩ | ⟨hc, rfl, s3⟩)
   ·have n3 := s3.next
    have g3 : H3.get H.next = _ := (s3.same _ (by omega)).trans g2
    have g3' : H3.get (H.next + 1) = _ := (s3.same _ (by omega)).trans g2'
    have e : castOn c i key = (c, runs c i, false) := by unfold castOn; rw [if_neg (by rw [hg]; decide), if_neg (by rw [hc]; decide)]
    simp (disch := first | omega | (simp only [RY] <;> omega) | decide) only [↓RD, RZ, eq_self, Int.reduceToNat, Int.reduceAdd, Nat.reduceAdd, Nat.reduceSub, Nat.reduceMul, Nat.reduceLeDiff, g3]
    refine zac (runs_ok c i) ?_
    rintro _ H4 ⟨rfl, s4⟩
    have g4 : H4.get (H.next + 1) = _ := (s4.same _ (by omega)).trans g3'
    have u4 : H4.get H.next = H3.get H.next := s4.same _ (by omega)
    simp (disch := first | omega | (simp only [RY] <;> omega) | decide) only [↓RD, RZ, eq_self, Int.reduceToNat, Int.reduceAdd, Nat.reduceAdd, Nat.reduceSub, Nat.reduceMul, Nat.reduceLeDiff, u4, g4, e]
    exact ((s12.trans s3).trans s4).set (Nat.le_succ _) _
   ·have e : castOn c i key = ({ c with any := true, now := i }, true, true) := by unfold castOn; rw [if_neg (by rw [hg]; decide), if_pos hc]
    simp (disch := first | omega | (simp only [RY] <;> omega) | decide) only [↓RD, RZ, eq_self, Int.reduceToNat, Int.reduceAdd, Nat.reduceAdd, Nat.reduceSub, Nat.reduceMul, Nat.reduceLeDiff, e]
    exact ⟨rfl, s3⟩
theorem AskC_ok {H : Heap} (c : Ca) (i : Int) : Ok (sem T zdW [.agg (caC c), .int .i64 i]) H fun r H' => r = .tup [.agg (caC (castAsk c i).1), .int .i64 (castAsk c i).2] ∧ Grow H H' := by
 refine zha ?_
 unfold zgw
 unfold caC
 simp (disch := first | omega | (simp only [RY] <;> omega) | decide) only [↓RD, RZ, eq_self, Int.reduceToNat, Int.reduceAdd, Nat.reduceAdd, Nat.reduceSub, Nat.reduceMul, Nat.reduceLeDiff]
 generalize hH1 : Heap.new (Heap.new H _) _ = H1
 have s1 : Grow H H1 := by rw [← hH1]; exact (Grow.new _ _).trans (Grow.new _ _)
 have n1 : H1.next = H.next + 2 := by rw [← hH1]; rfl
 have g1 : H1.get H.next = some ⟨zaE, [.bool c.any, .int .i64 c.now, .int .i64 c.want], none⟩ := by rw [← hH1]; simp (disch := first | omega | (simp only [RY] <;> omega) | decide) only [↓RD, RZ, eq_self, Int.reduceToNat, Int.reduceAdd, Nat.reduceAdd, Nat.reduceSub, Nat.reduceMul, Nat.reduceLeDiff]
 have g1' : H1.get (H.next + 1) = some ⟨zaE, [.bool false, .int .i64 0, .int .i64 0], none⟩ := by rw [← hH1]; simp (disch := first | omega | (simp only [RY] <;> omega) | decide) only [↓RD, RZ, eq_self, Int.reduceToNat, Int.reduceAdd, Nat.reduceAdd, Nat.reduceSub, Nat.reduceMul, Nat.reduceLeDiff]
 clear hH1
 refine zac (goodC_ok c) ?_
 rintro _ H2 ⟨rfl, s2⟩
 have n2 := s2.next
 have g2 : H2.get H.next = _ := (s2.same _ (by omega)).trans g1
 have g2' : H2.get (H.next + 1) = _ := (s2.same _ (by omega)).trans g1'
 have s12 := s1.trans s2
 have es := @zcc _ _ _ _ (source_ok (H := H2) i)
 cases hg : goodC c with
 | false =>
  have e : castAsk c i = (c, 1) := by unfold castAsk; rw [if_neg (by rw [hg]; simp)]
  simp (disch := first | omega | (simp only [RY] <;> omega) | decide) only [↓RD, RZ, eq_self, Int.reduceToNat, Int.reduceAdd, Nat.reduceAdd, Nat.reduceSub, Nat.reduceMul, Nat.reduceLeDiff, g2, g2', e]
  exact s12.set (Nat.le_succ _) _
 | true =>
  cases hs : srcB i with
  | false =>
   have e : castAsk c i = (c, 1) := by unfold castAsk; rw [if_neg (by rw [hs]; simp)]
   simp (disch := first | omega | (simp only [RY] <;> omega) | decide) only [↓RD, RZ, eq_self, Int.reduceToNat, Int.reduceAdd, Nat.reduceAdd, Nat.reduceSub, Nat.reduceMul, Nat.reduceLeDiff, es, hs, g2, g2', e]
   exact s12.set (Nat.le_succ _) _
  | true =>
   have e : castAsk c i = ({ c with want := i }, 0) := by unfold castAsk; rw [if_pos ⟨hg, hs⟩]
   simp (disch := first | omega | (simp only [RY] <;> omega) | decide) only [↓RD, RZ, eq_self, Int.reduceToNat, Int.reduceAdd, Nat.reduceAdd, Nat.reduceSub, Nat.reduceMul, Nat.reduceLeDiff, es, hs, g2, g2', e]
   exact (s12.set (Nat.le_refl _) _).set (Nat.le_succ _) _
/-! How numbers go on. -/
structure Tn where
 any : Bool
 seq : Nat
 ts : Nat
 dts : Nat
 fr : Nat
 dfr : Nat
 at' : Int
def tnC (t : Tn) : List V := [.bool t.any, .int .u16 (t.seq : Nat), .int .u32 (t.ts : Nat), .int .u32 (t.dts : Nat), .int .u16 (t.fr : Nat), .int .u16 (t.dfr : Nat), .int .i64 t.at']
structure TnO (t : Tn) : Prop where
 seq : t.seq < 65536
 ts : t.ts < 4294967296
 dts : t.dts < 4294967296
 fr : t.fr < 65536
 dfr : t.dfr < 65536
 at' : 0 ≤ t.at' ∧ t.at' < 4611686018427387904
def tks (a b : Int) : Nat := if b ≤ a then 1 else min (b - a).toNat 100000
def tbeg (t : Tn) (ts fr : Nat) (now : Int) : Tn :=
 if t.any = true then { t with dts := (t.ts + 90 * tks t.at' now + 4294967296 - ts) % 4294967296, dfr := (t.fr + 65537 - fr) % 65536 } else { t with dts := 0, dfr := 0 }
def tseq (t : Tn) : Nat := if t.any = true then (t.seq + 1) % 65536 else 0
def tots (t : Tn) (ts : Nat) : Nat := (ts + t.dts) % 4294967296
def tofr (t : Tn) (fr : Nat) : Nat := (fr + t.dfr) % 65536
def fwd (any : Bool) (n old size half : Nat) : Nat := if (!any || (decide (1 ≤ (n + size - old) % size) && decide ((n + size - old) % size < half))) = true then n else old
def tout (t : Tn) (ts fr : Nat) (now : Int) : Tn := ⟨true, tseq t, fwd t.any (tots t ts) t.ts 4294967296 2147483648, t.dts, fwd t.any (tofr t fr) t.fr 65536 32768, t.dfr, now⟩
theorem tbeg_o {t : Tn} (h : TnO t) (ts fr : Nat) (now : Int) : TnO (tbeg t ts fr now) := by
 have := h.seq; have := h.ts; have := h.dts; have := h.fr; have := h.dfr; have := h.at'
 unfold tbeg
 split
 ·exact ⟨h.seq, h.ts, Nat.mod_lt _ (by decide), h.fr, Nat.mod_lt _ (by decide), h.at'⟩
 ·exact ⟨h.seq, h.ts, by show 0 < _; decide, h.fr, by show 0 < _; decide, h.at'⟩
theorem tout_o {t : Tn} (h : TnO t) (ts fr : Nat) {now : Int} (hn : 0 ≤ now ∧ now < 4611686018427387904) : TnO (tout t ts fr now) := by
 refine ⟨?_, ?_, h.dts, ?_, h.dfr, hn⟩
 ·show tseq t < 65536
  unfold tseq; split
  ·exact Nat.mod_lt _ (by decide)
  ·decide
 ·unfold tout fwd; dsimp only; split
  ·exact Nat.mod_lt _ (by decide)
  ·exact h.ts
 ·unfold tout fwd; dsimp only; split
  ·exact Nat.mod_lt _ (by decide)
  ·exact h.fr
theorem ticks_ok {H : Heap} {a b : Int} (ha : 0 ≤ a ∧ a < 4611686018427387904) (hb : 0 ≤ b ∧ b < 4611686018427387904) : Ok (sem T zdJ [.int .i64 a, .int .i64 b]) H fun r H' => r = .int .u32 (tks a b : Nat) ∧ H' = H := by
 refine zgz ?_
 unfold zfN tks
 by_cases h : b ≤ a
 ·rw [if_pos h]
  simp (disch := omega) only [↓RD, RZ]
  rfl
 ·rw [if_neg h]
  have w1 : IntKind.u64.wrap b = b := wrapin_u64 (by omega) (by omega)
  have w2 : IntKind.u64.wrap a = a := wrapin_u64 (by omega) (by omega)
  have w3 : IntKind.u64.wrap (b - a) = b - a := wrapin_u64 (by omega) (by omega)
  have mm : Ax.minmax false (.int .u64 (b - a)) [.int .u64 100000] = some (.int .u64 ((min (b - a).toNat 100000 : Nat) : Int)) := by
   simp only [Ax.minmax, Ax.min2, Option.bind_some]
   congr 2
   simp only [Bool.false_eq_true, if_false]
   split <;> omega
  have w4 : IntKind.u32.wrap ((min (b - a).toNat 100000 : Nat) : Int) = ((min (b - a).toNat 100000 : Nat) : Int) := wrapin_u32 (by omega) (by omega)
  simp (disch := omega) only [↓RD, RZ, w1, w2, bin_sub, w3, mm, w4]
set_option maxHeartbeats 1600000 in
theorem Begin_ok {H : Heap} {t : Tn} (h : TnO t) {ts fr : Nat} {now : Int} (h1 : ts < 4294967296) (h2 : fr < 65536) (hn : 0 ≤ now ∧ now < 4611686018427387904) :
  Ok (sem T zcX [.agg (tnC t), .int .u32 (ts : Nat), .int .u16 (fr : Nat), .int .i64 now]) H fun r H' => r = .agg (tnC (tbeg t ts fr now)) ∧ Grow H H' := by
 obtain ⟨o1, o2, o3, o4, o5, o6⟩ := h
 refine zgA ?_
 unfold zfO
 unfold tnC
 have gr : ∀ {H' : Heap}, Grow (Heap.new (Heap.new H ⟨za5, [], none⟩) ⟨za5, [], none⟩) H' → True := fun _ => trivial
 cases ha : t.any with
 | false =>
  have e : tbeg t ts fr now = { t with dts := 0, dfr := 0 } := by unfold tbeg; rw [if_neg (by rw [ha]; decide)]
  simp (disch := first | omega | (simp only [RY] <;> omega) | decide) only [↓RD, RZ, eq_self, Int.reduceToNat, Int.reduceAdd, Nat.reduceAdd, Nat.reduceSub, Nat.reduceMul, Nat.reduceLeDiff, e, ha]
  refine ⟨by rfl, ?_⟩
  repeat (refine Grow.set ?_ (by omega) _)
  exact (Grow.new _ _).trans (Grow.new _ _)
 | true =>
  have e : tbeg t ts fr now = { t with dts := (t.ts + 90 * tks t.at' now + 4294967296 - ts) % 4294967296, dfr := (t.fr + 65537 - fr) % 65536 } := by unfold tbeg; rw [if_pos ha]
  have tk := fun {H : Heap} => fun (f : V → M Res) Q => zcc (f := f) (Q := Q) (ticks_ok (H := H) o6 hn)
  have hk : tks t.at' now ≤ 100000 := by unfold tks; split <;> omega
  generalize tks t.at' now = k at *
  have w1 : IntKind.u32.wrap (90 * ((k : Nat) : Int)) = ((90 * k : Nat) : Int) := by rw [wrap_u32]; omega
  have w2 : IntKind.u32.wrap (((t.ts : Nat) : Int) + ((90 * k : Nat) : Int)) = (((t.ts + 90 * k) % 4294967296 : Nat) : Int) := by rw [wrap_u32]; omega
  have w3 : IntKind.u32.wrap ((((t.ts + 90 * k) % 4294967296 : Nat) : Int) - ((ts : Nat) : Int)) = (((t.ts + 90 * k + 4294967296 - ts) % 4294967296 : Nat) : Int) := by rw [wrap_u32]; omega
  have w4 : IntKind.u16.wrap (((t.fr : Nat) : Int) + 1) = (((t.fr + 1) % 65536 : Nat) : Int) := by rw [wrap_u16]; omega
  have w5 : IntKind.u16.wrap ((((t.fr + 1) % 65536 : Nat) : Int) - ((fr : Nat) : Int)) = (((t.fr + 65537 - fr) % 65536 : Nat) : Int) := by rw [wrap_u16]; omega
  simp (disch := first | omega | (simp only [RY] <;> omega) | decide) only [↓RD, RZ, eq_self, Int.reduceToNat, Int.reduceAdd, Nat.reduceAdd, Nat.reduceSub, Nat.reduceMul, Nat.reduceLeDiff, e, ha, tk, bin_mul, w1, bin_add, w2, bin_sub, w3, w4, w5]
  repeat (refine Grow.set ?_ (by omega) _)
  exact (Grow.new _ _).trans (Grow.new _ _)
set_option maxHeartbeats 3200000 in
theorem Out_ok {H : Heap} {t : Tn} (h : TnO t) {ts fr : Nat} {now : Int} (h1 : ts < 4294967296) (h2 : fr < 65536) :
    Ok (sem T zdR [.agg (tnC t), .int .u32 (ts : Nat), .int .u16 (fr : Nat), .int .i64 now]) H fun r H' => r = .tup [.agg (tnC (tout t ts fr now)), .int .u16 (tseq t : Nat), .int .u32 (tots t ts : Nat), .int .u16 (tofr t fr : Nat)] ∧ Grow H H' := by
  obtain ⟨o1, o2, o3, o4, o5, o6⟩ := h
  refine zgX ?_
  unfold zgn
  unfold tnC
  have w1 : IntKind.u16.wrap (((t.seq : Nat) : Int) + 1) = (((t.seq + 1) % 65536 : Nat) : Int) := by rw [wrap_u16]; omega
  have w2 : IntKind.u32.wrap (((ts : Nat) : Int) + ((t.dts : Nat) : Int)) = ((tots t ts : Nat) : Int) := by rw [wrap_u32]; unfold tots; omega
  have w3 : IntKind.u16.wrap (((fr : Nat) : Int) + ((t.dfr : Nat) : Int)) = ((tofr t fr : Nat) : Int) := by rw [wrap_u16]; unfold tofr; omega
  have b2 : tots t ts < 4294967296 := Nat.mod_lt _ (by decide)
  have b3 : tofr t fr < 65536 := Nat.mod_lt _ (by decide)
  have eo : tout t ts fr now = ⟨true, tseq t, fwd t.any (tots t ts) t.ts 4294967296 2147483648, t.dts, fwd t.any (tofr t fr) t.fr 65536 32768, t.dfr, now⟩ := rfl
  generalize tots t ts = x at *
  generalize tofr t fr = y at *
  have w4 : IntKind.u32.wrap (((x : Nat) : Int) - ((t.ts : Nat) : Int)) = (((x + 4294967296 - t.ts) % 4294967296 : Nat) : Int) := by rw [wrap_u32]; omega
  have w5 : IntKind.u16.wrap (((y : Nat) : Int) - ((t.fr : Nat) : Int)) = (((y + 65536 - t.fr) % 65536 : Nat) : Int) := by rw [wrap_u16]; omega
  cases ha : t.any with
  | false =>
    have es : tseq t = 0 := by unfold tseq; rw [if_neg (by rw [ha]; decide)]
    have f1 : fwd false x t.ts 4294967296 2147483648 = x := rfl
    have f2 : fwd false y t.fr 65536 32768 = y := rfl
    simp (disch := first | omega | (simp only [RY] <;> omega) | decide) only [↓RD, RZ, eq_self, Int.reduceToNat, Int.reduceAdd, Nat.reduceAdd, Nat.reduceSub, Nat.reduceMul, Nat.reduceLeDiff, eo, ha, es, f1, f2, bin_add, w2, w3, bin_sub, w4, w5]
    refine ⟨by rfl, ?_⟩
    repeat (refine Grow.set ?_ (by omega) _)
    exact (Grow.new _ _).trans (Grow.new _ _)
  | true =>
    have es : tseq t = (t.seq + 1) % 65536 := by unfold tseq; rw [if_pos ha]
    have f1 : ∀ (p q : Bool), decide (1 ≤ (x + 4294967296 - t.ts) % 4294967296) = p → decide ((x + 4294967296 - t.ts) % 4294967296 < 2147483648) = q → fwd true x t.ts 4294967296 2147483648 = if (p && q) = true then x else t.ts := by
      intro p q hp hq; subst hp hq; unfold fwd; rw [Bool.not_true, Bool.false_or]
    have f2 : ∀ (p q : Bool), decide (1 ≤ (y + 65536 - t.fr) % 65536) = p → decide ((y + 65536 - t.fr) % 65536 < 32768) = q → fwd true y t.fr 65536 32768 = if (p && q) = true then y else t.fr := by
      intro p q hp hq; subst hp hq; unfold fwd; rw [Bool.not_true, Bool.false_or]
    generalize (x + 4294967296 - t.ts) % 4294967296 = dx at *
    generalize (y + 65536 - t.fr) % 65536 = dy at *
    have k1 : ∀ {P : Prop}, (∀ p q : Bool, (if p = true then 1 ≤ dx else dx < 1) → (if q = true then dx < 2147483648 else 2147483648 ≤ dx) → fwd true x t.ts 4294967296 2147483648 = (if (p && q) = true then x else t.ts) → P) → P := by
      intro P hk
      by_cases a1 : 1 ≤ dx <;> by_cases a2 : dx < 2147483648
      · exact hk true true a1 a2 (f1 true true (decide_eq_true a1) (decide_eq_true a2))
      · exact hk true false a1 (Nat.le_of_not_lt a2) (f1 true false (decide_eq_true a1) (decide_eq_false a2))
      · exact hk false true (Nat.lt_of_not_le a1) a2 (f1 false true (decide_eq_false a1) (decide_eq_true a2))
      · exact hk false false (Nat.lt_of_not_le a1) (Nat.le_of_not_lt a2) (f1 false false (decide_eq_false a1) (decide_eq_false a2))
    have k2 : ∀ {P : Prop}, (∀ p q : Bool, (if p = true then 1 ≤ dy else dy < 1) → (if q = true then dy < 32768 else 32768 ≤ dy) → fwd true y t.fr 65536 32768 = (if (p && q) = true then y else t.fr) → P) → P := by
      intro P hk
      by_cases a1 : 1 ≤ dy <;> by_cases a2 : dy < 32768
      · exact hk true true a1 a2 (f2 true true (decide_eq_true a1) (decide_eq_true a2))
      · exact hk true false a1 (Nat.le_of_not_lt a2) (f2 true false (decide_eq_true a1) (decide_eq_false a2))
      · exact hk false true (Nat.lt_of_not_le a1) a2 (f2 false true (decide_eq_false a1) (decide_eq_true a2))
      · exact hk false false (Nat.lt_of_not_le a1) (Nat.le_of_not_lt a2) (f2 false false (decide_eq_false a1) (decide_eq_false a2))
    refine k1 fun p q hp hq e1 => k2 fun p' q' hp' hq' e2 => ?_
    cases p <;> cases q <;> cases p' <;> cases q'
    all_goals
      simp only [Bool.false_eq_true, if_false, if_true, Bool.and_false, Bool.and_true] at hp hq hp' hq' e1 e2
      first
        | (exfalso; omega)
        | (simp (disch := first | omega | (simp only [RY] <;> omega) | decide) only [↓RD, RZ, eq_self, Int.reduceToNat, Int.reduceAdd, Nat.reduceAdd, Nat.reduceSub, Nat.reduceMul, Nat.reduceLeDiff, eo, ha, es, bin_add, w1, w2, w3, bin_sub, w4, w5, e1, e2]
           repeat (refine Grow.set ?_ (by omega) _)
           exact (Grow.new _ _).trans (Grow.new _ _))
end Go.Ax.LN
/- Rtp1 -/
namespace Go.Ax.R7
open Go.Ax
def be (l : List Nat) : Nat := l.foldl (fun a b => a * 256 + b) 0
theorem be_snoc (l : List Nat) (b : Nat) : be (l ++ [b]) = be l * 256 + b := by simp [be]
theorem be_lt (l : List Nat) (h : ∀ x ∈ l, x < 256) : be l < 256 ^ l.length := by
 have key : ∀ (l : List Nat), (∀ x ∈ l, x < 256) → ∀ l' : List Nat, l = l'.reverse → be l < 256 ^ l.length := by
  intro l hl l' e
  subst e
  induction l' with
  | nil => simp [be]
  | cons b l' ih =>
   rw [List.reverse_cons, be_snoc, List.length_append, List.length_singleton, Nat.pow_succ]
   have h1 := ih fun x hx => hl x (by rw [List.reverse_cons]; exact List.mem_append_left _ hx)
   have h2 := hl b (by simp)
   omega
 exact key l h l.reverse (by simp)
theorem or256 (a b : Nat) (h : b < 256) : a * 256 ||| b = a * 256 + b := by
 have := Nat.shiftLeft_add_eq_or_of_lt (i := 8) (b := b) h a
 rw [Nat.shiftLeft_eq] at this
 exact this.symm
abbrev By (lo : Nat) (H : Heap) (v : V) (l : List Nat) : Prop := Lc 1 lo H v (l.map by8) l.length
def Ok8 (l : List Nat) : Prop := ∀ x ∈ l, x < 256
theorem Ok8.get {l : List Nat} (h : Ok8 l) (i : Nat) (hi : i < l.length) : l[i] < 256 := h _ (List.getElem_mem hi)
theorem Ok8.take {l : List Nat} (h : Ok8 l) (n : Nat) : Ok8 (l.take n) := fun x hx => h x (List.mem_of_mem_take hx)
theorem Ok8.drop {l : List Nat} (h : Ok8 l) (n : Nat) : Ok8 (l.drop n) := fun x hx => h x (List.mem_of_mem_drop hx)
theorem by_at {lo : Nat} {H : Heap} {v : V} {l : List Nat} (h : By lo H v l) {i : Int} (h0 : 0 ≤ i) (h1 : i < l.length) : ∃ p, (∀ {k : IntKind}, Ax.iaddr none 1 v (.int k i) = some p) ∧ LdR none H p (.int .u8 (l.getD i.toNat 0 : Nat)) ∧ p.pid = v.pid := by
 obtain ⟨p, hp, hl⟩ := h.at h0 h1
 have hi : i.toNat < l.length := by omega
 have e : ((l.map by8).drop (i.toNat * 1)).take 1 = [by8 l[i.toNat]] := by
  rw [Nat.mul_one, ← List.map_drop, List.drop_eq_getElem_cons hi]; rfl
 rw [e] at hl
 refine ⟨p, hp, fun f Q => ?_, hl.pid.1⟩
 rw [hl.ld0 (by simp)]
 have hg : l.getD i.toNat 0 = l[i.toNat] := by rw [List.getD_eq_getElem?_getD, List.getElem?_eq_getElem hi]; rfl
 rw [hg]; exact b_lift
theorem by_at' {lo : Nat} {H : Heap} {v : V} {l : List Nat} (h : By lo H v l) {i : Int} (h0 : 0 ≤ i) (h1 : i < l.length) : ∃ p, (∀ {k : IntKind}, Ax.iaddr none 1 v (.int k i) = some p) ∧ (∀ H', By lo H' v l → LdR none H' p (.int .u8 (l.getD i.toNat 0 : Nat))) ∧ p.pid = v.pid := by
 obtain ⟨p, hp, hl, hd⟩ := by_at h h0 h1
 refine ⟨p, hp, fun H' h' => ?_, hd⟩
 obtain ⟨p', hp', hl', -⟩ := by_at h' h0 h1
 have : p = p' := by
  have := (hp (k := .i64)).symm.trans (hp' (k := .i64))
  simpa using this
 subst this
 exact hl'
theorem by_slice {lo : Nat} {H : Heap} {v : V} {l : List Nat} (h : By lo H v l) {x y : Int} (h0 : 0 ≤ x) (h1 : x ≤ y) (h2 : y ≤ l.length) :
  ∃ v', (∀ {k k' : IntKind}, vslice .sl 1 v (some (.int k x)) (some (.int k' y)) none = some v') ∧ (x = 0 → ∀ {k' : IntKind}, vslice .sl 1 v none (some (.int k' y)) none = some v') ∧ (y = l.length → ∀ {k : IntKind}, vslice .sl 1 v (some (.int k x)) none none = some v') ∧
   By lo H v' ((l.drop x.toNat).take (y.toNat - x.toNat)) ∧ v'.pid = v.pid := by
 obtain ⟨v', a, b, c, d, e⟩ := h.slice h0 h1 h2
 refine ⟨v', a, b, c, ?_, e⟩
 have hl : ((l.drop x.toNat).take (y.toNat - x.toNat)).length = y.toNat - x.toNat := by rw [List.length_take, List.length_drop]; omega
 have := d
 rw [Nat.mul_one, Nat.mul_one, ← List.map_drop, ← List.map_take] at this
 unfold By
 rw [hl]; exact this
theorem getD_drop {l : List Nat} {i n : Nat} : (l.drop n).getD i 0 = l.getD (n + i) 0 := by
 simp only [List.getD_eq_getElem?_getD, List.getElem?_drop]
theorem getD_lt {l : List Nat} (h : Ok8 l) (i : Nat) : l.getD i 0 < 256 := by
 rw [List.getD_eq_getElem?_getD]
 cases e : l[i]? with
 | none => simp
 | some x => exact h x (List.mem_of_getElem? e)
theorem take_snoc {l : List Nat} {i : Nat} (h : i < l.length) : l.take (i + 1) = l.take i ++ [l.getD i 0] := by
 rw [List.take_add_one, List.getElem?_eq_getElem h, List.getD_eq_getElem?_getD, List.getElem?_eq_getElem h]; rfl
theorem be_take_lt {l : List Nat} (h : Ok8 l) {i n : Nat} (hi : i ≤ n) : be (l.take i) < 256 ^ n := by
 have h1 := be_lt _ (h.take i)
 have h2 : 256 ^ (l.take i).length ≤ 256 ^ n := Nat.pow_le_pow_right (by decide) (by rw [List.length_take]; omega)
 omega
theorem N_ok {lo : Nat} {H : Heap} {v : V} {l : List Nat} (h : By lo H v l) (h8 : Ok8 l) (hl : l.length ≤ 1099511627776) (at' n : Nat) (ha : at' + n ≤ l.length) (hn : n ≤ 8) : Ok (sem T zaz [v, .int .i64 at', .int .i64 n]) H fun r H' => r = .int .u64 (be ((l.drop at').take n) : Nat) ∧ H' = H := by
 refine zfr ?_
 unfold zeb
 simp (disch := first | omega | (simp only [RY] <;> omega) | decide) only [↓RD, RZ, eq_self, Nat.reduceAdd, Int.reduceAdd, Int.reduceToNat, Nat.reduceMul]
 refine zaP (fun k L H' => L = [.int .u64 (be ((l.drop at').take k) : Nat), .int .i64 (k : Nat)] ∧ H' = H) n ?_ ?_ ?_
 ·exact ⟨by simp [be], rfl⟩
 ·rintro k L H1 hk ⟨rfl, rfl⟩
  obtain ⟨p, hp, hld, -⟩ := by_at h (i := (at' + k : Nat)) (by omega) (by omega)
  have hb := be_take_lt (h8.drop at') (i := k) (n := 7) (by omega)
  have hg := getD_lt h8 (at' + k)
  have hm : be ((l.drop at').take k) * 256 % 18446744073709551616 = be ((l.drop at').take k) * 256 := Nat.mod_eq_of_lt (by omega)
  have ec : (at' : Int) + (k : Int) = ((at' + k : Nat) : Int) := rfl
  unfold zcT
  simp (disch := first | omega | (simp only [RY] <;> omega) | decide) only [↓RD, RZ, eq_self, Nat.reduceAdd, Int.reduceAdd, Int.reduceToNat, Nat.reduceMul, hp, hld, hm, or256 _ _ hg, ec]
  rw [take_snoc (by rw [List.length_drop]; omega), be_snoc, getD_drop]; rfl
 ·rintro L H1 ⟨rfl, rfl⟩
  unfold zcT
  simp (disch := first | omega | (simp only [RY] <;> omega) | decide) only [↓RD, RZ, eq_self, Nat.reduceAdd, Int.reduceAdd, Int.reduceToNat, Nat.reduceMul]
theorem okb_copy {β : Type} {ty e bytes m : Nat} {H : Heap} {y : V} {q : List V} {f : V → M β} {Q : β → Heap → Prop} (hy : acells e H y = some (q, m)) (hp : ∀ id, y.pid = some id → id < H.next) (hq : q.length = m * e)
  (hb : m * bytes ≤ 140737488355328) (hm : m ≤ 140737488355328)
  (k : ∀ x' H', App ty e H.next H' x' q m → Grow H H' → Ok (f x') H' Q) : Ok ((mappend ty e bytes (.sl H.next 0 0 (.fix 0)) y).bind f) (H.new ⟨ty, [], none⟩) Q := by
 have ha : App ty e H.next (H.new ⟨ty, [], none⟩) (.sl H.next 0 0 (.fix 0)) [] 0 := .lit (zao _ _) (Nat.le_refl _) (by rw [zap]; omega)
 refine zfk ha (by rw [zap]; omega) (by rw [acells_to fun i hi => zat _ _ (by have := hp i hi; omega)]; exact hy) hq (by simpa using hb) (by omega) fun x' H' h hs => ?_
 refine k x' H' (by simpa using h) ⟨by have := hs.next; rw [zap] at this; omega, fun i hi => ?_⟩
 rw [hs.same i (by rw [zap]; omega) (by simp [V.pid]; omega), zat _ _ (by omega)]
theorem Clone_ok {lo : Nat} {H : Heap} {v : V} {l : List Nat} (h : By lo H v l) (hl : l.length ≤ 1099511627776) : Ok (sem T zbf [v]) H fun r H' => By H.next H' r l ∧ Grow H H' := by
 refine zff ?_
 unfold zez
 rcases h.cases with ⟨rfl, hc, hn⟩ | ⟨id, off, cap, b, rfl, _⟩ | ⟨cs, rfl, _⟩
 ·simp (disch := omega) only [↓RD, RZ]
  have : l = [] := List.eq_nil_of_length_eq_zero hn
  subst this
  exact ⟨Lc.nil, Grow.refl _⟩
 ·simp (disch := omega) only [↓RD, RZ]
  refine okb_copy h.ac (fun i hi => (h.own i hi).2) (by simp) (by omega) (by omega) fun x' H' ha hg => ?_
  simp (disch := omega) only [↓RD, RZ]
  exact ⟨ha.lc, hg⟩
 ·simp (disch := omega) only [↓RD, RZ]
  refine okb_copy h.ac (fun i hi => (h.own i hi).2) (by simp) (by omega) (by omega) fun x' H' ha hg => ?_
  simp (disch := omega) only [↓RD, RZ]
  exact ⟨ha.lc, hg⟩
end Go.Ax.R7
/- Lan3 -/
namespace Go.Ax.LN
open Go.Ax D9
abbrev En : Type := Nat × V
def enC (x : En) : List V := [.int .u16 (x.1 : Nat), x.2]
def enF (es : List En) : List V := (es.map enC).flatten
theorem enC_len (es : List En) : ∀ x ∈ es.map enC, x.length = 2 := fun x hx => by
 obtain ⟨w, _, rfl⟩ := List.mem_map.1 hx
 rfl
theorem enF_len (es : List En) : (enF es).length = es.length * 2 := by unfold enF; rw [flat_len _ (enC_len es), List.length_map]
theorem enF_app (a b : List En) : enF (a ++ b) = enF a ++ enF b := by unfold enF; rw [List.map_append, List.flatten_append]
theorem enF_one (x : En) : enF [x] = enC x := by simp [enF]
theorem enF_take (es : List En) (i : Nat) : (enF es).take (i * 2) = enF (es.take i) := by
 conv => lhs; rw [← List.take_append_drop i es, enF_app]
 rcases Nat.le_total i es.length with h | h
 ·exact List.take_left' (by rw [enF_len, List.length_take, Nat.min_eq_left h])
 ·rw [List.drop_eq_nil_of_le h, show enF [] = [] from rfl, List.append_nil, List.take_of_length_le]
  rw [enF_len, List.length_take]; omega
theorem enF_drop (es : List En) (i : Nat) : (enF es).drop (i * 2) = enF (es.drop i) := by
 conv => lhs; rw [← List.take_append_drop i es, enF_app]
 rcases Nat.le_total i es.length with h | h
 ·exact List.drop_left' (by rw [enF_len, List.length_take, Nat.min_eq_left h])
 ·rw [List.drop_eq_nil_of_le h, show enF [] = [] from rfl, List.append_nil, List.drop_eq_nil_of_le]
  rw [enF_len, List.length_take]; omega
inductive RgS (H : Heap) : V → List En → List Nat → Prop
 | nil : RgS H .nils [] []
 | blk {id : Nat} {es : List En} {rest : List V} (hg : H.get id = some ⟨zaF, enF es ++ rest, some 2⟩) (hr : rest.length % 2 = 0) (hi : id < H.next) : RgS H (.sl id 0 es.length (.opn 2)) es [id]
theorem RgS.vlen {H : Heap} {v : V} {es : List En} {F : List Nat} (h : RgS H v es F) : Ax.vlen v = some (.int .i64 (es.length : Nat)) := by cases h <;> rfl
theorem RgS.cel {H : Heap} {v : V} {es : List En} {F : List Nat} (h : RgS H v es F) : Cel v := by cases h <;> exact ⟨rfl, rfl⟩
theorem RgS.to {H H' : Heap} {v : V} {es : List En} {F : List Nat} (h : RgS H v es F) (hn : H.next ≤ H'.next) (hs : ∀ i ∈ F, H'.get i = H.get i) : RgS H' v es F := by
 cases h with
 | nil => exact .nil
 | blk hg hr hi => exact .blk (by rw [hs _ (List.mem_singleton.2 rfl)]; exact hg) hr (by omega)
theorem RgS.low {H : Heap} {v : V} {es : List En} {F : List Nat} (h : RgS H v es F) : ∀ i ∈ F, i < H.next := by
 cases h with
 | nil => exact fun i hi => by cases hi
 | blk hg hr hi => exact fun i h => by rw [List.mem_singleton.1 h]; exact hi
def idxI : Option Nat → Int
 | some i => (i : Nat)
 | none => -1
def rgAt (es : List En) (seq : Nat) : Option Nat := es.findIdx? fun x => x.1 == seq
theorem findIdx_take {es : List En} {p : En → Bool} {k : Nat} (h : k < es.length) (h0 : (es.take k).findIdx? p = none) (h1 : p es[k] = true) : es.findIdx? p = some k := by
 rw [List.findIdx?_eq_some_iff_getElem]
 refine ⟨h, h1, fun j hj => ?_⟩
 rw [List.findIdx?_eq_none_iff] at h0
 have := h0 es[j] (List.mem_iff_getElem.2 ⟨j, by rw [List.length_take]; omega, by rw [List.getElem_take]⟩)
 rw [this]; decide
theorem at1_ok {H : Heap} {b : Nat} {x : En} {seq : Nat} (hb : H.get b = some ⟨za9, [.int .u16 (seq : Nat)], none⟩) (hbl : b < H.next) :
  Ok (sem T zcA [.agg (enC x), .ptr b 0]) H fun r H' => r = .bool (x.1 == seq) ∧ Grow H H' := by
 refine zfG ?_
 unfold zeB enC
 simp (disch := omega) only [↓RD, RZ, hb]
 refine ⟨?_, Grow.new _ _⟩
 by_cases e : x.1 = seq
 ·rw [e, beq_self_eq_true, beq_self_eq_true]
 ·have e' : ¬ ((x.1 : Nat) : Int) = ((seq : Nat) : Int) := by omega
  rw [beq_eq_false_iff_ne.2 e, beq_eq_false_iff_ne.2 e']
theorem Rat_ok {H : Heap} {q : Nat} {v : V} {es : List En} {F : List Nat} {seq : Nat} (hq : H.get q = some ⟨zcs, [v], none⟩) (hql : q < H.next) (h : RgS H v es F) (hl : es.length ≤ 1048576) :
  Ok (sem T zcZ [.ptr q 0, .int .u16 (seq : Nat)]) H fun r H' => r = .int .i64 (idxI (rgAt es seq)) ∧ Grow H H' := by
 refine zf5 ?_
 unfold zfh
 have c := h.cel
 simp (disch := omega) only [↓RD, RZ, hq]
 have s1 := Grow.new H ⟨za9, [.int .u16 (seq : Nat)], none⟩
 have gb : (H.new ⟨za9, [.int .u16 (seq : Nat)], none⟩).get H.next = _ := zao _ _
 have h1 : RgS (H.new ⟨za9, [.int .u16 (seq : Nat)], none⟩) v es F := h.to s1.next fun i hi => s1.same i (h.low i hi)
 have nb : H.next < (H.new ⟨za9, [.int .u16 (seq : Nat)], none⟩).next := by rw [zap]; omega
 generalize hgb : H.next = b at *
 generalize H.new _ = H1 at *
 refine zac (P := fun r H' => r = .int .i64 (idxI (rgAt es seq)) ∧ Grow H1 H') ?_ ?_
 ·refine zch ?_
  unfold zbo
  simp (disch := omega) only [↓RD, RZ, h1.vlen]
  refine zaM (Q := fun r H' => Grow H1 H' ∧ ((r = Res.ex 0 [] ∧ rgAt es seq = none) ∨ (∃ k : Nat, r = .ret [.int .i64 (k : Nat)] ∧ rgAt es seq = some k))) ?_ ?_
  ·refine zaP (fun k L H' => L = [.int .i64 (k : Nat)] ∧ Grow H1 H' ∧ rgAt (es.take k) seq = none) es.length ?_ ?_ ?_
   ·exact ⟨rfl, Grow.refl _, rfl⟩
   ·rintro k L H2 hk ⟨rfl, g2, hP⟩
    have h2 := h1.to g2.next fun i hi => g2.same i (h1.low i hi)
    have hb2 : H2.get b = _ := (g2.same _ nb).trans gb
    have n2 := g2.next
    cases h2 with
    | nil => simp at hk
    | blk hg hr hi =>
     rename_i id rest
     have ia : ∀ {k' : IntKind}, Ax.iaddr none 2 (.sl id 0 es.length (.opn 2)) (.int k' ((k : Nat) : Int)) = some (.ptr id (k * 2)) := fun {k'} => by
      simp only [Ax.iaddr]; rw [if_pos (by omega)]; simp
     have hcell : ldc (some 2) (enF es ++ rest) (k * 2) = some (.agg (enC es[k])) := by
      have hl2 := enF_len es
      unfold ldc
      dsimp only
      rw [if_pos (by rw [List.length_append]; omega), List.drop_append_of_le_length (by omega), enF_drop, List.drop_eq_getElem_cons hk]
      rfl
     unfold zaR
     simp (disch := omega) only [↓RD, RZ, ia, hg, hcell]
     refine zac (at1_ok (x := es[k]) hb2 (by omega)) ?_
     rintro _ H3 ⟨rfl, g3⟩
     cases he : es[k].1 == seq with
     | true =>
      simp (disch := omega) only [↓RD, RZ]
      exact ⟨g2.trans g3, .inr ⟨k, by rfl, findIdx_take hk hP he⟩⟩
     | false =>
      simp (disch := omega) only [↓RD, RZ]
      refine ⟨by rfl, g2.trans g3, ?_⟩
      unfold rgAt at hP ⊢
      rw [List.take_succ_eq_append_getElem hk, List.findIdx?_append, hP]
      simp [List.findIdx?_cons, he]
   ·rintro L H2 ⟨rfl, g2, hP⟩
    unfold zaR
    rw [List.take_length] at hP
    simp (disch := omega) only [↓RD, RZ]
    exact ⟨g2, .inl hP⟩
  ·rintro r H2 ⟨g2, ⟨rfl, hn⟩ | ⟨k, rfl, hk⟩⟩
   ·simp (disch := omega) only [↓RD, RZ]
    rw [hn]
    exact ⟨rfl, g2⟩
   ·simp (disch := omega) only [↓RD, RZ]
    rw [hk]
    exact ⟨rfl, g2⟩
 ·rintro _ H2 ⟨rfl, g2⟩
  simp (disch := omega) only [↓RD, RZ]
  exact s1.trans g2
def e0 : List V := [.int .u16 0, .nils]
theorem enF_erase {es : List En} {i : Nat} (hi : i < es.length) : enF (es.eraseIdx i) = enF (es.take i) ++ enF (es.drop (i + 1)) := by
 rw [List.eraseIdx_eq_take_drop_succ, enF_app]
theorem enF_last {es : List En} {i : Nat} (hi : i < es.length) : enF (es.drop i) = enC es[i] ++ enF (es.drop (i + 1)) := by
 rw [List.drop_eq_getElem_cons hi]; rfl
set_option maxHeartbeats 800000 in
theorem Delete_ok {H : Heap} {id i : Nat} {es : List En} {rest : List V} (hg : H.get id = some ⟨zaF, enF es ++ rest, some 2⟩) (hi : i < es.length) (hl : es.length ≤ 1048576) :
  Ok (sem T zas [.sl id 0 es.length (.opn 2), .int .i64 (i : Nat), .int .i64 ((i : Nat) + 1)]) H fun r H' =>
   r = .sl id 0 (es.length - 1) (.opn 2) ∧ H'.next = H.next ∧ (∀ j, j ≠ id → H'.get j = H.get j) ∧ H'.get id = some ⟨zaF, enF (es.eraseIdx i) ++ (e0 ++ rest), some 2⟩ := by
 have hel := enF_len es
 refine zcw ?_
 unfold zbC
 have hvl : ∀ n, Ax.vlen (.sl id 0 n (.opn 2)) = some (.int .i64 (n : Nat)) := fun n => rfl
 have v1 : vslice .sl 2 (.sl id 0 es.length (.opn 2)) (some (.int .i64 (i : Nat))) (some (.int .i64 ((i : Nat) + 1))) (some (.int .i64 (es.length : Nat))) = some (.sl id (i * 2) 1 (.fix (es.length - i))) := by
  simp only [vslice, optInt, vint, Option.map_some, Option.bind_some, Option.getD_some, Option.isNone_some, Bool.false_eq_true, and_false, if_false]
  rw [if_pos (by omega)]
  simp
 have v2 : vslice .sl 2 (.sl id 0 es.length (.opn 2)) none (some (.int .i64 (i : Nat))) none = some (.sl id 0 i (.opn 2)) := by
  simp only [vslice, optInt, vint, Option.map_some, Option.bind_some, Option.getD_some, Option.getD_none, Option.isSome_none, Bool.false_eq_true, false_and, if_false]
  rw [if_pos ⟨trivial, by omega, by omega, by omega⟩]
  simp
 have v3 : vslice .sl 2 (.sl id 0 es.length (.opn 2)) (some (.int .i64 ((i : Nat) + 1))) none none = some (.sl id ((i + 1) * 2) (es.length - (i + 1)) (.opn 2)) := by
  simp only [vslice, optInt, vint, Option.map_some, Option.bind_some, Option.getD_some, Option.getD_none, Option.isSome_none, Bool.false_eq_true, false_and, if_false]
  rw [if_pos ⟨trivial, by omega, by omega, by omega⟩]
  simp
 have hne : ¬ ((i : Nat) : Int) = ((i : Nat) : Int) + 1 := by omega
 simp (disch := omega) only [↓RD, RZ, hvl, v1, v2, v3, hne]
 -- what is left behind the gap
 have hac : acells 2 H (.sl id ((i + 1) * 2) (es.length - (i + 1)) (.opn 2)) = some (enF (es.drop (i + 1)), es.length - (i + 1)) := by
  simp only [acells, rcells, hg, Option.bind_some]
  rw [if_pos (by rw [List.length_append]; omega), List.drop_append_of_le_length (by omega), enF_drop, List.take_left' (by rw [enF_len, List.length_drop])]
 obtain ⟨X, hX, H1, hap, hn1, hs1, hg1⟩ : ∃ X : List V, X.length = 2 ∧ ∃ H1, mappend zaF 2 32 (.sl id 0 i (.opn 2)) (.sl id ((i + 1) * 2) (es.length - (i + 1)) (.opn 2)) H = some (.sl id 0 (es.length - 1) (.opn 2), H1) ∧ H1.next = H.next ∧ (∀ j, j ≠ id → H1.get j = H.get j) ∧ H1.get id = some ⟨zaF, enF (es.eraseIdx i) ++ (X ++ rest), some 2⟩ := by
  by_cases hq : es.length - (i + 1) = 0
  ·refine ⟨enC es[i], rfl, H, ?_, rfl, fun j _ => rfl, ?_⟩
   ·simp only [mappend, hac, Option.bind_some, mappendq, hg]
    rw [if_pos ⟨by rw [List.length_append]; omega, trivial⟩, if_neg (by rintro ⟨-, -, -, h⟩; rw [List.length_append] at h; omega), if_pos ⟨trivial, hq⟩, show i = es.length - 1 by omega]
   ·rw [hg, enF_erase hi, show es.drop (i + 1) = [] from List.drop_eq_nil_of_le (by omega)]
    congr 2
    conv => lhs; rw [← List.take_append_drop i es, enF_app, enF_last hi, show es.drop (i + 1) = [] from List.drop_eq_nil_of_le (by omega)]
    simp only [List.append_assoc, show enF [] = [] from rfl, List.nil_append]
  ·obtain ⟨m, hm⟩ : ∃ m, es.length = m + 1 := ⟨es.length - 1, by omega⟩
   refine ⟨enC (es[es.length - 1]'(by omega)), rfl, H.set id (some ⟨zaF, splice (enF es ++ rest) (0 + i * 2) (enF (es.drop (i + 1))), some 2⟩), ?_, rfl, fun j hj => zai _ _ hj, ?_⟩
   ·simp only [mappend, hac, Option.bind_some, mappendq, hg]
    rw [if_pos ⟨by rw [List.length_append]; omega, trivial⟩, if_neg (by rintro ⟨-, -, -, h⟩; rw [List.length_append] at h; omega), if_neg (fun h => hq h.2), if_pos ⟨trivial, trivial, by rw [List.length_append]; omega⟩, show i + (es.length - (i + 1)) = es.length - 1 by omega]
   ·rw [zan]
    congr 2
    have hlast : enF (es.drop (es.length - 1)) = enC (es[es.length - 1]'(by omega)) := by
     rw [enF_last (by omega), List.drop_eq_nil_of_le (by omega)]; rfl
    unfold splice
    rw [Nat.zero_add, List.take_append_of_le_length (by omega), enF_take, enF_len, List.length_drop, enF_erase hi, show i * 2 + (es.length - (i + 1)) * 2 = (es.length - 1) * 2 by omega, List.drop_append_of_le_length (by omega), enF_drop, hlast]
    try simp only [List.append_assoc]
 have hle : (enF (es.eraseIdx i)).length = (es.length - 1) * 2 := by rw [enF_len, List.length_eraseIdx_of_lt hi]
 refine zb9 ⟨_, _, hap, ?_⟩
 simp (disch := omega) only [↓RD, RZ, hvl]
 have hm2 : mslice2 2 (.sl id 0 (es.length - 1) (.opn 2)) (.int .i64 ((es.length - 1 : Nat) : Int)) (.int .i64 ((es.length : Nat) : Int)) H1 = some (.sl id ((es.length - 1) * 2) 1 (.opn 2), H1) := by
  simp only [mslice2, hg1, Option.bind_some, Int.toNat_natCast]
  rw [if_pos ⟨trivial, trivial, by omega, by omega, by simp only [List.length_append]; omega⟩, show es.length - (es.length - 1) = 1 by omega, Nat.zero_add]
 refine zb9 ⟨_, _, hm2, ?_⟩
 have hmc : mclear [.int .u16 0, .nils] (.sl id ((es.length - 1) * 2) 1 (.opn 2)) H1 = some (.undef, H1.set id (some ⟨zaF, enF (es.eraseIdx i) ++ (e0 ++ rest), some 2⟩)) := by
  simp only [mclear, hg1, Option.bind_some]
  rw [if_neg (by decide), if_pos (by simp only [List.length_append, List.length_cons, List.length_nil]; omega)]
  have : splice (enF (es.eraseIdx i) ++ (X ++ rest)) ((es.length - 1) * 2) (zeros [.int .u16 0, .nils] 1) = enF (es.eraseIdx i) ++ (e0 ++ rest) := by
   have hz : zeros [.int .u16 0, .nils] 1 = e0 := rfl
   unfold splice
   rw [hz, List.take_left' hle, ← hle, List.drop_append, List.drop_eq_nil_of_le (by omega), Nat.add_sub_cancel_left, List.nil_append, show e0.length = 2 from rfl, List.drop_left' hX, List.append_assoc]
  rw [this]
 refine zb9 ⟨_, _, hmc, ?_⟩
 simp (disch := omega) only [↓RD, RZ]
 refine ⟨hn1, fun j hj => ?_⟩
 rw [zai _ _ hj]; exact hs1 j hj
structure RgR (H : Heap) (q : Nat) (es : List En) (F : List Nat) : Prop where
 ex : ∃ v, H.get q = some ⟨zcs, [v], none⟩ ∧ RgS H v es F
 ql : q < H.next
 out : q ∉ F
theorem RgR.to {H H' : Heap} {q : Nat} {es : List En} {F : List Nat} (h : RgR H q es F) (hn : H.next ≤ H'.next) (hs : ∀ i, i < H.next → i = q ∨ i ∈ F → H'.get i = H.get i) : RgR H' q es F := by
 obtain ⟨⟨v, hv, hr⟩, ql, out⟩ := h
 exact ⟨⟨v, (hs q ql (.inl rfl)).trans hv, hr.to hn fun i hi => hs i (hr.low i hi) (.inr hi)⟩, by omega, out⟩
theorem RgR.grow {H H' : Heap} {q : Nat} {es : List En} {F : List Nat} (h : RgR H q es F) (g : Grow H H') : RgR H' q es F := h.to g.next fun i hi _ => g.same i hi
def rgErase (es : List En) : Option Nat → List En
 | some i => es.eraseIdx i
 | none => es
def rgTrim (es : List En) : List En := if 64 < es.length then es.eraseIdx 0 else es
def rgAdd (es : List En) (seq : Nat) (b : V) : List En := rgTrim (rgErase es (rgAt es seq) ++ [(seq, b)])
theorem rgAt_lt {es : List En} {seq i : Nat} (h : rgAt es seq = some i) : i < es.length := by
 unfold rgAt at h
 rw [List.findIdx?_eq_some_iff_getElem] at h
 exact h.1
theorem del_ok {H : Heap} {v : V} {es : List En} {F : List Nat} {i : Nat} (h : RgS H v es F) (hi : i < es.length) (hl : es.length ≤ 1048576) :
  Ok (sem T zas [v, .int .i64 (i : Nat), .int .i64 ((i : Nat) + 1)]) H fun r H' => RgS H' r (es.eraseIdx i) F ∧ Step H H' F F := by
 cases h with
 | nil => simp at hi
 | blk hg hr hid =>
  rename_i id rest
  refine zaM (Delete_ok hg hi hl) ?_
  rintro r H' ⟨rfl, hn, hs, hg'⟩
  refine ⟨?_, by omega, fun j hj hF => hs j fun e => hF (by rw [e]; exact List.mem_singleton.2 rfl), fun j hj => .inl hj⟩
  rw [← List.length_eraseIdx_of_lt hi]
  exact .blk hg' (by rw [List.length_append]; show (2 + rest.length) % 2 = 0; omega) (by omega)
theorem okb_put {β : Type} {H : Heap} {v b : V} {es : List En} {F : List Nat} {seq : Nat} {f : V → M β} {Q : β → Heap → Prop} (h : RgS H v es F) (hl : es.length ≤ 1048576)
  (k : ∀ r H' F', RgS H' r (es ++ [(seq, b)]) F' → Step H H' F F' → Ok (f r) H' Q) :
  Ok ((mappend zaF 2 32 v (.sl H.next 0 1 (.fix 1))).bind f) (H.new ⟨zaF, [.int .u16 (seq : Nat), b], none⟩) Q := by
 have hy : acells 2 (H.new ⟨zaF, [.int .u16 (seq : Nat), b], none⟩) (.sl H.next 0 1 (.fix 1)) = some ([.int .u16 (seq : Nat), b], 1) := acells_fresh (by rfl)
 have s0 := Step.new H ⟨zaF, [.int .u16 (seq : Nat), b], none⟩ F
 have hx : [V.int .u16 (seq : Nat), b] = enF [(seq, b)] := by rw [enF_one]; rfl
 have ml : ∀ n, n ≤ 1048577 → n ≤ maxLen := fun n hn => Nat.le_trans (by omega : n ≤ 140737488355328) byte_bound
 have g0 := Grow.new H ⟨zaF, [.int .u16 (seq : Nat), b], none⟩
 have gn : (H.new ⟨zaF, [.int .u16 (seq : Nat), b], none⟩).next = H.next + 1 := rfl
 generalize H.new _ = H1 at *
 have h1 := h.to g0.next fun i hi => g0.same i (h.low i hi)
 cases h1 with
 | nil =>
  refine zb9 ⟨.sl H1.next 0 1 (.opn 2), H1.new ⟨zaF, [.int .u16 (seq : Nat), b], some 2⟩, ?_, ?_⟩
  ·simp only [mappend, hy, Option.bind_some, mappendq]
   rw [if_neg (by decide), if_pos ⟨by decide, ml 1 (by decide)⟩]
  ·refine k _ _ [H1.next] (.blk (es := [(seq, b)]) (rest := []) (by rw [zao, hx, List.append_nil]) rfl (by rw [zap]; omega)) ⟨by rw [zap]; omega, fun i hi _ => ?_, fun i hi => .inr ?_⟩
   ·rw [zat _ _ (by omega), g0.same i hi]
   ·rw [List.mem_singleton.1 hi, zap]; omega
 | blk hg hr hid =>
  rename_i id rest
  have hidl := h.low id (List.mem_singleton.2 rfl)
  have hel := enF_len es
  have hlen : (es ++ [(seq, b)]).length = es.length + 1 := by rw [List.length_append]; rfl
  by_cases hz : rest.length = 0
  ·have hr0 : rest = [] := List.eq_nil_of_length_eq_zero hz
   subst hr0
   rw [List.append_nil] at hg
   refine zb9 ⟨.sl H1.next 0 (es.length + 1) (.opn 2), (H1.set id none).new ⟨zaF, enF es ++ [.int .u16 (seq : Nat), b], some 2⟩, ?_, ?_⟩
   ·simp only [mappend, hy, Option.bind_some, mappendq, hg]
    rw [if_pos ⟨by omega, trivial⟩, if_pos ⟨trivial, trivial, trivial, hel⟩, if_neg (by decide), if_pos ⟨by omega, ml _ (by omega)⟩]
   ·rw [← hlen]
    refine k _ _ [H1.next] (.blk (rest := []) (by rw [hx, ← enF_app, List.append_nil]; exact zao _ _) rfl (by rw [zap, zaL]; omega)) ⟨by rw [zap, zaL]; omega, fun i hi hF => ?_, fun i hi => .inr ?_⟩
    ·have : i ≠ id := fun e => hF (by rw [e]; exact List.mem_singleton.2 rfl)
     rw [zat _ _ (by rw [zaL]; omega), zai _ _ this, g0.same i hi]
    ·rw [List.mem_singleton.1 hi, zap, zaL]; omega
  ·obtain ⟨y, z, rest', rfl⟩ : ∃ y z rest', rest = y :: z :: rest' := by
    rcases rest with _ | ⟨y, _ | ⟨z, rest'⟩⟩
    ·exact absurd rfl hz
    ·simp at hr
    ·exact ⟨_, _, _, rfl⟩
   have hsp : splice (enF es ++ y :: z :: rest') (0 + es.length * 2) [.int .u16 (seq : Nat), b] = enF (es ++ [(seq, b)]) ++ rest' := by
    unfold splice
    rw [Nat.zero_add, List.take_left' hel, ← hel, List.drop_append, List.drop_eq_nil_of_le (by omega), enF_app, hx, Nat.add_sub_cancel_left]
    rfl
   refine zb9 ⟨.sl id 0 (es.length + 1) (.opn 2), H1.set id (some ⟨zaF, enF (es ++ [(seq, b)]) ++ rest', some 2⟩), ?_, ?_⟩
   ·simp only [mappend, hy, Option.bind_some, mappendq, hg]
    rw [if_pos ⟨by rw [List.length_append]; omega, trivial⟩, if_neg (by rintro ⟨-, -, -, h⟩; rw [List.length_append, List.length_cons, List.length_cons] at h; omega), if_neg (by rintro ⟨-, h⟩; cases h), if_pos ⟨trivial, trivial, by rw [List.length_append, List.length_cons, List.length_cons]; omega⟩, hsp]
   ·rw [← hlen]
    refine k _ _ [id] (.blk (rest := rest') (zan _ _ _) (by rw [List.length_cons, List.length_cons] at hr; omega) (by rw [zaL]; exact hid)) ⟨by rw [zaL]; omega, fun i hi hF => ?_, fun i hi => .inl hi⟩
    have : i ≠ id := fun e => hF (by rw [e]; exact List.mem_singleton.2 rfl)
    rw [zai _ _ this, g0.same i hi]
theorem eraseIdx_len_le (es : List En) (i : Nat) : (es.eraseIdx i).length ≤ es.length := List.length_eraseIdx_le ..
theorem rgErase_len (es : List En) (o : Option Nat) : (rgErase es o).length ≤ es.length := by
 cases o with
 | none => exact Nat.le_refl _
 | some i => exact eraseIdx_len_le es i
set_option maxHeartbeats 1600000 in
theorem Radd_ok {H : Heap} {q : Nat} {es : List En} {F : List Nat} {seq lo : Nat} {bv : V} {l : List Nat} (h : RgR H q es F) (hl : es.length ≤ 64) (hb : R7.By lo H bv l) (hbl : l.length ≤ 1048576) (hbd : ∀ i, bv.pid = some i → i ≠ q ∧ i ∉ F) :
  Ok (sem T zcK [.ptr q 0, .int .u16 (seq : Nat), bv]) H fun r H' => ∃ F' cb, RgR H' q (rgAdd es seq cb) F' ∧ Step H H' (q :: F) (q :: F') ∧ (rgAdd es seq cb).length ≤ 64 ∧ R7.By H.next H' cb l ∧ ∀ i, cb.pid = some i → i ≠ q ∧ i ∉ F' := by
 obtain ⟨⟨v, hv, hr⟩, ql, out⟩ := h
 refine zfS ?_
 unfold zeY
 refine zac (Rat_ok hv ql hr (by omega)) ?_
 rintro _ H1 ⟨rfl, s1⟩
 have n1 := s1.next
 have hv1 : H1.get q = _ := (s1.same _ ql).trans hv
 have hr1 := hr.to n1 fun i hi => s1.same i (hr.low i hi)
 have hb1 := hb.ext s1
 obtain ⟨ix, hix⟩ : ∃ ix, idxI (rgAt es seq) = ix := ⟨_, rfl⟩
 rw [hix]
 simp (disch := first | omega | (simp only [RY] <;> omega) | decide) only [↓RD, RZ, eq_self, Int.reduceToNat, Int.reduceAdd, Nat.reduceAdd, Nat.reduceSub, Nat.reduceMul, Nat.reduceLeDiff]
 -- what had the number goes
 refine zaM (Q := fun r H' => r = .nrm [] ∧ ∃ v2, H'.get q = some ⟨zcs, [v2], none⟩ ∧ RgS H' v2 (rgErase es (rgAt es seq)) F ∧ Step H H' (q :: F) (q :: F)) ?_ ?_
 ·cases hat : rgAt es seq with
  | none =>
   rw [hat] at hix
   have hneg : ix = -1 := hix.symm
   clear hix
   simp (disch := first | omega | (simp only [RY] <;> omega) | decide) only [↓RD, RZ, eq_self, Int.reduceToNat, Int.reduceAdd, Nat.reduceAdd, Nat.reduceSub, Nat.reduceMul, Nat.reduceLeDiff]
   exact ⟨v, hv1, hr1, s1.step _⟩
  | some i =>
   have hi := rgAt_lt hat
   rw [hat] at hix
   have hpos : ix = ((i : Nat) : Int) := hix.symm
   clear hix
   simp (disch := first | omega | (simp only [RY] <;> omega) | decide) only [↓RD, RZ, eq_self, Int.reduceToNat, Int.reduceAdd, Nat.reduceAdd, Nat.reduceSub, Nat.reduceMul, Nat.reduceLeDiff, hv1]
   rw [hpos]
   refine zac (del_ok hr1 hi (by omega)) ?_
   rintro v2 H2 ⟨hr2, s2⟩
   have c2 := hr2.cel
   have n2 := s2.next
   have hv2 : H2.get q = _ := (s2.same q (by omega) out).trans hv1
   simp (disch := first | omega | (simp only [RY] <;> omega) | decide) only [↓RD, RZ, eq_self, Int.reduceToNat, Int.reduceAdd, Nat.reduceAdd, Nat.reduceSub, Nat.reduceMul, Nat.reduceLeDiff, hv2, c2.1, c2.2]
   refine ⟨v2, rfl, hr2.to (by rw [zaL]; omega) fun j hj => zai _ _ (fun e => out (by rw [← e]; exact hj)), by rw [zaL]; omega, fun j hj hF => ?_, fun j hj => .inl hj⟩
   rw [List.mem_cons, not_or] at hF
   rw [zai _ _ hF.1, s2.same j (by omega) hF.2, s1.same j hj]
 ·rintro _ H2 ⟨rfl, v2, hv2, hr2, s2⟩
  have n2 := s2.next
  have hb2 : R7.By lo H2 bv l := hb.step s2 fun i hi hF => by
   have := hbd i hi
   rcases List.mem_cons.1 hF with h | h
   ·exact this.1 h
   ·exact this.2 h
  have hlen := rgErase_len es (rgAt es seq)
  obtain ⟨es1, hes1⟩ : ∃ es1, rgErase es (rgAt es seq) = es1 := ⟨_, rfl⟩
  rw [hes1] at hr2 hlen
  simp (disch := first | omega | (simp only [RY] <;> omega) | decide) only [↓RD, RZ, eq_self, Int.reduceToNat, Int.reduceAdd, Nat.reduceAdd, Nat.reduceSub, Nat.reduceMul, Nat.reduceLeDiff, hv2]
  refine zac (R7.Clone_ok hb2 (by omega)) ?_
  rintro cb H3 ⟨hcb, s3⟩
  have n3 := s3.next
  have ccb := hcb.cel
  have hv3 : H3.get q = _ := (s3.same q (by omega)).trans hv2
  have hr3 := hr2.to n3 fun i hi => s3.same i (hr2.low i hi)
  have u3 : H3.get q = H2.get q := s3.same q (by omega)
  simp (disch := first | omega | (simp only [RY] <;> omega) | decide) only [↓RD, RZ, eq_self, Int.reduceToNat, Int.reduceAdd, Nat.reduceAdd, Nat.reduceSub, Nat.reduceMul, Nat.reduceLeDiff, u3, ccb.1, ccb.2]
  refine okb_put (seq := seq) (b := cb) hr3 (by omega) fun v4 H4 F4 hr4 s4 => ?_
  have c4 := hr4.cel
  have n4 := s4.next
  have out4 : q ∉ F4 := fun h => by
   rcases s4.own q h with h | h
   ·exact out h
   ·omega
  have hv4 : H4.get q = _ := (s4.same q (by omega) out).trans hv3
  have hcb4 : R7.By H2.next H4 cb l := hcb.step s4 fun i hi hF => by
   have h1 := (hcb.own i hi).1
   have h2 := hr2.low i hF
   omega
  simp (disch := first | omega | (simp only [RY] <;> omega) | decide) only [↓RD, RZ, eq_self, Int.reduceToNat, Int.reduceAdd, Nat.reduceAdd, Nat.reduceSub, Nat.reduceMul, Nat.reduceLeDiff, hv4, c4.1, c4.2]
  generalize hH5 : Heap.set H4 _ _ = H5
  have n5 : H5.next = H4.next := by rw [← hH5]; rfl
  have hv5 : H5.get q = some ⟨zcs, [v4], none⟩ := by rw [← hH5]; exact zan _ _ _
  have hs5 : ∀ i, i ≠ q → H5.get i = H4.get i := fun i hi => by rw [← hH5]; exact zai _ _ hi
  clear hH5
  have hr5 := hr4.to (H' := H5) (by omega) fun i hi => hs5 i fun e => out4 (by rw [← e]; exact hi)
  have hcb5 : R7.By H2.next H5 cb l := hcb4.step (F := [q]) (F' := []) ⟨by omega, fun i hi hF => hs5 i fun e => hF (by rw [e]; exact List.mem_singleton.2 rfl), fun i hi => by cases hi⟩ fun i hi hF => by
   have h1 := (hcb.own i hi).1
   have := List.mem_singleton.1 hF
   omega
  have s5 : Step H H5 (q :: F) (q :: F4) := by
   refine ⟨by omega, fun i hi hF => ?_, fun i hi => ?_⟩
   ·have hF' := hF
    rw [List.mem_cons, not_or] at hF'
    rw [hs5 i hF'.1, s4.same i (by omega) hF'.2, s3.same i (by omega), s2.same i hi hF]
   ·rcases List.mem_cons.1 hi with rfl | hi
    ·exact .inl (List.mem_cons_self ..)
    ·rcases s4.own i hi with h | h
     ·exact .inl (List.mem_cons_of_mem _ h)
     ·exact .inr (by omega)
  have hF4 : ∀ i, cb.pid = some i → i ≠ q ∧ i ∉ F4 := fun i hi => by
   have h1 := (hcb.own i hi)
   refine ⟨by omega, fun hF => ?_⟩
   rcases s4.own i hF with h | h
   ·have := hr2.low i h
    omega
   ·omega
  simp (disch := first | omega | (simp only [RY] <;> omega) | decide) only [↓RD, RZ, eq_self, Int.reduceToNat, Int.reduceAdd, Nat.reduceAdd, Nat.reduceSub, Nat.reduceMul, Nat.reduceLeDiff, hv5, hr5.vlen]
  by_cases h64 : 64 < (es1 ++ [(seq, cb)]).length
  ·simp (disch := first | omega | (simp only [RY] <;> omega) | decide) only [↓RD, RZ, eq_self, Int.reduceToNat, Int.reduceAdd, Nat.reduceAdd, Nat.reduceSub, Nat.reduceMul, Nat.reduceLeDiff, hv5]
   refine zac (show Ok (sem T zas [v4, .int .i64 0, .int .i64 1]) H5 fun r H' => RgS H' r ((es1 ++ [(seq, cb)]).eraseIdx 0) F4 ∧ Step H5 H' F4 F4 from del_ok hr5 (i := 0) (by omega) (by rw [List.length_append]; simp; omega)) ?_
   rintro v6 H6 ⟨hr6, s6⟩
   have c6 := hr6.cel
   have n6 := s6.next
   have hv6 : H6.get q = _ := (s6.same q (by omega) out4).trans hv5
   simp (disch := first | omega | (simp only [RY] <;> omega) | decide) only [↓RD, RZ, eq_self, Int.reduceToNat, Int.reduceAdd, Nat.reduceAdd, Nat.reduceSub, Nat.reduceMul, Nat.reduceLeDiff, hv6, c6.1, c6.2]
   have et : rgAdd es seq cb = (es1 ++ [(seq, cb)]).eraseIdx 0 := by unfold rgAdd rgTrim; rw [hes1, if_pos h64]
   refine ⟨F4, cb, ?_⟩
   rw [et]
   refine ⟨⟨⟨v6, zan _ _ _, hr6.to (by rw [zaL]; omega) fun j hj => zai _ _ fun e => out4 (by rw [← e]; exact hj)⟩, by rw [zaL]; omega, out4⟩, ⟨by rw [zaL]; omega, fun i hi hF => ?_, fun i hi => ?_⟩, ?_, ?_, hF4⟩
   ·have hF' := hF
    rw [List.mem_cons, not_or] at hF'
    have hF4' : i ∉ F4 := fun h => by
     rcases s4.own i h with h | h
     ·exact hF'.2 h
     ·omega
    rw [zai _ _ hF'.1, s6.same i (by omega) hF4', s5.same i hi hF]
   ·rcases s5.own i hi with h | h
    ·exact .inl h
    ·exact .inr (by rw [zaL]; omega)
   ·rw [List.length_eraseIdx_of_lt (by omega), List.length_append]; simp; omega
   ·refine ((hcb5.step s6 fun i hi hF => (hF4 i hi).2 hF).setn (fun e => (hF4 q e).1 rfl) _).low (by omega)
  ·simp (disch := first | omega | (simp only [RY] <;> omega) | decide) only [↓RD, RZ, eq_self, Int.reduceToNat, Int.reduceAdd, Nat.reduceAdd, Nat.reduceSub, Nat.reduceMul, Nat.reduceLeDiff]
   have et : rgAdd es seq cb = es1 ++ [(seq, cb)] := by unfold rgAdd rgTrim; rw [hes1, if_neg h64]
   refine ⟨F4, cb, ?_⟩
   rw [et]
   exact ⟨⟨⟨v4, hv5, hr5⟩, by omega, out4⟩, s5, by omega, hcb5.low (by omega), hF4⟩
end Go.Ax.LN
/- Rtp2 -/
namespace Go.Ax
end Go.Ax
namespace Go.Ax.R7
open Go.Ax
abbrev X : Type := Int × List Nat
def xc (w : X × V) : List V := [.int .i64 w.1.1, w.2]
structure Exs (lo : Nat) (H : Heap) (v : V) (xs : List X) : Prop where
 ex : ∃ ws : List (X × V), ws.map (·.1) = xs ∧ Lc 2 lo H v (ws.map xc).flatten ws.length ∧ ∀ w ∈ ws, By lo H w.2 w.1.2
theorem Exs.nil {lo : Nat} {H : Heap} : Exs lo H .nils [] := ⟨[], rfl, Lc.nil, fun w h => by cases h⟩
theorem Exs.keep {lo : Nat} {H H' : Heap} {v : V} {xs : List X} (h : Exs lo H v xs) (k : Keep lo H H') : Exs lo H' v xs := by
 obtain ⟨ws, h1, h2, h3⟩ := h
 exact ⟨ws, h1, h2.keep k, fun w hw => (h3 w hw).keep k⟩
theorem Exs.ext {lo : Nat} {H H' : Heap} {v : V} {xs : List X} (h : Exs lo H v xs) (k : Grow H H') : Exs lo H' v xs := h.keep (k.keep lo)
theorem Exs.low {lo lo' : Nat} {H : Heap} {v : V} {xs : List X} (h : Exs lo H v xs) (hl : lo' ≤ lo) : Exs lo' H v xs := by
 obtain ⟨ws, h1, h2, h3⟩ := h
 exact ⟨ws, h1, h2.low hl, fun w hw => (h3 w hw).low hl⟩
theorem Exs.vlen {lo : Nat} {H : Heap} {v : V} {xs : List X} (h : Exs lo H v xs) : Ax.vlen v = some (.int .i64 (xs.length : Nat)) := by
 obtain ⟨ws, rfl, h2, h3⟩ := h
 rw [h2.vlen, List.length_map]
theorem Exs.cells1 {lo : Nat} {H : Heap} {v : V} {xs : List X} (h : Exs lo H v xs) : v.cells = [v] := by
 obtain ⟨ws, rfl, h2, h3⟩ := h
 exact h2.cells1
theorem Exs.okc {lo : Nat} {H : Heap} {v : V} {xs : List X} (h : Exs lo H v xs) : v.okc = true := by
 obtain ⟨ws, rfl, h2, h3⟩ := h
 exact h2.okc
theorem flat_piece {α : Type} {k : Nat} (es : List (List α)) (h : ∀ x ∈ es, x.length = k) (i : Nat) (hi : i < es.length) : (es.flatten.drop (i * k)).take k = es[i] := (flat_at es h i es[i] (List.getElem?_eq_getElem hi)).1
theorem xc_len (ws : List (X × V)) : ∀ x ∈ ws.map xc, x.length = 2 := fun x hx => by
 obtain ⟨w, _, rfl⟩ := List.mem_map.1 hx
 rfl
theorem Exs.at {lo : Nat} {H : Heap} {v : V} {xs : List X} (h : Exs lo H v xs) {i : Nat} (hi : i < xs.length) : ∃ p bv, (∀ {k : IntKind}, Ax.iaddr none 2 v (.int k i) = some p) ∧ Pl H p [.int .i64 xs[i].1, bv] v.pid ∧ By lo H bv xs[i].2 := by
 obtain ⟨ws, rfl, h2, h3⟩ := h
 rw [List.length_map] at hi
 obtain ⟨p, hp, hl⟩ := h2.at (i := (i : Nat)) (by omega) (by omega)
 have e : ((ws.map xc).flatten.drop (i * 2)).take 2 = [.int .i64 ws[i].1.1, ws[i].2] := by
  rw [flat_piece _ (xc_len ws) i (by rw [List.length_map]; exact hi), List.getElem_map]; rfl
 rw [Int.toNat_natCast, e] at hl
 refine ⟨p, ws[i].2, hp, ?_, ?_⟩
 ·simpa using hl
 ·simpa using h3 _ (List.getElem_mem hi)
structure AppX (ty lo : Nat) (H : Heap) (v : V) (xs : List X) : Prop where
 ex : ∃ ws : List (X × V), ws.map (·.1) = xs ∧ App ty 2 lo H v (ws.map xc).flatten ws.length ∧ ∀ w ∈ ws, By lo H w.2 w.1.2 ∧ ∀ id, w.2.pid = some id → v.pid ≠ some id
theorem AppX.exs {ty lo : Nat} {H : Heap} {v : V} {xs : List X} (h : AppX ty lo H v xs) : Exs lo H v xs := by
 obtain ⟨ws, h1, h2, h3⟩ := h
 exact ⟨ws, h1, h2.lc, fun w hw => (h3 w hw).1⟩
theorem AppX.nil {ty lo : Nat} {H : Heap} : AppX ty lo H .nils [] := ⟨[], rfl, App.nil, fun w h => by cases h⟩
theorem App.keep {ty e lo n : Nat} {H H' : Heap} {v : V} {cells : List V} (h : App ty e lo H v cells n) (k : Keep lo H H') : App ty e lo H' v cells n := by
 cases h with
 | opn h ho => exact .opn (h.to fun i hi => k.same i (ho i hi).1 (ho i hi).2) fun i hi => ⟨(ho i hi).1, Nat.lt_of_lt_of_le (ho i hi).2 k.next⟩
 | lit h h0 h1 => exact .lit (by rw [k.same _ h0 h1, h]) h0 (Nat.lt_of_lt_of_le h1 k.next)
theorem AppX.keep {ty lo : Nat} {H H' : Heap} {v : V} {xs : List X} (h : AppX ty lo H v xs) (k : Keep lo H H') : AppX ty lo H' v xs := by
 obtain ⟨ws, h1, h2, h3⟩ := h
 exact ⟨ws, h1, App.keep h2 k, fun w hw => ⟨(h3 w hw).1.keep k, (h3 w hw).2⟩⟩
theorem okb_appx {β : Type} {ty bytes lo : Nat} {H : Heap} {x y bv : V} {xs : List X} {a : Int} {b : List Nat} {f : V → M β} {Q : β → Heap → Prop} (hx : AppX ty lo H x xs) (hlo : lo ≤ H.next) (hy : acells 2 H y = some ([.int .i64 a, bv], 1)) (hbv : By lo H bv b) (hd : ∀ id, bv.pid = some id → x.pid ≠ some id)
  (hb : (xs.length + 1) * bytes ≤ 140737488355328) (hm : xs.length + 1 ≤ 140737488355328)
  (k : ∀ x' H', AppX ty lo H' x' (xs ++ [(a, b)]) → Step H H' x.pid.toList x'.pid.toList → Ok (f x') H' Q) : Ok ((mappend ty 2 bytes x y).bind f) H Q := by
 obtain ⟨ws, rfl, h2, h3⟩ := hx
 rw [List.length_map] at hb hm
 refine zfk h2 hlo hy rfl hb hm fun x' H' h s => k x' H' ⟨ws ++ [((a, b), bv)], by simp, ?_, ?_⟩ s
 ·simpa [xc] using h
 ·have hpid : ∀ id, x'.pid = some id → x.pid = some id ∨ H.next ≤ id := fun id hi => by
   rcases s.own id (by simp [hi]) with h | h
   ·exact .inl (by simpa [mem_pid] using h)
   ·exact .inr h.1
  have key : ∀ (u : V) (l : List Nat), By lo H u l → (∀ id, u.pid = some id → x.pid ≠ some id) → By lo H' u l ∧ ∀ id, u.pid = some id → x'.pid ≠ some id := by
   intro u l hu hn
   refine ⟨hu.step s fun id hi hF => hn id hi (by simpa [mem_pid] using hF), fun id hi he => ?_⟩
   rcases hpid id he with h | h
   ·exact hn id hi h
   ·have := (hu.own id hi).2; omega
  intro w hw
  rcases List.mem_append.1 hw with hw | hw
  ·exact key _ _ (h3 w hw).1 (h3 w hw).2
  ·simp only [List.mem_singleton] at hw
   subst hw
   exact key _ _ hbv hd
/-! One element. -/
def eid (one : Bool) (l : List Nat) : Nat := if one then l.getD 0 0 / 16 else l.getD 0 0
def efrom (one : Bool) : Nat := if one then 1 else 2
def enum (one : Bool) (l : List Nat) : Nat := if one then l.getD 0 0 % 16 + 1 else l.getD 1 0
def ebad (one : Bool) (l : List Nat) : Prop := eid one l = 0 ∨ l.length < efrom one + enum one l
def etake (one : Bool) (l : List Nat) : X := ((eid one l : Nat), (l.drop (efrom one)).take (enum one l))
def elen (one : Bool) (l : List Nat) : Nat := efrom one + enum one l
instance (one : Bool) (l : List Nat) : Decidable (ebad one l) := by unfold ebad; infer_instance
/-! All elements. -/
def pexts (one : Bool) (l : List Nat) : Option (List X) :=
 if h : l.length = 0 then some []
 else if l.getD 0 0 = 0 then pexts one (l.drop 1)
 else if one = true ∧ l.getD 0 0 / 16 = 15 then some []
 else if ebad one l then none
 else (pexts one (l.drop (elen one l))).map (etake one l :: ·)
termination_by l.length
decreasing_by
 all_goals simp only [List.length_drop]
 ·omega
 ·unfold elen efrom; split <;> omega
theorem elen_pos (one : Bool) (l : List Nat) : 0 < elen one l := by unfold elen efrom; split <;> omega
end Go.Ax.R7
/- Rtp3 -/
namespace Go.Ax.R7
open Go.Ax
def Hd (one : Bool) (l : List Nat) (k : Nat) (r : Res) : Prop :=
 (eid one l ≠ 0 ∧ r = .nrm [.int .i64 (eid one l : Nat), .int .i64 (enum one l : Nat), .int .i64 ((k + efrom one : Nat) : Int)]) ∨ (eid one l = 0 ∧ r = .ret [.nils, .bool false])
theorem elements_ok {lo : Nat} {H : Heap} {v : V} {l : List Nat} (h : By lo H v l) (h8 : Ok8 l) (hl : l.length ≤ 1048576) (prof : Int) (hp : -9223372036854775808 ≤ prof ∧ prof ≤ 9223372036854775807) :
  Ok (sem T zba [v, .int .i64 prof]) H fun r H' => Grow H H' ∧ match pexts (decide (prof = 48862)) l with
   | none => r = .tup [.nils, .bool false]
   | some xs => ∃ xv, r = .tup [xv, .bool true] ∧ Exs H.next H' xv xs ∧ xs.length ≤ l.length := by
 refine zd6 ?_
 unfold zcV
 simp (disch := first | omega | (simp only [RY] <;> omega) | decide) only [↓RD, RZ, eq_self, Int.reduceToNat, Int.reduceAdd, Nat.reduceAdd, Nat.reduceSub, Nat.reduceMul, Nat.reduceLeDiff]
 generalize hone : decide (prof = 48862) = one
 refine zej (fun L H' m => ∃ acc k xs, L = [acc, .int .i64 (k : Nat)] ∧ m = l.length - k ∧ k ≤ l.length ∧ AppX zcH H.next H' acc xs ∧ Grow H H' ∧ xs.length ≤ k ∧ pexts one l = (pexts one (l.drop k)).map (xs ++ ·)) l.length ?_ ?_
 ·exact ⟨.nils, 0, [], rfl, by simp, by omega, AppX.nil, Grow.refl _, by simp, by simp⟩
 ·rintro L H1 m ⟨acc, k, xs, rfl, rfl, hk, ha, hg, hx, hpe⟩
  have hdl : (l.drop k).length = l.length - k := by rw [List.length_drop]
  unfold zcE
  simp (disch := first | omega | (simp only [RY] <;> omega) | decide) only [↓RD, RZ, eq_self, Int.reduceToNat, Int.reduceAdd, Nat.reduceAdd, Nat.reduceSub, Nat.reduceMul, Nat.reduceLeDiff, h.vlen]
  by_cases h0 : l.length - k = 0
  ·have hp0 : pexts one (l.drop k) = some [] := by rw [pexts, dif_pos (by omega)]
   rw [hp0] at hpe
   simp (disch := first | omega | (simp only [RY] <;> omega) | decide) only [↓RD, RZ, eq_self, Int.reduceToNat, Int.reduceAdd, Nat.reduceAdd, Nat.reduceSub, Nat.reduceMul, Nat.reduceLeDiff]
   refine ⟨hg, ?_⟩
   rw [hpe]
   exact ⟨acc, rfl, by simpa using ha.exs, by simpa using (by omega : xs.length ≤ l.length)⟩
  ·have hpos : 0 < l.length - k := by omega
   have h1 := h.ext hg
   obtain ⟨p0, hp0, hl0, -⟩ := by_at' h1 (i := (k : Nat)) (by omega) (by omega)
   have e1 := hl0 H1 h1
   have h8k := h8.drop k
   have hb0 := getD_lt h8k 0
   have hb1 := getD_lt h8k 1
   rw [getD_drop] at hb0 hb1
   rw [Nat.add_zero] at hb0
   have ek : (k : Int) + 1 = ((k + 1 : Nat) : Int) := rfl
   rw [Int.toNat_natCast] at e1
   have hp1 : pexts one (l.drop k) = if (l.drop k).getD 0 0 = 0 then pexts one ((l.drop k).drop 1) else if one = true ∧ (l.drop k).getD 0 0 / 16 = 15 then some [] else if ebad one (l.drop k) then none else (pexts one ((l.drop k).drop (elen one (l.drop k)))).map (etake one (l.drop k) :: ·) := by
    rw [pexts, dif_neg (by omega)]
   have hk0 : (l.drop k).getD 0 0 = l.getD k 0 := by rw [getD_drop]; rfl
   have hk1 : (l.drop k).getD 1 0 = l.getD (k + 1) 0 := by rw [getD_drop]
   rw [hk0] at hp1
   simp (disch := first | omega | (simp only [RY] <;> omega) | decide) only [↓RD, RZ, eq_self, Int.reduceToNat, Int.reduceAdd, Nat.reduceAdd, Nat.reduceSub, Nat.reduceMul, Nat.reduceLeDiff, hp0, e1]
   refine zg9 (fun hz => ?_) fun hz => ?_
   ·rw [if_pos (by omega)] at hp1
    simp (disch := first | omega | (simp only [RY] <;> omega) | decide) only [↓RD, RZ, eq_self, Int.reduceToNat, Int.reduceAdd, Nat.reduceAdd, Nat.reduceSub, Nat.reduceMul, Nat.reduceLeDiff]
    refine ⟨l.length - (k + 1), by omega, acc, k + 1, xs, rfl, rfl, by omega, ha, hg, by omega, ?_⟩
    rw [hpe, hp1, List.drop_drop]
   ·rw [if_neg (by omega)] at hp1
    by_cases hend : one = true ∧ l.getD k 0 / 16 = 15
    ·rw [if_pos hend] at hp1
     have hpr : prof = 48862 := by rw [hend.1] at hone; exact of_decide_eq_true hone
     simp (disch := first | omega | (simp only [RY] <;> omega) | decide) only [↓RD, RZ, eq_self, Int.reduceToNat, Int.reduceAdd, Nat.reduceAdd, Nat.reduceSub, Nat.reduceMul, Nat.reduceLeDiff, hp0, e1, hend.2]
     refine ⟨hg, ?_⟩
     rw [hpe, hp1]
     exact ⟨acc, rfl, by simpa using ha.exs, by simp; omega⟩
    ·rw [if_neg hend] at hp1
     simp (disch := first | omega | (simp only [RY] <;> omega) | decide) only [↓RD, RZ, eq_self, Int.reduceToNat, Int.reduceAdd, Nat.reduceAdd, Nat.reduceSub, Nat.reduceMul, Nat.reduceLeDiff, hp0, e1]
     -- a head of either shape
     refine zaM (Q := fun r H' => Hd one (l.drop k) k r ∧ H' = H1) ?_ ?_
     ·refine zg9 (fun hpr => ?_) fun hpr => ?_
      ·have ho : one = true := by rw [← hone]; exact decide_eq_true hpr
       subst ho
       have h15 : l.getD k 0 / 16 ≠ 15 := fun e => hend ⟨rfl, e⟩
       have hei : eid true (l.drop k) = l.getD k 0 / 16 := by unfold eid; rw [if_pos rfl, hk0]
       have hen : enum true (l.drop k) = l.getD k 0 % 16 + 1 := by unfold enum; rw [if_pos rfl, hk0]
       by_cases hid : l.getD k 0 / 16 = 0
       ·simp (disch := first | omega | (simp only [RY] <;> omega) | decide) only [↓RD, RZ, eq_self, Int.reduceToNat, Int.reduceAdd, Nat.reduceAdd, Nat.reduceSub, Nat.reduceMul, Nat.reduceLeDiff, hp0, e1, hid]
        refine .inr ⟨?_, rfl⟩
        rw [hei]; exact hid
       ·simp (disch := first | omega | (simp only [RY] <;> omega) | decide) only [↓RD, RZ, eq_self, Int.reduceToNat, Int.reduceAdd, Nat.reduceAdd, Nat.reduceSub, Nat.reduceMul, Nat.reduceLeDiff, hp0, e1]
        refine .inl ⟨?_, ?_⟩
        ·rw [hei]; exact hid
        ·rw [hei, hen]; rfl
      ·have ho : one = false := by rw [← hone]; exact decide_eq_false hpr
       subst ho
       have hei : eid false (l.drop k) = l.getD k 0 := by unfold eid; rw [if_neg (by simp), hk0]
       have hen : enum false (l.drop k) = l.getD (k + 1) 0 := by unfold enum; rw [if_neg (by simp), hk1]
       simp (disch := first | omega | (simp only [RY] <;> omega) | decide) only [↓RD, RZ, eq_self, Int.reduceToNat, Int.reduceAdd, Nat.reduceAdd, Nat.reduceSub, Nat.reduceMul, Nat.reduceLeDiff, h1.vlen]
       by_cases hk2 : k + 1 < l.length
       ·obtain ⟨p1, hp1', hl1, -⟩ := by_at h1 (i := (k + 1 : Nat)) (by omega) (by omega)
        simp (disch := first | omega | (simp only [RY] <;> omega) | decide) only [↓RD, RZ, eq_self, Int.reduceToNat, Int.reduceAdd, Nat.reduceAdd, Nat.reduceSub, Nat.reduceMul, Nat.reduceLeDiff, ek, hp1', hl1]
        refine .inl ⟨?_, ?_⟩
        ·rw [hei]; omega
        ·rw [hei, hen]; rfl
       ·have hz1 : l.getD (k + 1) 0 = 0 := by rw [List.getD_eq_getElem?_getD, List.getElem?_eq_none (by omega)]; rfl
        simp (disch := first | omega | (simp only [RY] <;> omega) | decide) only [↓RD, RZ, eq_self, Int.reduceToNat, Int.reduceAdd, Nat.reduceAdd, Nat.reduceSub, Nat.reduceMul, Nat.reduceLeDiff]
        refine .inl ⟨?_, ?_⟩
        ·rw [hei]; omega
        ·rw [hei, hen, hz1]; rfl
     ·rintro _ H2 ⟨⟨hid, rfl⟩ | ⟨hid, rfl⟩, rfl⟩
      ·have hef : efrom one ≤ 2 := by unfold efrom; split <;> omega
       have hen : enum one (l.drop k) ≤ 255 := by unfold enum; rw [hk0, hk1]; split <;> omega
       have hei : eid one (l.drop k) ≤ 255 := by unfold eid; rw [hk0]; split <;> omega
       by_cases hs : (l.drop k).length < efrom one + enum one (l.drop k)
       ·have hbad : ebad one (l.drop k) := .inr hs
        rw [if_pos hbad] at hp1
        by_cases hs2 : l.length < k + efrom one
        ·simp (disch := first | omega | (simp only [RY] <;> omega) | decide) only [↓RD, RZ, eq_self, Int.reduceToNat, Int.reduceAdd, Nat.reduceAdd, Nat.reduceSub, Nat.reduceMul, Nat.reduceLeDiff, h1.vlen]
         rw [hpe, hp1]
         exact ⟨hg, by trivial⟩
        ·simp (disch := first | omega | (simp only [RY] <;> omega) | decide) only [↓RD, RZ, eq_self, Int.reduceToNat, Int.reduceAdd, Nat.reduceAdd, Nat.reduceSub, Nat.reduceMul, Nat.reduceLeDiff, h1.vlen]
         rw [hpe, hp1]
         exact ⟨hg, by trivial⟩
       ·have hbad : ¬ ebad one (l.drop k) := fun h => h.elim hid hs
        rw [if_neg hbad] at hp1
        obtain ⟨v', hs1, -, -, hs4, hs5⟩ := by_slice h1 (x := (k + efrom one : Nat)) (y := (k + efrom one + enum one (l.drop k) : Nat)) (by omega) (by omega) (by omega)
        have ec : ((k + efrom one : Nat) : Int) + (enum one (l.drop k) : Int) = ((k + efrom one + enum one (l.drop k) : Nat) : Int) := rfl
        have el : ((k + efrom one + enum one (l.drop k) : Nat) : Int).toNat - ((k + efrom one : Nat) : Int).toNat = enum one (l.drop k) := by omega
        rw [el, Int.toNat_natCast, ← List.drop_drop] at hs4
        simp (disch := first | omega | (simp only [RY] <;> omega) | decide) only [↓RD, RZ, eq_self, Int.reduceToNat, Int.reduceAdd, Nat.reduceAdd, Nat.reduceSub, Nat.reduceMul, Nat.reduceLeDiff, h1.vlen, ec, hs1]
        refine okb_copy hs4.ac (fun i hi => (hs4.own i hi).2) (by simp) (by rw [List.length_take, List.length_drop, List.length_drop]; omega) (by rw [List.length_take, List.length_drop, List.length_drop]; omega) fun bv H3 hb3 hg3 => ?_
        have hbv := hb3.lc
        have hn1 := hg.next
        have n3 := hg3.next
        simp (disch := first | omega | (simp only [RY] <;> omega) | decide) only [↓RD, RZ, eq_self, Int.reduceToNat, Int.reduceAdd, Nat.reduceAdd, Nat.reduceSub, Nat.reduceMul, Nat.reduceLeDiff, hbv.cells1, hbv.okc, ec]
        refine okb_appx (lo := H.next) (bytes := 32) (a := (eid one (l.drop k) : Nat)) (b := ((l.drop k).drop (efrom one)).take (enum one (l.drop k))) (ha.keep ((hg3.trans (Grow.new _ _)).keep _)) (by rw [zap]; omega) (acells_at rfl rfl) ((hbv.newn _).low (by omega)) (fun id hid e => ?_) (by omega) (by omega) fun x' H4 ha4 hs4 => ?_
        ·obtain ⟨ws, _, hw2, _⟩ := ha
         have := (hw2.lc.own id e).2
         have := (hbv.own id hid).1
         omega
        ·have hacc : ∀ id, acc.pid = some id → H.next ≤ id := fun id e => by
          obtain ⟨ws, _, hw2, _⟩ := ha
          exact (hw2.lc.own id e).1
         have n4 := hs4.next
         rw [zap] at n4
         have g4 : Grow H H4 := ⟨by omega, fun i hi => by
          rw [hs4.same i (by rw [zap]; omega) (fun e => by have := hacc i (by simpa [mem_pid] using e); omega), zat _ _ (by omega), hg3.same i (by omega), hg.same i hi]⟩
         have hel := elen_pos one (l.drop k)
         have hele : elen one (l.drop k) = efrom one + enum one (l.drop k) := rfl
         simp (disch := first | omega | (simp only [RY] <;> omega) | decide) only [↓RD, RZ, eq_self, Int.reduceToNat, Int.reduceAdd, Nat.reduceAdd, Nat.reduceSub, Nat.reduceMul, Nat.reduceLeDiff, ec]
         refine ⟨l.length - (k + elen one (l.drop k)), by omega, x', k + elen one (l.drop k), xs ++ [etake one (l.drop k)], ?_, rfl, by omega, ha4, g4, by simp; omega, ?_⟩
         ·rw [hele]; simp only [Nat.add_assoc]
         ·rw [hpe, hp1, List.drop_drop, Option.map_map]
          congr 1
          funext z; simp
      ·have hbad : ebad one (l.drop k) := .inl hid
       rw [if_pos hbad] at hp1
       simp (disch := first | omega | (simp only [RY] <;> omega) | decide) only [↓RD, RZ, eq_self, Int.reduceToNat, Int.reduceAdd, Nat.reduceAdd, Nat.reduceSub, Nat.reduceMul, Nat.reduceLeDiff]
       rw [hpe, hp1]
       exact ⟨hg, by trivial⟩
end Go.Ax.R7
/- Rtp4 -/
namespace Go.Ax.R7
open Go.Ax
def by32 (n : Nat) : V := .int .u32 n
structure Pkt where
 mark : Bool
 typ : Int
 seq : Nat
 ts : Nat
 ssrc : Nat
 csrc : List Nat
 prof : Int
 exts : List X
 pad : Int
 pay : List Nat
def pcells (p : Pkt) (cv xv pv : V) : List V := [.bool p.mark, .int .i64 p.typ, .int .u16 p.seq, .int .u32 p.ts, .int .u32 p.ssrc, cv, .int .i64 p.prof, xv, .int .i64 p.pad, pv]
structure PkR (lo : Nat) (H : Heap) (v : V) (p : Pkt) : Prop where
 ex : ∃ cv xv pv, v = .agg (pcells p cv xv pv) ∧ Lc 1 lo H cv (p.csrc.map by32) p.csrc.length ∧ Exs lo H xv p.exts ∧ By lo H pv p.pay
theorem PkR.keep {lo : Nat} {H H' : Heap} {v : V} {p : Pkt} (h : PkR lo H v p) (k : Keep lo H H') : PkR lo H' v p := by
 obtain ⟨cv, xv, pv, h1, h2, h3, h4⟩ := h
 exact ⟨cv, xv, pv, h1, h2.keep k, h3.keep k, h4.keep k⟩
theorem PkR.ext {lo : Nat} {H H' : Heap} {v : V} {p : Pkt} (h : PkR lo H v p) (k : Grow H H') : PkR lo H' v p := h.keep (k.keep lo)
theorem PkR.low {lo lo' : Nat} {H : Heap} {v : V} {p : Pkt} (h : PkR lo H v p) (hl : lo' ≤ lo) : PkR lo' H v p := by
 obtain ⟨cv, xv, pv, h1, h2, h3, h4⟩ := h
 exact ⟨cv, xv, pv, h1, h2.low hl, h3.low hl, h4.low hl⟩
def zeroP : Pkt := ⟨false, 0, 0, 0, 0, [], 0, [], 0, []⟩
theorem PkR.zero {lo : Nat} {H : Heap} : PkR lo H (.agg [.bool false, .int .i64 0, .int .u16 0, .int .u32 0, .int .u32 0, .nils, .int .i64 0, .nils, .int .i64 0, .nils]) zeroP := ⟨.nils, .nils, .nils, rfl, Lc.nil, Exs.nil, Lc.nil⟩
def piece (b : List Nat) (i n : Nat) : List Nat := (b.drop i).take n
def headP (b : List Nat) : Pkt := ⟨decide (b.getD 1 0 / 128 % 2 = 1), (b.getD 1 0 % 128 : Nat), be (piece b 2 2), be (piece b 4 4), be (piece b 8 4), [], 0, [], 0, []⟩
def csn (b : List Nat) : Nat := b.getD 0 0 % 16
def csrcs (b : List Nat) : List Nat := (List.range (csn b)).map fun i => be (piece b (12 + 4 * i) 4)
def pext (r : List Nat) : Except Int (Int × List X × Nat) :=
 if r.length < 4 then .error 3
 else if r.length < 4 + 4 * be (piece r 2 2) then .error 3
 else if be (piece r 0 2) ≠ 48862 ∧ be (piece r 0 2) ≠ 4096 then .error 2
 else match pexts (decide (((be (piece r 0 2) : Nat) : Int) = 48862)) (piece r 4 (4 * be (piece r 2 2))) with
  | none => .error 2
  | some xs => .ok ((be (piece r 0 2) : Nat), xs, 4 + 4 * be (piece r 2 2))
def pextOf (b : List Nat) : Except Int (Int × List X × Nat) := if b.getD 0 0 / 16 % 2 = 1 then pext (b.drop (12 + 4 * csn b)) else .ok (0, [], 0)
def parse (b : List Nat) : Except Int Pkt :=
 if 1200 < b.length then .error 4
 else if b.length < 12 then .error 3
 else if b.getD 0 0 / 64 ≠ 2 then .error 2
 else if b.length < 12 + 4 * csn b then .error 3
 else match pextOf b with
  | .error e => .error e
  | .ok (prof, xs, n) =>
   let at' := 12 + 4 * csn b + n
   if b.getD 0 0 / 32 % 2 = 1 then
    let pad := b.getD (b.length - 1) 0
    if pad = 0 ∨ b.length - at' < pad then .error 2
    else .ok { headP b with csrc := csrcs b, prof := prof, exts := xs, pad := (pad : Nat), pay := piece b at' (b.length - at' - pad) }
   else .ok { headP b with csrc := csrcs b, prof := prof, exts := xs, pay := piece b at' (b.length - at') }
theorem ok8_piece {b : List Nat} (h : Ok8 b) (i n : Nat) : Ok8 (piece b i n) := (h.drop i).take n
theorem piece_len {b : List Nat} {i n : Nat} (h : i + n ≤ b.length) : (piece b i n).length = n := by unfold piece; rw [List.length_take, List.length_drop]; omega
theorem be_piece_lt {b : List Nat} (h : Ok8 b) (i n : Nat) : be (piece b i n) < 256 ^ n := be_take_lt (h.drop i) (Nat.le_refl n)
theorem by_piece {lo : Nat} {H : Heap} {v : V} {l : List Nat} (h : By lo H v l) {x y : Int} (h0 : 0 ≤ x) (h1 : x ≤ y) (h2 : y ≤ l.length) :
  ∃ v', (∀ {k k' : IntKind}, vslice .sl 1 v (some (.int k x)) (some (.int k' y)) none = some v') ∧ (x = 0 → ∀ {k' : IntKind}, vslice .sl 1 v none (some (.int k' y)) none = some v') ∧ (y = l.length → ∀ {k : IntKind}, vslice .sl 1 v (some (.int k x)) none none = some v') ∧
   By lo H v' (piece l x.toNat (y.toNat - x.toNat)) ∧ v'.pid = v.pid := by_slice h h0 h1 h2
end Go.Ax.R7
/- Rtp5 -/
namespace Go.Ax.R7
open Go.Ax
def zeroC : List V := [.bool false, .int .i64 0, .int .u16 0, .int .u32 0, .int .u32 0, .nils, .int .i64 0, .nils, .int .i64 0, .nils]
def ParseQ (H : Heap) (o : Except Int Pkt) (res : V) (H' : Heap) : Prop :=
 Grow H H' ∧ match o with
  | .error e => res = .tup [.agg zeroC, .int .i64 e]
  | .ok p => ∃ z, res = .tup [z, .int .i64 0] ∧ PkR H.next H' z p
theorem errQ {H H' : Heap} {e : Int} {b : Option Blk} (h : Grow H H') : ParseQ H (.error e) (.tup [.agg zeroC, .int .i64 e]) (H'.set H.next b) := ⟨h.set (Nat.le_refl _) _, rfl⟩
end Go.Ax.R7
/- Rtp6 -/
namespace Go.Ax.R7
open Go.Ax
theorem csrc_loop2 {lo : Nat} {H : Heap} {v : V} {b : List Nat} (h : By lo H v b) (h8 : Ok8 b) (hl : b.length ≤ 1200) {k m : Nat} {p : Pkt} {xv pv : V} (t2 t3 : V) (hv : ∀ id, v.pid = some id → id < k) (hk : k < m) (hm : m ≤ H.next) (hb : H.get k = some ⟨zaj, pcells p .nils xv pv, none⟩) (hn : 12 + 4 * csn b ≤ b.length) {Q : Res → Heap → Prop}
  (kk : ∀ H' cv, H'.get k = some ⟨zaj, pcells p cv xv pv, none⟩ → Lc 1 m H' cv ((csrcs b).map by32) (csrcs b).length → (∀ i, i < m → i ≠ k → H'.get i = H.get i) → H.next ≤ H'.next → Q (.ex 0 []) H') :
  Ok (M.iter (zbI (sem T) (.int .i64 (csn b : Nat)) v (.ptr k 0) t2 t3) [.int .i64 0]) H Q := by
 have hcl : (csrcs b).length = csn b := by simp [csrcs]
 refine zaP (fun j L H' => ∃ cv, L = [.int .i64 (j : Nat)] ∧ H'.get k = some ⟨zaj, pcells p cv xv pv, none⟩ ∧ App zeL 1 m H' cv (((csrcs b).take j).map by32) j ∧ (∀ i, i < m → i ≠ k → H'.get i = H.get i) ∧ H.next ≤ H'.next) (csn b) ?_ ?_ ?_
 ·exact ⟨.nils, rfl, hb, App.nil, fun _ _ _ => rfl, Nat.le_refl _⟩
 ·rintro j L H1 hj ⟨cv, rfl, g1, ha, gs, gn⟩
  have h1 : By lo H1 v b := ⟨by rw [rcells_to fun i hi => gs i (by have := hv i hi; omega) (by have := hv i hi; omega)]; exact h.rc, fun i hi => ⟨(h.own i hi).1, Nat.lt_of_lt_of_le (h.own i hi).2 gn⟩, h.cap⟩
  have e2 : (12 : Int) + 4 * (j : Nat) = ((12 + 4 * j : Nat) : Int) := by omega
  have g1' := g1
  unfold pcells at g1'
  have r1 := @zcc _ _ _ _ (show Ok (sem T zaz [v, .int .i64 ((12 + 4 * j : Nat) : Int), .int .i64 4]) H1 (fun r H' => r = .int .u64 (be (piece b (12 + 4 * j) 4) : Nat) ∧ H' = H1) from N_ok h1 h8 (by omega) (12 + 4 * j) 4 (by omega) (by omega))
  have hw := be_piece_lt h8 (12 + 4 * j) 4
  have hm : be (piece b (12 + 4 * j) 4) % 4294967296 = be (piece b (12 + 4 * j) 4) := Nat.mod_eq_of_lt (by omega)
  unfold zbI
  simp (disch := first | omega | (simp only [RY] <;> omega) | decide) only [↓RD, RZ, eq_self, Int.reduceToNat, Int.reduceAdd, Nat.reduceAdd, Nat.reduceSub, Nat.reduceMul, Nat.reduceLeDiff, g1', e2, r1, hm]
  refine zfk (lo := m) (bytes := 4) (m := 1) (q := [by32 (be (piece b (12 + 4 * j) 4))]) (App.keep ha ((Grow.new _ _).keep _)) (by rw [zap]; omega) (acells_fresh rfl) rfl (by omega) (by omega) fun cv' H2 ha2 hs2 => ?_
  have hcv : ∀ id, cv.pid = some id → m ≤ id := fun id hi => (ha.lc.own id hi).1
  have low : ∀ i, i < m → H2.get i = H1.get i := fun i hi => by
   rw [hs2.same i (by rw [zap]; omega) (fun e => by have := hcv i (by simpa [mem_pid] using e); omega), zat _ _ (by omega)]
  have g2 := g1'
  rw [← low k (by omega)] at g2
  have n2 := hs2.next
  rw [zap] at n2
  simp (disch := first | omega | (simp only [RY] <;> omega) | decide) only [↓RD, RZ, eq_self, Int.reduceToNat, Int.reduceAdd, Nat.reduceAdd, Nat.reduceSub, Nat.reduceMul, Nat.reduceLeDiff, g2, ha2.lc.cells1, ha2.lc.okc]
  refine ⟨cv', by first | rfl | (congr 2; omega), by first | rfl | exact zan _ _ _, ?_, fun i hi hik => by rw [zai _ _ hik, low i hi, gs i hi hik], by first | omega | (rw [zaL]; omega)⟩
  have e3 : ((csrcs b).take (j + 1)).map by32 = ((csrcs b).take j).map by32 ++ [by32 (be (piece b (12 + 4 * j) 4))] := by
   have e4 : (csrcs b).getD j 0 = be (piece b (12 + 4 * j) 4) := by
    rw [List.getD_eq_getElem?_getD, List.getElem?_eq_getElem (by omega)]; simp [csrcs]
   rw [take_snoc (by omega), List.map_append, e4]; rfl
  rw [e3]
  exact App.keep ha2 (Keep.set _ (by omega) _)
 ·rintro L H1 ⟨cv, rfl, g1, ha, gs, gn⟩
  unfold zbI
  simp (disch := first | omega | (simp only [RY] <;> omega) | decide) only [↓RD, RZ, eq_self, Int.reduceToNat, Int.reduceAdd, Nat.reduceAdd, Nat.reduceSub, Nat.reduceMul, Nat.reduceLeDiff]
  have := ha.lc
  rw [← hcl, List.take_length] at this
  exact kk H1 cv g1 this gs gn
theorem bit1 (x : Nat) : ((((x % 2 : Nat) : Int) == 1)) = decide (x % 2 = 1) := by
 rcases Nat.mod_two_eq_zero_or_one x with h | h <;> simp [h]
def PE2 (H : Heap) (b : List Nat) (cv : V) (r : Res) (H' : Heap) : Prop :=
 match pextOf b with
 | .error e => ∃ L, r = .ret L ∧ ParseQ H (.error e) (zdD L) H'
 | .ok (prof, xs, n) => r = .nrm [.int .i64 (12 + 4 * csn b + n : Nat)] ∧ ∃ xv, H'.get (H.next + 1) = some ⟨zaj, pcells { headP b with prof := prof } cv xv .nils, none⟩ ∧ Exs (H.next + 2) H' xv xs ∧ Lc 1 (H.next + 2) H' cv ((csrcs b).map by32) (csrcs b).length ∧
   H'.get H.next = some ⟨zaj, zeroC, none⟩ ∧ Grow H H' ∧ H.next + 2 ≤ H'.next ∧ 12 + 4 * csn b + n ≤ b.length
def PP2 (H : Heap) (b : List Nat) (cv xv : V) (at' : Nat) (prof : Int) (xs : List X) (r : Res) (H' : Heap) : Prop :=
 if b.getD 0 0 / 32 % 2 = 1 ∧ (b.getD (b.length - 1) 0 = 0 ∨ b.length - at' < b.getD (b.length - 1) 0) then ∃ L, r = .ret L ∧ ParseQ H (.error 2) (zdD L) H'
 else r = .nrm [.int .i64 ((b.length - (if b.getD 0 0 / 32 % 2 = 1 then b.getD (b.length - 1) 0 else 0) : Nat) : Int)] ∧ H'.get (H.next + 1) = some ⟨zaj, pcells { headP b with prof := prof, pad := ((if b.getD 0 0 / 32 % 2 = 1 then b.getD (b.length - 1) 0 else 0 : Nat) : Int) } cv xv .nils, none⟩ ∧ Exs (H.next + 2) H' xv xs ∧ Lc 1 (H.next + 2) H' cv ((csrcs b).map by32) (csrcs b).length ∧
   H'.get H.next = some ⟨zaj, zeroC, none⟩ ∧ Grow H H' ∧ H.next + 2 ≤ H'.next
theorem piece_drop (b : List Nat) (i j n : Nat) : piece (b.drop i) j n = piece b (i + j) n := by
 unfold piece; rw [List.drop_drop]
theorem Parse2_ok {lo : Nat} {H : Heap} {v : V} {b : List Nat} (h : By lo H v b) (h8 : Ok8 b) (hl : b.length ≤ 1048576) : Ok (sem T zbO [v]) H (ParseQ H (parse b)) := by
 have hv : ∀ id, v.pid = some id → id < H.next := fun id hi => (h.own id hi).2
 have b0 := getD_lt h8 0
 have b1 := getD_lt h8 1
 refine zeH ?_
 unfold zds
 unfold parse
 simp (disch := first | omega | (simp only [RY] <;> omega) | decide) only [↓RD, RZ, eq_self, Int.reduceToNat, Int.reduceAdd, Nat.reduceAdd, Nat.reduceSub, Nat.reduceMul, Nat.reduceLeDiff, h.vlen]
 generalize hH1 : Heap.new H _ = H1
 have n1 : H1.next = H.next + 1 := by rw [← hH1]; rfl
 have s1 : Grow H H1 := by rw [← hH1]; exact Grow.new _ _
 have g1 : H1.get H.next = some ⟨zaj, zeroC, none⟩ := by rw [← hH1]; exact zao _ _
 have h1 := h.ext s1
 have g1' := g1
 unfold zeroC at g1'
 clear hH1
 by_cases c1 : 1200 < b.length
 ·rw [if_pos c1]
  simp (disch := first | omega | (simp only [RY] <;> omega) | decide) only [↓RD, RZ, eq_self, Int.reduceToNat, Int.reduceAdd, Nat.reduceAdd, Nat.reduceSub, Nat.reduceMul, Nat.reduceLeDiff, g1']
  exact errQ s1
 ·rw [if_neg c1]
  by_cases c2 : b.length < 12
  ·rw [if_pos c2]
   simp (disch := first | omega | (simp only [RY] <;> omega) | decide) only [↓RD, RZ, eq_self, Int.reduceToNat, Int.reduceAdd, Nat.reduceAdd, Nat.reduceSub, Nat.reduceMul, Nat.reduceLeDiff, g1', h.vlen]
   exact errQ s1
  ·rw [if_neg c2]
   obtain ⟨p0, hp0, hl0, hd0⟩ := by_at' h1 (i := 0) (by omega) (by omega)
   obtain ⟨p1, hp1, hl1, hd1⟩ := by_at' h1 (i := 1) (by omega) (by omega)
   have ht0 : (0 : Int).toNat = 0 := rfl
   have ht1 : (1 : Int).toNat = 1 := rfl
   rw [ht0] at hl0
   rw [ht1] at hl1
   have e0 := hl0 H1 h1
   have e1 := hl1 H1 h1
   by_cases c3 : b.getD 0 0 / 64 ≠ 2
   ·rw [if_pos c3]
    simp (disch := first | omega | (simp only [RY] <;> omega) | decide) only [↓RD, RZ, eq_self, Int.reduceToNat, Int.reduceAdd, Nat.reduceAdd, Nat.reduceSub, Nat.reduceMul, Nat.reduceLeDiff, g1', h.vlen, hp0, e0]
    exact errQ s1
   ·rw [if_neg c3]
    have c3' : b.getD 0 0 / 64 = 2 := by omega
    have r1 := @zcc _ _ _ _ (show Ok (sem T zaz [v, .int .i64 2, .int .i64 2]) H1 (fun r H' => r = .int .u64 (be (piece b 2 2) : Nat) ∧ H' = H1) from N_ok h1 h8 (by omega) 2 2 (by omega) (by omega))
    have r2 := @zcc _ _ _ _ (show Ok (sem T zaz [v, .int .i64 4, .int .i64 4]) H1 (fun r H' => r = .int .u64 (be (piece b 4 4) : Nat) ∧ H' = H1) from N_ok h1 h8 (by omega) 4 4 (by omega) (by omega))
    have r3 := @zcc _ _ _ _ (show Ok (sem T zaz [v, .int .i64 8, .int .i64 4]) H1 (fun r H' => r = .int .u64 (be (piece b 8 4) : Nat) ∧ H' = H1) from N_ok h1 h8 (by omega) 8 4 (by omega) (by omega))
    have w1 := be_piece_lt h8 2 2
    have w2 := be_piece_lt h8 4 4
    have w3 := be_piece_lt h8 8 4
    have m1 : be (piece b 2 2) % 65536 = be (piece b 2 2) := Nat.mod_eq_of_lt (by omega)
    have m2 : be (piece b 4 4) % 4294967296 = be (piece b 4 4) := Nat.mod_eq_of_lt (by omega)
    have m3 : be (piece b 8 4) % 4294967296 = be (piece b 8 4) := Nat.mod_eq_of_lt (by omega)
    have hm : decide (127 < ((b.getD 1 0 : Nat) : Int)) = decide (b.getD 1 0 / 128 % 2 = 1) := by
     apply decide_eq_decide.2; omega
    simp (disch := first | omega | (simp only [RY] <;> omega) | decide) only [↓RD, RZ, eq_self, Int.reduceToNat, Int.reduceAdd, Nat.reduceAdd, Nat.reduceSub, Nat.reduceMul, Nat.reduceLeDiff, h.vlen, hp0, e0, hp1, e1, c3', r1, r2, r3, m1, m2, m3, hm, n1]
    generalize hH2 : Heap.set _ (H.next + 1) _ = H2
    have n2 : H2.next = H.next + 2 := by rw [← hH2, zaL, zap]; omega
    have s2 : Grow H H2 := by rw [← hH2]; exact (s1.trans (Grow.new _ _)).set (by omega) _
    have g2 : H2.get H.next = some ⟨zaj, zeroC, none⟩ := by rw [← hH2, zai _ _ (by omega), zat _ _ (by omega), g1]
    have q2 : H2.get (H.next + 1) = some ⟨zaj, pcells (headP b) .nils .nils .nils, none⟩ := by rw [← hH2, zan]; rfl
    clear hH2
    have h2 := h.ext s2
    have e0' := hl0 H2 h2
    have g2' := g2
    unfold zeroC at g2'
    have ec : (12 : Int) + 4 * ((b.getD 0 0 % 16 : Nat) : Int) = ((12 + 4 * csn b : Nat) : Int) := by unfold csn; omega
    have hcs : csn b ≤ 15 := by unfold csn; omega
    by_cases c4 : b.length < 12 + 4 * csn b
    ·rw [if_pos c4]
     simp (disch := first | omega | (simp only [RY] <;> omega) | decide) only [↓RD, RZ, eq_self, Int.reduceToNat, Int.reduceAdd, Nat.reduceAdd, Nat.reduceSub, Nat.reduceMul, Nat.reduceLeDiff, e0', ec, h2.vlen, g2', n1]
     exact errQ s2
    ·rw [if_neg c4]
     simp (disch := first | omega | (simp only [RY] <;> omega) | decide) only [↓RD, RZ, eq_self, Int.reduceToNat, Int.reduceAdd, Nat.reduceAdd, Nat.reduceSub, Nat.reduceMul, Nat.reduceLeDiff, e0', ec, h2.vlen, n1]
     refine csrc_loop2 h2 h8 (by omega) (k := H.next + 1) (m := H.next + 2) _ _ (fun id hi => by have := hv id hi; omega) (by omega) (by omega) q2 (by omega) fun H3 cv q3 hc3 s3 n3 => ?_
     have s3' : Grow H H3 := ⟨by omega, fun i hi => by rw [s3 i (by omega) (by omega), s2.same i hi]⟩
     have g3 : H3.get H.next = some ⟨zaj, zeroC, none⟩ := by rw [s3 _ (by omega) (by omega), g2]
     have h3 := h.ext s3'
     have e03 := hl0 H3 h3
     have q3' := q3
     unfold pcells at q3'
     have g3' := g3
     unfold zeroC at g3'
     have hm16 := bit1 (b.getD 0 0 / 16)
     have hm32 := bit1 (b.getD 0 0 / 32)
     simp (disch := first | omega | (simp only [RY] <;> omega) | decide) only [↓RD, RZ, eq_self, Int.reduceToNat, Int.reduceAdd, Nat.reduceAdd, Nat.reduceSub, Nat.reduceMul, Nat.reduceLeDiff, hp0, e03, hm16, n1]
     -- the extension
     refine zaM (Q := PE2 H b cv) ?_ ?_
     ·by_cases cx : b.getD 0 0 / 16 % 2 = 1
      ·unfold PE2 pextOf
       rw [if_pos cx]
       unfold pext
       rw [List.length_drop, piece_drop, piece_drop, piece_drop, Nat.add_zero]
       have ea4 : ((12 + 4 * csn b : Nat) : Int) + 4 = ((12 + 4 * csn b + 4 : Nat) : Int) := rfl
       have ea2 : ((12 + 4 * csn b : Nat) : Int) + 2 = ((12 + 4 * csn b + 2 : Nat) : Int) := rfl
       generalize hat0 : 12 + 4 * csn b = a0 at *
       by_cases d1 : b.length - a0 < 4
       ·rw [if_pos d1]
        simp (disch := first | omega | (simp only [RY] <;> omega) | decide) only [↓RD, RZ, eq_self, Int.reduceToNat, Int.reduceAdd, Nat.reduceAdd, Nat.reduceSub, Nat.reduceMul, Nat.reduceLeDiff, cx, n1, ea4, h3.vlen, g3']
        exact errQ s3'
       ·rw [if_neg d1]
        have r4 := @zcc _ _ _ _ (show Ok (sem T zaz [v, .int .i64 ((a0 : Nat) : Int), .int .i64 2]) H3 (fun r H' => r = .int .u64 (be (piece b a0 2) : Nat) ∧ H' = H3) from N_ok h3 h8 (by omega) a0 2 (by omega) (by omega))
        have w4 := be_piece_lt h8 a0 2
        have w5 := be_piece_lt h8 (a0 + 2) 2
        generalize hprof : be (piece b a0 2) = prof at *
        generalize hnw : be (piece b (a0 + 2) 2) = nw at *
        simp (disch := first | omega | (simp only [RY] <;> omega) | decide) only [↓RD, RZ, eq_self, Int.reduceToNat, Int.reduceAdd, Nat.reduceAdd, Nat.reduceSub, Nat.reduceMul, Nat.reduceLeDiff, cx, n1, ea4, ea2, h3.vlen, r4, q3']
        generalize hH4 : Heap.set H3 (H.next + 1) _ = H4
        have n4 : H4.next = H3.next := by rw [← hH4, zaL]
        have s4 : Grow H H4 := by rw [← hH4]; exact s3'.set (by omega) _
        have g4 : H4.get H.next = some ⟨zaj, zeroC, none⟩ := by rw [← hH4, zai _ _ (by omega), g3]
        have q4 : H4.get (H.next + 1) = some ⟨zaj, pcells { headP b with prof := (prof : Nat) } cv .nils .nils, none⟩ := by rw [← hH4, zan]; rfl
        have hc4 : Lc 1 (H.next + 2) H4 cv ((csrcs b).map by32) (csrcs b).length := by rw [← hH4]; exact hc3.keep (Keep.set _ (by omega) _)
        clear hH4
        have h4 := h.ext s4
        have g4' := g4
        unfold zeroC at g4'
        have q4' := q4
        unfold pcells at q4'
        have r5 := @zcc _ _ _ _ (show Ok (sem T zaz [v, .int .i64 ((a0 + 2 : Nat) : Int), .int .i64 2]) H4 (fun r H' => r = .int .u64 (be (piece b (a0 + 2) 2) : Nat) ∧ H' = H4) from N_ok h4 h8 (by omega) (a0 + 2) 2 (by omega) (by omega))
        rw [hnw] at r5
        have ea5 : ((a0 + 4 : Nat) : Int) + 4 * (nw : Nat) = ((a0 + (4 + 4 * nw) : Nat) : Int) := by omega
        by_cases d2 : b.length - a0 < 4 + 4 * nw
        ·rw [if_pos d2]
         simp (disch := first | omega | (simp only [RY] <;> omega) | decide) only [↓RD, RZ, eq_self, Int.reduceToNat, Int.reduceAdd, Nat.reduceAdd, Nat.reduceSub, Nat.reduceMul, Nat.reduceLeDiff, r5, ea5, h4.vlen, g4']
         exact errQ s4
        ·rw [if_neg d2]
         by_cases d3 : prof ≠ 48862 ∧ prof ≠ 4096
         ·rw [if_pos d3]
          simp (disch := first | omega | (simp only [RY] <;> omega) | decide) only [↓RD, RZ, eq_self, Int.reduceToNat, Int.reduceAdd, Nat.reduceAdd, Nat.reduceSub, Nat.reduceMul, Nat.reduceLeDiff, r5, ea5, h4.vlen, g4', q4', d3.1, d3.2]
          exact errQ s4
         ·rw [if_neg d3]
          obtain ⟨v3, hs3, -, -, hb3, hp3⟩ := by_piece h4 (x := (a0 + 4 : Nat)) (y := (a0 + (4 + 4 * nw) : Nat)) (by omega) (by omega) (by omega)
          have e3 : ((a0 + (4 + 4 * nw) : Nat) : Int).toNat - ((a0 + 4 : Nat) : Int).toNat = 4 * nw := by omega
          rw [e3, Int.toNat_natCast] at hb3
          have hb3' : By lo H4 v3 (piece b (a0 + 4) (4 * nw)) := by
           have := hb3; exact this
          have h83 := ok8_piece h8 (a0 + 4) (4 * nw)
          have hl3 : (piece b (a0 + 4) (4 * nw)).length ≤ 1048576 := by rw [piece_len (by omega)]; omega
          have main : (prof = 48862 ∨ prof = 4096) → Ok ((sem T zba [v3, .int .i64 (prof : Nat)]).bind fun t125 => (M.lift (ext 0 t125)).bind fun t126 => (M.lift (ext 1 t125)).bind fun t127 => (M.lift (un .not t127)).bind fun t129 =>
            M.ite t129 ((M.lift (build zeroC [])).bind fun t130 => (zah 10 (.ptr H.next 0) t130).bind fun _ => (zab (some 10) (.ptr H.next 0)).bind fun r0 => M.pure (Res.ret [r0, .int .i64 2]))
             ((M.lift (faddr 7 (.ptr (H.next + 1) 0))).bind fun t132 => (zah 1 t132 t126).bind fun _ => (M.lift (bin .mul (.int .i64 4) (.int .i64 (nw : Nat)))).bind fun t135 => (M.lift (bin .add (.int .i64 ((a0 + 4 : Nat) : Int)) t135)).bind fun t136 => M.pure (Res.nrm [t136]))) H4
            (fun (r : Res) H' => match (match pexts (decide (((prof : Nat) : Int) = 48862)) (piece b (a0 + 4) (4 * nw)) with | none => (Except.error 2 : Except Int (Int × List X × Nat)) | some xs => Except.ok (((prof : Nat) : Int), xs, 4 + 4 * nw)) with
             | .error e => ∃ L, r = Res.ret L ∧ ParseQ H (.error e) (zdD L) H'
             | .ok (prof, xs, n) => r = Res.nrm [.int .i64 (a0 + n : Nat)] ∧ ∃ xv, H'.get (H.next + 1) = some ⟨zaj, pcells { headP b with prof := prof } cv xv .nils, none⟩ ∧ Exs (H.next + 2) H' xv xs ∧ Lc 1 (H.next + 2) H' cv ((csrcs b).map by32) (csrcs b).length ∧
               H'.get H.next = some ⟨zaj, zeroC, none⟩ ∧ Grow H H' ∧ H.next + 2 ≤ H'.next ∧ a0 + n ≤ b.length) := by
           intro hor
           refine zac (elements_ok hb3' h83 hl3 (prof : Nat) (by omega)) ?_
           rintro res H5 ⟨hg5, hr⟩
           have s5 := s4.trans hg5
           have g5 : H5.get H.next = _ := (hg5.same _ (by omega)).trans g4'
           have q5 : H5.get (H.next + 1) = _ := (hg5.same _ (by omega)).trans q4'
           have n5 := hg5.next
           cases hx : pexts (decide (((prof : Nat) : Int) = 48862)) (piece b (a0 + 4) (4 * nw)) with
           | none =>
            rw [hx] at hr
            dsimp only at hr
            subst hr
            unfold zeroC
            simp (disch := first | omega | (simp only [RY] <;> omega) | decide) only [↓RD, RZ, eq_self, Int.reduceToNat, Int.reduceAdd, Nat.reduceAdd, Nat.reduceSub, Nat.reduceMul, Nat.reduceLeDiff, g5]
            exact errQ s5
           | some xs =>
            rw [hx] at hr
            dsimp only at hr
            obtain ⟨xv', rfl, hxs, hxl⟩ := hr
            simp (disch := first | omega | (simp only [RY] <;> omega) | decide) only [↓RD, RZ, eq_self, Int.reduceToNat, Int.reduceAdd, Nat.reduceAdd, Nat.reduceSub, Nat.reduceMul, Nat.reduceLeDiff, q5, hxs.cells1, hxs.okc, ea5]
            exact ⟨xv', rfl, (hxs.low (by omega)).keep (Keep.set _ (by omega) _), (hc4.ext hg5).keep (Keep.set _ (by omega) _), by rw [hg5.same _ (by omega), g4], s5.set (by omega) _, by omega, by omega⟩
          by_cases hp1 : prof = 48862
          ·subst hp1
           simp (disch := first | omega | (simp only [RY] <;> omega) | decide) only [↓RD, RZ, eq_self, Int.reduceToNat, Int.reduceAdd, Nat.reduceAdd, Nat.reduceSub, Nat.reduceMul, Nat.reduceLeDiff, r5, ea5, h4.vlen, q4', hs3]
           exact main (.inl rfl)
          ·have hp2 : prof = 4096 := by omega
           subst hp2
           simp (disch := first | omega | (simp only [RY] <;> omega) | decide) only [↓RD, RZ, eq_self, Int.reduceToNat, Int.reduceAdd, Nat.reduceAdd, Nat.reduceSub, Nat.reduceMul, Nat.reduceLeDiff, r5, ea5, h4.vlen, q4', hs3]
           exact main (.inr rfl)
      ·simp (disch := first | omega | (simp only [RY] <;> omega) | decide) only [↓RD, RZ, eq_self, Int.reduceToNat, Int.reduceAdd, Nat.reduceAdd, Nat.reduceSub, Nat.reduceMul, Nat.reduceLeDiff, cx, n1]
       unfold PE2 pextOf
       rw [if_neg cx]
       exact ⟨rfl, .nils, q3, Exs.nil, hc3, g3, s3', by omega, by omega⟩
     ·rintro r H4 hPE
      unfold PE2 at hPE
      cases hx : pextOf b with
      | error e =>
       rw [hx] at hPE
       obtain ⟨L, rfl, hq⟩ := hPE
       simp (disch := first | omega | (simp only [RY] <;> omega) | decide) only [↓RD, RZ, eq_self, Int.reduceToNat, Int.reduceAdd, Nat.reduceAdd, Nat.reduceSub, Nat.reduceMul, Nat.reduceLeDiff]
       exact hq
      | ok o =>
       obtain ⟨prof, xs, n⟩ := o
       rw [hx] at hPE
       obtain ⟨rfl, xv, q4, hxs, hc4, g4, s4, n4, hat⟩ := hPE
       dsimp only
       have h4 := h.ext s4
       generalize hatd : 12 + 4 * csn b + n = at' at *
       obtain ⟨pl, hpl, hll, hdl⟩ := by_at' h4 (i := (b.length - 1 : Nat)) (by omega) (by omega)
       rw [Int.toNat_natCast] at hll
       have e04 := hl0 H4 h4
       have el4 := hll H4 h4
       have elen' : (b.length : Int) - 1 = ((b.length - 1 : Nat) : Int) := by omega
       have eat' : (b.length : Int) - (at' : Nat) = ((b.length - at' : Nat) : Int) := by omega
       have bl := getD_lt h8 (b.length - 1)
       have q4' := q4
       unfold pcells at q4'
       have g4' := g4
       unfold zeroC at g4'
       simp (disch := first | omega | (simp only [RY] <;> omega) | decide) only [↓RD, RZ, eq_self, Int.reduceToNat, Int.reduceAdd, Nat.reduceAdd, Nat.reduceSub, Nat.reduceMul, Nat.reduceLeDiff, hp0, e04, hm32, n1, h4.vlen]
       -- the padding
       refine zaM (Q := PP2 H b cv xv at' prof xs) ?_ ?_
       ·by_cases cp : b.getD 0 0 / 32 % 2 = 1
        ·by_cases cz : b.getD (b.length - 1) 0 = 0
         ·simp (disch := first | omega | (simp only [RY] <;> omega) | decide) only [↓RD, RZ, eq_self, Int.reduceToNat, Int.reduceAdd, Nat.reduceAdd, Nat.reduceSub, Nat.reduceMul, Nat.reduceLeDiff, cp, h4.vlen, elen', eat', hpl, el4, q4', cz, g4', n1]
          unfold PP2
          rw [if_pos ⟨cp, .inl cz⟩]
          exact ⟨_, rfl, errQ (s4.set (by omega) _)⟩
         ·by_cases cl : b.length - at' < b.getD (b.length - 1) 0
          ·simp (disch := first | omega | (simp only [RY] <;> omega) | decide) only [↓RD, RZ, eq_self, Int.reduceToNat, Int.reduceAdd, Nat.reduceAdd, Nat.reduceSub, Nat.reduceMul, Nat.reduceLeDiff, cp, h4.vlen, elen', eat', hpl, el4, q4', g4', n1]
           unfold PP2
           rw [if_pos ⟨cp, .inr cl⟩]
           exact ⟨_, rfl, errQ (s4.set (by omega) _)⟩
          ·have ell : (b.length : Int) - ((b.getD (b.length - 1) 0 : Nat) : Int) = ((b.length - b.getD (b.length - 1) 0 : Nat) : Int) := by omega
           simp (disch := first | omega | (simp only [RY] <;> omega) | decide) only [↓RD, RZ, eq_self, Int.reduceToNat, Int.reduceAdd, Nat.reduceAdd, Nat.reduceSub, Nat.reduceMul, Nat.reduceLeDiff, cp, h4.vlen, elen', eat', hpl, el4, q4', g4', n1, ell]
           unfold PP2
           rw [if_neg (fun e => e.2.elim cz cl), if_pos cp]
           refine ⟨rfl, zan _ _ _, hxs.keep (Keep.set _ (by omega) _), hc4.keep (Keep.set _ (by omega) _), by rw [zai _ _ (by omega), g4], s4.set (by omega) _, n4⟩
        ·simp (disch := first | omega | (simp only [RY] <;> omega) | decide) only [↓RD, RZ, eq_self, Int.reduceToNat, Int.reduceAdd, Nat.reduceAdd, Nat.reduceSub, Nat.reduceMul, Nat.reduceLeDiff, cp, n1]
         unfold PP2
         rw [if_neg (fun e => cp e.1), if_neg cp]
         exact ⟨rfl, q4, hxs, hc4, g4, s4, n4⟩
       ·rintro r H5 hPP
        unfold PP2 at hPP
        generalize hpad : (if b.getD 0 0 / 32 % 2 = 1 then b.getD (b.length - 1) 0 else 0) = pad at *
        by_cases ce : b.getD 0 0 / 32 % 2 = 1 ∧ (b.getD (b.length - 1) 0 = 0 ∨ b.length - at' < b.getD (b.length - 1) 0)
        ·rw [if_pos ce] at hPP
         obtain ⟨L, rfl, hq⟩ := hPP
         rw [if_pos ce.1, if_pos ce.2]
         simp (disch := first | omega | (simp only [RY] <;> omega) | decide) only [↓RD, RZ, eq_self, Int.reduceToNat, Int.reduceAdd, Nat.reduceAdd, Nat.reduceSub, Nat.reduceMul, Nat.reduceLeDiff]
         exact hq
        ·rw [if_neg ce] at hPP
         obtain ⟨rfl, q5, hx5, hc5, g5, s5, n5⟩ := hPP
         have hpl' : pad ≤ b.length - at' := by
          rw [← hpad]; split
          ·rename_i cp
           have : ¬ (b.getD (b.length - 1) 0 = 0 ∨ b.length - at' < b.getD (b.length - 1) 0) := fun e => ce ⟨cp, e⟩
           omega
          ·omega
         have q5' := q5
         unfold pcells at q5'
         have h5 := h.ext s5
         obtain ⟨v6, hs6, -, -, hb6, hp6⟩ := by_piece (h5.ext (Grow.new H5 ⟨zaD, [], none⟩)) (x := (at' : Nat)) (y := (b.length - pad : Nat)) (by omega) (by omega) (by omega)
         have e6 : ((b.length - pad : Nat) : Int).toNat - ((at' : Nat) : Int).toNat = b.length - at' - pad := by omega
         rw [e6, Int.toNat_natCast] at hb6
         have hp6' : ∀ id, v6.pid = some id → id < H5.next := fun id hi => (h5.own id (hp6 ▸ hi)).2
         have l6 : (piece b at' (b.length - at' - pad)).length = b.length - at' - pad := piece_len (by omega)
         have hb6' : acells 1 H5 v6 = some ((piece b at' (b.length - at' - pad)).map by8, b.length - at' - pad) := by
          have := hb6.ac
          rw [acells_to fun i hi => zat _ _ (by have := hp6' i hi; omega), l6] at this
          exact this
         simp (disch := first | omega | (simp only [RY] <;> omega) | decide) only [↓RD, RZ, eq_self, Int.reduceToNat, Int.reduceAdd, Nat.reduceAdd, Nat.reduceSub, Nat.reduceMul, Nat.reduceLeDiff, hs6, n1]
         refine okb_copy hb6' hp6' (by rw [List.length_map, l6]; omega) (by omega) (by omega) fun pv H6 ha7 s7 => ?_
         have hb7 : By H5.next H6 pv (piece b at' (b.length - at' - pad)) := by
          show Lc 1 H5.next H6 pv ((piece b at' (b.length - at' - pad)).map by8) (piece b at' (b.length - at' - pad)).length
          rw [l6]; exact ha7.lc
         have q6 : H6.get (H.next + 1) = _ := (s7.same _ (by omega)).trans q5'
         have g6 : H6.get H.next = _ := (s7.same _ (by omega)).trans g5
         unfold zeroC at g6
         have n7 := s7.next
         simp (disch := first | omega | (simp only [RY] <;> omega) | decide) only [↓RD, RZ, eq_self, Int.reduceToNat, Int.reduceAdd, Nat.reduceAdd, Nat.reduceSub, Nat.reduceMul, Nat.reduceLeDiff, q6, hb7.cells1, hb7.okc, g6, n1]
         have hfin : (if b.getD 0 0 / 32 % 2 = 1 then (if b.getD (b.length - 1) 0 = 0 ∨ b.length - at' < b.getD (b.length - 1) 0 then (Except.error 2 : Except Int Pkt) else .ok { headP b with csrc := csrcs b, prof := prof, exts := xs, pad := (b.getD (b.length - 1) 0 : Nat), pay := piece b at' (b.length - at' - b.getD (b.length - 1) 0) }) else .ok { headP b with csrc := csrcs b, prof := prof, exts := xs, pay := piece b at' (b.length - at') })
           = .ok { headP b with csrc := csrcs b, prof := prof, exts := xs, pad := (pad : Nat), pay := piece b at' (b.length - at' - pad) } := by
          rw [← hpad]
          by_cases cp : b.getD 0 0 / 32 % 2 = 1
          ·rw [if_pos cp, if_pos cp, if_neg (fun e => ce ⟨cp, e⟩)]
          ·rw [if_neg cp, if_neg cp]; rfl
         rw [hfin]
         refine ⟨((s5.trans s7).set (by omega) _).set (by omega) _, _, rfl, cv, xv, pv, rfl, ?_, ?_, ?_⟩
         ·exact (((hc5.ext s7).keep (Keep.set _ (by omega) _)).keep (Keep.set _ (by omega) _)).low (by omega)
         ·exact (((hx5.ext s7).keep (Keep.set _ (by omega) _)).keep (Keep.set _ (by omega) _)).low (by omega)
         ·exact (((hb7.low (lo' := H.next + 2) (by omega)).keep (Keep.set _ (by omega) _)).keep (Keep.set _ (by omega) _)).low (by omega)
end Go.Ax.R7
/- Rtp7 -/
namespace Go.Ax.R7
open Go.Ax
theorem w_at {lo : Nat} {H : Heap} {v : V} {l : List Nat} (h : Lc 1 lo H v (l.map by32) l.length) {i : Nat} (hi : i < l.length) : ∃ p, (∀ {k : IntKind}, Ax.iaddr none 1 v (.int k i) = some p) ∧ LdR none H p (.int .u32 (l[i] : Nat)) := by
 obtain ⟨p, hp, hl⟩ := h.at (i := (i : Nat)) (by omega) (by omega)
 have e : ((l.map by32).drop ((i : Int).toNat * 1)).take 1 = [by32 l[i]] := by
  rw [Nat.mul_one, Int.toNat_natCast, ← List.map_drop, List.drop_eq_getElem_cons hi]; rfl
 rw [e] at hl
 refine ⟨p, hp, fun f Q => ?_⟩
 rw [hl.ld0 (by simp)]
 exact b_lift
theorem pl_two {H : Heap} {p a b : V} {own : Option Nat} (h : Pl H p [a, b] own) : LdR none H (fa p 0) a ∧ LdR none H (fa p 1) b :=
 ⟨fun f Q => by rw [h.ld (by simp)]; exact b_lift, fun f Q => by rw [h.ld (by simp)]; exact b_lift⟩
theorem Exs.own {lo : Nat} {H : Heap} {v : V} {xs : List X} (h : Exs lo H v xs) : ∀ id, v.pid = some id → lo ≤ id ∧ id < H.next := by
 obtain ⟨ws, rfl, h2, h3⟩ := h
 exact h2.own
end Go.Ax.R7
/- Rtp8 -/
namespace Go.Ax.R7
open Go.Ax
structure Fit (p : Pkt) : Prop where
 a : p.csrc.length ≤ 15
 b : p.exts.length ≤ 1200
 c : p.pay.length ≤ 1200
 d : ∀ x ∈ p.exts, x.2.length ≤ 1200
end Go.Ax.R7
namespace Go.Ax
open R7
end Go.Ax
/- Rtp9 -/
namespace Go.Ax.R7
open Go.Ax
structure Sml (p : Pkt) : Prop where
 a : p.csrc.length ≤ 1048576
 b : p.exts.length ≤ 1048576
 c : p.pay.length ≤ 1048576
 d : ∀ x ∈ p.exts, x.2.length ≤ 1048576
def idxV : Option Nat → V
 | some i => .int .i64 (i : Nat)
 | none => .int .i64 (-1)
theorem IndexFunc_ok {lo : Nat} {H : Heap} {v f : V} {xs : List X} (h : Exs lo H v xs) (P : X → Bool) (hn : xs.length ≤ 1099511627776)
  (hf : ∀ H', Grow H H' → ∀ (x : X) (bv : V), By lo H' bv x.2 → Ok (callv (sem T) f [.agg [.int .i64 x.1, bv]]) H' fun r H'' => r = .bool (P x) ∧ Grow H' H'') :
  Ok (sem T zaK [v, f]) H fun r H' => r = idxV (xs.findIdx? P) ∧ Grow H H' := by
 refine zcS ?_
 unfold zbS
 simp (disch := omega) only [↓RD, RZ, h.vlen]
 refine zaP (fun k L H' => L = [.int .i64 (k : Nat)] ∧ Grow H H' ∧ ∀ j (hj : j < xs.length), j < k → P xs[j] = false) xs.length ?_ ?_ ?_
 ·exact ⟨rfl, Grow.refl _, fun j hj hk => absurd hk (by omega)⟩
 ·rintro k L H1 hk ⟨rfl, s1, hP⟩
  obtain ⟨q, bv, i1, l1, w1⟩ := (h.ext s1).at hk
  have l2 := l1.all
  dsimp only [List.length_cons, List.length_nil] at l2
  unfold zbb
  simp (disch := omega) only [↓RD, RZ, i1, l2]
  refine zac (hf H1 s1 _ bv w1) ?_
  rintro _ H2 ⟨rfl, s2⟩
  cases hp : P xs[k] with
  | true =>
   simp (disch := omega) only [↓RD, RZ]
   refine ⟨?_, s1.trans s2⟩
   have : xs.findIdx? P = some k := List.findIdx?_eq_some_iff_getElem.2 ⟨hk, hp, fun j hj => by rw [hP j (by omega) hj]; decide⟩
   rw [this]; rfl
  | false =>
   simp (disch := omega) only [↓RD, RZ]
   refine ⟨by rfl, s1.trans s2, fun j hj hjk => ?_⟩
   rcases Nat.lt_or_ge j k with h | h
   ·exact hP j hj h
   ·have : j = k := by omega
    subst this; exact hp
 ·rintro L H1 ⟨rfl, s1, hP⟩
  unfold zbb
  simp (disch := omega) only [↓RD, RZ]
  refine ⟨?_, s1⟩
  have : xs.findIdx? P = none := List.findIdx?_eq_none_iff.2 fun x hx => by
   obtain ⟨j, hj, rfl⟩ := List.getElem_of_mem hx
   exact hP j hj hj
  rw [this]; rfl
def fd (a : Int) (xs : List X) : Option Nat := xs.findIdx? fun x => x.1 == a
theorem fd_lt {a : Int} {xs : List X} {i : Nat} (h : fd a xs = some i) : i < xs.length := (List.findIdx?_eq_some_iff_getElem.1 h).1
theorem at_ok {lo : Nat} {H : Heap} {v : V} {p : Pkt} (h : PkR lo H v p) (a : Int) (hn : p.exts.length ≤ 1099511627776) :
  Ok (sem T zeU [v, .int .i64 a]) H fun r H' => r = idxV (fd a p.exts) ∧ Grow H H' := by
 obtain ⟨cv, xv, pv, rfl, hc, hx, hp⟩ := h
 refine zhC ?_
 unfold zhh
 unfold pcells
 simp (disch := first | omega | (simp only [RY] <;> omega) | decide) only [↓RD, RZ, Nat.reduceAdd, hc.cells1, hx.cells1, hp.cells1, hc.okc, hx.okc, hp.okc]
 generalize hH2 : Heap.new (Heap.new H _) _ = H2
 have s2 : Grow H H2 := by rw [← hH2]; exact (Grow.new _ _).trans (Grow.new _ _)
 have n2 : H2.next = H.next + 2 := by rw [← hH2]; rfl
 have g2 : H2.get (H.next + 1) = some ⟨zcI, [.int .i64 a], none⟩ := by rw [← hH2]; exact zao _ _
 clear hH2
 refine zac (IndexFunc_ok (hx.ext s2) (fun x => x.1 == a) hn fun H3 s3 x bv hb => ?_) ?_
 ·have g3 : H3.get (H.next + 1) = _ := (s3.same _ (by omega)).trans g2
  have n3 := s3.next
  show Ok (sem T zes [.agg [.int .i64 x.1, bv], .ptr (H.next + 1) 0]) H3 _
  refine zgY ?_
  unfold zgo
  simp (disch := first | omega | (simp only [RY] <;> omega) | decide) only [↓RD, RZ, Nat.reduceAdd, hb.cells1, hb.okc, g3]
  exact Grow.new _ _
 ·rintro _ H3 ⟨rfl, s3⟩
  simp (disch := first | omega | (simp only [RY] <;> omega) | decide) only [↓RD, RZ, Nat.reduceAdd]
  exact ⟨rfl, s2.trans s3⟩
def FQ (lo : Nat) (H : Heap) (o : Option (List Nat)) (r : V) : Prop := match o with
 | none => r = .tup [.nils, .bool false]
 | some l => ∃ bv, r = .tup [bv, .bool true] ∧ By lo H bv l
def got (a : Int) (p : Pkt) : Option (List Nat) := (p.exts.find? fun x => x.1 == a).map (·.2)
theorem got_some {a : Int} {p : Pkt} {i : Nat} (h : fd a p.exts = some i) : got a p = some (p.exts[i]'(fd_lt h)).2 := by
 obtain ⟨h1, h2, h3⟩ := List.findIdx?_eq_some_iff_getElem.1 h
 unfold got
 have : p.exts.find? (fun x => x.1 == a) = some p.exts[i] := List.find?_eq_some_iff_getElem.2 ⟨h2, i, h1, rfl, fun j hj => by simpa using h3 j hj⟩
 rw [this]; rfl
theorem got_none {a : Int} {p : Pkt} (h : fd a p.exts = none) : got a p = none := by
 have := List.findIdx?_eq_none_iff.1 h
 unfold got
 rw [List.find?_eq_none.2 fun x hx => by rw [this x hx]; decide]; rfl
theorem Find2_ok {lo : Nat} {H : Heap} {v : V} {p : Pkt} (h : PkR lo H v p) (a : Int) (hs : Sml p) :
  Ok (sem T zbW [v, .int .i64 a]) H fun r H' => FQ 0 H' (got a p) r ∧ Grow H H' := by
 obtain ⟨cv, xv, pv, rfl, hc, hx, hp⟩ := h
 refine zeQ ?_
 unfold zdI
 have hn := hs.b
 unfold pcells
 simp (disch := omega) only [↓RD, RZ, hc.cells1, hx.cells1, hp.cells1, hc.okc, hx.okc, hp.okc]
 generalize hH1 : Heap.new H _ = H1
 have s1 : Grow H H1 := by rw [← hH1]; exact Grow.new _ _
 have g1 : H1.get H.next = some ⟨zaj, pcells p cv xv pv, none⟩ := by rw [← hH1]; exact zao _ _
 clear hH1
 unfold pcells at g1
 replace hx := hx.ext s1
 refine zaP (fun k L H' => L = [.int .i64 (k : Nat)] ∧ H' = H1 ∧ ∀ j (hj : j < p.exts.length), j < k → (p.exts[j].1 == a) = false) p.exts.length ?_ ?_ ?_
 ·exact ⟨rfl, rfl, fun j hj hk => absurd hk (by omega)⟩
 ·rintro k L H1 hk ⟨rfl, rfl, hP⟩
  obtain ⟨q, bv, i1, l1, w1⟩ := hx.at hk
  unfold zcj
  cases hp : p.exts[k].1 == a with
  | true =>
   simp (disch := omega) only [↓RD, RZ, g1, hx.vlen, i1, l1.fa, (pl_two l1).1, (pl_two l1).2, hp]
   have : fd a p.exts = some k := List.findIdx?_eq_some_iff_getElem.2 ⟨hk, hp, fun j hj => by rw [hP j (by omega) hj]; decide⟩
   rw [got_some this]
   exact ⟨⟨bv, rfl, w1.low (by omega)⟩, s1⟩
  | false =>
   simp (disch := omega) only [↓RD, RZ, g1, hx.vlen, i1, l1.fa, (pl_two l1).1, (pl_two l1).2, hp]
   refine ⟨by rfl, fun j hj hjk => ?_⟩
   rcases Nat.lt_or_ge j k with h | h
   ·exact hP j hj h
   ·have : j = k := by omega
    subst this; exact hp
 ·rintro L H1 ⟨rfl, rfl, hP⟩
  unfold zcj
  simp (disch := omega) only [↓RD, RZ, g1, hx.vlen]
  have : fd a p.exts = none := List.findIdx?_eq_none_iff.2 fun x hx => by
   obtain ⟨j, hj, rfl⟩ := List.getElem_of_mem hx
   exact hP j hj hj
  rw [got_none this]
  exact ⟨rfl, s1⟩
end Go.Ax.R7
