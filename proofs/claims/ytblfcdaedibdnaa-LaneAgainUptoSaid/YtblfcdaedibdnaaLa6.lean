/-
  Texts of mine, put together by program (wip/slim.py), for law_laneAgain: part 6.
-/
import Derived.Test.YtblfcdaedibdnaaLa5
set_option linter.unusedVariables false
set_option linter.unusedSimpArgs false
set_option linter.defProp false
set_option maxRecDepth 100000
/- DepS1 -/
namespace Go.Ax.D9
open Go.Ax
theorem list_ne {a b : List Int} {k : Nat} (h : k < a.length) (h' : k < b.length) (e : a[k] ≠ b[k]) : a ≠ b := fun he => by subst he; exact e rfl
theorem list_eq {a b : List Int} (hl : a.length = b.length) (h : ∀ j (hj : j < a.length), a[j] = b[j]'(by omega)) : a = b := List.ext_getElem hl fun i h1 h2 => h i h1
theorem Equal_ok {lo lo' : Nat} {H : Heap} {v w : V} {a b : List Int} (ha : Il lo H v a) (hb : Il lo' H w b) (hl : a.length ≤ 1099511627776) :
  Ok (sem T za0 [v, w]) H fun r H' => r = .bool (decide (a = b)) ∧ H' = H := by
 refine zd7 ?_
 unfold zcW
 by_cases e : a.length = b.length
 ·simp (disch := omega) only [↓RD, RZ, ha.vlen, hb.vlen, e]
  rw [← e]
  refine zaM (Q := fun r H' => H' = H ∧ ((r = Res.ex 0 [] ∧ a = b) ∨ (r = .ret [.bool false] ∧ a ≠ b))) ?_ ?_
  ·refine zaK (fun k L H' => L = [.int .i64 (k : Nat)] ∧ H' = H ∧ ∀ j (hj : j < a.length), j < k → a[j] = b[j]'(by omega)) a.length ?_ ?_ ?_
   ·exact ⟨rfl, rfl, fun j hj hk => absurd hk (by omega)⟩
   ·rintro k L H1 hk ⟨rfl, rfl, hP⟩
    obtain ⟨p, hp, lp, -⟩ := il_at ha (i := (k : Nat)) (by omega) (by omega)
    obtain ⟨q, hq, lq, -⟩ := il_at hb (i := (k : Nat)) (by omega) (by omega)
    rw [Int.toNat_natCast, getD_get hk] at lp
    rw [Int.toNat_natCast, getD_get (by omega)] at lq
    unfold zbT
    by_cases e1 : a[k] = b[k]'(by omega)
    ·simp (disch := omega) only [↓RD, RZ, hp, lp, hq, lq, e1]
     refine ⟨by rfl, fun j hj hjk => ?_⟩
     rcases Nat.lt_or_ge j k with h | h
     ·exact hP j hj h
     ·have : j = k := by omega
      subst this; exact e1
    ·simp (disch := omega) only [↓RD, RZ, hp, lp, hq, lq]
     exact .inr (list_ne hk (by omega) e1)
   ·rintro L H1 ⟨rfl, rfl, hP⟩
    unfold zbT
    simp (disch := omega) only [↓RD, RZ]
    exact .inl (list_eq e fun j hj => hP j hj hj)
  ·rintro r H' ⟨rfl, ⟨rfl, h⟩ | ⟨rfl, h⟩⟩
   ·simp (disch := omega) only [↓RD, RZ]
    rw [decide_eq_true h]
   ·simp (disch := omega) only [↓RD, RZ]
    rw [decide_eq_false h]
 ·simp (disch := omega) only [↓RD, RZ, ha.vlen, hb.vlen]
  rw [decide_eq_false fun h => e (by rw [h])]
theorem SameInts_ok {lo lo' : Nat} {H : Heap} {v w : V} {a b : List Int} (ha : Il lo H v a) (hb : Il lo' H w b) (hl : a.length ≤ 1099511627776) :
  Ok (sem T zaP [v, w]) H fun r H' => r = .bool (decide (a = b)) ∧ H' = H := by
 refine zdT ?_
 unfold zcK
 by_cases e : a.length = b.length
 ·have hbv := hb.vlen
  rw [← e] at hbv
  simp (disch := omega) only [↓RD, RZ, ha.vlen, hbv]
  refine zaM (Q := fun r H' => H' = H ∧ ((r = Res.ex 0 [] ∧ a = b) ∨ (r = .ret [.bool false] ∧ a ≠ b))) ?_ ?_
  ·refine zaK (fun k L H' => L = [.int .i64 (k : Nat)] ∧ H' = H ∧ ∀ j (hj : j < a.length), j < k → a[j] = b[j]'(by omega)) a.length ?_ ?_ ?_
   ·exact ⟨rfl, rfl, fun j hj hk => absurd hk (by omega)⟩
   ·rintro k L H1 hk ⟨rfl, rfl, hP⟩
    obtain ⟨p, hp, lp, -⟩ := il_at ha (i := (k : Nat)) (by omega) (by omega)
    obtain ⟨q, hq, lq, -⟩ := il_at hb (i := (k : Nat)) (by omega) (by omega)
    rw [Int.toNat_natCast, getD_get hk] at lp
    rw [Int.toNat_natCast, getD_get (by omega)] at lq
    unfold zbM
    by_cases e1 : a[k] = b[k]'(by omega)
    ·simp (disch := omega) only [↓RD, RZ, ha.vlen, hp, lp, hq, lq, e1]
     refine ⟨by rfl, fun j hj hjk => ?_⟩
     rcases Nat.lt_or_ge j k with h | h
     ·exact hP j hj h
     ·have : j = k := by omega
      subst this; exact e1
    ·simp (disch := omega) only [↓RD, RZ, ha.vlen, hp, lp, hq, lq]
     exact .inr (list_ne hk (by omega) e1)
   ·rintro L H1 ⟨rfl, rfl, hP⟩
    unfold zbM
    simp (disch := omega) only [↓RD, RZ, ha.vlen]
    exact .inl (list_eq e fun j hj => hP j hj hj)
  ·rintro r H' ⟨rfl, ⟨rfl, h⟩ | ⟨rfl, h⟩⟩
   ·simp (disch := omega) only [↓RD, RZ]
    rw [decide_eq_true h]
   ·simp (disch := omega) only [↓RD, RZ]
    rw [decide_eq_false h]
 ·simp (disch := omega) only [↓RD, RZ, ha.vlen, hb.vlen]
  rw [decide_eq_false fun h => e (by rw [h])]
theorem okb_copy {β : Type} {ty e bytes m : Nat} {H : Heap} {y : V} {q : List V} {f : V → M β} {Q : β → Heap → Prop} (hy : acells e H y = some (q, m)) (hp : ∀ id, y.pid = some id → id < H.next) (hq : q.length = m * e)
  (hb : m * bytes ≤ 140737488355328) (hm : m ≤ 140737488355328)
  (k : ∀ x' H', App ty e H.next H' x' q m → Grow H H' → Ok (f x') H' Q) : Ok ((mappend ty e bytes (.sl H.next 0 0 (.fix 0)) y).bind f) (H.new ⟨ty, [], none⟩) Q := by
 have ha : App ty e H.next (H.new ⟨ty, [], none⟩) (.sl H.next 0 0 (.fix 0)) [] 0 := .lit (zak _ _) (Nat.le_refl _) (by rw [zan]; omega)
 refine zfS ha (by rw [zan]; omega) (by rw [acells_to fun i hi => zay _ _ (by have := hp i hi; omega)]; exact hy) hq (by simpa using hb) (by omega) fun x' H' h hs => ?_
 refine k x' H' (by simpa using h) ⟨by have := hs.next; rw [zan] at this; omega, fun i hi => ?_⟩
 rw [hs.same i (by rw [zan]; omega) (by simp [V.pid]; omega), zay _ _ (by omega)]
theorem CloneI_ok {lo : Nat} {H : Heap} {v : V} {l : List Int} (h : Il lo H v l) (hl : l.length ≤ 1099511627776) : Ok (sem T za2 [v]) H fun r H' => Il H.next H' r l ∧ Grow H H' := by
 refine zd8 ?_
 unfold zcX
 rcases h.cases with ⟨rfl, hc, hn⟩ | ⟨id, off, cap, b, rfl, _⟩ | ⟨cs, rfl, _⟩
 ·simp (disch := omega) only [↓RD, RZ]
  have : l = [] := List.eq_nil_of_length_eq_zero hn
  subst this
  exact ⟨Lc.nil, Grow.refl _⟩
 ·simp (disch := omega) only [↓RD, RZ]
  refine okb_copy h.ac (fun i hi => (h.own i hi).2) (by simp) (by omega) (by omega) fun x' H' ha hg => ?_
  simp (disch := omega) only [↓RD, RZ]
  exact ⟨ha.lc, hg⟩
 ·simp (disch := omega) only [↓RD, RZ]
  refine okb_copy h.ac (fun i hi => (h.own i hi).2) (by simp) (by omega) (by omega) fun x' H' ha hg => ?_
  simp (disch := omega) only [↓RD, RZ]
  exact ⟨ha.lc, hg⟩
theorem copied_ok {H : Heap} {t : Tm} {a b c : V} (h : TmR 0 H t a b c) (ho : TmO t) : Ok (sem T zcF [.agg [.int .i64 t.sp, .int .i64 t.te, a, b, c]]) H fun r H' => (∃ d e f, r = .agg [.int .i64 t.sp, .int .i64 t.te, d, e, f] ∧ TmR H.next H' t d e f) ∧ Grow H H' := by
 have n1 := ho.dti.2
 have n2 := ho.dif.2
 have n3 := ho.cha.2
 refine zfK ?_
 unfold zeT
 simp (disch := first | omega | (simp only [RY] <;> omega) | decide) only [↓RD, RZ, eq_self, Int.reduceToNat, Int.reduceAdd, Nat.reduceAdd, Nat.reduceSub, Nat.reduceMul, Nat.reduceLeDiff, h.dti.cells1, h.dti.okc, h.dif.cells1, h.dif.okc, h.cha.cells1, h.cha.okc]
 generalize hH1 : Heap.new (Heap.new H _) _ = H1
 have s1 : Grow H H1 := by rw [← hH1]; exact (Grow.new _ _).trans (Grow.new _ _)
 have m1 : H1.next = H.next + 2 := by rw [← hH1]; rfl
 have g1 : H1.get H.next = some ⟨zah, [.int .i64 t.sp, .int .i64 t.te, a, b, c], none⟩ := by rw [← hH1]; simp (disch := first | omega | (simp only [RY] <;> omega) | decide) only [↓RD, RZ, eq_self, Int.reduceToNat, Int.reduceAdd, Nat.reduceAdd, Nat.reduceSub, Nat.reduceMul, Nat.reduceLeDiff]
 have z1 : H1.get (H.next + 1) = some ⟨zah, [.int .i64 0, .int .i64 0, .nils, .nils, .nils], none⟩ := by rw [← hH1]; simp (disch := first | omega | (simp only [RY] <;> omega) | decide) only [↓RD, RZ, eq_self, Int.reduceToNat, Int.reduceAdd, Nat.reduceAdd, Nat.reduceSub, Nat.reduceMul, Nat.reduceLeDiff]
 clear hH1
 refine zac (CloneI_ok (h.dti.ext s1) (by omega)) ?_
 rintro d H2 ⟨hd, s2⟩
 have m2 := s2.next
 have g2 : H2.get H.next = _ := (s2.same _ (by omega)).trans g1
 have z2 : H2.get (H.next + 1) = _ := (s2.same _ (by omega)).trans z1
 simp (disch := first | omega | (simp only [RY] <;> omega) | decide) only [↓RD, RZ, eq_self, Int.reduceToNat, Int.reduceAdd, Nat.reduceAdd, Nat.reduceSub, Nat.reduceMul, Nat.reduceLeDiff, g1, g2]
 refine zac (CloneI_ok (h.dif.ext (s1.trans s2)) (by omega)) ?_
 rintro e H3 ⟨he, s3⟩
 have m3 := s3.next
 have g3 : H3.get H.next = _ := (s3.same _ (by omega)).trans g2
 have z3 : H3.get (H.next + 1) = _ := (s3.same _ (by omega)).trans z2
 simp (disch := first | omega | (simp only [RY] <;> omega) | decide) only [↓RD, RZ, eq_self, Int.reduceToNat, Int.reduceAdd, Nat.reduceAdd, Nat.reduceSub, Nat.reduceMul, Nat.reduceLeDiff, g2, g3]
 refine zac (CloneI_ok (h.cha.ext ((s1.trans s2).trans s3)) (by omega)) ?_
 rintro f H4 ⟨hf, s4⟩
 have m4 := s4.next
 have g4 : H4.get H.next = _ := (s4.same _ (by omega)).trans g3
 have z4 : H4.get (H.next + 1) = _ := (s4.same _ (by omega)).trans z3
 simp (disch := first | omega | (simp only [RY] <;> omega) | decide) only [↓RD, RZ, eq_self, Int.reduceToNat, Int.reduceAdd, Nat.reduceAdd, Nat.reduceSub, Nat.reduceMul, Nat.reduceLeDiff, g4, z4, hd.cells1, hd.okc, he.cells1, he.okc, hf.cells1, hf.okc]
 generalize hH5 : Heap.set _ _ _ = H5
 have s5 : Grow H H5 := by
  rw [← hH5]
  have := ((s1.trans s2).trans s3).trans s4
  first
   | exact (this.set (by omega) _).set (by omega) _
   | exact (((this.set (by omega) _).set (by omega) _).set (by omega) _).set (by omega) _
   | exact ((this.set (by omega) _).set (by omega) _).set (by omega) _
 have k5 : Keep H1.next H4 H5 := by
  rw [← hH5]
  have ks := fun (H : Heap) (w : Nat) (b : Option Blk) (hw : w < H1.next) => Keep.set (lo := H1.next) H hw b
  first
   | exact (ks _ _ _ (by omega)).trans (ks _ _ _ (by omega))
   | exact (((ks _ _ _ (by omega)).trans (ks _ _ _ (by omega))).trans (ks _ _ _ (by omega))).trans (ks _ _ _ (by omega))
   | exact ((ks _ _ _ (by omega)).trans (ks _ _ _ (by omega))).trans (ks _ _ _ (by omega))
 clear hH5
 exact ⟨⟨d, e, f, rfl, ⟨((hd.ext (s3.trans s4)).keep k5).low (by omega), (((he.low m2).ext s4).keep k5).low (by omega), ((hf.low (by omega)).keep k5).low (by omega)⟩⟩, s5⟩
def TmQ (lo : Nat) (H : Heap) (o : Option Tm) (r : V) : Prop := match o with
 | none => r = .tup [.agg [.int .i64 0, .int .i64 0, .nils, .nils, .nils], .bool false]
 | some t => ∃ a b c, r = .tup [.agg [.int .i64 t.sp, .int .i64 t.te, a, b, c], .bool true] ∧ TmR lo H t a b c
theorem TmQ.get {lo : Nat} {H : Heap} {o : Option Tm} {r : V} (h : TmQ lo H o r) : ∃ a b c, r = .tup [.agg [.int .i64 (o.getD Tm0).sp, .int .i64 (o.getD Tm0).te, a, b, c], .bool o.isSome] ∧ TmR lo H (o.getD Tm0) a b c := by
 cases o with
 | none => exact ⟨_, _, _, h, Lc.nil, Lc.nil, Lc.nil⟩
 | some t => exact h
theorem rem64 {x : Int} (h0 : 0 ≤ x) (h1 : x < 1000) : Ax.bin .rem (.int .i64 x) (.int .i64 64) = some (.int .i64 (x % 64)) := by
 have e : Int.tmod x 64 = x % 64 := Int.tmod_eq_emod_of_nonneg h0
 simp [Ax.bin, intBin, e, IntKind.wrap, IntKind.signed, IntKind.bits]
theorem template_ok {lo : Nat} {H : Heap} {v : V} {s : Sr} (h : SrR 0 H v s) (ho : SrO s) (hoff : 0 ≤ s.off ∧ s.off ≤ 63) (id : Int) : Ok (sem T zca [v, .int .i64 id]) H fun r H' => TmQ H.next H' (tmPl s id) r ∧ Grow H H' := by
 obtain ⟨a, b, c, rfl, h⟩ := h
 have nt := ho.ts
 refine zfh ?_
 unfold zd3
 unfold scells
 simp (disch := first | omega | (simp only [RY] <;> omega) | decide) only [↓RD, RZ, eq_self, Int.reduceToNat, Int.reduceAdd, Nat.reduceAdd, Nat.reduceSub, Nat.reduceMul, Nat.reduceLeDiff, h.ts.cells1, h.ts.okc, h.pro.cells1, h.pro.okc, h.siz.cells1, h.siz.okc]
 generalize hH1 : Heap.new (Heap.new H _) _ = H1
 have s1 : Grow H H1 := by rw [← hH1]; exact (Grow.new _ _).trans (Grow.new _ _)
 have n1 : H1.next = H.next + 2 := by rw [← hH1]; rfl
 have g1 : H1.get H.next = some ⟨zag, [.int .i64 s.off, .int .i64 s.tar, a, .int .i64 s.cha, b, c], none⟩ := by rw [← hH1]; simp (disch := first | omega | (simp only [RY] <;> omega) | decide) only [↓RD, RZ, eq_self, Int.reduceToNat, Int.reduceAdd, Nat.reduceAdd, Nat.reduceSub, Nat.reduceMul, Nat.reduceLeDiff]
 have z1 : H1.get (H.next + 1) = some ⟨zah, [.int .i64 0, .int .i64 0, .nils, .nils, .nils], none⟩ := by rw [← hH1]; simp (disch := first | omega | (simp only [RY] <;> omega) | decide) only [↓RD, RZ, eq_self, Int.reduceToNat, Int.reduceAdd, Nat.reduceAdd, Nat.reduceSub, Nat.reduceMul, Nat.reduceLeDiff]
 clear hH1
 have s1' : ∀ b, Grow H (H1.set (H.next + 1) b) := fun b => s1.set (by omega) b
 unfold tmPl
 by_cases a1 : id < 0
 ·rw [if_neg (by omega)]
  simp (disch := first | omega | (simp only [RY] <;> omega) | decide) only [↓RD, RZ, eq_self, Int.reduceToNat, Int.reduceAdd, Nat.reduceAdd, Nat.reduceSub, Nat.reduceMul, Nat.reduceLeDiff, z1]
  exact ⟨rfl, s1' _⟩
 by_cases a2 : 64 ≤ id
 ·rw [if_neg (by omega)]
  simp (disch := first | omega | (simp only [RY] <;> omega) | decide) only [↓RD, RZ, eq_self, Int.reduceToNat, Int.reduceAdd, Nat.reduceAdd, Nat.reduceSub, Nat.reduceMul, Nat.reduceLeDiff, z1]
  exact ⟨rfl, s1' _⟩
 rw [if_pos (by omega)]
 have er := rem64 (x := id + 64 - s.off) (by omega) (by omega)
 obtain ⟨m, hm⟩ : ∃ m : Nat, (id + 64 - s.off) % 64 = (m : Int) := ⟨((id + 64 - s.off) % 64).toNat, by omega⟩
 rw [hm] at er ⊢
 rw [Int.toNat_natCast]
 by_cases a3 : s.ts.length ≤ m
 ·rw [List.getElem?_eq_none a3]
  simp (disch := first | omega | (simp only [RY] <;> omega) | decide) only [↓RD, RZ, eq_self, Int.reduceToNat, Int.reduceAdd, Nat.reduceAdd, Nat.reduceSub, Nat.reduceMul, Nat.reduceLeDiff, g1, er, h.ts.vlen, z1]
  exact ⟨rfl, s1' _⟩
 ·have hm' : m < s.ts.length := by omega
  rw [List.getElem?_eq_getElem hm']
  obtain ⟨q, d, e, f, i1, l1, w1⟩ := (h.ts.ext s1).at hm'
  obtain ⟨-, -, -, -, -, l2⟩ := pl5 l1
  simp (disch := first | omega | (simp only [RY] <;> omega) | decide) only [↓RD, RZ, eq_self, Int.reduceToNat, Int.reduceAdd, Nat.reduceAdd, Nat.reduceSub, Nat.reduceMul, Nat.reduceLeDiff, g1, er, h.ts.vlen, i1, l2]
  refine zac (copied_ok w1 (ho.tm _ (List.getElem_mem hm'))) ?_
  rintro _ H2 ⟨⟨d', e', f', rfl, w2⟩, s2⟩
  have z2 : H2.get (H.next + 1) = _ := (s2.same _ (by omega)).trans z1
  simp (disch := first | omega | (simp only [RY] <;> omega) | decide) only [↓RD, RZ, eq_self, Int.reduceToNat, Int.reduceAdd, Nat.reduceAdd, Nat.reduceSub, Nat.reduceMul, Nat.reduceLeDiff, z2, w2.dti.cells1, w2.dti.okc, w2.dif.cells1, w2.dif.okc, w2.cha.cells1, w2.cha.okc]
  exact ⟨⟨d', e', f', rfl, (w2.keep (Keep.set (lo := H1.next) H2 (by omega) _)).low (by omega)⟩, (s1.trans s2).set (by omega) _⟩
theorem Tms.at2 {lo : Nat} {H : Heap} {v : V} {ts : List Tm} (h : Tms lo H v ts) {i : Nat} (hi : i < ts.length) : ∃ q a b c, (∀ {k : IntKind}, Ax.iaddr none 5 v (.int k i) = some q) ∧ TmR lo H ts[i] a b c ∧ ∀ H', Grow H H' → Pl H' q [.int .i64 ts[i].sp, .int .i64 ts[i].te, a, b, c] v.pid := by
 obtain ⟨ws, rfl, h2, h3⟩ := h
 rw [List.length_map] at hi
 obtain ⟨p, hp, -⟩ := h2.at (i := (i : Nat)) (by omega) (by omega)
 refine ⟨p, ws[i].2.1, ws[i].2.2.1, ws[i].2.2.2, hp, by simpa using h3 _ (List.getElem_mem hi), fun H' s => ?_⟩
 obtain ⟨p', hp', hl⟩ := (h2.ext s).at (i := (i : Nat)) (by omega) (by omega)
 have : p = p' := by
  have := (hp (k := .i64)).symm.trans (hp' (k := .i64))
  simpa using this
 subst this
 have e : ((ws.map tc).flatten.drop (i * 5)).take 5 = tc ws[i] := by
  rw [flat_piece _ (tc_len ws) i (by rw [List.length_map]; exact hi), List.getElem_map]
 rw [Int.toNat_natCast, e] at hl
 simpa [tc] using hl
def HoC (f : Fr) (a b c p q r x y z : V) : Prop := if f.new = true then x = a ∧ y = b ∧ z = c else x = p ∧ y = q ∧ z = r
theorem HoC.src {H : Heap} {f : Fr} {k : Sr} {a b c d e g p q r x y z : V} (h : HoC f a b c p q r x y z) (hf : FrC 0 H f a b c d e g) (hk : SrC 0 H k p q r) : SrC 0 H (hold f k) x y z := by
 unfold HoC at h
 unfold hold
 split at h
 ·obtain ⟨rfl, rfl, rfl⟩ := h; rw [if_pos ‹_›]; exact hf.s
 ·obtain ⟨rfl, rfl, rfl⟩ := h; rw [if_neg ‹_›]; exact hk
theorem hold_ok {H : Heap} {f : Fr} {k : Sr} {a b c d e g p q r : V} (hf : FrC 0 H f a b c d e g) (hk : SrC 0 H k p q r) :
  Ok (sem T zcj [.agg (fcells f a b c d e g), .agg (scells k p q r)]) H fun v H' => (∃ x y z, v = .agg (scells (hold f k) x y z) ∧ HoC f a b c p q r x y z) ∧ Grow H H' := by
 obtain ⟨ca, cb, cc, cd, ce, cg⟩ := fr_dti hf
 refine zfV ?_
 unfold ze6
 unfold fcells scells hold HoC
 simp (disch := first | omega | (simp only [RY] <;> omega) | decide) only [↓RD, RZ, eq_self, Int.reduceToNat, Int.reduceAdd, Nat.reduceAdd, Nat.reduceSub, Nat.reduceMul, Nat.reduceLeDiff, ca.1, ca.2, cb.1, cb.2, cc.1, cc.2, cd.1, cd.2, ce.1, ce.2, cg.1, cg.2, hk.ts.cells1, hk.ts.okc, hk.pro.cells1, hk.pro.okc, hk.siz.cells1, hk.siz.okc]
 cases f.new with
 | true =>
  simp (disch := first | omega | (simp only [RY] <;> omega) | decide) only [↓RD, RZ, eq_self, Int.reduceToNat, Int.reduceAdd, Nat.reduceAdd, Nat.reduceSub, Nat.reduceMul, Nat.reduceLeDiff, ca.1, ca.2, cb.1, cb.2, cc.1, cc.2]
  have s1 : ∀ x y z w, Grow H ((((H.new x).new y).new z).set (H.next + 1 + 1) w) := fun x y z w => (((Grow.new _ _).trans (Grow.new _ _)).trans (Grow.new _ _)).set (by omega) _
  exact ⟨⟨a, b, c, rfl, rfl, rfl, rfl⟩, s1 _ _ _ _⟩
 | false =>
  simp (disch := first | omega | (simp only [RY] <;> omega) | decide) only [↓RD, RZ, eq_self, Int.reduceToNat, Int.reduceAdd, Nat.reduceAdd, Nat.reduceSub, Nat.reduceMul, Nat.reduceLeDiff, hk.ts.cells1, hk.ts.okc, hk.pro.cells1, hk.pro.okc, hk.siz.cells1, hk.siz.okc]
  have s1 : ∀ x y z w, Grow H ((((H.new x).new y).new z).set (H.next + 1 + 1) w) := fun x y z w => (((Grow.new _ _).trans (Grow.new _ _)).trans (Grow.new _ _)).set (by omega) _
  exact ⟨⟨p, q, r, rfl, rfl, rfl, rfl⟩, s1 _ _ _ _⟩
theorem hold2_ok {H : Heap} {f : Fr} {k : Sr} {a b c d e g p q r : V} (hf : FrC 0 H f a b c d e g) (hk : SrC 0 H k p q r) :
  Ok (sem T za5 [.agg (fcells f a b c d e g), .agg (scells k p q r)]) H fun v H' => (∃ x y z, v = .agg (scells (hold f k) x y z) ∧ HoC f a b c p q r x y z) ∧ Grow H H' := by
 obtain ⟨ca, cb, cc, cd, ce, cg⟩ := fr_dti hf
 refine zew ?_
 unfold zdf
 unfold fcells scells hold HoC
 simp (disch := first | omega | (simp only [RY] <;> omega) | decide) only [↓RD, RZ, eq_self, Int.reduceToNat, Int.reduceAdd, Nat.reduceAdd, Nat.reduceSub, Nat.reduceMul, Nat.reduceLeDiff, ca.1, ca.2, cb.1, cb.2, cc.1, cc.2, cd.1, cd.2, ce.1, ce.2, cg.1, cg.2, hk.ts.cells1, hk.ts.okc, hk.pro.cells1, hk.pro.okc, hk.siz.cells1, hk.siz.okc]
 cases f.new with
 | true =>
  simp (disch := first | omega | (simp only [RY] <;> omega) | decide) only [↓RD, RZ, eq_self, Int.reduceToNat, Int.reduceAdd, Nat.reduceAdd, Nat.reduceSub, Nat.reduceMul, Nat.reduceLeDiff, ca.1, ca.2, cb.1, cb.2, cc.1, cc.2]
  have s1 : ∀ x y z w, Grow H ((((H.new x).new y).new z).set (H.next + 1 + 1) w) := fun x y z w => (((Grow.new _ _).trans (Grow.new _ _)).trans (Grow.new _ _)).set (by omega) _
  exact ⟨⟨a, b, c, rfl, rfl, rfl, rfl⟩, s1 _ _ _ _⟩
 | false =>
  simp (disch := first | omega | (simp only [RY] <;> omega) | decide) only [↓RD, RZ, eq_self, Int.reduceToNat, Int.reduceAdd, Nat.reduceAdd, Nat.reduceSub, Nat.reduceMul, Nat.reduceLeDiff, hk.ts.cells1, hk.ts.okc, hk.pro.cells1, hk.pro.okc, hk.siz.cells1, hk.siz.okc]
  have s1 : ∀ x y z w, Grow H ((((H.new x).new y).new z).set (H.next + 1 + 1) w) := fun x y z w => (((Grow.new _ _).trans (Grow.new _ _)).trans (Grow.new _ _)).set (by omega) _
  exact ⟨⟨p, q, r, rfl, rfl, rfl, rfl⟩, s1 _ _ _ _⟩
end Go.Ax.D9
/- Wb1 -/
namespace Go.Ax.B6
structure Pk (N : Nat) (l : List Nat) (bits : List Bool) : Prop where
 len : l.length = (N + 7) / 8
 lt : ∀ i (h : i < l.length), l[i] < 256
 bit : ∀ i j (h : i < l.length), j < 8 → (l[i]).testBit (7 - j) = bits.getD (8 * i + j) false
theorem Pk.nil : Pk 0 [] [] := ⟨rfl, fun i h => absurd h (by simp), fun i j h => absurd h (by simp)⟩
theorem Pk.zeros (N : Nat) : Pk N (List.replicate ((N + 7) / 8) 0) [] := by
 refine ⟨by simp, fun i h => by simp, fun i j h hj => by simp⟩
theorem Pk.more {l : List Nat} {bits : List Bool} (h : Pk bits.length l bits) (h0 : bits.length % 8 = 0) : Pk (bits.length + 1) (l ++ [0]) bits := by
 have hl := h.len
 refine ⟨by simp; omega, fun i hi => ?_, fun i j hi hj => ?_⟩
 ·rw [List.getElem_append]
  split
  ·exact h.lt i _
  ·simp
 ·rw [List.getElem_append]
  split
  ·exact h.bit i j _ hj
  ·rename_i hn
   simp only [List.getElem_singleton, Nat.zero_testBit]
   rw [List.getD_eq_getElem?_getD, List.getElem?_eq_none (by omega)]; rfl
theorem Pk.same {l : List Nat} {bits : List Bool} (h : Pk bits.length l bits) (h0 : bits.length % 8 ≠ 0) : Pk (bits.length + 1) l bits := ⟨by rw [h.len]; omega, h.lt, h.bit⟩
theorem getD_snoc (bits : List Bool) (b : Bool) (k : Nat) : (bits ++ [b]).getD k false = if k = bits.length then b else bits.getD k false := by
 simp only [List.getD_eq_getElem?_getD, List.getElem?_append]
 split
 ·rw [if_neg (by omega)]
 ·by_cases e : k = bits.length
  ·subst e; simp
  ·rw [if_neg e, List.getElem?_eq_none (by simp; omega), List.getElem?_eq_none (by omega)]
theorem Pk.off {N : Nat} {l : List Nat} {bits : List Bool} (h : Pk N l bits) : Pk N l (bits ++ [false]) := by
 refine ⟨h.len, h.lt, fun i j hi hj => ?_⟩
 rw [h.bit i j hi hj, getD_snoc]
 split
 ·rename_i e; rw [e, List.getD_eq_getElem?_getD, List.getElem?_eq_none (by omega)]; rfl
 ·rfl
theorem testBit_128 (k j : Nat) (hj : j < 8) (hk : k < 8) : (128 >>> k).testBit (7 - j) = decide (j = k) := by
 rw [Nat.testBit_shiftRight, show (128 : Nat) = 2 ^ 7 from rfl, Nat.testBit_two_pow]
 congr 1
 exact propext ⟨fun h => by omega, fun h => by omega⟩
theorem Pk.on {N : Nat} {l : List Nat} {bits : List Bool} (h : Pk N l bits) (hn : bits.length < N) (hl : bits.length / 8 < l.length) : Pk N (l.set (bits.length / 8) (l[bits.length / 8] ||| 128 >>> (bits.length % 8))) (bits ++ [true]) := by
 refine ⟨by rw [List.length_set, h.len], fun i hi => ?_, fun i j hi hj => ?_⟩
 ·rw [List.getElem_set]
  split
  ·refine Nat.or_lt_two_pow (n := 8) (h.lt _ hl) ?_
   exact Nat.lt_of_le_of_lt (Nat.shiftRight_le ..) (by decide)
  ·exact h.lt i _
 ·rw [List.getElem_set, getD_snoc]
  rw [List.length_set] at hi
  split
  ·rename_i e
   subst e
   rw [Nat.testBit_or, h.bit _ j hl hj, testBit_128 _ _ hj (Nat.mod_lt _ (by decide))]
   by_cases e : j = bits.length % 8
   ·rw [if_pos (by omega)]; simp [e]
   ·rw [if_neg (by omega)]; simp [e]
  ·rename_i e
   rw [h.bit i j hi hj, if_neg (by omega)]
def nb (v : Nat) : Nat → List Bool
 | 0 => []
 | n + 1 => v.testBit n :: nb v n
theorem zas (v n : Nat) : (nb v n).length = n := by induction n with | zero => rfl | succ n ih => simp [nb, ih]
def val (l : List Bool) : Nat := l.foldl (fun a b => 2 * a + b.toNat) 0
def bl (n : Nat) : Nat := if n = 0 then 0 else n.log2 + 1
theorem bl_div (n : Nat) (h : 0 < n) : bl n = bl (n / 2) + 1 := by
 unfold bl
 rw [if_neg (by omega)]
 by_cases e : n / 2 = 0
 ·rw [if_pos e]
  have : n = 1 := by omega
  subst this; rfl
 ·rw [if_neg e, Nat.log2_def, if_pos (by omega)]
theorem lt_bl (n : Nat) : n < 2 ^ bl n := by
 unfold bl
 split
 ·omega
 ·exact Nat.lt_log2_self
theorem bl_le (n : Nat) (h : 0 < n) : 2 ^ (bl n - 1) ≤ n := by
 unfold bl
 rw [if_neg (by omega)]
 exact Nat.log2_self_le (by omega)
theorem bl_le_iff (n k : Nat) : bl n ≤ k ↔ n < 2 ^ k := by
 constructor
 ·intro h; exact Nat.lt_of_lt_of_le (lt_bl n) (Nat.pow_le_pow_right (by decide) h)
 ·intro h
  by_cases h0 : n = 0
  ·subst h0; simp [bl]
  ·by_cases hk : bl n ≤ k
   ·exact hk
   ·have h1 := bl_le n (by omega)
    have : 2 ^ k ≤ 2 ^ (bl n - 1) := Nat.pow_le_pow_right (by decide) (by omega)
    omega
end Go.Ax.B6
/- DepR1 -/
namespace Go.Ax.D9
open Go.Ax B6
abbrev St : Type := Except Int (List Bool)
abbrev S (α : Type) : Type := St → α × St
def sb {α β : Type} (x : S α) (f : α → S β) : S β := fun σ => f (x σ).1 (x σ).2
def sp {α : Type} (a : α) : S α := fun σ => (a, σ)
def rd (n : Nat) : S Int := fun σ => match σ with
 | .error e => (0, .error e)
 | .ok bs => if bs.length < n then (0, .error 3) else ((val (bs.take n) : Nat), .ok (bs.drop n))
def fail (e : Int) : S Unit := fun σ => match σ with
 | .error x => ((), .error x)
 | .ok _ => ((), .error e)
def Stb {α : Type} (x : S α) : Prop := ∀ e, (x (.error e)).2 = .error e
def Sim {α : Type} (x y : S α) : Prop := ∀ σ, (x σ).2 = (y σ).2 ∧ ∀ bs, (x σ).2 = .ok bs → (x σ).1 = (y σ).1
theorem Sim.refl {α : Type} (x : S α) : Sim x x := fun σ => ⟨rfl, fun _ _ => rfl⟩
theorem Sim.bind {α β : Type} {x y : S α} {f g : α → S β} (h : Sim x y) (k : ∀ a, Sim (f a) (g a)) (hf : ∀ a, Stb (f a)) (hg : ∀ a, Stb (g a)) : Sim (sb x f) (sb y g) := by
 intro σ
 obtain ⟨h1, h2⟩ := h σ
 unfold sb
 rw [← h1]
 cases e : (x σ).2 with
 | ok bs =>
  rw [h2 bs e]
  exact k _ _
 | error c =>
  rw [hf, hg]
  exact ⟨rfl, fun bs h => by cases h⟩
def eachN (f : Tm → S Tm) (ts : List Tm) : Nat → S (List Tm)
 | 0 => sp []
 | k + 1 => sb (eachN f ts k) fun l => sb (f (ts.getD k Tm0)) fun t => sp (l ++ [t])
def each (f : Tm → S Tm) (ts : List Tm) : S (List Tm) := eachN f ts ts.length
def tbad (l : List Tm) (t : Tm) : Prop := 3 < t.sp ∨ 7 < t.te ∨ 64 ≤ l.length
instance (l : List Tm) (t : Tm) : Decidable (tbad l t) := by unfold tbad; infer_instance
def last (l : List Tm) : Tm := l.getD (l.length - 1) Tm0
structure Way where
 tm : S (List Tm)
 df : S (List Int)
 ea : (Tm → S Tm) → Tm → S Tm
end Go.Ax.D9
/- DepR2 -/
namespace Go.Ax.D9
open Go.Ax B6
def zeros : S Unit := fun σ => match σ with
 | .error e => ((), .error e)
 | .ok bs => if bs.all (!·) then ((), .ok []) else ((), .error 2)
def cut (x : Fr × St) : Fr × St := match x.2 with
 | .error e => (Fr0, .error e)
 | .ok bs => (x.1, .ok bs)
end Go.Ax.D9
/- DepS2 -/
namespace Go.Ax.D9
open Go.Ax
theorem SrO.hold {f : Fr} {k : Sr} (hf : FrO f) (hk : SrO k) : SrO (hold f k) := by
 unfold D9.hold; split
 ·exact hf.s
 ·exact hk
theorem tmOf_fine {s : Sr} {id : Int} {t : Tm} (h : tmOf s id = some t) : Fine s := by
 unfold tmOf at h
 split at h
 ·exact fine_iff.1 ‹_›
 ·cases h
theorem Of_ok {H : Heap} {v w : V} {f : Fr} {k : Sr} (hf : FrR 0 H v f) (hk : SrR 0 H w k) (fo : FrO f) (ko : SrO k) :
  Ok (sem T zdP [v, w]) H fun r H' => TmQ 0 H' (tmOf (hold f k) f.id) r ∧ Grow H H' := by
 obtain ⟨a, b, c, d, e, g, rfl, hf⟩ := hf
 obtain ⟨p, q, r, rfl, hk⟩ := hk
 obtain ⟨ca, cb, cc, cd, ce, cg⟩ := fr_dti hf
 refine zgC ?_
 unfold zf2
 unfold fcells scells
 simp (disch := first | omega | (simp only [RY] <;> omega) | decide) only [↓RD, RZ, eq_self, Int.reduceToNat, Int.reduceAdd, Nat.reduceAdd, Nat.reduceSub, Nat.reduceMul, Nat.reduceLeDiff, ca.1, ca.2, cb.1, cb.2, cc.1, cc.2, cd.1, cd.2, ce.1, ce.2, cg.1, cg.2, hk.ts.cells1, hk.ts.okc, hk.pro.cells1, hk.pro.okc, hk.siz.cells1, hk.siz.okc]
 generalize hH1 : Heap.new (Heap.new (Heap.new H _) _) _ = H1
 have s1 : Grow H H1 := by rw [← hH1]; exact ((Grow.new _ _).trans (Grow.new _ _)).trans (Grow.new _ _)
 have n1 : H1.next = H.next + 3 := by rw [← hH1]; rfl
 have f1 : H1.get H.next = some ⟨zal, fcells f a b c d e g, none⟩ := by rw [← hH1]; unfold fcells; simp (disch := first | omega | (simp only [RY] <;> omega) | decide) only [↓RD, RZ, eq_self, Int.reduceToNat, Int.reduceAdd, Nat.reduceAdd, Nat.reduceSub, Nat.reduceMul, Nat.reduceLeDiff]
 have z1 : H1.get (H.next + 2) = some ⟨zah, [.int .i64 0, .int .i64 0, .nils, .nils, .nils], none⟩ := by rw [← hH1]; simp (disch := first | omega | (simp only [RY] <;> omega) | decide) only [↓RD, RZ, eq_self, Int.reduceToNat, Int.reduceAdd, Nat.reduceAdd, Nat.reduceSub, Nat.reduceMul, Nat.reduceLeDiff]
 clear hH1
 unfold fcells at f1
 refine zac (hold_ok (hf.ext s1) (hk.ext s1)) ?_
 rintro _ H2 ⟨⟨x, y, z, rfl, hh0⟩, s2⟩
 have hh0 := hh0.src hf hk
 have hh := hh0.ext (s1.trans s2)
 have so := SrO.hold fo ko
 have n2 := s2.next
 have f2 : H2.get H.next = _ := (s2.same _ (by omega)).trans f1
 have z2 : H2.get (H.next + 2) = _ := (s2.same _ (by omega)).trans z1
 generalize hold f k = s at *
 unfold scells
 simp (disch := first | omega | (simp only [RY] <;> omega) | decide) only [↓RD, RZ, eq_self, Int.reduceToNat, Int.reduceAdd, Nat.reduceAdd, Nat.reduceSub, Nat.reduceMul, Nat.reduceLeDiff, hh.ts.cells1, hh.ts.okc, hh.pro.cells1, hh.pro.okc, hh.siz.cells1, hh.siz.okc]
 generalize hH3 : Heap.set _ _ _ = H3
 have s3 : Grow H2 H3 := by rw [← hH3]; exact (Grow.new _ _).set (by omega) _
 have n3 : H3.next = H2.next + 1 := by rw [← hH3]; rfl
 have g3 : H3.get H2.next = some ⟨zag, [.int .i64 s.off, .int .i64 s.tar, x, .int .i64 s.cha, y, z], none⟩ := by rw [← hH3]; simp (disch := first | omega | (simp only [RY] <;> omega) | decide) only [↓RD, RZ, eq_self, Int.reduceToNat, Int.reduceAdd, Nat.reduceAdd, Nat.reduceSub, Nat.reduceMul, Nat.reduceLeDiff]
 clear hH3
 have f3 : H3.get H.next = _ := (s3.same _ (by omega)).trans f2
 have z3 : H3.get (H.next + 2) = _ := (s3.same _ (by omega)).trans z2
 refine zac (Fine_ok (hh.ext s3).val so) ?_
 rintro _ H4 ⟨rfl, s4⟩
 have n4 := s4.next
 have f4 : H4.get H.next = _ := (s4.same _ (by omega)).trans f3
 have z4 : H4.get (H.next + 2) = _ := (s4.same _ (by omega)).trans z3
 have g4 : H4.get H2.next = _ := (s4.same _ (by omega)).trans g3
 have s14 := ((s1.trans s2).trans s3).trans s4
 unfold tmOf
 cases hfi : fine s with
 | false =>
  rw [if_neg (by decide)]
  simp (disch := first | omega | (simp only [RY] <;> omega) | decide) only [↓RD, RZ, eq_self, Int.reduceToNat, Int.reduceAdd, Nat.reduceAdd, Nat.reduceSub, Nat.reduceMul, Nat.reduceLeDiff, z4]
  exact ⟨rfl, s14.set (by omega) _⟩
 | true =>
  rw [if_pos rfl]
  have off := (fine_iff.1 hfi).off
  simp (disch := first | omega | (simp only [RY] <;> omega) | decide) only [↓RD, RZ, eq_self, Int.reduceToNat, Int.reduceAdd, Nat.reduceAdd, Nat.reduceSub, Nat.reduceMul, Nat.reduceLeDiff, g4, f4]
  refine zac (template_ok (lo := 0) (hh.ext (s3.trans s4)).val so off f.id) ?_
  rintro _ H5 ⟨hq, s5⟩
  have z5 : H5.get (H.next + 2) = _ := (s5.same _ (by omega)).trans z4
  obtain ⟨a', b', c', rfl, w⟩ := hq.get
  simp (disch := first | omega | (simp only [RY] <;> omega) | decide) only [↓RD, RZ, eq_self, Int.reduceToNat, Int.reduceAdd, Nat.reduceAdd, Nat.reduceSub, Nat.reduceMul, Nat.reduceLeDiff, z5, w.dti.cells1, w.dti.okc, w.dif.cells1, w.dif.okc, w.cha.cells1, w.cha.okc]
  have k5 : ∀ b, Keep H4.next H5 (H5.set (H.next + 2) b) := fun b => Keep.set _ (by omega) b
  refine ⟨?_, (s14.trans s5).set (by omega) _⟩
  cases ho : tmPl s f.id with
  | none =>
   rw [ho] at hq
   have hq : V.tup _ = V.tup _ := hq
   simp only [V.tup.injEq, List.cons.injEq, V.agg.injEq] at hq
   obtain ⟨⟨-, -, rfl, rfl, rfl, -⟩, -⟩ := hq
   rfl
  | some t =>
   rw [ho] at w
   exact ⟨a', b', c', rfl, (w.keep (k5 _)).low (by omega)⟩
theorem Of2_ok {H : Heap} {v w : V} {f : Fr} {k : Sr} (hf : FrR 0 H v f) (hk : SrR 0 H w k) (fo : FrO f) (ko : SrO k) :
  Ok (sem T zb0 [v, w]) H fun r H' => TmQ 0 H' (tmOf (hold f k) f.id) r ∧ Grow H H' := by
 obtain ⟨a, b, c, d, e, g, rfl, hf⟩ := hf
 obtain ⟨p, q, r, rfl, hk⟩ := hk
 obtain ⟨ca, cb, cc, cd, ce, cg⟩ := fr_dti hf
 refine zfa ?_
 unfold zdR
 unfold fcells scells
 simp (disch := first | omega | (simp only [RY] <;> omega) | decide) only [↓RD, RZ, eq_self, Int.reduceToNat, Int.reduceAdd, Nat.reduceAdd, Nat.reduceSub, Nat.reduceMul, Nat.reduceLeDiff, ca.1, ca.2, cb.1, cb.2, cc.1, cc.2, cd.1, cd.2, ce.1, ce.2, cg.1, cg.2, hk.ts.cells1, hk.ts.okc, hk.pro.cells1, hk.pro.okc, hk.siz.cells1, hk.siz.okc]
 generalize hH1 : Heap.new (Heap.new (Heap.new H _) _) _ = H1
 have s1 : Grow H H1 := by rw [← hH1]; exact ((Grow.new _ _).trans (Grow.new _ _)).trans (Grow.new _ _)
 have n1 : H1.next = H.next + 3 := by rw [← hH1]; rfl
 have f1 : H1.get H.next = some ⟨zau, fcells f a b c d e g, none⟩ := by rw [← hH1]; unfold fcells; simp (disch := first | omega | (simp only [RY] <;> omega) | decide) only [↓RD, RZ, eq_self, Int.reduceToNat, Int.reduceAdd, Nat.reduceAdd, Nat.reduceSub, Nat.reduceMul, Nat.reduceLeDiff]
 have z1 : H1.get (H.next + 2) = some ⟨zao, [.int .i64 0, .int .i64 0, .nils, .nils, .nils], none⟩ := by rw [← hH1]; simp (disch := first | omega | (simp only [RY] <;> omega) | decide) only [↓RD, RZ, eq_self, Int.reduceToNat, Int.reduceAdd, Nat.reduceAdd, Nat.reduceSub, Nat.reduceMul, Nat.reduceLeDiff]
 clear hH1
 unfold fcells at f1
 refine zac (hold2_ok (hf.ext s1) (hk.ext s1)) ?_
 rintro _ H2 ⟨⟨x, y, z, rfl, hh0⟩, s2⟩
 have hh0 := hh0.src hf hk
 have hh := hh0.ext (s1.trans s2)
 have so := SrO.hold fo ko
 have n2 := s2.next
 have f2 : H2.get H.next = _ := (s2.same _ (by omega)).trans f1
 have z2 : H2.get (H.next + 2) = _ := (s2.same _ (by omega)).trans z1
 generalize hold f k = s at *
 unfold scells
 simp (disch := first | omega | (simp only [RY] <;> omega) | decide) only [↓RD, RZ, eq_self, Int.reduceToNat, Int.reduceAdd, Nat.reduceAdd, Nat.reduceSub, Nat.reduceMul, Nat.reduceLeDiff, f2, hh.ts.cells1, hh.ts.okc, hh.pro.cells1, hh.pro.okc, hh.siz.cells1, hh.siz.okc]
 generalize hH3 : Heap.set _ _ _ = H3
 have s3 : Grow H2 H3 := by rw [← hH3]; exact (Grow.new _ _).set (by omega) _
 have n3 : H3.next = H2.next + 1 := by rw [← hH3]; rfl
 have g3 : H3.get H2.next = some ⟨zaf, [.int .i64 s.off, .int .i64 s.tar, x, .int .i64 s.cha, y, z], none⟩ := by rw [← hH3]; simp (disch := first | omega | (simp only [RY] <;> omega) | decide) only [↓RD, RZ, eq_self, Int.reduceToNat, Int.reduceAdd, Nat.reduceAdd, Nat.reduceSub, Nat.reduceMul, Nat.reduceLeDiff]
 clear hH3
 have f3 : H3.get H.next = _ := (s3.same _ (by omega)).trans f2
 have z3 : H3.get (H.next + 2) = _ := (s3.same _ (by omega)).trans z2
 have s13 := (s1.trans s2).trans s3
 by_cases a1 : f.id < 0
 ·have : tmOf s f.id = none := by unfold tmOf tmPl; split; rw [if_neg (by omega)]; rfl
  rw [this]
  simp (disch := first | omega | (simp only [RY] <;> omega) | decide) only [↓RD, RZ, eq_self, Int.reduceToNat, Int.reduceAdd, Nat.reduceAdd, Nat.reduceSub, Nat.reduceMul, Nat.reduceLeDiff, f3, z3]
  exact ⟨rfl, s13.set (by omega) _⟩
 by_cases a2 : 63 < f.id
 ·have : tmOf s f.id = none := by unfold tmOf tmPl; split; rw [if_neg (by omega)]; rfl
  rw [this]
  simp (disch := first | omega | (simp only [RY] <;> omega) | decide) only [↓RD, RZ, eq_self, Int.reduceToNat, Int.reduceAdd, Nat.reduceAdd, Nat.reduceSub, Nat.reduceMul, Nat.reduceLeDiff, f3, z3]
  exact ⟨rfl, s13.set (by omega) _⟩
 simp (disch := first | omega | (simp only [RY] <;> omega) | decide) only [↓RD, RZ, eq_self, Int.reduceToNat, Int.reduceAdd, Nat.reduceAdd, Nat.reduceSub, Nat.reduceMul, Nat.reduceLeDiff, f3, g3]
 refine zac (Fine2_ok (hh.ext s3).val so) ?_
 rintro _ H4 ⟨rfl, s4⟩
 have n4 := s4.next
 have f4 : H4.get H.next = _ := (s4.same _ (by omega)).trans f3
 have z4 : H4.get (H.next + 2) = _ := (s4.same _ (by omega)).trans z3
 have g4 : H4.get H2.next = _ := (s4.same _ (by omega)).trans g3
 have s14 := s13.trans s4
 unfold tmOf
 cases hfi : fine s with
 | false =>
  rw [if_neg (by decide)]
  simp (disch := first | omega | (simp only [RY] <;> omega) | decide) only [↓RD, RZ, eq_self, Int.reduceToNat, Int.reduceAdd, Nat.reduceAdd, Nat.reduceSub, Nat.reduceMul, Nat.reduceLeDiff, z4]
  exact ⟨rfl, s14.set (by omega) _⟩
 | true =>
  rw [if_pos rfl]
  have off := (fine_iff.1 hfi).off
  have len := (fine_iff.1 hfi).len
  unfold tmPl
  rw [if_pos (by omega)]
  have er := rem64 (x := f.id + 64 - s.off) (by omega) (by omega)
  obtain ⟨m, hm⟩ : ∃ m : Nat, (f.id + 64 - s.off) % 64 = (m : Int) := ⟨((f.id + 64 - s.off) % 64).toNat, by omega⟩
  rw [hm] at er ⊢
  rw [Int.toNat_natCast]
  have h4 := hh.ext (s3.trans s4)
  by_cases a3 : s.ts.length ≤ m
  ·rw [List.getElem?_eq_none a3]
   simp (disch := first | omega | (simp only [RY] <;> omega) | decide) only [↓RD, RZ, eq_self, Int.reduceToNat, Int.reduceAdd, Nat.reduceAdd, Nat.reduceSub, Nat.reduceMul, Nat.reduceLeDiff, f4, g4, er, h4.ts.vlen, z4]
   exact ⟨rfl, s14.set (by omega) _⟩
  ·have hm' : m < s.ts.length := by omega
   rw [List.getElem?_eq_getElem hm']
   obtain ⟨q, d', e', f', i1, w1, l1⟩ := hh0.ts.at2 hm'
   obtain ⟨-, -, -, -, -, l2⟩ := pl5 (l1 _ s14)
   simp (disch := first | omega | (simp only [RY] <;> omega) | decide) only [↓RD, RZ, eq_self, Int.reduceToNat, Int.reduceAdd, Nat.reduceAdd, Nat.reduceSub, Nat.reduceMul, Nat.reduceLeDiff, f4, g4, er, h4.ts.vlen, i1, l2, z4, w1.dti.cells1, w1.dti.okc, w1.dif.cells1, w1.dif.okc, w1.cha.cells1, w1.cha.okc]
   exact ⟨⟨d', e', f', rfl, w1.ext (s14.set (by omega) _)⟩, s14.set (by omega) _⟩
def isZ (s : Sr) : Bool := decide (s.off = 0 ∧ s.tar = 0 ∧ s.cha = 0 ∧ s.ts.length = 0 ∧ s.pro.length = 0 ∧ s.siz.length = 0)
theorem none_ok {lo : Nat} {H : Heap} {s : Sr} {a b c : V} (h : SrC lo H s a b c) (ho : SrO s) : Ok (sem T zc9 [.agg (scells s a b c)]) H fun r H' => r = .bool (isZ s) ∧ Grow H H' := by
 have n1 := ho.ts
 have n2 := ho.pro.2
 have n3 := ho.siz.1
 have hv1 := h.ts.vlen
 have hv2 := h.pro.vlen
 have hv3 := h.siz.vlen
 have e1 : (s.ts.length : Int) + (s.pro.length : Nat) = ((s.ts.length + s.pro.length : Nat) : Int) := rfl
 have e2 : ((s.ts.length + s.pro.length : Nat) : Int) + (s.siz.length : Nat) = ((s.ts.length + s.pro.length + s.siz.length : Nat) : Int) := rfl
 refine zf8 ?_
 unfold zfk
 unfold scells isZ
 by_cases a1 : s.off = 0
 ·by_cases a2 : s.tar = 0
  ·by_cases a3 : s.cha = 0
   ·by_cases a4 : s.ts.length + s.pro.length + s.siz.length = 0
    ·simp (disch := omega) only [↓RD, RZ, h.ts.cells1, h.ts.okc, h.pro.cells1, h.pro.okc, h.siz.cells1, h.siz.okc, hv1, hv2, hv3, a1, a2, a3, e1, e2, a4]
     exact ⟨by rw [decide_eq_true (by omega)], Grow.new _ _⟩
    ·simp (disch := omega) only [↓RD, RZ, h.ts.cells1, h.ts.okc, h.pro.cells1, h.pro.okc, h.siz.cells1, h.siz.okc, hv1, hv2, hv3, a1, a2, a3, e1, e2]
     exact ⟨by rw [decide_eq_false (by omega)], Grow.new _ _⟩
   ·simp (disch := omega) only [↓RD, RZ, h.ts.cells1, h.ts.okc, h.pro.cells1, h.pro.okc, h.siz.cells1, h.siz.okc, a1, a2]
    exact ⟨by rw [decide_eq_false (by omega)], Grow.new _ _⟩
  ·simp (disch := omega) only [↓RD, RZ, h.ts.cells1, h.ts.okc, h.pro.cells1, h.pro.okc, h.siz.cells1, h.siz.okc, a1]
   exact ⟨by rw [decide_eq_false (by omega)], Grow.new _ _⟩
 ·simp (disch := omega) only [↓RD, RZ, h.ts.cells1, h.ts.okc, h.pro.cells1, h.pro.okc, h.siz.cells1, h.siz.okc]
  exact ⟨by rw [decide_eq_false (by omega)], Grow.new _ _⟩
theorem zero_ok {lo : Nat} {H : Heap} {s : Sr} {a b c : V} (h : SrC lo H s a b c) : Ok (sem T zbi [.agg (scells s a b c)]) H fun r H' => r = .bool (isZ s) ∧ Grow H H' := by
 have hv1 := h.ts.vlen
 have hv2 := h.pro.vlen
 have hv3 := h.siz.vlen
 refine zeC ?_
 unfold zdq
 unfold scells isZ
 by_cases a1 : s.off = 0
 ·by_cases a2 : s.tar = 0
  ·by_cases a4 : s.ts.length = 0
   ·by_cases a3 : s.cha = 0
    ·by_cases a5 : s.pro.length = 0
     ·by_cases a6 : s.siz.length = 0
      ·simp (disch := omega) only [↓RD, RZ, h.ts.cells1, h.ts.okc, h.pro.cells1, h.pro.okc, h.siz.cells1, h.siz.okc, hv1, hv2, hv3, a1, a2, a3, a4, a5, a6]
       exact Grow.new _ _
      ·simp (disch := omega) only [↓RD, RZ, h.ts.cells1, h.ts.okc, h.pro.cells1, h.pro.okc, h.siz.cells1, h.siz.okc, hv1, hv2, hv3, a1, a2, a3, a4, a5]
       exact ⟨by rw [decide_eq_false (by omega)], Grow.new _ _⟩
     ·simp (disch := omega) only [↓RD, RZ, h.ts.cells1, h.ts.okc, h.pro.cells1, h.pro.okc, h.siz.cells1, h.siz.okc, hv1, hv2, hv3, a1, a2, a3, a4]
      exact ⟨by rw [decide_eq_false (by omega)], Grow.new _ _⟩
    ·simp (disch := omega) only [↓RD, RZ, h.ts.cells1, h.ts.okc, h.pro.cells1, h.pro.okc, h.siz.cells1, h.siz.okc, hv1, a1, a2, a4]
     exact ⟨by rw [decide_eq_false (by omega)], Grow.new _ _⟩
   ·simp (disch := omega) only [↓RD, RZ, h.ts.cells1, h.ts.okc, h.pro.cells1, h.pro.okc, h.siz.cells1, h.siz.okc, hv1, a1, a2]
    exact ⟨by rw [decide_eq_false (by omega)], Grow.new _ _⟩
  ·simp (disch := omega) only [↓RD, RZ, h.ts.cells1, h.ts.okc, h.pro.cells1, h.pro.okc, h.siz.cells1, h.siz.okc, a1]
   exact ⟨by rw [decide_eq_false (by omega)], Grow.new _ _⟩
 ·simp (disch := omega) only [↓RD, RZ, h.ts.cells1, h.ts.okc, h.pro.cells1, h.pro.okc, h.siz.cells1, h.siz.okc]
  exact ⟨by rw [decide_eq_false (by omega)], Grow.new _ _⟩
end Go.Ax.D9
/- DepS3 -/
namespace Go.Ax.D9
open Go.Ax
structure GoodT (f : Fr) (s : Sr) (t : Tm) : Prop where
 z : f.new = true ∨ isZ f.s = true
 a : f.has = true ∨ f.act = 0
 b : f.act < 2 ^ s.tar.toNat
 d : if f.od = true then wi f.dti s.tar 0 3 = true else f.dti = t.dti
 e : if f.of' = true then di f.dif 16 4096 = true else f.dif = t.dif
 c : if f.oc = true then wi f.cha s.cha 0 255 = true else f.cha = t.cha
def GoodP (f : Fr) (k : Sr) : Prop := ∃ t, tmOf (hold f k) f.id = some t ∧ GoodT f (hold f k) t
noncomputable def good (f : Fr) (k : Sr) : Bool := dec (GoodP f k)
theorem shr0 (a n : Nat) : shr a n = 0 ↔ a < 2 ^ n := by
 rw [shr_def, Nat.shiftRight_eq_div_pow, Nat.div_eq_zero_iff]
 have := Nat.two_pow_pos n
 omega
structure GS (B : Heap) (tf tt ts : TypeId) (bf bt bs : Nat) (cf ct cs : List V) (H : Heap) : Prop where
 gr : Grow B H
 lt : bf < H.next ∧ bt < H.next ∧ bs < H.next
 f : H.get bf = some ⟨tf, cf, none⟩
 t : H.get bt = some ⟨tt, ct, none⟩
 s : H.get bs = some ⟨ts, cs, none⟩
theorem GS.ext {B : Heap} {tf tt ts : TypeId} {bf bt bs : Nat} {cf ct cs : List V} {H H' : Heap} (h : GS B tf tt ts bf bt bs cf ct cs H) (s : Grow H H') : GS B tf tt ts bf bt bs cf ct cs H' :=
 ⟨h.gr.trans s, by have := s.next; have := h.lt; omega, (s.same _ h.lt.1).trans h.f, (s.same _ h.lt.2.1).trans h.t, (s.same _ h.lt.2.2).trans h.s⟩
theorem wi_neg1 {l : List Int} {many : Nat} {most : Int} : di l many most = (decide (l.length ≤ many) && wi2 l (-1) 1 most) := by unfold di; rw [wi2_neg]
set_option maxHeartbeats 1600000 in
theorem Good_ok {H : Heap} {v w : V} {f : Fr} {k : Sr} (hf : FrR 0 H v f) (hk : SrR 0 H w k) (fo : FrO f) (ko : SrO k) :
  Ok (sem T zdb [v, w]) H fun r H' => r = .bool (good f k) ∧ Grow H H' := by
 obtain ⟨a, b, c, d, e, g, rfl, hf⟩ := hf
 obtain ⟨p, q, r, rfl, hk⟩ := hk
 obtain ⟨ca, cb, cc, cd, ce, cg⟩ := fr_dti hf
 have kts := hk.ts.cel
 have kpr := hk.pro.cel
 have ksi := hk.siz.cel
 refine zga ?_
 unfold zfm
 unfold fcells scells
 simp (disch := first | omega | (simp only [RY] <;> omega) | decide) only [↓RD, RZ, eq_self, Int.reduceToNat, Int.reduceAdd, Nat.reduceAdd, Nat.reduceSub, Nat.reduceMul, Nat.reduceLeDiff, ca.1, ca.2, cb.1, cb.2, cc.1, cc.2, cd.1, cd.2, ce.1, ce.2, cg.1, cg.2, kts.1, kts.2, kpr.1, kpr.2, ksi.1, ksi.2]
 generalize hH1 : Heap.new (Heap.new H _) _ = H1
 have s1 : Grow H H1 := by rw [← hH1]; exact (Grow.new _ _).trans (Grow.new _ _)
 have n1 : H1.next = H.next + 2 := by rw [← hH1]; rfl
 have f1 : H1.get H.next = some ⟨zal, fcells f a b c d e g, none⟩ := by rw [← hH1]; unfold fcells; simp (disch := first | omega | (simp only [RY] <;> omega) | decide) only [↓RD, RZ, eq_self, Int.reduceToNat, Int.reduceAdd, Nat.reduceAdd, Nat.reduceSub, Nat.reduceMul, Nat.reduceLeDiff]
 have k1 : H1.get (H.next + 1) = some ⟨zag, scells k p q r, none⟩ := by rw [← hH1]; unfold scells; simp (disch := first | omega | (simp only [RY] <;> omega) | decide) only [↓RD, RZ, eq_self, Int.reduceToNat, Int.reduceAdd, Nat.reduceAdd, Nat.reduceSub, Nat.reduceMul, Nat.reduceLeDiff]
 clear hH1
 unfold fcells at f1
 unfold scells at k1
 refine zac (Of_ok (hf.ext s1).val (hk.ext s1).val fo ko) ?_
 rintro _ H2 ⟨hq, s2⟩
 have n2 := s2.next
 have f2 : H2.get H.next = _ := (s2.same _ (by omega)).trans f1
 have k2 : H2.get (H.next + 1) = _ := (s2.same _ (by omega)).trans k1
 obtain ⟨x1, x2, x3, rfl, wt⟩ := hq.get
 unfold good GoodP
 have so := SrO.hold fo ko
 generalize ho : tmOf (hold f k) f.id = o at *
 simp (disch := first | omega | (simp only [RY] <;> omega) | decide) only [↓RD, RZ, eq_self, Int.reduceToNat, Int.reduceAdd, Nat.reduceAdd, Nat.reduceSub, Nat.reduceMul, Nat.reduceLeDiff, f2, k2, wt.dti.cells1, wt.dti.okc, wt.dif.cells1, wt.dif.okc, wt.cha.cells1, wt.cha.okc]
 generalize hH3 : Heap.set _ _ _ = H3
 have s3 : Grow H2 H3 := by rw [← hH3]; exact (Grow.new _ _).set (by omega) _
 have n3 : H3.next = H2.next + 1 := by rw [← hH3]; rfl
 have f3 : H3.get H.next = _ := (s3.same _ (by omega)).trans f2
 have k3 : H3.get (H.next + 1) = _ := (s3.same _ (by omega)).trans k2
 have t3 : H3.get H2.next = some ⟨zah, [.int .i64 (o.getD Tm0).sp, .int .i64 (o.getD Tm0).te, x1, x2, x3], none⟩ := by rw [← hH3]; simp (disch := first | omega | (simp only [RY] <;> omega) | decide) only [↓RD, RZ, eq_self, Int.reduceToNat, Int.reduceAdd, Nat.reduceAdd, Nat.reduceSub, Nat.reduceMul, Nat.reduceLeDiff]
 clear hH3
 replace wt := wt.ext s3
 have s13 := (s1.trans s2).trans s3
 refine zac (hold_ok (hf.ext s13) (hk.ext s13)) ?_
 rintro _ H4 ⟨⟨y1, y2, y3, rfl, hh⟩, s4⟩
 have n4 := s4.next
 replace hh := hh.src (hf.ext (s13.trans s4)) (hk.ext (s13.trans s4))
 unfold scells
 have hts := hh.ts.cel
 have hpr := hh.pro.cel
 have hsi := hh.siz.cel
 simp (disch := first | omega | (simp only [RY] <;> omega) | decide) only [↓RD, RZ, eq_self, Int.reduceToNat, Int.reduceAdd, Nat.reduceAdd, Nat.reduceSub, Nat.reduceMul, Nat.reduceLeDiff, hts.1, hts.2, hpr.1, hpr.2, hsi.1, hsi.2]
 generalize hH5 : Heap.set _ _ _ = H5
 have s5 : Grow H4 H5 := by rw [← hH5]; exact (Grow.new _ _).set (by omega) _
 have n5 : H5.next = H4.next + 1 := by rw [← hH5]; rfl
 have h5 : H5.get H4.next = some ⟨zag, [.int .i64 (hold f k).off, .int .i64 (hold f k).tar, y1, .int .i64 (hold f k).cha, y2, y3], none⟩ := by rw [← hH5]; simp (disch := first | omega | (simp only [RY] <;> omega) | decide) only [↓RD, RZ, eq_self, Int.reduceToNat, Int.reduceAdd, Nat.reduceAdd, Nat.reduceSub, Nat.reduceMul, Nat.reduceLeDiff]
 clear hH5
 have st : GS H3 zal zah zag H.next H2.next H4.next [.bool f.st, .bool f.en, .int .i64 f.id, .int .u16 f.num, .bool f.new, .int .i64 f.s.off, .int .i64 f.s.tar, a, .int .i64 f.s.cha, b, c, .bool f.has, .int .u32 f.act, .bool f.od, .bool f.of', .bool f.oc, d, e, g] [.int .i64 (o.getD Tm0).sp, .int .i64 (o.getD Tm0).te, x1, x2, x3] [.int .i64 (hold f k).off, .int .i64 (hold f k).tar, y1, .int .i64 (hold f k).cha, y2, y3] H5 :=
  ⟨s4.trans s5, by omega, ((s4.trans s5).same _ (by omega)).trans f3, ((s4.trans s5).same _ (by omega)).trans t3, h5⟩
 have goF : ∀ {H' : Heap}, Grow H3 H' → Grow H H' := fun g => s13.trans g
 have n16 := fo.dti.2
 have n17 := fo.dif.2
 have n18 := fo.cha.2
 cases o with
 | none =>
  simp (disch := first | omega | (simp only [RY] <;> omega) | decide) only [↓RD, RZ, eq_self, Int.reduceToNat, Int.reduceAdd, Nat.reduceAdd, Nat.reduceSub, Nat.reduceMul, Nat.reduceLeDiff, Option.isSome_none]
  exact ⟨by rw [dec_no (by rintro ⟨t, h, _⟩; cases h)], goF st.gr⟩
 | some t =>
 have hF := tmOf_fine ho
 have hT := hF.tar
 have hC := hF.cha
 generalize hold f k = s at *
 have bad : ¬ GoodT f s t → dec (∃ t', some t = some t' ∧ GoodT f s t') = false := fun h => dec_no (by rintro ⟨t', ⟨rfl⟩, h'⟩; exact h h')
 have yes : GoodT f s t → dec (∃ t', some t = some t' ∧ GoodT f s t') = true := fun h => dec_yes ⟨t, rfl, h⟩
 simp only [Option.getD_some, Option.isSome_some] at *
 obtain ⟨m, hm⟩ : ∃ m : Nat, s.tar = (m : Int) := ⟨s.tar.toNat, by omega⟩
 have hb : shr f.act m = 0 ↔ f.act < 2 ^ s.tar.toNat := by rw [hm, Int.toNat_natCast]; exact shr0 _ _
 have hsl := shr_le f.act m
 have fact := fo.act
 have A : (f.new = false ∧ isZ f.s = false) ∨ (f.new = false ∧ isZ f.s = true) ∨ f.new = true := by
  cases f.new <;> cases isZ f.s <;> simp
 have stc := st
 rcases A with ⟨hn, hz⟩ | A
 ·simp (disch := first | omega | (simp only [RY] <;> omega) | decide) only [↓RD, RZ, eq_self, Int.reduceToNat, Int.reduceAdd, Nat.reduceAdd, Nat.reduceSub, Nat.reduceMul, Nat.reduceLeDiff, st.f, hn, Option.isSome_some, Bool.not_true]
  refine zac (none_ok (hf.s.ext (goF st.gr)) fo.s) ?_
  rintro _ _ ⟨rfl, sA⟩
  rw [hz]
  simp (disch := first | omega | (simp only [RY] <;> omega) | decide) only [↓RD, RZ, eq_self, Int.reduceToNat, Int.reduceAdd, Nat.reduceAdd, Nat.reduceSub, Nat.reduceMul, Nat.reduceLeDiff, Option.isSome_some, Bool.not_true]
  exact ⟨by rw [bad fun h => by have := h.z; rw [hn, hz] at this; simp at this], goF (st.gr.trans sA)⟩
 have hz : f.new = true ∨ isZ f.s = true := by rcases A with ⟨_, h⟩ | h; exact .inr h; exact .inl h
 rcases A with ⟨hn, hz'⟩ | hn
 all_goals try (
  simp (disch := first | omega | (simp only [RY] <;> omega) | decide) only [↓RD, RZ, eq_self, Int.reduceToNat, Int.reduceAdd, Nat.reduceAdd, Nat.reduceSub, Nat.reduceMul, Nat.reduceLeDiff, st.f, hn, Option.isSome_some, Bool.not_true]
  refine zac (none_ok (hf.s.ext (goF st.gr)) fo.s) ?_
  rintro _ _ ⟨rfl, sA⟩
  replace st := st.ext sA
  rw [hz'])
 all_goals (
  by_cases hB : f.has = true ∨ f.act = 0
  rotate_left
  ·have h1 : f.has = false := by cases h : f.has; rfl; exact absurd (.inl h) hB
   have h2 : ¬ f.act = 0 := fun h => hB (.inr h)
   simp (disch := first | omega | (simp only [RY] <;> omega) | decide) only [↓RD, RZ, eq_self, Int.reduceToNat, Int.reduceAdd, Nat.reduceAdd, Nat.reduceSub, Nat.reduceMul, Nat.reduceLeDiff, st.f, h1, hn, Option.isSome_some, Bool.not_true]
   exact ⟨by rw [bad fun h => hB h.a], goF st.gr⟩
  by_cases hB2 : shr f.act m = 0
  rotate_left
  ·have h3 : ¬ f.act = 0 := fun h => by rw [h] at hB2; exact hB2 ((shr0 0 m).2 (Nat.two_pow_pos m))
   have h1 : f.has = true := by rcases hB with h | h; exact h; exact absurd h h3
   simp (disch := first | omega | (simp only [RY] <;> omega) | decide) only [↓RD, RZ, eq_self, Int.reduceToNat, Int.reduceAdd, Nat.reduceAdd, Nat.reduceSub, Nat.reduceMul, Nat.reduceLeDiff, st.f, st.s, h1, hn, Option.isSome_some, Bool.not_true, hm]
   exact ⟨by rw [bad fun h => hB2 (hb.2 h.b)], goF st.gr⟩
  rcases (show f.has = true ∨ (f.has = false ∧ f.act = 0) by cases h : f.has; exact .inr ⟨rfl, by rcases hB with h' | h'; rw [h] at h'; cases h'; exact h'⟩; exact .inl rfl) with h1 | ⟨h1, h2⟩
  simp (disch := first | omega | (simp only [RY] <;> omega) | decide) only [↓RD, RZ, eq_self, Int.reduceToNat, Int.reduceAdd, Nat.reduceAdd, Nat.reduceSub, Nat.reduceMul, Nat.reduceLeDiff, st.f, st.s, h1, hn, Option.isSome_some, Bool.not_true, hm, hB2]
  rotate_left
  rw [h2] at hB2
  simp (disch := first | omega | (simp only [RY] <;> omega) | decide) only [↓RD, RZ, eq_self, Int.reduceToNat, Int.reduceAdd, Nat.reduceAdd, Nat.reduceSub, Nat.reduceMul, Nat.reduceLeDiff, st.f, st.s, h1, hn, Option.isSome_some, Bool.not_true, hm, h2, hB2])
 all_goals (
  rcases hD : f.od with _ | _
  by_cases qD : f.dti = t.dti
  simp (disch := first | omega | (simp only [RY] <;> omega) | decide) only [↓RD, RZ, eq_self, Int.reduceToNat, Int.reduceAdd, Nat.reduceAdd, Nat.reduceSub, Nat.reduceMul, Nat.reduceLeDiff, st.f, st.t, hD]
  refine zac (Equal_ok (hf.dti.ext (goF st.gr)) (wt.dti.ext st.gr) (by omega)) ?_
  rintro _ _ ⟨rfl, rfl⟩
  rw [decide_eq_true qD]
  rotate_left
  ·simp (disch := first | omega | (simp only [RY] <;> omega) | decide) only [↓RD, RZ, eq_self, Int.reduceToNat, Int.reduceAdd, Nat.reduceAdd, Nat.reduceSub, Nat.reduceMul, Nat.reduceLeDiff, st.f, st.t, hD]
   refine zac (Equal_ok (hf.dti.ext (goF st.gr)) (wt.dti.ext st.gr) (by omega)) ?_
   rintro _ _ ⟨rfl, rfl⟩
   rw [decide_eq_false qD]
   simp (disch := first | omega | (simp only [RY] <;> omega) | decide) only [↓RD, RZ, eq_self, Int.reduceToNat, Int.reduceAdd, Nat.reduceAdd, Nat.reduceSub, Nat.reduceMul, Nat.reduceLeDiff]
   exact ⟨by rw [bad fun h => by have := h.d; rw [hD, if_neg (by decide)] at this; exact qD this], goF st.gr⟩
  simp (disch := first | omega | (simp only [RY] <;> omega) | decide) only [↓RD, RZ, eq_self, Int.reduceToNat, Int.reduceAdd, Nat.reduceAdd, Nat.reduceSub, Nat.reduceMul, Nat.reduceLeDiff, st.f, st.s, hD]
  refine zac (within_ok (hf.dti.ext (goF st.gr)) s.tar 0 3 (by omega)) ?_
  rintro _ _ ⟨rfl, s'⟩
  replace st := st.ext s'
  rcases wD : wi f.dti s.tar 0 3 with _ | _
  ·simp (disch := first | omega | (simp only [RY] <;> omega) | decide) only [↓RD, RZ, eq_self, Int.reduceToNat, Int.reduceAdd, Nat.reduceAdd, Nat.reduceSub, Nat.reduceMul, Nat.reduceLeDiff, st.f, hD]
   exact ⟨by rw [bad fun h => by have := h.d; rw [hD, if_pos rfl, wD] at this; cases this], goF st.gr⟩)
 all_goals (
  rcases hE : f.of' with _ | _
  by_cases qE : f.dif = t.dif
  simp (disch := first | omega | (simp only [RY] <;> omega) | decide) only [↓RD, RZ, eq_self, Int.reduceToNat, Int.reduceAdd, Nat.reduceAdd, Nat.reduceSub, Nat.reduceMul, Nat.reduceLeDiff, st.f, st.t, hD, hE]
  refine zac (Equal_ok (hf.dif.ext (goF st.gr)) (wt.dif.ext st.gr) (by omega)) ?_
  rintro _ _ ⟨rfl, rfl⟩
  rw [decide_eq_true qE]
  rotate_left
  ·simp (disch := first | omega | (simp only [RY] <;> omega) | decide) only [↓RD, RZ, eq_self, Int.reduceToNat, Int.reduceAdd, Nat.reduceAdd, Nat.reduceSub, Nat.reduceMul, Nat.reduceLeDiff, st.f, st.t, hD, hE]
   refine zac (Equal_ok (hf.dif.ext (goF st.gr)) (wt.dif.ext st.gr) (by omega)) ?_
   rintro _ _ ⟨rfl, rfl⟩
   rw [decide_eq_false qE]
   simp (disch := first | omega | (simp only [RY] <;> omega) | decide) only [↓RD, RZ, eq_self, Int.reduceToNat, Int.reduceAdd, Nat.reduceAdd, Nat.reduceSub, Nat.reduceMul, Nat.reduceLeDiff]
   exact ⟨by rw [bad fun h => by have := h.e; rw [hE, if_neg (by decide)] at this; exact qE this], goF st.gr⟩
  simp (disch := first | omega | (simp only [RY] <;> omega) | decide) only [↓RD, RZ, eq_self, Int.reduceToNat, Int.reduceAdd, Nat.reduceAdd, Nat.reduceSub, Nat.reduceMul, Nat.reduceLeDiff, st.f, st.s, hD, hE]
  refine zac (diffs_ok (hf.dif.ext (goF st.gr)) 16 4096 (by omega)) ?_
  rintro _ _ ⟨rfl, s'⟩
  replace st := st.ext s'
  rcases wE : di f.dif 16 4096 with _ | _
  ·simp (disch := first | omega | (simp only [RY] <;> omega) | decide) only [↓RD, RZ, eq_self, Int.reduceToNat, Int.reduceAdd, Nat.reduceAdd, Nat.reduceSub, Nat.reduceMul, Nat.reduceLeDiff, st.f, hD, hE]
   exact ⟨by rw [bad fun h => by have := h.e; rw [hE, if_pos rfl, wE] at this; cases this], goF st.gr⟩)
 all_goals (
  have hd : if f.od = true then wi f.dti s.tar 0 3 = true else f.dti = t.dti := by
   rw [hD]
   first | exact wD | exact qD
  have he : if f.of' = true then di f.dif 16 4096 = true else f.dif = t.dif := by
   rw [hE]
   first | exact wE | exact qE
  cases hC' : f.oc with
  | true =>
   simp (disch := first | omega | (simp only [RY] <;> omega) | decide) only [↓RD, RZ, eq_self, Int.reduceToNat, Int.reduceAdd, Nat.reduceAdd, Nat.reduceSub, Nat.reduceMul, Nat.reduceLeDiff, st.f, st.s, hE, hC']
   refine zac (within_ok (hf.cha.ext (goF st.gr)) s.cha 0 255 (by omega)) ?_
   rintro _ _ ⟨rfl, s'⟩
   replace st := st.ext s'
   simp (disch := first | omega | (simp only [RY] <;> omega) | decide) only [↓RD, RZ, eq_self, Int.reduceToNat, Int.reduceAdd, Nat.reduceAdd, Nat.reduceSub, Nat.reduceMul, Nat.reduceLeDiff]
   refine ⟨?_, goF st.gr⟩
   congr 1
   cases wC : wi f.cha s.cha 0 255 with
   | true => rw [yes ⟨hz, hB, hb.1 (by first | exact hB2 | (rw [‹f.act = 0›]; exact hB2)), hd, he, by rw [hC', if_pos rfl]; exact wC⟩]
   | false => rw [bad fun h => by have := h.c; rw [hC', if_pos rfl, wC] at this; cases this]
  | false =>
   simp (disch := first | omega | (simp only [RY] <;> omega) | decide) only [↓RD, RZ, eq_self, Int.reduceToNat, Int.reduceAdd, Nat.reduceAdd, Nat.reduceSub, Nat.reduceMul, Nat.reduceLeDiff, st.f, st.t, hE, hC']
   refine zac (Equal_ok (hf.cha.ext (goF st.gr)) (wt.cha.ext st.gr) (by omega)) ?_
   rintro _ _ ⟨rfl, rfl⟩
   by_cases qC : f.cha = t.cha
   ·rw [decide_eq_true qC]
    simp (disch := first | omega | (simp only [RY] <;> omega) | decide) only [↓RD, RZ, eq_self, Int.reduceToNat, Int.reduceAdd, Nat.reduceAdd, Nat.reduceSub, Nat.reduceMul, Nat.reduceLeDiff]
    exact ⟨by rw [yes ⟨hz, hB, hb.1 (by first | exact hB2 | (rw [‹f.act = 0›]; exact hB2)), hd, he, by rw [hC', if_neg (by decide)]; exact qC⟩], goF st.gr⟩
   ·rw [decide_eq_false qC]
    simp (disch := first | omega | (simp only [RY] <;> omega) | decide) only [↓RD, RZ, eq_self, Int.reduceToNat, Int.reduceAdd, Nat.reduceAdd, Nat.reduceSub, Nat.reduceMul, Nat.reduceLeDiff]
    exact ⟨by rw [bad fun h => by have := h.c; rw [hC', if_neg (by decide)] at this; exact qC this], goF st.gr⟩)
end Go.Ax.D9
/- DepR3 -/
namespace Go.Ax.D9
open Go.Ax B6
/-! Layers. -/
structure TmL (l : List Tm) : Prop where
 len : 1 ≤ l.length ∧ l.length ≤ 64
 lay : ∀ i, i < l.length → LayAt l i
 emp : ∀ t ∈ l, t.dti = [] ∧ t.dif = [] ∧ t.cha = []
theorem TmL.one : TmL [Tm0] := by
 refine ⟨by simp, fun i hi => ?_, fun t ht => ?_⟩
 ·have : i = 0 := by simpa using hi
  subst this
  exact ⟨rfl, rfl⟩
 ·simp only [List.mem_singleton] at ht
  subst ht
  exact ⟨rfl, rfl, rfl⟩
theorem top_max {ts : List Tm} (h : ∀ t ∈ ts, 0 ≤ t.sp ∧ t.sp ≤ 3) : 0 ≤ top ts ∧ top ts ≤ 3 := by
 have : ∀ (l : List Tm) (x : Int), 0 ≤ x → x ≤ 3 → (∀ t ∈ l, 0 ≤ t.sp ∧ t.sp ≤ 3) → 0 ≤ l.foldl (fun n t => max n t.sp) x ∧ l.foldl (fun n t => max n t.sp) x ≤ 3 := by
  intro l
  induction l with
  | nil => intro x h1 h2 _; exact ⟨h1, h2⟩
  | cons t l ih =>
   intro x h1 h2 h3
   have := h3 t (List.mem_cons_self ..)
   exact ih _ (show 0 ≤ max x t.sp by omega) (show max x t.sp ≤ 3 by omega) fun u hu => h3 u (List.mem_cons_of_mem _ hu)
 exact this ts 0 (by decide) (by decide) h
structure TmB (ts0 : List Tm) (tar c : Nat) (i : Nat) (t : Tm) : Prop where
 sp : t.sp = (ts0.getD i Tm0).sp
 te : t.te = (ts0.getD i Tm0).te
 dti : wi t.dti tar 0 3 = true
 dif : di t.dif 8 16 = true
 cha : wi t.cha c 0 15 = true
end Go.Ax.D9
/- Wb2 -/
namespace Go.Ax.B6
open Go.Ax
end Go.Ax.B6
/- Wb3 -/
namespace Go.Ax.B6
open Go.Ax
structure WRep (H : Heap) (w : Nat) (bits : List Bool) (F : List Nat) : Prop where
 mk' ::
 ex : ∃ bv l, H.get w = some ⟨zf5, [bv, .int .i64 (bits.length : Nat)], none⟩ ∧ Pk bits.length l bits ∧ Opn zaz 1 H bv (l.map by8) l.length ∧ F = w :: bv.pid.toList ∧ bv.pid ≠ some w
 low : Below F H
theorem WRep.to {H H' : Heap} {w : Nat} {bits : List Bool} {F : List Nat} (h : WRep H w bits F) (hs : ∀ i ∈ F, H'.get i = H.get i) (hn : H.next ≤ H'.next) : WRep H' w bits F := by
 obtain ⟨⟨bv, l, h1, h2, h3, rfl, h5⟩, hb⟩ := h
 refine ⟨⟨bv, l, ?_, h2, h3.to fun i hi => hs i (by simp [hi]), rfl, h5⟩, fun i hi => Nat.lt_of_lt_of_le (hb i hi) hn⟩
 rw [hs w (by simp), h1]
theorem nb_take (v k j : Nat) (h : j < k) : (nb v k).take (j + 1) = (nb v k).take j ++ [v.testBit (k - 1 - j)] := by
 induction k generalizing j with
 | zero => omega
 | succ k ih =>
  cases j with
  | zero => simp [nb]
  | succ j =>
   simp only [nb, List.take_succ_cons, List.cons_append]
   rw [ih j (by omega)]
   have : k + 1 - 1 - (j + 1) = k - 1 - j := by omega
   rw [this]
theorem shr1 (v i : Nat) : shr v i &&& 1 = (v.testBit i).toNat := by
 rw [shr_def, Nat.toNat_testBit, Nat.and_one_is_mod, Nat.shiftRight_eq_div_pow]
def addE (v : Nat) (n : Int) : Int := if n < 0 ∨ 64 < n ∨ n < bl v then 1 else 0
def addB (bits : List Bool) (v : Nat) (n : Int) : List Bool := if n < 0 ∨ 64 < n ∨ n < bl v then bits else bits ++ nb v n.toNat
def addNSE (v n : Nat) : Int := if n < 1 ∨ 4294967296 < n ∨ n ≤ v then 1 else 0
def addNSB (bits : List Bool) (v n : Nat) : List Bool := if n < 1 ∨ 4294967296 < n ∨ n ≤ v then bits else if v < 2 ^ bl n - n then bits ++ nb v (bl n - 1) else bits ++ nb (v + (2 ^ bl n - n)) (bl n)
theorem addNS_lt {v n : Nat} (h0 : 1 ≤ n) (h1 : n ≤ 4294967296) (h : v < n) : 2 ^ bl n ≤ 8589934592 ∧ n < 2 ^ bl n ∧ 2 ^ bl n ≤ 2 * n ∧ 1 ≤ bl n ∧ bl n ≤ 33 ∧ (v < 2 ^ bl n - n → bl v ≤ bl n - 1) ∧ (¬ v < 2 ^ bl n - n → bl (v + (2 ^ bl n - n)) ≤ bl n) := by
 have h2 := lt_bl n
 have h3 := bl_le n h0
 have h33 : bl n ≤ 33 := (bl_le_iff n 33).2 (by omega)
 have hp : 1 ≤ bl n := by
  rcases Nat.eq_zero_or_pos (bl n) with e | e
  ·rw [e] at h2; simp at h2; omega
  ·exact e
 have e : 2 ^ bl n = 2 * 2 ^ (bl n - 1) := by
  obtain ⟨m, hm⟩ : ∃ m, bl n = m + 1 := ⟨bl n - 1, by omega⟩
  rw [hm, Nat.pow_succ, Nat.mul_comm]; rfl
 have h4 : 2 ^ bl n ≤ 2 ^ 33 := Nat.pow_le_pow_right (by decide) h33
 refine ⟨by omega, h2, by omega, hp, h33, fun hv => (bl_le_iff _ _).2 (by omega), fun hv => (bl_le_iff _ _).2 (by omega)⟩
end Go.Ax.B6
/- Wb4 -/
namespace Go.Ax.B6
open Go.Ax
structure RRep (H : Heap) (w : Nat) (bits : List Bool) (F : List Nat) : Prop where
 mk' ::
 ex : ∃ bv, H.get w = some ⟨zaY, [bv], none⟩ ∧ Opn zfQ 1 H bv (bits.map V.bool) bits.length ∧ F = w :: bv.pid.toList ∧ bv.pid ≠ some w
 low : Below F H
theorem RRep.to {H H' : Heap} {w : Nat} {bits : List Bool} {F : List Nat} (h : RRep H w bits F) (hs : ∀ i ∈ F, H'.get i = H.get i) (hn : H.next ≤ H'.next) : RRep H' w bits F := by
 obtain ⟨⟨bv, h1, h3, rfl, h5⟩, hb⟩ := h
 refine ⟨⟨bv, ?_, h3.to fun i hi => hs i (by simp [hi]), rfl, h5⟩, fun i hi => Nat.lt_of_lt_of_le (hb i hi) hn⟩
 rw [hs w (by simp), h1]
theorem shr_bl (v n : Nat) : shr v n = 0 ↔ bl v ≤ n := by
 rw [bl_le_iff, shr_pow]
 constructor
 ·intro h
  exact Nat.lt_of_div_eq_zero (Nat.two_pow_pos n) h
 ·exact Nat.div_eq_of_lt
theorem RAdd_loop {H : Heap} {w : Nat} {bits : List Bool} {F : List Nat} (h : RRep H w bits F) (v i : Nat) (hv : v < 18446744073709551616) (hi : i < 64) (hl : bits.length < 1099511627776) (t6 : V) {Q : Res → Heap → Prop}
  (k : ∀ H' F', RRep H' w (bits ++ [v.testBit i]) F' → Step H H' F F' → Q (.nrm [.int .i64 ((i : Int) - 1)]) H') :
  Ok (zaU (sem T) (.ptr w 0) (.int .u64 v) t6 [.int .i64 (i : Int)]) H Q := by
 obtain ⟨⟨bv, hw, ho, rfl, hne⟩, hb⟩ := h
 have hw0 : w < H.next := hb w (by simp)
 have hsh := shr_le v i
 have hbit : (v.testBit i).toNat ≤ 1 := Bool.toNat_le _
 have hbe : (((v.testBit i).toNat : Int) == 1) = v.testBit i := by cases v.testBit i <;> rfl
 unfold zaU
 simp (disch := first | omega | decide) only [↓RD, RC, RH, RO, RN, RL, RX, RS, eq_self, Int.reduceToNat, Int.reduceAdd, Int.reduceSub, Int.reduceMul, Nat.reduceAdd, Nat.reduceSub, Nat.reduceMul, Nat.reduceDiv, Nat.reduceMod, Nat.reduceBEq, Nat.reduceLeDiff, hw, shr1, hbe]
 refine zfs (bytes := 1) (n := bits.length) (m := 1) (q := [V.bool (v.testBit i)]) (ho.to fun i hi => zay _ _ ?_) (acells_fresh rfl) rfl (by omega) (by omega) fun bv' H1 ho1 hs hf => ?_
 ·have := hb i (by simp [hi]); omega
 have hw1 : H1.get w = some ⟨zaY, [bv], none⟩ := by
  rw [hs.same w (by rw [zan]; omega) (by rw [mem_pid]; exact hne), zay _ _ (by omega), hw]
 have hn := hs.next
 rw [zan] at hn
 have hne1 : bv'.pid ≠ some w := fun e => by
  have := hf (.inr (by decide)) w e
  rw [zan] at this; omega
 simp (disch := first | omega | decide) only [↓RD, RC, RH, RO, RN, RL, RX, RS, eq_self, Int.reduceToNat, Int.reduceAdd, Int.reduceSub, Int.reduceMul, Nat.reduceAdd, Nat.reduceSub, Nat.reduceMul, Nat.reduceDiv, Nat.reduceMod, Nat.reduceBEq, Nat.reduceLeDiff, hw1, ho1.cells1, ho1.okc]
 refine k _ (w :: bv'.pid.toList) ⟨⟨bv', ?_, ?_, rfl, hne1⟩, ?_⟩ (((Step.new H _ _).trans (hs.cons w)).trans (Step.set _ (by simp)))
 ·rw [zaq]
 ·simp only [List.map_append, List.length_append]
  exact ho1.to fun j hj => zaj _ _ fun e => hne1 (e ▸ hj)
 ·refine Below.cons (by rw [zaH]; omega) fun j hj => ?_
  rw [zaH]
  exact hs.below (fun i hi => by rw [zan]; have := hb i (List.mem_cons_of_mem _ hi); omega) j hj
theorem RAdd_ok {H : Heap} {w : Nat} {bits : List Bool} {F : List Nat} (h : RRep H w bits F) (v : Nat) (n : Int) (hv : v < 18446744073709551616) (hl : bits.length < 549755813888) (hn : -9223372036854775808 ≤ n ∧ n ≤ 9223372036854775807) :
  Ok (sem T zae [.ptr w 0, .int .u64 v, .int .i64 n]) H fun r H' => ∃ F', r = .int .i64 (addE v n) ∧ RRep H' w (addB bits v n) F' ∧ Step H H' F F' := by
 refine zdC ?_
 unfold zcv addE addB
 have h64 : bl v ≤ 64 := (bl_le_iff v 64).2 hv
 simp (disch := first | omega | decide) only [↓RD, RC, RH, RO, RN, RL, RX, RS, eq_self, Int.reduceToNat, Int.reduceAdd, Int.reduceSub, Int.reduceMul, Nat.reduceAdd, Nat.reduceSub, Nat.reduceMul, Nat.reduceDiv, Nat.reduceMod, Nat.reduceBEq, Nat.reduceLeDiff]
 refine zgB (fun h1 => ?_) fun h1 => ?_
 ·simp (disch := first | omega | decide) only [↓RD, RC, RH, RO, RN, RL, RX, RS, eq_self, Int.reduceToNat, Int.reduceAdd, Int.reduceSub, Int.reduceMul, Nat.reduceAdd, Nat.reduceSub, Nat.reduceMul, Nat.reduceDiv, Nat.reduceMod, Nat.reduceBEq, Nat.reduceLeDiff]
  rw [if_pos (.inl h1), if_pos (.inl h1)]
  exact ⟨F, rfl, h, Step.refl _ _⟩
 ·simp (disch := first | omega | decide) only [↓RD, RC, RH, RO, RN, RL, RX, RS, eq_self, Int.reduceToNat, Int.reduceAdd, Int.reduceSub, Int.reduceMul, Nat.reduceAdd, Nat.reduceSub, Nat.reduceMul, Nat.reduceDiv, Nat.reduceMod, Nat.reduceBEq, Nat.reduceLeDiff]
  refine zgB (fun h2 => ?_) fun h2 => ?_
  ·simp (disch := first | omega | decide) only [↓RD, RC, RH, RO, RN, RL, RX, RS, eq_self, Int.reduceToNat, Int.reduceAdd, Int.reduceSub, Int.reduceMul, Nat.reduceAdd, Nat.reduceSub, Nat.reduceMul, Nat.reduceDiv, Nat.reduceMod, Nat.reduceBEq, Nat.reduceLeDiff]
   rw [if_pos (.inr (.inl h2)), if_pos (.inr (.inl h2))]
   exact ⟨F, rfl, h, Step.refl _ _⟩
  ·obtain ⟨m, rfl⟩ := Int.eq_ofNat_of_zero_le (show 0 ≤ n by omega)
   have hsh := shr_le v m
   -- the loop
   have rest : ¬ m < bl v → Ok (M.blk 0 (M.iter (zaU (sem T) (.ptr w 0) (.int .u64 v) (.int .i64 0)) [.int .i64 ((m : Int) - 1)]) fun _ => M.pure (.ret [.int .i64 0])) H fun r H' => ∃ L, r = .ret L ∧ ∃ F', zdX L = .int .i64 0 ∧ RRep H' w (bits ++ nb v m) F' ∧ Step H H' F F' := by
    intro h3
    simp (disch := first | omega | decide) only [↓RD, RC, RH, RO, RN, RL, RX, RS, eq_self, Int.reduceToNat, Int.reduceAdd, Int.reduceSub, Int.reduceMul, Nat.reduceAdd, Nat.reduceSub, Nat.reduceMul, Nat.reduceDiv, Nat.reduceMod, Nat.reduceBEq, Nat.reduceLeDiff]
    refine zaK (fun j L H' => ∃ F', L = [.int .i64 ((m : Int) - 1 - j)] ∧ RRep H' w (bits ++ (nb v m).take j) F' ∧ Step H H' F F') m ⟨F, by simp, by simpa using h, Step.refl _ _⟩ ?_ ?_
    ·rintro j L H1 hj ⟨F1, rfl, h1, s1⟩
     have e : (m : Int) - 1 - j = ((m - 1 - j : Nat) : Int) := by omega
     rw [e]
     refine RAdd_loop h1 v _ hv (by omega) (by simp only [List.length_append, List.length_take, zas]; omega) _ fun H2 F2 h2 s2 => ?_
     refine ⟨F2, by congr 2; omega, ?_, s1.trans s2⟩
     rw [nb_take v m j hj, ← List.append_assoc]; exact h2
    ·rintro L H1 ⟨F1, rfl, h1, s1⟩
     unfold zaU
     simp (disch := first | omega | decide) only [↓RD, RC, RH, RO, RN, RL, RX, RS, eq_self, Int.reduceToNat, Int.reduceAdd, Int.reduceSub, Int.reduceMul, Nat.reduceAdd, Nat.reduceSub, Nat.reduceMul, Nat.reduceDiv, Nat.reduceMod, Nat.reduceBEq, Nat.reduceLeDiff]
     rw [List.take_of_length_le (by rw [zas]; omega)] at h1
     exact ⟨F1, h1, s1⟩
   simp (disch := first | omega | decide) only [↓RD, RC, RH, RO, RN, RL, RX, RS, eq_self, Int.reduceToNat, Int.reduceAdd, Int.reduceSub, Int.reduceMul, Nat.reduceAdd, Nat.reduceSub, Nat.reduceMul, Nat.reduceDiv, Nat.reduceMod, Nat.reduceBEq, Nat.reduceLeDiff]
   refine zgB (fun h3 => ?_) fun h3 => ?_
   ·simp (disch := first | omega | decide) only [↓RD, RC, RH, RO, RN, RL, RX, RS, eq_self, Int.reduceToNat, Int.reduceAdd, Int.reduceSub, Int.reduceMul, Nat.reduceAdd, Nat.reduceSub, Nat.reduceMul, Nat.reduceDiv, Nat.reduceMod, Nat.reduceBEq, Nat.reduceLeDiff]
    refine ok_itenb (fun h4 => ?_) fun h4 => ?_
    ·have : ¬ bl v ≤ m := fun e => by have := (shr_bl v m).2 e; omega
     simp (disch := first | omega | decide) only [↓RD, RC, RH, RO, RN, RL, RX, RS, eq_self, Int.reduceToNat, Int.reduceAdd, Int.reduceSub, Int.reduceMul, Nat.reduceAdd, Nat.reduceSub, Nat.reduceMul, Nat.reduceDiv, Nat.reduceMod, Nat.reduceBEq, Nat.reduceLeDiff]
     rw [if_pos (by omega), if_pos (by omega)]
     exact ⟨F, rfl, h, Step.refl _ _⟩
    ·have := (shr_bl v m).1 (by omega)
     rw [if_neg (by omega), if_neg (by omega)]
     simp (disch := first | omega | decide) only [↓RD, RC, RH, RO, RN, RL, RX, RS, eq_self, Int.reduceToNat, Int.reduceAdd, Int.reduceSub, Int.reduceMul, Nat.reduceAdd, Nat.reduceSub, Nat.reduceMul, Nat.reduceDiv, Nat.reduceMod, Nat.reduceBEq, Nat.reduceLeDiff]
     simpa only [↓RD, RC] using rest (by omega)
   ·rw [if_neg (by omega), if_neg (by omega)]
    simp (disch := first | omega | decide) only [↓RD, RC, RH, RO, RN, RL, RX, RS, eq_self, Int.reduceToNat, Int.reduceAdd, Int.reduceSub, Int.reduceMul, Nat.reduceAdd, Nat.reduceSub, Nat.reduceMul, Nat.reduceDiv, Nat.reduceMod, Nat.reduceBEq, Nat.reduceLeDiff]
    simpa only [↓RD, RC] using rest (by omega)
theorem RBytes_ok {H : Heap} {w : Nat} {bits : List Bool} {F : List Nat} (h : RRep H w bits F) (hl : bits.length < 549755813888) :
  Ok (sem T zaI [.ptr w 0]) H fun r H' => ∃ l, Pk bits.length l bits ∧ rcells 1 H' r = some (l.map by8, l.length) ∧ (∃ id, r.pid = some id ∧ H.next ≤ id ∧ id < H'.next ∧ ∃ n, r = .sl id 0 n (.fix n)) ∧ Step H H' [] r.pid.toList := by
 have hR := h
 obtain ⟨⟨bv, hw, ho, rfl, hne⟩, hb⟩ := h
 have hw0 : w < H.next := hb w (by simp)
 refine zdm ?_
 unfold zce
 simp (disch := first | omega | decide) only [↓RD, RC, RH, RO, RN, RL, RX, RS, eq_self, Int.reduceToNat, Int.reduceAdd, Int.reduceSub, Int.reduceMul, Nat.reduceAdd, Nat.reduceSub, Nat.reduceMul, Nat.reduceDiv, Nat.reduceMod, Nat.reduceBEq, Nat.reduceLeDiff, hw, ho.vlen]
 have e : (((bits.length : Int) + 7) / 8).toNat = (bits.length + 7) / 8 := by omega
 refine ⟨⟨by omega, by omega, by omega, by omega⟩, ?_⟩
 rw [e, zeros1]
 generalize hH1 : H.new _ = H1
 have hn1 : H1.next = H.next + 1 := by rw [← hH1, zan]
 have hg1 : H1.get H.next = some ⟨zaz, List.replicate ((bits.length + 7) / 8) (.int .u8 0), none⟩ := by rw [← hH1, zak]
 have hs1 : Step H H1 [] [H.next] := by rw [← hH1]; exact Step.newo H _ []
 have hbv : ∀ i, bv.pid = some i → i < H.next := fun i hi => hb i (by simp [hi])
 refine zaK (fun k L H' => L = [.int .i64 (k : Nat)] ∧ ∃ l, H'.get H.next = some ⟨zaz, l.map by8, none⟩ ∧ Pk bits.length l (bits.take k) ∧ Step H1 H' [H.next] [H.next]) bits.length ⟨rfl, List.replicate ((bits.length + 7) / 8) 0, by rw [hg1, List.map_replicate]; rfl, by rw [List.take_zero]; exact Pk.zeros _, Step.refl _ _⟩ ?_ ?_
 ·rintro k L H2 hk ⟨rfl, l, hg2, hp2, hs2⟩
  have hpl := hp2.len
  have hw2 : H2.get w = some ⟨zaY, [bv], none⟩ := by rw [hs2.same w (by omega) (by simp; omega), hs1.same w hw0 (by simp), hw]
  have ho2 : Opn zfQ 1 H2 bv (bits.map V.bool) bits.length := ho.to fun i hi => by
   have := hbv i hi
   rw [hs2.same i (by omega) (by simp; omega), hs1.same i this (by simp)]
  unfold zbm
  obtain ⟨id, rfl, hg, hia⟩ := ho2.at (k := .i64) (i := (k : Nat)) (by omega) (by omega)
  have hat : bits.take (k + 1) = bits.take k ++ [bits[k]] := by rw [List.take_add_one, List.getElem?_eq_getElem hk]; rfl
  have hk' : (bits.take k).length = k := by rw [List.length_take]; omega
  have hlt : k / 8 < l.length := by omega
  have hx : l[k / 8] < 256 := hp2.lt _ hlt
  have hs8 := shr_le 128 (k % 8)
  have e8 : ((k : Int) / 8).toNat = k / 8 := by omega
  have e9 : ((k : Int) % 8).toNat = k % 8 := by omega
  simp (disch := first | omega | decide) only [↓RD, RC, RH, RO, RN, RL, RX, RS, eq_self, Int.reduceToNat, Int.reduceAdd, Int.reduceSub, Int.reduceMul, Nat.reduceAdd, Nat.reduceSub, Nat.reduceMul, Nat.reduceDiv, Nat.reduceMod, Nat.reduceBEq, Nat.reduceLeDiff, hw2, hia, hg, List.getElem?_map, List.getElem?_eq_getElem hk, e8, e9, hg2, List.getElem?_eq_getElem hlt, by8]
  refine ze3 (fun hbt => ?_) fun hbt => ?_
  ·simp (disch := first | omega | decide) only [↓RD, RC, RH, RO, RN, RL, RX, RS, eq_self, Int.reduceToNat, Int.reduceAdd, Int.reduceSub, Int.reduceMul, Nat.reduceAdd, Nat.reduceSub, Nat.reduceMul, Nat.reduceDiv, Nat.reduceMod, Nat.reduceBEq, Nat.reduceLeDiff, hw2, hia, hg, List.getElem?_map, List.getElem?_eq_getElem hk, e8, e9, hg2, List.getElem?_eq_getElem hlt, by8]
   have hon := hp2.on (by omega) (by rw [hk']; exact hlt)
   simp only [hk'] at hon
   refine ⟨by rw [List.length_map]; omega, rfl, l.set (k / 8) (l[k / 8] ||| shr 128 (k % 8)), ?_, ?_, hs2.trans (Step.set _ (by simp))⟩
   ·try rw [zaq]
    rw [sp_set _ _ _ (by rw [List.length_map]; omega), List.map_set]; rfl
   ·rw [hat, hbt]; exact hon
  ·simp (disch := first | omega | decide) only [↓RD, RC, RH, RO, RN, RL, RX, RS, eq_self, Int.reduceToNat, Int.reduceAdd, Int.reduceSub, Int.reduceMul, Nat.reduceAdd, Nat.reduceSub, Nat.reduceMul, Nat.reduceDiv, Nat.reduceMod, Nat.reduceBEq, Nat.reduceLeDiff]
   refine ⟨rfl, l, hg2, ?_, hs2⟩
   rw [hat, hbt]; exact hp2.off
 ·rintro L H2 ⟨rfl, l, hg2, hp2, hs2⟩
  have hpl := hp2.len
  have hw2 : H2.get w = some ⟨zaY, [bv], none⟩ := by rw [hs2.same w (by omega) (by simp; omega), hs1.same w hw0 (by simp), hw]
  have ho2 : Opn zfQ 1 H2 bv (bits.map V.bool) bits.length := ho.to fun i hi => by
   have := hbv i hi
   rw [hs2.same i (by omega) (by simp; omega), hs1.same i this (by simp)]
  unfold zbm
  simp (disch := first | omega | decide) only [↓RD, RC, RH, RO, RN, RL, RX, RS, eq_self, Int.reduceToNat, Int.reduceAdd, Int.reduceSub, Int.reduceMul, Nat.reduceAdd, Nat.reduceSub, Nat.reduceMul, Nat.reduceDiv, Nat.reduceMod, Nat.reduceBEq, Nat.reduceLeDiff, hw2, ho2.vlen]
  rw [List.take_length] at hp2
  refine ⟨l, hp2, ?_, ⟨H.next, rfl, Nat.le_refl _, Nat.lt_of_lt_of_le (by omega) hs2.next, _, rfl⟩, hs1.trans hs2⟩
  simp only [rcells, hg2, Option.bind_some]
  rw [if_pos (by simp; omega), List.drop_zero, List.take_of_length_le (by simp; omega), hpl]
theorem Same_ok {H : Heap} {a b : V} {l m : List Nat} {j k : Nat} (ha : rcells 1 H a = some (l.map by8, j)) (hb : rcells 1 H b = some (m.map by8, k)) (hl : ∀ x ∈ l, x < 256) (hm : ∀ x ∈ m, x < 256) :
  Ok (sem T zbk [a, b]) H fun r H' => r = .bool (decide (l = m)) ∧ H' = H := by
 refine zdd ?_
 unfold zcx
 refine zgv ha ?_
 refine zgv hb ?_
 simp (disch := first | omega | decide) only [↓RD, RC, RH, RO, RN, RL, RX, RS, eq_self, Int.reduceToNat, Int.reduceAdd, Int.reduceSub, Int.reduceMul, Nat.reduceAdd, Nat.reduceSub, Nat.reduceMul, Nat.reduceDiv, Nat.reduceMod, Nat.reduceBEq, Nat.reduceLeDiff, bytes_eq hl hm]
theorem width_eq (n : Nat) (h0 : 1 ≤ n) (h : n ≤ 4294967296) : sem T zbI [.int .u64 n] = M.pure (.tup [.int .i64 (bl n : Nat), .int .u64 ((2 ^ bl n - n : Nat) : Int)]) := by
 have h1 := lt_bl n
 have h33 : bl n ≤ 33 := (bl_le_iff n 33).2 (by omega)
 have h2 : 2 ^ bl n ≤ 2 ^ 33 := Nat.pow_le_pow_right (by decide) h33
 have e : shl 1 (bl n) % 18446744073709551616 = 2 ^ bl n := by
  rw [shl_def, Nat.one_shiftLeft]; exact Nat.mod_eq_of_lt (by omega)
 refine pure_of_ok fun H => ?_
 refine zey ?_
 unfold zdh
 simp (disch := first | omega | decide) only [↓RD, RC, RH, RO, RN, RL, RX, RS, eq_self, Int.reduceToNat, Int.reduceAdd, Int.reduceSub, Int.reduceMul, Nat.reduceAdd, Nat.reduceSub, Nat.reduceMul, Nat.reduceDiv, Nat.reduceMod, Nat.reduceBEq, Nat.reduceLeDiff]
 refine zfP (fun L H' m => ∃ x k : Nat, L = [.int .i64 (k : Nat), .int .u64 (x : Nat)] ∧ m = x ∧ x ≤ n ∧ bl n = bl x + k ∧ H' = H) n ⟨n, 0, rfl, rfl, Nat.le_refl _, rfl, rfl⟩ ?_
 rintro L H' m ⟨x, k, rfl, rfl, hx, hb, rfl⟩
 unfold zcP
 simp (disch := first | omega | decide) only [↓RD, RC, RH, RO, RN, RL, RX, RS, eq_self, Int.reduceToNat, Int.reduceAdd, Int.reduceSub, Int.reduceMul, Nat.reduceAdd, Nat.reduceSub, Nat.reduceMul, Nat.reduceDiv, Nat.reduceMod, Nat.reduceBEq, Nat.reduceLeDiff]
 refine zgZ (fun h3 => ?_) fun h3 => ?_
 ·have hd := bl_div m (by omega)
  simp (disch := first | omega | decide) only [↓RD, RC, RH, RO, RN, RL, RX, RS, eq_self, Int.reduceToNat, Int.reduceAdd, Int.reduceSub, Int.reduceMul, Nat.reduceAdd, Nat.reduceSub, Nat.reduceMul, Nat.reduceDiv, Nat.reduceMod, Nat.reduceBEq, Nat.reduceLeDiff]
  exact ⟨m / 2, by omega, m / 2, k + 1, rfl, rfl, by omega, by omega⟩
 ·have : m = 0 := by omega
  subst this
  have hk : bl n = k := by simpa [bl] using hb
  subst hk
  simp (disch := first | omega | decide) only [↓RD, RC, RH, RO, RN, RL, RX, RS, eq_self, Int.reduceToNat, Int.reduceAdd, Int.reduceSub, Int.reduceMul, Nat.reduceAdd, Nat.reduceSub, Nat.reduceMul, Nat.reduceDiv, Nat.reduceMod, Nat.reduceBEq, Nat.reduceLeDiff, e, Int.toNat_one]
  rw [Int.ofNat_sub (by omega)]
theorem RAddNS_ok {H : Heap} {w : Nat} {bits : List Bool} {F : List Nat} (h : RRep H w bits F) (v n : Nat) (hv : v < 18446744073709551616) (hn : n < 18446744073709551616) (hl : bits.length < 549755813888) :
  Ok (sem T zaJ [.ptr w 0, .int .u64 v, .int .u64 n]) H fun r H' => ∃ F', r = .int .i64 (addNSE v n) ∧ RRep H' w (addNSB bits v n) F' ∧ Step H H' F F' := by
 refine zdn ?_
 unfold zcf addNSE addNSB
 simp (disch := first | omega | decide) only [↓RD, RC, RH, RO, RN, RL, RX, RS, eq_self, Int.reduceToNat, Int.reduceAdd, Int.reduceSub, Int.reduceMul, Nat.reduceAdd, Nat.reduceSub, Nat.reduceMul, Nat.reduceDiv, Nat.reduceMod, Nat.reduceBEq, Nat.reduceLeDiff]
 refine zgB (fun h1 => ?_) fun h1 => ?_
 ·simp (disch := first | omega | decide) only [↓RD, RC, RH, RO, RN, RL, RX, RS, eq_self, Int.reduceToNat, Int.reduceAdd, Int.reduceSub, Int.reduceMul, Nat.reduceAdd, Nat.reduceSub, Nat.reduceMul, Nat.reduceDiv, Nat.reduceMod, Nat.reduceBEq, Nat.reduceLeDiff]
  rw [if_pos (by omega), if_pos (by omega)]
  exact ⟨F, rfl, h, Step.refl _ _⟩
 ·simp (disch := first | omega | decide) only [↓RD, RC, RH, RO, RN, RL, RX, RS, eq_self, Int.reduceToNat, Int.reduceAdd, Int.reduceSub, Int.reduceMul, Nat.reduceAdd, Nat.reduceSub, Nat.reduceMul, Nat.reduceDiv, Nat.reduceMod, Nat.reduceBEq, Nat.reduceLeDiff]
  refine zgB (fun h2 => ?_) fun h2 => ?_
  ·simp (disch := first | omega | decide) only [↓RD, RC, RH, RO, RN, RL, RX, RS, eq_self, Int.reduceToNat, Int.reduceAdd, Int.reduceSub, Int.reduceMul, Nat.reduceAdd, Nat.reduceSub, Nat.reduceMul, Nat.reduceDiv, Nat.reduceMod, Nat.reduceBEq, Nat.reduceLeDiff]
   rw [if_pos (by omega), if_pos (by omega)]
   exact ⟨F, rfl, h, Step.refl _ _⟩
  ·simp (disch := first | omega | decide) only [↓RD, RC, RH, RO, RN, RL, RX, RS, eq_self, Int.reduceToNat, Int.reduceAdd, Int.reduceSub, Int.reduceMul, Nat.reduceAdd, Nat.reduceSub, Nat.reduceMul, Nat.reduceDiv, Nat.reduceMod, Nat.reduceBEq, Nat.reduceLeDiff]
   refine zgZ (fun h3 => ?_) fun h3 => ?_
   ·simp (disch := first | omega | decide) only [↓RD, RC, RH, RO, RN, RL, RX, RS, eq_self, Int.reduceToNat, Int.reduceAdd, Int.reduceSub, Int.reduceMul, Nat.reduceAdd, Nat.reduceSub, Nat.reduceMul, Nat.reduceDiv, Nat.reduceMod, Nat.reduceBEq, Nat.reduceLeDiff]
    rw [if_pos (by omega), if_pos (by omega)]
    exact ⟨F, rfl, h, Step.refl _ _⟩
   ·rw [if_neg (by omega), if_neg (by omega)]
    obtain ⟨a1, a2, a3, a4, a5, a6, a7⟩ := addNS_lt (v := v) (n := n) (by omega) (by omega) (by omega)
    simp (disch := first | omega | decide) only [↓RD, RC, RH, RO, RN, RL, RX, RS, eq_self, Int.reduceToNat, Int.reduceAdd, Int.reduceSub, Int.reduceMul, Nat.reduceAdd, Nat.reduceSub, Nat.reduceMul, Nat.reduceDiv, Nat.reduceMod, Nat.reduceBEq, Nat.reduceLeDiff, width_eq]
    refine zgZ (fun h4 => ?_) fun h4 => ?_
    ·have a6' := a6 (by omega)
     simp (disch := first | omega | decide) only [↓RD, RC, RH, RO, RN, RL, RX, RS, eq_self, Int.reduceToNat, Int.reduceAdd, Int.reduceSub, Int.reduceMul, Nat.reduceAdd, Nat.reduceSub, Nat.reduceMul, Nat.reduceDiv, Nat.reduceMod, Nat.reduceBEq, Nat.reduceLeDiff]
     rw [if_pos (by omega)]
     have e : (bl n : Int) - 1 = ((bl n - 1 : Nat) : Int) := by omega
     rw [e]
     refine zac (RAdd_ok h v _ hv hl ⟨by omega, by omega⟩) ?_
     rintro r H1 ⟨F1, rfl, hw1, hs1⟩
     simp only [addE, addB] at hw1 ⊢
     rw [if_neg (by omega)] at hw1
     rw [if_neg (by omega)]
     simp (disch := first | omega | decide) only [↓RD, RC, RH, RO, RN, RL, RX, RS, eq_self, Int.reduceToNat, Int.reduceAdd, Int.reduceSub, Int.reduceMul, Nat.reduceAdd, Nat.reduceSub, Nat.reduceMul, Nat.reduceDiv, Nat.reduceMod, Nat.reduceBEq, Nat.reduceLeDiff]
     exact ⟨F1, hw1, hs1⟩
    ·have a7' := a7 (by omega)
     simp (disch := first | omega | decide) only [↓RD, RC, RH, RO, RN, RL, RX, RS, eq_self, Int.reduceToNat, Int.reduceAdd, Int.reduceSub, Int.reduceMul, Nat.reduceAdd, Nat.reduceSub, Nat.reduceMul, Nat.reduceDiv, Nat.reduceMod, Nat.reduceBEq, Nat.reduceLeDiff]
     rw [if_neg (by omega)]
     have e : (v : Int) + ((2 ^ bl n - n : Nat) : Int) = ((v + (2 ^ bl n - n) : Nat) : Int) := by omega
     rw [e]
     refine zac (RAdd_ok h _ _ (by omega) hl ⟨by omega, by omega⟩) ?_
     rintro r H1 ⟨F1, rfl, hw1, hs1⟩
     simp only [addE, addB] at hw1 ⊢
     rw [if_neg (by omega)] at hw1
     rw [if_neg (by omega)]
     simp (disch := first | omega | decide) only [↓RD, RC, RH, RO, RN, RL, RX, RS, eq_self, Int.reduceToNat, Int.reduceAdd, Int.reduceSub, Int.reduceMul, Nat.reduceAdd, Nat.reduceSub, Nat.reduceMul, Nat.reduceDiv, Nat.reduceMod, Nat.reduceBEq, Nat.reduceLeDiff]
     exact ⟨F1, hw1, hs1⟩
end Go.Ax.B6
/- Wb6 -/
namespace Go.Ax.B6
open Go.Ax
def ub (l : List Nat) : List Bool := (List.range (8 * l.length)).map fun k => (l.getD (k / 8) 0).testBit (7 - k % 8)
structure PRd (H : Heap) (m : Nat × Nat) (r : Nat) (l : List Nat) (at' : Nat) : Prop where
 mk' ::
 ex : ∃ bv, H.get r = some ⟨zf6, [bv, .int .i64 (at' : Nat)], none⟩ ∧ Opn zaz 1 H bv (l.map by8) l.length ∧ bv.pid ≠ some r ∧ ∀ i, bv.pid = some i → m.1 ≤ i ∧ i < m.2
 low : m.1 ≤ r ∧ r < m.2
 lt : ∀ i (h : i < l.length), l[i] < 256
 len : l.length ≤ 1099511627776
 le : at' ≤ 8 * l.length
theorem PRd.frame {H H' : Heap} {m : Nat × Nat} {r : Nat} {l : List Nat} {at' : Nat} (h : PRd H m r l at') (hs : ∀ i, m.1 ≤ i → i < m.2 → H'.get i = H.get i) : PRd H' m r l at' := by
 obtain ⟨⟨bv, h1, h2, h3, h4⟩, h5, h6, h7, h8⟩ := h
 exact ⟨⟨bv, by rw [hs r h5.1 h5.2, h1], h2.to fun i hi => hs i (h4 i hi).1 (h4 i hi).2, h3, h4⟩, h5, h6, h7, h8⟩
def RStep (H H' : Heap) (r : Nat) : Prop := H'.next = H.next ∧ ∀ i, i ≠ r → H'.get i = H.get i
theorem RStep.refl (H : Heap) (r : Nat) : RStep H H r := ⟨rfl, fun _ _ => rfl⟩
theorem RStep.trans {H H1 H2 : Heap} {r : Nat} (h : RStep H H1 r) (k : RStep H1 H2 r) : RStep H H2 r := ⟨k.1.trans h.1, fun i hi => (k.2 i hi).trans (h.2 i hi)⟩
theorem RStep.set (H : Heap) (r : Nat) (b : Option Blk) : RStep H (H.set r b) r := ⟨rfl, fun i hi => zaj _ _ hi⟩
structure RRd (H : Heap) (r : Nat) (l : List Nat) (at' : Nat) : Prop where
 mk' ::
 ex : ∃ bv, H.get r = some ⟨zd6, [bv, .int .i64 (at' : Nat)], none⟩ ∧ ((bv = .nils ∧ l = []) ∨ bv = .rs (l.map by8) l.length)
 low : r < H.next
 lt : ∀ i (h : i < l.length), l[i] < 256
 len : l.length ≤ 1099511627776
 le : at' ≤ 8 * l.length
theorem RRd.frame {H H' : Heap} {r : Nat} {l : List Nat} {at' : Nat} (h : RRd H r l at') (hs : H'.get r = H.get r) (hn : H.next ≤ H'.next) : RRd H' r l at' := by
 obtain ⟨⟨bv, h1, h2⟩, h5, h6, h7, h8⟩ := h
 exact ⟨⟨bv, by rw [hs, h1], h2⟩, Nat.lt_of_lt_of_le h5 hn, h6, h7, h8⟩
end Go.Ax.B6
/- DepW1 -/
namespace Go.Ax.D9
open Go.Ax B6
structure Kp (R : Heap → List Bool → List Nat → Prop) : Prop where
 to : ∀ {H H' : Heap} {bits : List Bool} {F : List Nat}, R H bits F → (∀ i ∈ F, H'.get i = H.get i) → H.next ≤ H'.next → R H' bits F
 low : ∀ {H : Heap} {bits : List Bool} {F : List Nat}, R H bits F → Below F H
abbrev DR (w : Nat) (H : Heap) (bits : List Bool) (F : List Nat) : Prop := RRep H w bits F
theorem kpD (w : Nat) : Kp (DR w) := ⟨fun h => h.to, fun h => h.low⟩
structure Wk (R : Heap → List Bool → List Nat → Prop) (B : Heap) (ks : List (Nat × Blk)) (H : Heap) (bits : List Bool) : Prop where
 kp : Kp R
 ex : ∃ F, R H bits F ∧ (∀ i ∈ F, B.next ≤ i) ∧ ∀ k ∈ ks, k.1 ∉ F
 gr : Grow B H
 kk : ∀ k ∈ ks, k.1 < H.next ∧ H.get k.1 = some k.2
section
variable {R : Heap → List Bool → List Nat → Prop} {B H H' : Heap} {ks : List (Nat × Blk)} {bits bits' : List Bool}
theorem Wk.step {x : M V} {P : V → Prop} (h : Wk R B ks H bits) (hop : ∀ F, R H bits F → Ok x H fun r H' => ∃ F', P r ∧ R H' bits' F' ∧ Step H H' F F') : Ok x H fun r H' => P r ∧ Wk R B ks H' bits' := by
 obtain ⟨hR, ⟨F, hF, hlo, hks⟩, gr, kk⟩ := h
 refine zaM (hop F hF) ?_
 rintro r H' ⟨F', hp, hF', s⟩
 have gn := gr.next
 refine ⟨hp, hR, ⟨F', hF', fun i hi => ?_, fun k hk => s.ne (kk k hk).1 (hks k hk)⟩, ⟨Nat.le_trans gr.next s.next, fun i hi => ?_⟩, fun k hk => ⟨Nat.lt_of_lt_of_le (kk k hk).1 s.next, ?_⟩⟩
 ·rcases s.own i hi with h | h
  ·exact hlo i h
  ·omega
 ·rw [s.same i (by omega) (fun h => by have := hlo i h; omega), gr.same i hi]
 ·rw [s.same _ (kk k hk).1 (hks k hk)]; exact (kk k hk).2
theorem Wk.add (h : Wk R B ks H bits) (s : Grow H H') {id : Nat} {b : Blk} (h0 : H.next ≤ id) (h1 : id < H'.next) (hg : H'.get id = some b) : Wk R B ((id, b) :: ks) H' bits := by
 obtain ⟨hR, ⟨F, hF, hlo, hks⟩, gr, kk⟩ := h
 have hb := hR.low hF
 refine ⟨hR, ⟨F, hR.to hF (fun i hi => s.same i (hb i hi)) s.next, hlo, fun k hk => ?_⟩, gr.trans s, fun k hk => ?_⟩
 ·rcases List.mem_cons.1 hk with rfl | hk
  ·exact fun hi => by have := hb _ hi; omega
  ·exact hks k hk
 ·rcases List.mem_cons.1 hk with rfl | hk
  ·exact ⟨h1, hg⟩
  ·exact ⟨Nat.lt_of_lt_of_le (kk k hk).1 s.next, (s.same _ (kk k hk).1).trans (kk k hk).2⟩
theorem Wk.grow (h : Wk R B ks H bits) (s : Grow H H') : Wk R B ks H' bits := by
 obtain ⟨hR, ⟨F, hF, hlo, hks⟩, gr, kk⟩ := h
 have hb := hR.low hF
 exact ⟨hR, ⟨F, hR.to hF (fun i hi => s.same i (hb i hi)) s.next, hlo, hks⟩, gr.trans s, fun k hk => ⟨Nat.lt_of_lt_of_le (kk k hk).1 s.next, (s.same _ (kk k hk).1).trans (kk k hk).2⟩⟩
theorem Wk.new (h : Wk R B ks H bits) (b : Blk) : Wk R B ((H.next, b) :: ks) (H.new b) bits := h.add (Grow.new H b) (Nat.le_refl _) (by rw [zan]; omega) (zak _ _)
theorem Wk.drop {k : Nat × Blk} (h : Wk R B (k :: ks) H bits) : Wk R B ks H bits := by
 obtain ⟨hR, ⟨F, hF, hlo, hks⟩, gr, kk⟩ := h
 exact ⟨hR, ⟨F, hF, hlo, fun k hk => hks k (List.mem_cons_of_mem _ hk)⟩, gr, fun k hk => kk k (List.mem_cons_of_mem _ hk)⟩
theorem Wk.get {id : Nat} {b : Blk} (h : Wk R B ((id, b) :: ks) H bits) : H.get id = some b := (h.kk _ (List.mem_cons_self ..)).2
theorem Wk.lt {id : Nat} {b : Blk} (h : Wk R B ((id, b) :: ks) H bits) : id < H.next := (h.kk _ (List.mem_cons_self ..)).1
end
theorem addB_eq {bits : List Bool} {v n : Nat} (h : v < 2 ^ n) (hn : n ≤ 64) : addB bits v (n : Nat) = bits ++ nb v n := by
 unfold addB
 have := (bl_le_iff v n).2 h
 rw [if_neg (by omega)]; simp
theorem pow64 {v n : Nat} (h : v < 2 ^ n) (hn : n ≤ 63) : v < 9223372036854775808 := by
 have : 2 ^ n ≤ 2 ^ 63 := Nat.pow_le_pow_right (by decide) hn
 omega
abbrev By (lo : Nat) (H : Heap) (v : V) (l : List Nat) : Prop := Lc 1 lo H v (l.map by8) l.length
def headB (f : Fr) : List Bool := [f.st, f.en] ++ nb f.id.toNat 6 ++ nb f.num 16
theorem headB_len (f : Fr) : (headB f).length = 24 := by simp [headB, zas]
theorem good_id {f : Fr} {k : Sr} (h : good f k = true) : 0 ≤ f.id ∧ f.id ≤ 63 := by
 obtain ⟨t, h1, -⟩ := dec_iff.1 h
 unfold tmOf tmPl at h1
 split at h1
 ·split at h1
  ·assumption
  ·cases h1
 ·cases h1
end Go.Ax.D9
/- DepR4 -/
namespace Go.Ax
structure Ko (a m : Nat) (H H' : Heap) : Prop where
 next : H.next ≤ H'.next
 same : ∀ i, i < H.next → (i < a ∨ m ≤ i) → H'.get i = H.get i
theorem Ko.refl (a m : Nat) (H : Heap) : Ko a m H H := ⟨Nat.le_refl _, fun _ _ _ => rfl⟩
theorem Ko.trans {a m : Nat} {H H1 H2 : Heap} (h : Ko a m H H1) (k : Ko a m H1 H2) : Ko a m H H2 := ⟨Nat.le_trans h.next k.next, fun i hi ho => by rw [k.same i (Nat.lt_of_lt_of_le hi h.next) ho, h.same i hi ho]⟩
theorem Grow.ko {H H' : Heap} (h : Grow H H') (a m : Nat) : Ko a m H H' := ⟨h.next, fun i hi _ => h.same i hi⟩
theorem Ko.keep {a m lo : Nat} {H H' : Heap} (h : Ko a m H H') (hl : m ≤ lo) : Keep lo H H' := ⟨h.next, fun i hl' hi => h.same i hi (.inr (by omega))⟩
theorem Ko.grow {a m : Nat} {B H H' : Heap} (g : Grow B H) (hb : B.next ≤ a) (h : Ko a m H H') : Grow B H' := ⟨Nat.le_trans g.next h.next, fun i hi => by rw [h.same i (by have := g.next; omega) (.inl (by omega)), g.same i hi]⟩
theorem Step.ko {H H' : Heap} {F F' : List Nat} (h : Step H H' F F') {a m : Nat} {B : Heap} (k : Ko a m B H) (hF : ∀ i ∈ F, B.next ≤ i) : Ko a m B H' :=
 ⟨Nat.le_trans k.next h.next, fun i hi ho => by rw [h.same i (by have := k.next; omega) (fun hm => by have := hF i hm; omega), k.same i hi ho]⟩
theorem Ko.set {a m : Nat} {B H : Heap} (h : Ko a m B H) {w : Nat} (hw : B.next ≤ w) (b : Option Blk) : Ko a m B (H.set w b) := ⟨by rw [zaH]; exact h.next, fun i hi ho => by rw [zaj _ _ (by omega), h.same i hi ho]⟩
theorem Ko.new {a m : Nat} {B H : Heap} (h : Ko a m B H) (b : Blk) : Ko a m B (H.new b) := h.trans ((Grow.new H b).ko a m)
inductive Af (ty e lo : Nat) (H : Heap) : V → List V → Nat → Prop
 | opn {v : V} {cells : List V} {n : Nat} (h : Opn ty e H v cells n) (ho : ∀ id, v.pid = some id → lo ≤ id ∧ id < H.next) : Af ty e lo H v cells n
 | full {id n : Nat} {cells : List V} (h : H.get id = some ⟨ty, cells, none⟩) (hl : cells.length = n * e) (h0 : lo ≤ id) (h1 : id < H.next) : Af ty e lo H (.sl id 0 n (.fix n)) cells n
section
variable {ty e lo n : Nat} {H H' : Heap} {v : V} {cells : List V}
theorem Af.lc (h : Af ty e lo H v cells n) : Lc e lo H v cells n := by
 cases h with
 | opn h ho => exact h.lc ho
 | full h hl h0 h1 =>
  refine ⟨?_, fun id hi => by simp only [V.pid, Option.some.injEq] at hi; subst hi; exact ⟨h0, h1⟩, Nat.le_refl _⟩
  simp only [rcells, h, Option.bind_some]
  rw [if_pos (by simp [hl]), List.drop_zero, ← hl, List.take_length]
theorem Af.nil : Af ty e lo H .nils [] 0 := .opn .nil fun _ h => by cases h
theorem Af.keep (h : Af ty e lo H v cells n) (k : Keep lo H H') : Af ty e lo H' v cells n := by
 cases h with
 | opn h ho => exact .opn (h.to fun i hi => k.same i (ho i hi).1 (ho i hi).2) fun i hi => ⟨(ho i hi).1, Nat.lt_of_lt_of_le (ho i hi).2 k.next⟩
 | full h hl h0 h1 => exact .full (by rw [k.same _ h0 h1, h]) hl h0 (Nat.lt_of_lt_of_le h1 k.next)
theorem Af.to (h : Af ty e lo H v cells n) (hn : H.next ≤ H'.next) (hs : ∀ i, v.pid = some i → H'.get i = H.get i) : Af ty e lo H' v cells n := by
 cases h with
 | opn h ho => exact .opn (h.to hs) fun i hi => ⟨(ho i hi).1, Nat.lt_of_lt_of_le (ho i hi).2 hn⟩
 | full h hl h0 h1 => exact .full (by rw [hs _ rfl, h]) hl h0 (Nat.lt_of_lt_of_le h1 hn)
theorem Af.own (h : Af ty e lo H v cells n) : ∀ i ∈ v.pid.toList, lo ≤ i := fun i hi => (h.lc.own i (mem_pid.1 hi)).1
theorem Af.blk (h : Af ty e lo H v cells n) (hn : 0 < n) : ∃ id cap o, v = .sl id 0 n cap ∧ H.get id = some ⟨ty, cells, o⟩ ∧ lo ≤ id ∧ id < H.next ∧ cells.length = n * e ∧ V.capOk e v := by
 cases h with
 | opn h ho =>
  rcases h with ⟨rfl, _, rfl⟩ | ⟨id, rfl, hg, hl⟩
  ·omega
  ·exact ⟨id, _, _, rfl, hg, (ho id rfl).1, (ho id rfl).2, hl, rfl⟩
 | full h hl h0 h1 => exact ⟨_, _, _, rfl, h, h0, h1, hl, Nat.le_refl _⟩
theorem zfO {β : Type} {bytes : Nat} {xs : List V} {f : V → M β} {Q : β → Heap → Prop} (hv : Af ty e lo H v cells n) (hlo : lo ≤ H.next) (hx : xs.length = e) (hb : bytes ≤ 1000) (hn : n ≤ 1048576)
  (k : ∀ v' H', Af ty e lo H' v' (cells ++ xs) (n + 1) → Step H H' v.pid.toList v'.pid.toList → Ok (f v') H' Q) : Ok ((mappend ty e bytes v (.sl H.next 0 1 (.fix 1))).bind f) (H.new ⟨ty, xs, none⟩) Q := by
 have hB : (n + 1) * bytes ≤ 140737488355328 := Nat.le_trans (Nat.mul_le_mul_left _ hb) (by omega)
 have hy : acells e (H.new ⟨ty, xs, none⟩) (.sl H.next 0 1 (.fix 1)) = some (xs, 1) := acells_fresh (by omega)
 have s0 := Step.new H ⟨ty, xs, none⟩ v.pid.toList
 cases hv with
 | opn h ho =>
  have h' : Opn ty e (H.new ⟨ty, xs, none⟩) v cells n := h.to fun i hi => zay _ _ (by have := (ho i hi).2; omega)
  refine zfs h' hy (by omega) hB (by omega) fun x' H' h1 hs _ => k x' H' (.opn h1 fun i hi => ?_) (s0.trans hs)
  rcases hs.own i (by simp [hi]) with h2 | h2
  ·obtain ⟨h3, h4⟩ := ho i (by simpa [mem_pid] using h2)
   exact ⟨h3, Nat.lt_of_lt_of_le h4 (s0.trans hs).next⟩
  ·rw [zan] at h2
   exact ⟨by omega, h2.2⟩
 | full h hl h0 h1 =>
  rename_i id
  have hml : n + 1 ≤ maxLen := Nat.le_trans (by omega : n + 1 ≤ 140737488355328) byte_bound
  have hg : (H.new ⟨ty, xs, none⟩).get id = some ⟨ty, cells, none⟩ := by rw [zay _ _ (by omega), h]
  refine zbh ⟨.sl (H.next + 1) 0 (n + 1) (.opn e), (H.new ⟨ty, xs, none⟩).new ⟨ty, cells ++ xs, some e⟩, ?_, ?_⟩
  ·simp only [mappend, hy, Option.bind_some, mappendq, hg]
   rw [if_pos ⟨by omega, trivial⟩, if_neg (by omega), if_pos ⟨hB, hml⟩]
   simp only [List.drop_zero, zan]
   rw [← hl, List.take_length]
  ·refine k _ _ (.opn (.inr ⟨H.next + 1, rfl, zak _ _, ?_⟩) fun i hi => ?_) ⟨by rw [zan, zan]; omega, fun i hi _ => ?_, fun i hi => .inr ?_⟩
   ·rw [List.length_append, hl, hx, Nat.succ_mul]
   ·simp only [V.pid, Option.some.injEq] at hi
    subst hi
    rw [zan, zan]; omega
   ·rw [zay _ _ (by rw [zan]; omega), zay _ _ (by omega)]
   ·simp only [V.pid, Option.toList_some, List.mem_singleton] at hi
    subst hi
    rw [zan, zan]; omega
end
end Go.Ax
namespace Go.Ax.D9
open Go.Ax B6
def Sg (e : Int) (l : List Nat) (at' : Nat) : St → Prop
 | .ok bs => e = 0 ∧ bs = (ub l).drop at'
 | .error c => e = c ∧ c ≠ 0 ∧ -9223372036854775808 ≤ c ∧ c ≤ 9223372036854775807
structure PR (a m rb : Nat) (σ : St) (H : Heap) : Prop where
 ex : ∃ rk e at' l, H.get rb = some ⟨zep, [.ptr rk 0, .int .i64 e], none⟩ ∧ PRd H (a, rb) rk l at' ∧ Sg e l at' σ
 low : a ≤ rb ∧ rb < m ∧ m ≤ H.next
section
variable {a m rb : Nat} {σ : St} {H H' : Heap}
theorem PR.keep (h : PR a m rb σ H) (hs : ∀ i, a ≤ i → i < m → H'.get i = H.get i) (hn : H.next ≤ H'.next) : PR a m rb σ H' := by
 obtain ⟨⟨rk, e, at', l, h1, h3, h6⟩, h7, h8, h9⟩ := h
 exact ⟨⟨rk, e, at', l, (hs rb h7 h8).trans h1, h3.frame fun i h1 h2 => hs i h1 (Nat.lt_trans h2 h8), h6⟩, h7, h8, by omega⟩
theorem PR.ko {B : Heap} (h : PR a m rb σ H) (hs : ∀ i, i < m → H'.get i = H.get i) (hn : H.next ≤ H'.next) : PR a m rb σ H' := h.keep (fun i _ hi => hs i hi) hn
theorem PR.grow (h : PR a m rb σ H) (g : Grow H H') : PR a m rb σ H' := h.keep (fun i _ hi => g.same i (by have := h.low; omega)) g.next
theorem PR.set (h : PR a m rb σ H) {w : Nat} (hw : w < a ∨ m ≤ w) (b : Option Blk) : PR a m rb σ (H.set w b) := h.keep (fun i _ hi => zaj _ _ (by omega)) (Nat.le_refl _)
theorem PR.step {F F' : List Nat} (h : PR a m rb σ H) (s : Step H H' F F') (hF : ∀ i ∈ F, m ≤ i) : PR a m rb σ H' := h.keep (fun i _ hi => s.same i (by have := h.low; omega) fun k => by have := hF i k; omega) s.next
def St.err : St → Int
 | .ok _ => 0
 | .error c => c
theorem PR.get (h : PR a m rb σ H) : ∃ rk, H.get rb = some ⟨zep, [.ptr rk 0, .int .i64 (St.err σ)], none⟩ := by
 obtain ⟨⟨rk, e, at', l, h1, h3, h6⟩, h7⟩ := h
 refine ⟨rk, ?_⟩
 cases σ with
 | ok bs => rw [h1, h6.1]; rfl
 | error c => rw [h1, h6.1]; rfl
theorem PR.rng (h : PR a m rb σ H) : -9223372036854775808 ≤ St.err σ ∧ St.err σ ≤ 9223372036854775807 ∧ (St.err σ = 0 ↔ ∃ bs, σ = .ok bs) := by
 obtain ⟨⟨rk, e, at', l, h1, h3, h6⟩, h7⟩ := h
 cases σ with
 | ok bs => exact ⟨(by decide : (-9223372036854775808 : Int) ≤ 0), (by decide : (0 : Int) ≤ 9223372036854775807), ⟨fun _ => ⟨bs, rfl⟩, fun _ => rfl⟩⟩
 | error c => exact ⟨h6.2.2.1, h6.2.2.2, ⟨fun h => absurd h h6.2.1, fun ⟨bs, h⟩ => by cases h⟩⟩
end
end Go.Ax.D9
/- Ax26 -/
namespace Go.Ax
def gv (b w : Bool) (v : V) : V := if b = w then v else .undef
section
variable {b w : Bool} {v x y : V} {α β : Type} {H : Heap} {f : V → M β} {Q : β → Heap → Prop}
theorem gv_tt : gv true true v = v := rfl
theorem gv_ff : gv false false v = v := rfl
theorem gv_tf : gv true false v = .undef := rfl
theorem gv_ft : gv false true v = .undef := rfl
theorem g_congr {x y : M V} (h : b = w → x = y) : zaa [(0, .bool b)] (some (0, w)) x = zaa [(0, .bool b)] (some (0, w)) y := by
 show (if b = w then x else M.pure .undef) = (if b = w then y else M.pure .undef)
 by_cases e : b = w
 ·rw [if_pos e, if_pos e, h e]
 ·rw [if_neg e, if_neg e]
theorem gv_on (h : b = w) : gv b w v = v := if_pos h
theorem g_pure : zaa [(0, .bool b)] (some (0, w)) (M.pure v) = M.pure (gv b w v) := by
 show (if b = w then M.pure v else M.pure .undef) = _
 unfold gv
 split <;> rfl
theorem g_lift : zaa [(0, .bool b)] (some (0, w)) (M.lift (some v)) = M.pure (gv b w v) := g_pure
theorem g_pgv : zaa [(0, .bool b)] (some (0, w)) (M.pure (gv b w v)) = M.pure (gv b w v) := by
 rw [g_pure]; unfold gv; split <;> rfl
theorem g_load {n : Option Nat} : zaa [(0, .bool b)] (some (0, w)) (zab n (gv b w x)) = zaa [(0, .bool b)] (some (0, w)) (zab n x) := g_congr fun h => by rw [gv_on h]
theorem g_nilck : zaa [(0, .bool b)] (some (0, w)) (M.lift (Ax.nilck (gv b w x))) = zaa [(0, .bool b)] (some (0, w)) (M.lift (Ax.nilck x)) := g_congr fun h => by rw [gv_on h]
theorem g_faddr {o : Nat} : zaa [(0, .bool b)] (some (0, w)) (M.lift (Ax.faddr o (gv b w x))) = zaa [(0, .bool b)] (some (0, w)) (M.lift (Ax.faddr o x)) := g_congr fun h => by rw [gv_on h]
theorem g_un {op : UnOp} : zaa [(0, .bool b)] (some (0, w)) (M.lift (Ax.un op (gv b w x))) = zaa [(0, .bool b)] (some (0, w)) (M.lift (Ax.un op x)) := g_congr fun h => by rw [gv_on h]
theorem g_cint {k : IntKind} : zaa [(0, .bool b)] (some (0, w)) (M.lift (Ax.cint k (gv b w x))) = zaa [(0, .bool b)] (some (0, w)) (M.lift (Ax.cint k x)) := g_congr fun h => by rw [gv_on h]
theorem g_vlen : zaa [(0, .bool b)] (some (0, w)) (M.lift (Ax.vlen (gv b w x))) = zaa [(0, .bool b)] (some (0, w)) (M.lift (Ax.vlen x)) := g_congr fun h => by rw [gv_on h]
theorem g_slen : zaa [(0, .bool b)] (some (0, w)) (M.lift (Ax.slen (gv b w x))) = zaa [(0, .bool b)] (some (0, w)) (M.lift (Ax.slen x)) := g_congr fun h => by rw [gv_on h]
theorem g_ext {i : Nat} : zaa [(0, .bool b)] (some (0, w)) (M.lift (Ax.ext i (gv b w x))) = zaa [(0, .bool b)] (some (0, w)) (M.lift (Ax.ext i x)) := g_congr fun h => by rw [gv_on h]
theorem g_field {o : Nat} {n : Option Nat} : zaa [(0, .bool b)] (some (0, w)) (M.lift (Ax.field o n (gv b w x))) = zaa [(0, .bool b)] (some (0, w)) (M.lift (Ax.field o n x)) := g_congr fun h => by rw [gv_on h]
theorem g_bin1 {op : BinOp} : zaa [(0, .bool b)] (some (0, w)) (M.lift (Ax.bin op (gv b w x) y)) = zaa [(0, .bool b)] (some (0, w)) (M.lift (Ax.bin op x y)) := g_congr fun h => by rw [gv_on h]
theorem g_bin2 {op : BinOp} : zaa [(0, .bool b)] (some (0, w)) (M.lift (Ax.bin op x (gv b w y))) = zaa [(0, .bool b)] (some (0, w)) (M.lift (Ax.bin op x y)) := g_congr fun h => by rw [gv_on h]
theorem g_eqr1 {k : EK} {n : Bool} : zaa [(0, .bool b)] (some (0, w)) (M.lift (eqr k n (gv b w x) y)) = zaa [(0, .bool b)] (some (0, w)) (M.lift (eqr k n x y)) := g_congr fun h => by rw [gv_on h]
theorem g_eqr2 {k : EK} {n : Bool} : zaa [(0, .bool b)] (some (0, w)) (M.lift (eqr k n x (gv b w y))) = zaa [(0, .bool b)] (some (0, w)) (M.lift (eqr k n x y)) := g_congr fun h => by rw [gv_on h]
theorem g_iaddr1 {a : Option Nat} {e : Nat} : zaa [(0, .bool b)] (some (0, w)) (M.lift (Ax.iaddr a e (gv b w x) y)) = zaa [(0, .bool b)] (some (0, w)) (M.lift (Ax.iaddr a e x y)) := g_congr fun h => by rw [gv_on h]
theorem g_iaddr2 {a : Option Nat} {e : Nat} : zaa [(0, .bool b)] (some (0, w)) (M.lift (Ax.iaddr a e x (gv b w y))) = zaa [(0, .bool b)] (some (0, w)) (M.lift (Ax.iaddr a e x y)) := g_congr fun h => by rw [gv_on h]
theorem g_heap {x y : M V} (h : x H = y H) : @OkB V β (zaa [(0, .bool b)] (some (0, w)) x) H ⟨f⟩ ⟨Q⟩ ↔ @OkB V β (zaa [(0, .bool b)] (some (0, w)) y) H ⟨f⟩ ⟨Q⟩ := by
 have e : (zaa [(0, .bool b)] (some (0, w)) x) H = (zaa [(0, .bool b)] (some (0, w)) y) H := by
  show (if b = w then x else M.pure .undef) H = (if b = w then y else M.pure .undef) H
  by_cases e : b = w
  ·rw [if_pos e, if_pos e, h]
  ·rw [if_neg e, if_neg e]
 show Ok (M.bind _ _) _ _ ↔ Ok (M.bind _ _) _ _
 unfold Ok
 simp only [M.bind, e]
theorem g_loadp {n : Option Nat} {id off : Nat} : @OkB V β (zaa [(0, .bool b)] (some (0, w)) (zab n (.ptr id off))) H ⟨f⟩ ⟨Q⟩ ↔ @OkB V β (zaa [(0, .bool b)] (some (0, w)) (M.lift ((H.get id).bind fun b => ldc n b.cells off))) H ⟨f⟩ ⟨Q⟩ :=
 g_heap (by
  simp only [zab, M.lift]
  cases H.get id with
  | none => rfl
  | some b => rfl)
theorem g_loadr {n : Option Nat} {cells : List V} {off : Nat} : zaa [(0, .bool b)] (some (0, w)) (zab n (.rp cells off)) = zaa [(0, .bool b)] (some (0, w)) (M.lift (ldc n cells off)) := g_congr fun _ => rfl
theorem pick_gt {c : Bool} : Ax.pick (.bool b) (gv b true (.bool c)) (.bool false) = some (.bool (b && c)) := by cases b <;> rfl
theorem pick_gf {c : Bool} : Ax.pick (.bool b) (.bool true) (gv b false (.bool c)) = some (.bool (b || c)) := by cases b <;> rfl
end
def RG := And.intro @gv_tt <| And.intro @gv_ff <| And.intro @gv_tf <| And.intro @gv_ft <| And.intro @g_pgv <| And.intro @g_pure <| And.intro @g_lift <| And.intro @g_load <| And.intro @g_nilck <| And.intro @g_faddr <| And.intro @g_un <| And.intro @g_cint <| And.intro @g_vlen <| And.intro @g_slen <| And.intro @g_ext <| And.intro @g_field <| And.intro @g_bin1 <| And.intro @g_bin2 <| And.intro @g_eqr1 <| And.intro @g_eqr2 <| And.intro @g_iaddr1 <| And.intro @g_iaddr2 <| And.intro @g_loadp <| And.intro @g_loadr <| And.intro @pick_gt @pick_gf
end Go.Ax
/- Lan1 -/
namespace Go.Ax.LN
open Go.Ax D9
def byw (n : Nat) : V := .int .u16 (n : Nat)
abbrev Wl (lo : Nat) (H : Heap) (v : V) (l : List Nat) : Prop := Lc 1 lo H v (l.map byw) l.length
theorem wl_at {lo : Nat} {H : Heap} {v : V} {l : List Nat} (h : Wl lo H v l) {i : Nat} (hi : i < l.length) : ∃ p, (∀ {k : IntKind}, Ax.iaddr none 1 v (.int k (i : Nat)) = some p) ∧ LdR none H p (.int .u16 (l[i] : Nat)) ∧ p.pid = v.pid := by
 obtain ⟨p, hp, hpl⟩ := h.at (i := (i : Nat)) (by omega) (by omega)
 have e : ((l.map byw).drop ((i : Int).toNat * 1)).take 1 = [byw l[i]] := by
  rw [Int.toNat_natCast, Nat.mul_one, ← List.map_drop, List.drop_eq_getElem_cons hi]; rfl
 rw [e] at hpl
 refine ⟨p, hp, fun f Q => ?_, hpl.pid.1⟩
 rw [hpl.ld0 (by simp)]; exact b_lift
theorem Contains_ok {lo : Nat} {H : Heap} {v : V} {l : List Nat} (h : Wl lo H v l) (n : Nat) (hl : l.length ≤ 1048576) : Ok (sem T zaL [v, .int .u16 (n : Nat)]) H fun r H' => r = .bool (decide (n ∈ l)) ∧ H' = H := by
 refine zcV ?_
 unfold zbU
 have hix : Ok (sem T za7 [v, .int .u16 (n : Nat)]) H fun r H' => ∃ i : Int, r = .int .i64 i ∧ (0 ≤ i ↔ n ∈ l) ∧ H' = H := by
  refine zdj ?_
  unfold zcb
  simp (disch := omega) only [↓RD, RZ, h.vlen]
  refine zaM (Q := fun r H' => H' = H ∧ ((r = Res.ex 0 [] ∧ n ∉ l) ∨ (∃ k : Nat, r = .ret [.int .i64 (k : Nat)] ∧ n ∈ l))) ?_ ?_
  ·refine zaK (fun k L H' => L = [.int .i64 (k : Nat)] ∧ H' = H ∧ n ∉ l.take k) l.length ?_ ?_ ?_
   ·exact ⟨rfl, rfl, by simp⟩
   ·rintro k L H1 hk ⟨rfl, rfl, hP⟩
    obtain ⟨p, hp, lp, -⟩ := wl_at h hk
    unfold zbl
    by_cases e1 : n = l[k]
    ·simp (disch := omega) only [↓RD, RZ, hp, lp, ← e1]
     exact .inr ⟨k, by rfl, by rw [e1]; exact List.getElem_mem hk⟩
    ·have e2 : ¬ ((n : Nat) : Int) = ((l[k] : Nat) : Int) := by omega
     simp (disch := omega) only [↓RD, RZ, hp, lp, e2]
     refine ⟨by rfl, ?_⟩
     rw [List.take_succ_eq_append_getElem hk, List.mem_append, List.mem_singleton]
     exact fun h => h.elim hP e1
   ·rintro L H1 ⟨rfl, rfl, hP⟩
    unfold zbl
    simp (disch := omega) only [↓RD, RZ]
    rw [List.take_length] at hP
    exact .inl hP
  ·rintro r H' ⟨rfl, ⟨rfl, h⟩ | ⟨k, rfl, h⟩⟩
   ·simp (disch := omega) only [↓RD, RZ]
    exact ⟨-1, rfl, ⟨fun h1 => by omega, fun h1 => absurd h1 h⟩⟩
   ·simp (disch := omega) only [↓RD, RZ]
    exact ⟨k, rfl, ⟨fun _ => h, fun _ => by omega⟩⟩
 refine zac hix ?_
 rintro _ H1 ⟨i, rfl, hi, rfl⟩
 simp (disch := omega) only [↓RD, RZ]
 rw [decide_eq_decide.2 hi]
theorem Has_ok {lo : Nat} {H : Heap} {v : V} {l : List Nat} (h : Wl lo H v l) (n : Nat) (hl : l.length ≤ 1048576) : Ok (sem T zdE [v, .int .u16 (n : Nat)]) H fun r H' => r = .bool (decide (n ∈ l)) ∧ H' = H := by
 refine zgT ?_
 unfold zgi
 refine zac (Contains_ok h n hl) ?_
 rintro _ H1 ⟨rfl, rfl⟩
 simp (disch := omega) only [↓RD, RZ]
def sub16 (n : Nat) (d : Int) : Nat := (n + 65536 - d.toNat) % 65536
def fit (l : List Nat) (n : Nat) (ds : List Int) : Bool := ds.all fun d => decide (1 ≤ d ∧ d ≤ 4096 ∧ sub16 n d ∈ l)
theorem Fit_ok {lo lo' : Nat} {H : Heap} {v w : V} {l : List Nat} {ds : List Int} (h : Wl lo H v l) (hd : Il lo' H w ds) (n : Nat) (hn : n < 65536) (hl : l.length ≤ 1048576) (hdl : ds.length ≤ 1048576) :
  Ok (sem T zej [v, .int .u16 (n : Nat), w]) H fun r H' => r = .bool (fit l n ds) ∧ H' = H := by
 refine zgU ?_
 unfold zgj
 simp (disch := omega) only [↓RD, RZ, hd.vlen]
 refine zaM (Q := fun r H' => H' = H ∧ ((r = Res.ex 0 [] ∧ fit l n ds = true) ∨ (r = .ret [.bool false] ∧ fit l n ds = false))) ?_ ?_
 ·refine zaK (fun k L H' => L = [.int .i64 (k : Nat)] ∧ H' = H ∧ fit l n (ds.take k) = true) ds.length ?_ ?_ ?_
  ·exact ⟨rfl, rfl, rfl⟩
  ·rintro k L H1 hk ⟨rfl, rfl, hP⟩
   obtain ⟨p, hp, lp, -⟩ := il_at hd (i := (k : Nat)) (by omega) (by omega)
   rw [Int.toNat_natCast, getD_get hk] at lp
   have hno : ¬ (1 ≤ ds[k] ∧ ds[k] ≤ 4096 ∧ sub16 n ds[k] ∈ l) → fit l n ds = false := fun hc => by
    unfold fit
    rw [List.all_eq_false]
    exact ⟨ds[k], List.getElem_mem hk, by rw [decide_eq_false hc]; decide⟩
   unfold zeO
   by_cases c1 : ds[k] < 1
   ·simp (disch := omega) only [↓RD, RZ, hp, lp]
    exact .inr (hno (by omega))
   ·by_cases c2 : 4096 < ds[k]
    ·simp (disch := omega) only [↓RD, RZ, hp, lp]
     exact .inr (hno (by omega))
    ·have w1 : IntKind.u16.wrap ds[k] = ds[k] := wrapin_u16 (by omega) (by omega)
     have w2 : IntKind.u16.wrap ((n : Nat) - ds[k]) = ((sub16 n ds[k] : Nat) : Int) := by rw [wrap_u16]; unfold sub16; omega
     have hh := @zcM _ _ _ _ (Has_ok h (sub16 n ds[k]) hl)
     simp (disch := omega) only [↓RD, RZ, hp, lp, w1, bin_sub, w2, hh]
     by_cases c3 : sub16 n ds[k] ∈ l
     ·simp (disch := omega) only [↓RD, RZ, decide_eq_true c3]
      refine ⟨by rfl, ?_⟩
      unfold fit at hP ⊢
      rw [List.take_succ_eq_append_getElem hk, List.all_append, hP, List.all_cons, List.all_nil, decide_eq_true ⟨by omega, by omega, c3⟩]; rfl
     ·simp (disch := omega) only [↓RD, RZ, decide_eq_false c3]
      exact .inr (hno (fun h => c3 h.2.2))
  ·rintro L H1 ⟨rfl, rfl, hP⟩
   rw [List.take_length] at hP
   unfold zeO
   simp (disch := omega) only [↓RD, RZ]
   exact .inl hP
 ·rintro r H' ⟨rfl, ⟨rfl, h⟩ | ⟨rfl, h⟩⟩
  ·simp (disch := omega) only [↓RD, RZ]
   rw [h]
  ·simp (disch := omega) only [↓RD, RZ]
   rw [h]
theorem CloneW_ok {lo : Nat} {H : Heap} {v : V} {l : List Nat} (h : Wl lo H v l) (hl : l.length ≤ 1099511627776) : Ok (sem T za9 [v]) H fun r H' => App zaR 1 H.next H' r (l.map byw) l.length ∧ Grow H H' := by
 refine zdl ?_
 unfold zcd
 rcases h.cases with ⟨rfl, hc, hn⟩ | ⟨id, off, cap, b, rfl, _⟩ | ⟨cs, rfl, _⟩
 ·simp (disch := omega) only [↓RD, RZ]
  have : l = [] := List.eq_nil_of_length_eq_zero hn
  subst this
  exact ⟨App.nil, Grow.refl _⟩
 ·simp (disch := omega) only [↓RD, RZ]
  refine okb_copy h.ac (fun i hi => (h.own i hi).2) (by simp) (by omega) (by omega) fun x' H' ha hg => ?_
  simp (disch := omega) only [↓RD, RZ]
  exact ⟨ha, hg⟩
 ·simp (disch := omega) only [↓RD, RZ]
  refine okb_copy h.ac (fun i hi => (h.own i hi).2) (by simp) (by omega) (by omega) fun x' H' ha hg => ?_
  simp (disch := omega) only [↓RD, RZ]
  exact ⟨ha, hg⟩
theorem Grow.own {B H H' : Heap} {F F' : List Nat} (g : Grow B H) (s : Step H H' F F') (hF : ∀ i ∈ F, B.next ≤ i) : Grow B H' :=
 ⟨Nat.le_trans g.next s.next, fun i hi => by rw [s.same i (by have := g.next; omega) (fun hm => by have := hF i hm; omega), g.same i hi]⟩
theorem mem_swap {l : List Nat} {i j : Nat} (hi : i < l.length) (hj : j < l.length) (x : Nat) : x ∈ (l.set i l[j]).set j l[i] ↔ x ∈ l := by
 constructor
 ·intro h
  rcases List.mem_or_eq_of_mem_set h with h | rfl
  ·rcases List.mem_or_eq_of_mem_set h with h | rfl
   ·exact h
   ·exact List.getElem_mem hj
  ·exact List.getElem_mem hi
 ·intro h
  obtain ⟨k, hk, rfl⟩ := List.getElem_of_mem h
  by_cases e1 : k = j
  ·subst e1
   by_cases e2 : i = k
   ·subst e2
    exact List.mem_iff_getElem.2 ⟨i, by simp [hi], by simp⟩
   ·exact List.mem_iff_getElem.2 ⟨i, by simp [hi], by rw [List.getElem_set_ne (by omega), List.getElem_set_self]⟩
  ·by_cases e2 : k = i
   ·subst e2
    exact List.mem_iff_getElem.2 ⟨j, by simp [hj], by rw [List.getElem_set_self]⟩
   ·exact List.mem_iff_getElem.2 ⟨k, by simp [hk], by rw [List.getElem_set_ne (by omega), List.getElem_set_ne (by omega)]⟩
def Rv (id : Nat) (cap : Cap) (o : Option Nat) (l : List Nat) (H H' : Heap) : Prop :=
 H'.next = H.next ∧ (∀ i, i ≠ id → H'.get i = H.get i) ∧ ∃ l' : List Nat, H'.get id = some ⟨zaR, l'.map byw, o⟩ ∧ l'.length = l.length ∧ ∀ x, x ∈ l' ↔ x ∈ l
theorem map_at {l : List Nat} {i : Nat} (hi : i < l.length) : (l.map byw)[i]? = some (.int .u16 (l[i] : Nat)) := by
 rw [List.getElem?_map, List.getElem?_eq_getElem hi]; rfl
theorem Reverse_ok {H : Heap} {id n : Nat} {cap : Cap} {o : Option Nat} {l : List Nat} (hn : n = l.length) (hg : H.get id = some ⟨zaR, l.map byw, o⟩) (hl : l.length ≤ 1048576) :
  Ok (sem T zaZ [.sl id 0 n cap]) H fun r H' => Rv id cap o l H H' := by
 subst hn
 refine zc3 ?_
 unfold zbY
 have hvl : Ax.vlen (.sl id 0 l.length cap) = some (.int .i64 (l.length : Nat)) := rfl
 simp (disch := omega) only [↓RD, RZ, hvl]
 refine zfP (fun L H' m => ∃ i j : Int, L = [.int .i64 i, .int .i64 j] ∧ 0 ≤ i ∧ j < l.length ∧ -1 ≤ j ∧ i ≤ l.length ∧ (m : Int) = l.length + j - i + 1 ∧ Rv id cap o l H H') (2 * l.length) ?_ ?_
 ·exact ⟨0, (l.length : Nat) - 1, rfl, by omega, by omega, by omega, by omega, by omega, rfl, fun i _ => rfl, l, hg, rfl, fun x => Iff.rfl⟩
 ·rintro L H1 m ⟨i, j, rfl, i0, j1, j0, i1, hm, hn1, hs, l', hg', hl', hmem⟩
  unfold zbQ
  by_cases hij : i < j
  ·obtain ⟨a, rfl⟩ := Int.eq_ofNat_of_zero_le i0
   obtain ⟨b, rfl⟩ := Int.eq_ofNat_of_zero_le (show 0 ≤ j by omega)
   have ia : ∀ {k : IntKind}, Ax.iaddr none 1 (.sl id 0 l.length cap) (.int k ((a : Nat) : Int)) = some (.ptr id a) := fun {k} => by
    simp only [Ax.iaddr]; rw [if_pos (by omega)]; simp
   have ib : ∀ {k : IntKind}, Ax.iaddr none 1 (.sl id 0 l.length cap) (.int k ((b : Nat) : Int)) = some (.ptr id b) := fun {k} => by
    simp only [Ax.iaddr]; rw [if_pos (by omega)]; simp
   have ha : a < l'.length := by omega
   have hb : b < l'.length := by omega
   have sp1 : splice (l'.map byw) a [.int .u16 (l'[b] : Nat)] = (l'.set a l'[b]).map byw := by
    rw [sp_set _ _ _ (by rw [List.length_map]; exact ha), List.map_set]; rfl
   have sp2 : splice ((l'.set a l'[b]).map byw) b [.int .u16 (l'[a] : Nat)] = ((l'.set a l'[b]).set b l'[a]).map byw := by
    rw [sp_set _ _ _ (by rw [List.length_map, List.length_set]; exact hb)]; exact List.map_set.symm
   simp (disch := omega) only [↓RD, RZ, ia, ib, hg', map_at ha, map_at hb, sp1, sp2, List.length_map, List.length_set]
   refine ⟨by omega, by omega, (l.length + ((b : Nat) - 1) - ((a : Nat) + 1) + 1 : Int).toNat, by omega, ((a : Nat) : Int) + 1, ((b : Nat) : Int) - 1, by rfl, by omega, by omega, by omega, by omega, by omega, ?_, fun i hi => ?_, (l'.set a l'[b]).set b l'[a], ?_, by simp [hl'], fun x => (mem_swap ha hb x).trans (hmem x)⟩
   ·rw [zaH, zaH]; exact hn1
   ·rw [zaj _ _ hi, zaj _ _ hi]; exact hs i hi
   ·rw [zaq]
  ·simp (disch := omega) only [↓RD, RZ]
   exact ⟨hn1, hs, l', hg', hl', hmem⟩
theorem App.blk' {ty e lo n : Nat} {H : Heap} {v : V} {cells : List V} (h : App ty e lo H v cells n) : (v = .nils ∧ cells = [] ∧ n = 0) ∨ ∃ id cap o, v = .sl id 0 n cap ∧ H.get id = some ⟨ty, cells, o⟩ ∧ lo ≤ id ∧ id < H.next ∧ V.capOk e v := by
 cases h with
 | opn h ho =>
  rcases h with ⟨rfl, h1, h2⟩ | ⟨id, rfl, hg, hl⟩
  ·exact .inl ⟨rfl, h1, h2⟩
  ·exact .inr ⟨id, _, _, rfl, hg, (ho id rfl).1, (ho id rfl).2, rfl⟩
 | lit h h0 h1 => exact .inr ⟨_, _, _, rfl, h, h0, h1, Nat.le_refl _⟩
theorem Af.blk' {ty e lo n : Nat} {H : Heap} {v : V} {cells : List V} (h : Af ty e lo H v cells n) : (v = .nils ∧ cells = [] ∧ n = 0) ∨ ∃ id cap o, v = .sl id 0 n cap ∧ H.get id = some ⟨ty, cells, o⟩ ∧ lo ≤ id ∧ id < H.next ∧ V.capOk e v := by
 cases h with
 | opn h ho =>
  rcases h with ⟨rfl, h1, h2⟩ | ⟨id, rfl, hg, hl⟩
  ·exact .inl ⟨rfl, h1, h2⟩
  ·exact .inr ⟨id, _, _, rfl, hg, (ho id rfl).1, (ho id rfl).2, rfl⟩
 | full h hl h0 h1 => exact .inr ⟨_, _, _, rfl, h, h0, h1, Nat.le_refl _⟩
set_option maxHeartbeats 1600000 in
theorem Add_ok {lo : Nat} {H : Heap} {v : V} {l : List Nat} (h : Wl lo H v l) (n : Nat) (hl : l.length ≤ 255) :
  Ok (sem T zek [v, .int .u16 (n : Nat)]) H fun r H' => (∃ l' : List Nat, Wl H.next H' r l' ∧ l'.length ≤ l.length + 1 ∧ ∀ x, x ∈ l' ↔ x ∈ l ∨ x = n) ∧ Grow H H' := by
 refine zgV ?_
 unfold zgk
 refine zac (CloneW_ok h (by omega)) ?_
 rintro t9 H1 ⟨h1, s1⟩
 simp (disch := omega) only [↓RD, RZ]
 have n1 := s1.next
 have s01 := Grow.new H1 ⟨zaR, [.int .u16 (n : Nat)], none⟩
 have h1' : App zaR 1 H.next (H1.new ⟨zaR, [.int .u16 (n : Nat)], none⟩) t9 (l.map byw) l.length := h1.keep (s01.keep _)
 refine zfS h1' (by rw [zan]; omega) (acells_fresh (by rfl)) (by rfl) (by omega) (by omega) fun all H2 h2 st2 => ?_
 have e1 : l.map byw ++ [.int .u16 (n : Nat)] = (l ++ [n]).map byw := by rw [List.map_append]; rfl
 rw [e1] at h2
 have hm : (l ++ [n]).length = l.length + 1 := by rw [List.length_append]; rfl
 rw [← hm] at h2
 have g2 : Grow H H2 := Grow.own (s1.trans s01) st2 fun i hi => (h1'.lc.own i (mem_pid.1 hi)).1
 have hal : Wl H.next H2 all (l ++ [n]) := h2.lc
 have n2 := g2.next
 simp (disch := omega) only [↓RD, RZ, hal.vlen]
 have has : ∀ x, x ∈ l ++ [n] ↔ x ∈ l ∨ x = n := fun x => by rw [List.mem_append, List.mem_singleton]
 clear h2 st2 h1 h1' s01 e1
 generalize l ++ [n] = al at *
 refine zaM (Q := fun r H' => ∃ (w : V) (out : List Nat), r = .ex 0 [w] ∧ Af zaR 1 H2.next H' w (out.map byw) out.length ∧ out.length ≤ al.length ∧ (∀ x, x ∈ out ↔ x ∈ al) ∧ Grow H2 H') ?_ ?_
 ·refine zaK (fun k L H' => ∃ (w : V) (out : List Nat), L = [w, .int .i64 ((al.length : Nat) - 1 - (k : Nat))] ∧ Af zaR 1 H2.next H' w (out.map byw) out.length ∧ out.length ≤ k ∧ (∀ x, x ∈ out ↔ x ∈ al.drop (al.length - k)) ∧ Grow H2 H') al.length ?_ ?_ ?_
  ·exact ⟨.nils, [], by simp, Af.nil, by simp, fun x => by simp, Grow.refl _⟩
  ·rintro k L H3 hk ⟨w, out, rfl, hw, hol, hmem, g3⟩
   obtain ⟨j, hj⟩ : ∃ j : Nat, al.length - 1 - k = j := ⟨_, rfl⟩
   have ej : ((al.length : Nat) : Int) - 1 - (k : Nat) = (j : Nat) := by omega
   have hjl : j < al.length := by omega
   have ek : ((al.length : Nat) : Int) - 1 - (k : Nat) - 1 = ((al.length : Nat) : Int) - 1 - ((k + 1 : Nat) : Int) := by omega
   obtain ⟨p, hp, lp, -⟩ := wl_at (hal.ext g3) hjl
   have hcb := @zcM _ _ _ _ (Contains_ok hw.lc al[j] (by omega))
   have hd : al.drop (al.length - (k + 1)) = al[j] :: al.drop (al.length - k) := by
    rw [show al.length - (k + 1) = j by omega, List.drop_eq_getElem_cons hjl, show j + 1 = al.length - k by omega]
   unfold zeP
   simp (disch := omega) only [↓RD, RZ, ej, hw.lc.vlen, hp, lp, hcb]
   by_cases hin : al[j] ∈ out
   ·simp (disch := omega) only [↓RD, RZ, decide_eq_true hin]
    refine ⟨w, out, by rw [ek], hw, by omega, fun x => ?_, g3⟩
    rw [hd, List.mem_cons, ← hmem]
    exact ⟨fun h => .inr h, fun h => h.elim (fun e => by rw [e]; exact hin) id⟩
   ·simp (disch := omega) only [↓RD, RZ, decide_eq_false hin, ej, hp, lp]
    refine zfO hw g3.next (by rfl) (by decide) (by omega) fun w' H4 hw' s4 => ?_
    simp (disch := omega) only [↓RD, RZ]
    have e2 : out.map byw ++ [.int .u16 (al[j] : Nat)] = (out ++ [al[j]]).map byw := by rw [List.map_append]; rfl
    rw [e2] at hw'
    refine ⟨w', out ++ [al[j]], by rw [ek], by simpa using hw', by simp; omega, fun x => ?_, Grow.own g3 s4 fun i hi => (hw.lc.own i (mem_pid.1 hi)).1⟩
    rw [hd, List.mem_cons, List.mem_append, List.mem_singleton, hmem]
    exact ⟨fun h => h.elim .inr .inl, fun h => h.elim .inr .inl⟩
  ·rintro L H3 ⟨w, out, rfl, hw, hol, hmem, g3⟩
   have ej : ((al.length : Nat) : Int) - 1 - ((al.length : Nat) : Int) = -1 := by omega
   unfold zeP
   simp (disch := omega) only [↓RD, RZ, ej, hw.lc.vlen]
   refine ⟨w, out, by rfl, hw, hol, fun x => ?_, g3⟩
   rw [hmem, Nat.sub_self, List.drop_zero]
 ·rintro _ H3 ⟨w, out, rfl, hw, hol, hmem, g3⟩
  simp (disch := omega) only [↓RD, RZ]
  rcases Af.blk' hw with ⟨rfl, ho, hn0⟩ | ⟨id, cap, o, rfl, hg, i0, i1, hcap⟩
  ·exfalso
   have : out = [] := List.eq_nil_of_length_eq_zero hn0
   subst this
   have := (hmem n).2 ((has n).2 (.inr rfl))
   cases this
  ·have n3 := g3.next
   refine zac (Reverse_ok (cap := cap) rfl hg (by omega)) ?_
   rintro _ H4 ⟨hn4, hs4, l', hg', hl', hm'⟩
   simp (disch := omega) only [↓RD, RZ]
   refine ⟨⟨l', ⟨?_, fun i hi => ?_, hcap⟩, by omega, fun x => by rw [hm', hmem, has]⟩, ?_⟩
   ·simp only [rcells, hg', Option.bind_some]
    rw [if_pos (by rw [List.length_map]; omega), List.drop_zero, hl', List.take_of_length_le (by rw [List.length_map]; omega)]
   ·simp only [V.pid, Option.some.injEq] at hi
    subst hi
    omega
   ·exact ⟨by omega, fun i hi => by rw [hs4 i (by omega), g3.same i (by omega), g2.same i hi]⟩
end Go.Ax.LN
/- Lan2 -/
namespace Go.Ax.LN
open Go.Ax D9
structure Ca where
 any : Bool
 now : Int
 want : Int
def caC (c : Ca) : List V := [.bool c.any, .int .i64 c.now, .int .i64 c.want]
def srcB (i : Int) : Bool := decide (0 ≤ i) && decide (i < 3)
def goodC (c : Ca) : Bool := srcB c.now && srcB c.want && (c.any || decide (c.now = 0))
def runs (c : Ca) (i : Int) : Bool := c.any && decide (c.now = i)
def castOn (c : Ca) (i : Int) (key : Bool) : Ca × Bool × Bool :=
 if goodC c = false then (c, false, false) else if (decide (i = c.want) && key && !runs c i) = true then ({ c with any := true, now := i }, true, true) else (c, runs c i, false)
theorem source_ok {H : Heap} (i : Int) : Ok (sem T zcz [.int .i64 i]) H fun r H' => r = .bool (srcB i) ∧ H' = H := by
 refine zgc ?_
 unfold zfo srcB
 by_cases h0 : 0 ≤ i
 ·simp (disch := omega) only [↓RD, RZ, decide_eq_true h0, Bool.true_and]
 ·simp (disch := omega) only [↓RD, RZ, decide_eq_false h0, Bool.false_and]
theorem goodC_ok {H : Heap} (c : Ca) : Ok (sem T zdQ [.agg (caC c)]) H fun r H' => r = .bool (goodC c) ∧ Grow H H' := by
 refine zgD ?_
 unfold zf3 caC goodC
 have g1 := fun (b : Blk) => Grow.new H b
 have e1 := @zcM _ _ _ _ (source_ok (H := H.new ⟨zbD, [.bool c.any, .int .i64 c.now, .int .i64 c.want], none⟩) c.now)
 have e2 := @zcM _ _ _ _ (source_ok (H := H.new ⟨zbD, [.bool c.any, .int .i64 c.now, .int .i64 c.want], none⟩) c.want)
 cases h1 : srcB c.now with
 | false => simp (disch := omega) only [↓RD, RZ, e1, e2, h1, g1, Bool.false_and]
 | true =>
  cases h2 : srcB c.want with
  | false => simp (disch := omega) only [↓RD, RZ, e1, e2, h1, h2, g1, Bool.false_and, Bool.true_and]
  | true =>
   cases h3 : c.any with
   | true => rw [h3] at e1 e2; simp (disch := omega) only [↓RD, RZ, e1, e2, h1, h2, g1, Bool.true_and, Bool.true_or]
   | false => rw [h3] at e1 e2; simp (disch := omega) only [↓RD, RZ, e1, e2, h1, h2, g1, Bool.true_and, Bool.false_or]; rfl
theorem runs_ok {H : Heap} (c : Ca) (i : Int) : Ok (sem T zbS [.agg (caC c), .int .i64 i]) H fun r H' => r = .bool (runs c i) ∧ Grow H H' := by
 refine zfx ?_
 unfold zev caC runs
 have g1 := fun (b : Blk) => Grow.new H b
 cases h3 : c.any with
 | true => simp (disch := omega) only [↓RD, RZ, g1, Bool.true_and]; rfl
 | false => simp (disch := omega) only [↓RD, RZ, g1, Bool.false_and]
theorem On_ok {H : Heap} (c : Ca) (i : Int) (key : Bool) : Ok (sem T ze0 [.agg (caC c), .int .i64 i, .bool key]) H fun r H' => r = .tup [.agg (caC (castOn c i key).1), .bool (castOn c i key).2.1, .bool (castOn c i key).2.2] ∧ Grow H H' := by
 refine zhg ?_
 unfold zgL
 unfold caC
 simp (disch := first | omega | (simp only [RY] <;> omega) | decide) only [↓RD, RZ, eq_self, Int.reduceToNat, Int.reduceAdd, Nat.reduceAdd, Nat.reduceSub, Nat.reduceMul, Nat.reduceLeDiff]
 generalize hH1 : Heap.new (Heap.new H _) _ = H1
 have s1 : Grow H H1 := by rw [← hH1]; exact (Grow.new _ _).trans (Grow.new _ _)
 have n1 : H1.next = H.next + 2 := by rw [← hH1]; rfl
 have g1 : H1.get H.next = some ⟨zbD, [.bool c.any, .int .i64 c.now, .int .i64 c.want], none⟩ := by rw [← hH1]; simp (disch := first | omega | (simp only [RY] <;> omega) | decide) only [↓RD, RZ, eq_self, Int.reduceToNat, Int.reduceAdd, Nat.reduceAdd, Nat.reduceSub, Nat.reduceMul, Nat.reduceLeDiff]
 have g1' : H1.get (H.next + 1) = some ⟨zbD, [.bool false, .int .i64 0, .int .i64 0], none⟩ := by rw [← hH1]; simp (disch := first | omega | (simp only [RY] <;> omega) | decide) only [↓RD, RZ, eq_self, Int.reduceToNat, Int.reduceAdd, Nat.reduceAdd, Nat.reduceSub, Nat.reduceMul, Nat.reduceLeDiff]
 clear hH1
 refine zac (goodC_ok c) ?_
 rintro _ H2 ⟨rfl, s2⟩
 have n2 := s2.next
 have g2 : H2.get H.next = _ := (s2.same _ (by omega)).trans g1
 have g2' : H2.get (H.next + 1) = _ := (s2.same _ (by omega)).trans g1'
 have s12 := s1.trans s2
 have fin : ∀ {H3 : Heap} (x : Ca), Grow H H3 → H3.next = H2.next → Grow H (H3.set (H.next + 1) (some ⟨zbD, caC x, none⟩)) := fun x h hn => h.set (by omega) _
 cases hg : goodC c with
 | false =>
  have e : castOn c i key = (c, false, false) := by unfold castOn; rw [if_pos hg]
  simp (disch := first | omega | (simp only [RY] <;> omega) | decide) only [↓RD, RZ, eq_self, Int.reduceToNat, Int.reduceAdd, Nat.reduceAdd, Nat.reduceSub, Nat.reduceMul, Nat.reduceLeDiff, g2, g2', e]
  exact fin c s12 rfl
 | true =>
  simp (disch := first | omega | (simp only [RY] <;> omega) | decide) only [↓RD, RZ, eq_self, Int.reduceToNat, Int.reduceAdd, Nat.reduceAdd, Nat.reduceSub, Nat.reduceMul, Nat.reduceLeDiff, g2]
  refine zaM (Q := fun r H' => (r = Res.nrm [] ∧ Grow H2 H' ∧ (decide (i = c.want) && key && !runs c i) = false) ∨ ((decide (i = c.want) && key && !runs c i) = true ∧ r = .ret [.agg (caC { c with any := true, now := i }), .bool true, .bool true] ∧ Grow H H')) ?_ ?_
  ·by_cases h1 : i = c.want
   ·have d1 : decide (i = c.want) = true := decide_eq_true h1
    cases key with
    | false =>
     simp (disch := first | omega | (simp only [RY] <;> omega) | decide) only [↓RD, RZ, eq_self, Int.reduceToNat, Int.reduceAdd, Nat.reduceAdd, Nat.reduceSub, Nat.reduceMul, Nat.reduceLeDiff, g2, h1, Bool.and_false, Bool.false_and]
     exact .inl (Grow.refl _)
    | true =>
     simp (disch := first | omega | (simp only [RY] <;> omega) | decide) only [↓RD, RZ, eq_self, Int.reduceToNat, Int.reduceAdd, Nat.reduceAdd, Nat.reduceSub, Nat.reduceMul, Nat.reduceLeDiff, g2, h1]
     refine zac (runs_ok c c.want) ?_
     rintro _ H3 ⟨rfl, s3⟩
     have n3 := s3.next
     have g3 : H3.get H.next = _ := (s3.same _ (by omega)).trans g2
     have g3' : H3.get (H.next + 1) = _ := (s3.same _ (by omega)).trans g2'
     cases hr : runs c c.want with
     | true =>
      simp (disch := first | omega | (simp only [RY] <;> omega) | decide) only [↓RD, RZ, eq_self, Int.reduceToNat, Int.reduceAdd, Nat.reduceAdd, Nat.reduceSub, Nat.reduceMul, Nat.reduceLeDiff, g3, Bool.and_false, Bool.not_true]
      exact .inl s3
     | false =>
      simp (disch := first | omega | (simp only [RY] <;> omega) | decide) only [↓RD, RZ, eq_self, Int.reduceToNat, Int.reduceAdd, Nat.reduceAdd, Nat.reduceSub, Nat.reduceMul, Nat.reduceLeDiff, g3, g3', decide_true, Bool.and_true, Bool.not_false]
      refine .inr ⟨by rfl, ?_⟩
      exact ((((s12.trans s3).set (Nat.le_refl _) _).set (Nat.le_refl _) _).set (Nat.le_succ _) _)
   ·simp (disch := first | omega | (simp only [RY] <;> omega) | decide) only [↓RD, RZ, eq_self, Int.reduceToNat, Int.reduceAdd, Nat.reduceAdd, Nat.reduceSub, Nat.reduceMul, Nat.reduceLeDiff, g2, h1, decide_false, Bool.false_and]
    exact .inl (Grow.refl _)
  ·rintro r H3 (⟨rfl, s3, hc⟩ | ⟨hc, rfl, s3⟩)
   ·have n3 := s3.next
    have g3 : H3.get H.next = _ := (s3.same _ (by omega)).trans g2
    have g3' : H3.get (H.next + 1) = _ := (s3.same _ (by omega)).trans g2'
    have e : castOn c i key = (c, runs c i, false) := by unfold castOn; rw [if_neg (by rw [hg]; decide), if_neg (by rw [hc]; decide)]
    simp (disch := first | omega | (simp only [RY] <;> omega) | decide) only [↓RD, RZ, eq_self, Int.reduceToNat, Int.reduceAdd, Nat.reduceAdd, Nat.reduceSub, Nat.reduceMul, Nat.reduceLeDiff, g3]
    refine zac (runs_ok c i) ?_
    rintro _ H4 ⟨rfl, s4⟩
    have g4 : H4.get (H.next + 1) = _ := (s4.same _ (by omega)).trans g3'
    have u4 : H4.get H.next = H3.get H.next := s4.same _ (by omega)
    simp (disch := first | omega | (simp only [RY] <;> omega) | decide) only [↓RD, RZ, eq_self, Int.reduceToNat, Int.reduceAdd, Nat.reduceAdd, Nat.reduceSub, Nat.reduceMul, Nat.reduceLeDiff, u4, g4, e]
    exact ((s12.trans s3).trans s4).set (Nat.le_succ _) _
   ·have e : castOn c i key = ({ c with any := true, now := i }, true, true) := by unfold castOn; rw [if_neg (by rw [hg]; decide), if_pos hc]
    simp (disch := first | omega | (simp only [RY] <;> omega) | decide) only [↓RD, RZ, eq_self, Int.reduceToNat, Int.reduceAdd, Nat.reduceAdd, Nat.reduceSub, Nat.reduceMul, Nat.reduceLeDiff, e]
    exact ⟨rfl, s3⟩
/-! How numbers go on. -/
structure Tn where
 any : Bool
 seq : Nat
 ts : Nat
 dts : Nat
 fr : Nat
 dfr : Nat
 at' : Int
def tnC (t : Tn) : List V := [.bool t.any, .int .u16 (t.seq : Nat), .int .u32 (t.ts : Nat), .int .u32 (t.dts : Nat), .int .u16 (t.fr : Nat), .int .u16 (t.dfr : Nat), .int .i64 t.at']
structure TnO (t : Tn) : Prop where
 seq : t.seq < 65536
 ts : t.ts < 4294967296
 dts : t.dts < 4294967296
 fr : t.fr < 65536
 dfr : t.dfr < 65536
 at' : 0 ≤ t.at' ∧ t.at' < 4611686018427387904
def tks (a b : Int) : Nat := if b ≤ a then 1 else min (b - a).toNat 100000
def tbeg (t : Tn) (ts fr : Nat) (now : Int) : Tn :=
 if t.any = true then { t with dts := (t.ts + 90 * tks t.at' now + 4294967296 - ts) % 4294967296, dfr := (t.fr + 65537 - fr) % 65536 } else { t with dts := 0, dfr := 0 }
def tseq (t : Tn) : Nat := if t.any = true then (t.seq + 1) % 65536 else 0
def tots (t : Tn) (ts : Nat) : Nat := (ts + t.dts) % 4294967296
def tofr (t : Tn) (fr : Nat) : Nat := (fr + t.dfr) % 65536
def fwd (any : Bool) (n old size half : Nat) : Nat := if (!any || (decide (1 ≤ (n + size - old) % size) && decide ((n + size - old) % size < half))) = true then n else old
def tout (t : Tn) (ts fr : Nat) (now : Int) : Tn := ⟨true, tseq t, fwd t.any (tots t ts) t.ts 4294967296 2147483648, t.dts, fwd t.any (tofr t fr) t.fr 65536 32768, t.dfr, now⟩
theorem tbeg_o {t : Tn} (h : TnO t) (ts fr : Nat) (now : Int) : TnO (tbeg t ts fr now) := by
 have := h.seq; have := h.ts; have := h.dts; have := h.fr; have := h.dfr; have := h.at'
 unfold tbeg
 split
 ·exact ⟨h.seq, h.ts, Nat.mod_lt _ (by decide), h.fr, Nat.mod_lt _ (by decide), h.at'⟩
 ·exact ⟨h.seq, h.ts, by show 0 < _; decide, h.fr, by show 0 < _; decide, h.at'⟩
theorem tout_o {t : Tn} (h : TnO t) (ts fr : Nat) {now : Int} (hn : 0 ≤ now ∧ now < 4611686018427387904) : TnO (tout t ts fr now) := by
 refine ⟨?_, ?_, h.dts, ?_, h.dfr, hn⟩
 ·show tseq t < 65536
  unfold tseq; split
  ·exact Nat.mod_lt _ (by decide)
  ·decide
 ·unfold tout fwd; dsimp only; split
  ·exact Nat.mod_lt _ (by decide)
  ·exact h.ts
 ·unfold tout fwd; dsimp only; split
  ·exact Nat.mod_lt _ (by decide)
  ·exact h.fr
theorem ticks_ok {H : Heap} {a b : Int} (ha : 0 ≤ a ∧ a < 4611686018427387904) (hb : 0 ≤ b ∧ b < 4611686018427387904) : Ok (sem T zdu [.int .i64 a, .int .i64 b]) H fun r H' => r = .int .u32 (tks a b : Nat) ∧ H' = H := by
 refine zgn ?_
 unfold zfA tks
 by_cases h : b ≤ a
 ·rw [if_pos h]
  simp (disch := omega) only [↓RD, RZ]
  rfl
 ·rw [if_neg h]
  have w1 : IntKind.u64.wrap b = b := wrapin_u64 (by omega) (by omega)
  have w2 : IntKind.u64.wrap a = a := wrapin_u64 (by omega) (by omega)
  have w3 : IntKind.u64.wrap (b - a) = b - a := wrapin_u64 (by omega) (by omega)
  have mm : Ax.minmax false (.int .u64 (b - a)) [.int .u64 100000] = some (.int .u64 ((min (b - a).toNat 100000 : Nat) : Int)) := by
   simp only [Ax.minmax, Ax.min2, Option.bind_some]
   congr 2
   simp only [Bool.false_eq_true, if_false]
   split <;> omega
  have w4 : IntKind.u32.wrap ((min (b - a).toNat 100000 : Nat) : Int) = ((min (b - a).toNat 100000 : Nat) : Int) := wrapin_u32 (by omega) (by omega)
  simp (disch := omega) only [↓RD, RZ, w1, w2, bin_sub, w3, mm, w4]
set_option maxHeartbeats 1600000 in
theorem Begin_ok {H : Heap} {t : Tn} (h : TnO t) {ts fr : Nat} {now : Int} (h1 : ts < 4294967296) (h2 : fr < 65536) (hn : 0 ≤ now ∧ now < 4611686018427387904) :
  Ok (sem T zdv [.agg (tnC t), .int .u32 (ts : Nat), .int .u16 (fr : Nat), .int .i64 now]) H fun r H' => r = .agg (tnC (tbeg t ts fr now)) ∧ Grow H H' := by
 obtain ⟨o1, o2, o3, o4, o5, o6⟩ := h
 refine zgo ?_
 unfold zfB
 unfold tnC
 have gr : ∀ {H' : Heap}, Grow (Heap.new (Heap.new H ⟨zcg, [], none⟩) ⟨zcg, [], none⟩) H' → True := fun _ => trivial
 cases ha : t.any with
 | false =>
  have e : tbeg t ts fr now = { t with dts := 0, dfr := 0 } := by unfold tbeg; rw [if_neg (by rw [ha]; decide)]
  simp (disch := first | omega | (simp only [RY] <;> omega) | decide) only [↓RD, RZ, eq_self, Int.reduceToNat, Int.reduceAdd, Nat.reduceAdd, Nat.reduceSub, Nat.reduceMul, Nat.reduceLeDiff, e, ha]
  refine ⟨by rfl, ?_⟩
  repeat (refine Grow.set ?_ (by omega) _)
  exact (Grow.new _ _).trans (Grow.new _ _)
 | true =>
  have e : tbeg t ts fr now = { t with dts := (t.ts + 90 * tks t.at' now + 4294967296 - ts) % 4294967296, dfr := (t.fr + 65537 - fr) % 65536 } := by unfold tbeg; rw [if_pos ha]
  have tk := fun {H : Heap} => fun (f : V → M Res) Q => zcM (f := f) (Q := Q) (ticks_ok (H := H) o6 hn)
  have hk : tks t.at' now ≤ 100000 := by unfold tks; split <;> omega
  generalize tks t.at' now = k at *
  have w1 : IntKind.u32.wrap (90 * ((k : Nat) : Int)) = ((90 * k : Nat) : Int) := by rw [wrap_u32]; omega
  have w2 : IntKind.u32.wrap (((t.ts : Nat) : Int) + ((90 * k : Nat) : Int)) = (((t.ts + 90 * k) % 4294967296 : Nat) : Int) := by rw [wrap_u32]; omega
  have w3 : IntKind.u32.wrap ((((t.ts + 90 * k) % 4294967296 : Nat) : Int) - ((ts : Nat) : Int)) = (((t.ts + 90 * k + 4294967296 - ts) % 4294967296 : Nat) : Int) := by rw [wrap_u32]; omega
  have w4 : IntKind.u16.wrap (((t.fr : Nat) : Int) + 1) = (((t.fr + 1) % 65536 : Nat) : Int) := by rw [wrap_u16]; omega
  have w5 : IntKind.u16.wrap ((((t.fr + 1) % 65536 : Nat) : Int) - ((fr : Nat) : Int)) = (((t.fr + 65537 - fr) % 65536 : Nat) : Int) := by rw [wrap_u16]; omega
  simp (disch := first | omega | (simp only [RY] <;> omega) | decide) only [↓RD, RZ, eq_self, Int.reduceToNat, Int.reduceAdd, Nat.reduceAdd, Nat.reduceSub, Nat.reduceMul, Nat.reduceLeDiff, e, ha, tk, bin_mul, w1, bin_add, w2, bin_sub, w3, w4, w5]
  repeat (refine Grow.set ?_ (by omega) _)
  exact (Grow.new _ _).trans (Grow.new _ _)
set_option maxHeartbeats 3200000 in
theorem Out_ok {H : Heap} {t : Tn} (h : TnO t) {ts fr : Nat} {now : Int} (h1 : ts < 4294967296) (h2 : fr < 65536) :
    Ok (sem T zee [.agg (tnC t), .int .u32 (ts : Nat), .int .u16 (fr : Nat), .int .i64 now]) H fun r H' => r = .tup [.agg (tnC (tout t ts fr now)), .int .u16 (tseq t : Nat), .int .u32 (tots t ts : Nat), .int .u16 (tofr t fr : Nat)] ∧ Grow H H' := by
  obtain ⟨o1, o2, o3, o4, o5, o6⟩ := h
  refine zgO ?_
  unfold zgd
  unfold tnC
  have w1 : IntKind.u16.wrap (((t.seq : Nat) : Int) + 1) = (((t.seq + 1) % 65536 : Nat) : Int) := by rw [wrap_u16]; omega
  have w2 : IntKind.u32.wrap (((ts : Nat) : Int) + ((t.dts : Nat) : Int)) = ((tots t ts : Nat) : Int) := by rw [wrap_u32]; unfold tots; omega
  have w3 : IntKind.u16.wrap (((fr : Nat) : Int) + ((t.dfr : Nat) : Int)) = ((tofr t fr : Nat) : Int) := by rw [wrap_u16]; unfold tofr; omega
  have b2 : tots t ts < 4294967296 := Nat.mod_lt _ (by decide)
  have b3 : tofr t fr < 65536 := Nat.mod_lt _ (by decide)
  have eo : tout t ts fr now = ⟨true, tseq t, fwd t.any (tots t ts) t.ts 4294967296 2147483648, t.dts, fwd t.any (tofr t fr) t.fr 65536 32768, t.dfr, now⟩ := rfl
  generalize tots t ts = x at *
  generalize tofr t fr = y at *
  have w4 : IntKind.u32.wrap (((x : Nat) : Int) - ((t.ts : Nat) : Int)) = (((x + 4294967296 - t.ts) % 4294967296 : Nat) : Int) := by rw [wrap_u32]; omega
  have w5 : IntKind.u16.wrap (((y : Nat) : Int) - ((t.fr : Nat) : Int)) = (((y + 65536 - t.fr) % 65536 : Nat) : Int) := by rw [wrap_u16]; omega
  cases ha : t.any with
  | false =>
    have es : tseq t = 0 := by unfold tseq; rw [if_neg (by rw [ha]; decide)]
    have f1 : fwd false x t.ts 4294967296 2147483648 = x := rfl
    have f2 : fwd false y t.fr 65536 32768 = y := rfl
    simp (disch := first | omega | (simp only [RY] <;> omega) | decide) only [↓RD, RZ, eq_self, Int.reduceToNat, Int.reduceAdd, Nat.reduceAdd, Nat.reduceSub, Nat.reduceMul, Nat.reduceLeDiff, eo, ha, es, f1, f2, bin_add, w2, w3, bin_sub, w4, w5]
    refine ⟨by rfl, ?_⟩
    repeat (refine Grow.set ?_ (by omega) _)
    exact (Grow.new _ _).trans (Grow.new _ _)
  | true =>
    have es : tseq t = (t.seq + 1) % 65536 := by unfold tseq; rw [if_pos ha]
    have f1 : ∀ (p q : Bool), decide (1 ≤ (x + 4294967296 - t.ts) % 4294967296) = p → decide ((x + 4294967296 - t.ts) % 4294967296 < 2147483648) = q → fwd true x t.ts 4294967296 2147483648 = if (p && q) = true then x else t.ts := by
      intro p q hp hq; subst hp hq; unfold fwd; rw [Bool.not_true, Bool.false_or]
    have f2 : ∀ (p q : Bool), decide (1 ≤ (y + 65536 - t.fr) % 65536) = p → decide ((y + 65536 - t.fr) % 65536 < 32768) = q → fwd true y t.fr 65536 32768 = if (p && q) = true then y else t.fr := by
      intro p q hp hq; subst hp hq; unfold fwd; rw [Bool.not_true, Bool.false_or]
    generalize (x + 4294967296 - t.ts) % 4294967296 = dx at *
    generalize (y + 65536 - t.fr) % 65536 = dy at *
    have k1 : ∀ {P : Prop}, (∀ p q : Bool, (if p = true then 1 ≤ dx else dx < 1) → (if q = true then dx < 2147483648 else 2147483648 ≤ dx) → fwd true x t.ts 4294967296 2147483648 = (if (p && q) = true then x else t.ts) → P) → P := by
      intro P hk
      by_cases a1 : 1 ≤ dx <;> by_cases a2 : dx < 2147483648
      · exact hk true true a1 a2 (f1 true true (decide_eq_true a1) (decide_eq_true a2))
      · exact hk true false a1 (Nat.le_of_not_lt a2) (f1 true false (decide_eq_true a1) (decide_eq_false a2))
      · exact hk false true (Nat.lt_of_not_le a1) a2 (f1 false true (decide_eq_false a1) (decide_eq_true a2))
      · exact hk false false (Nat.lt_of_not_le a1) (Nat.le_of_not_lt a2) (f1 false false (decide_eq_false a1) (decide_eq_false a2))
    have k2 : ∀ {P : Prop}, (∀ p q : Bool, (if p = true then 1 ≤ dy else dy < 1) → (if q = true then dy < 32768 else 32768 ≤ dy) → fwd true y t.fr 65536 32768 = (if (p && q) = true then y else t.fr) → P) → P := by
      intro P hk
      by_cases a1 : 1 ≤ dy <;> by_cases a2 : dy < 32768
      · exact hk true true a1 a2 (f2 true true (decide_eq_true a1) (decide_eq_true a2))
      · exact hk true false a1 (Nat.le_of_not_lt a2) (f2 true false (decide_eq_true a1) (decide_eq_false a2))
      · exact hk false true (Nat.lt_of_not_le a1) a2 (f2 false true (decide_eq_false a1) (decide_eq_true a2))
      · exact hk false false (Nat.lt_of_not_le a1) (Nat.le_of_not_lt a2) (f2 false false (decide_eq_false a1) (decide_eq_false a2))
    refine k1 fun p q hp hq e1 => k2 fun p' q' hp' hq' e2 => ?_
    cases p <;> cases q <;> cases p' <;> cases q'
    all_goals
      simp only [Bool.false_eq_true, if_false, if_true, Bool.and_false, Bool.and_true] at hp hq hp' hq' e1 e2
      first
        | (exfalso; omega)
        | (simp (disch := first | omega | (simp only [RY] <;> omega) | decide) only [↓RD, RZ, eq_self, Int.reduceToNat, Int.reduceAdd, Nat.reduceAdd, Nat.reduceSub, Nat.reduceMul, Nat.reduceLeDiff, eo, ha, es, bin_add, w1, w2, w3, bin_sub, w4, w5, e1, e2]
           repeat (refine Grow.set ?_ (by omega) _)
           exact (Grow.new _ _).trans (Grow.new _ _))
end Go.Ax.LN
/- Rtp1 -/
namespace Go.Ax.R7
open Go.Ax
def be (l : List Nat) : Nat := l.foldl (fun a b => a * 256 + b) 0
abbrev By (lo : Nat) (H : Heap) (v : V) (l : List Nat) : Prop := Lc 1 lo H v (l.map by8) l.length
def Ok8 (l : List Nat) : Prop := ∀ x ∈ l, x < 256
theorem Ok8.get {l : List Nat} (h : Ok8 l) (i : Nat) (hi : i < l.length) : l[i] < 256 := h _ (List.getElem_mem hi)
theorem Ok8.take {l : List Nat} (h : Ok8 l) (n : Nat) : Ok8 (l.take n) := fun x hx => h x (List.mem_of_mem_take hx)
theorem Ok8.drop {l : List Nat} (h : Ok8 l) (n : Nat) : Ok8 (l.drop n) := fun x hx => h x (List.mem_of_mem_drop hx)
theorem take_snoc {l : List Nat} {i : Nat} (h : i < l.length) : l.take (i + 1) = l.take i ++ [l.getD i 0] := by
 rw [List.take_add_one, List.getElem?_eq_getElem h, List.getD_eq_getElem?_getD, List.getElem?_eq_getElem h]; rfl
theorem okb_copy {β : Type} {ty e bytes m : Nat} {H : Heap} {y : V} {q : List V} {f : V → M β} {Q : β → Heap → Prop} (hy : acells e H y = some (q, m)) (hp : ∀ id, y.pid = some id → id < H.next) (hq : q.length = m * e)
  (hb : m * bytes ≤ 140737488355328) (hm : m ≤ 140737488355328)
  (k : ∀ x' H', App ty e H.next H' x' q m → Grow H H' → Ok (f x') H' Q) : Ok ((mappend ty e bytes (.sl H.next 0 0 (.fix 0)) y).bind f) (H.new ⟨ty, [], none⟩) Q := by
 have ha : App ty e H.next (H.new ⟨ty, [], none⟩) (.sl H.next 0 0 (.fix 0)) [] 0 := .lit (zak _ _) (Nat.le_refl _) (by rw [zan]; omega)
 refine zfS ha (by rw [zan]; omega) (by rw [acells_to fun i hi => zay _ _ (by have := hp i hi; omega)]; exact hy) hq (by simpa using hb) (by omega) fun x' H' h hs => ?_
 refine k x' H' (by simpa using h) ⟨by have := hs.next; rw [zan] at this; omega, fun i hi => ?_⟩
 rw [hs.same i (by rw [zan]; omega) (by simp [V.pid]; omega), zay _ _ (by omega)]
theorem Clone_ok {lo : Nat} {H : Heap} {v : V} {l : List Nat} (h : By lo H v l) (hl : l.length ≤ 1099511627776) : Ok (sem T zaW [v]) H fun r H' => By H.next H' r l ∧ Grow H H' := by
 refine zdU ?_
 unfold zdz
 rcases h.cases with ⟨rfl, hc, hn⟩ | ⟨id, off, cap, b, rfl, _⟩ | ⟨cs, rfl, _⟩
 ·simp (disch := omega) only [↓RD, RZ]
  have : l = [] := List.eq_nil_of_length_eq_zero hn
  subst this
  exact ⟨Lc.nil, Grow.refl _⟩
 ·simp (disch := omega) only [↓RD, RZ]
  refine okb_copy h.ac (fun i hi => (h.own i hi).2) (by simp) (by omega) (by omega) fun x' H' ha hg => ?_
  simp (disch := omega) only [↓RD, RZ]
  exact ⟨ha.lc, hg⟩
 ·simp (disch := omega) only [↓RD, RZ]
  refine okb_copy h.ac (fun i hi => (h.own i hi).2) (by simp) (by omega) (by omega) fun x' H' ha hg => ?_
  simp (disch := omega) only [↓RD, RZ]
  exact ⟨ha.lc, hg⟩
end Go.Ax.R7
/- Lan3 -/
namespace Go.Ax.LN
open Go.Ax D9
abbrev En : Type := Nat × V
def enC (x : En) : List V := [.int .u16 (x.1 : Nat), x.2]
def enF (es : List En) : List V := (es.map enC).flatten
theorem enC_len (es : List En) : ∀ x ∈ es.map enC, x.length = 2 := fun x hx => by
 obtain ⟨w, _, rfl⟩ := List.mem_map.1 hx
 rfl
theorem enF_len (es : List En) : (enF es).length = es.length * 2 := by unfold enF; rw [flat_len _ (enC_len es), List.length_map]
theorem enF_app (a b : List En) : enF (a ++ b) = enF a ++ enF b := by unfold enF; rw [List.map_append, List.flatten_append]
theorem enF_one (x : En) : enF [x] = enC x := by simp [enF]
theorem enF_take (es : List En) (i : Nat) : (enF es).take (i * 2) = enF (es.take i) := by
 conv => lhs; rw [← List.take_append_drop i es, enF_app]
 rcases Nat.le_total i es.length with h | h
 ·exact List.take_left' (by rw [enF_len, List.length_take, Nat.min_eq_left h])
 ·rw [List.drop_eq_nil_of_le h, show enF [] = [] from rfl, List.append_nil, List.take_of_length_le]
  rw [enF_len, List.length_take]; omega
theorem enF_drop (es : List En) (i : Nat) : (enF es).drop (i * 2) = enF (es.drop i) := by
 conv => lhs; rw [← List.take_append_drop i es, enF_app]
 rcases Nat.le_total i es.length with h | h
 ·exact List.drop_left' (by rw [enF_len, List.length_take, Nat.min_eq_left h])
 ·rw [List.drop_eq_nil_of_le h, show enF [] = [] from rfl, List.append_nil, List.drop_eq_nil_of_le]
  rw [enF_len, List.length_take]; omega
inductive RgS (H : Heap) : V → List En → List Nat → Prop
 | nil : RgS H .nils [] []
 | blk {id : Nat} {es : List En} {rest : List V} (hg : H.get id = some ⟨zaC, enF es ++ rest, some 2⟩) (hr : rest.length % 2 = 0) (hi : id < H.next) : RgS H (.sl id 0 es.length (.opn 2)) es [id]
theorem RgS.vlen {H : Heap} {v : V} {es : List En} {F : List Nat} (h : RgS H v es F) : Ax.vlen v = some (.int .i64 (es.length : Nat)) := by cases h <;> rfl
theorem RgS.cel {H : Heap} {v : V} {es : List En} {F : List Nat} (h : RgS H v es F) : Cel v := by cases h <;> exact ⟨rfl, rfl⟩
theorem RgS.to {H H' : Heap} {v : V} {es : List En} {F : List Nat} (h : RgS H v es F) (hn : H.next ≤ H'.next) (hs : ∀ i ∈ F, H'.get i = H.get i) : RgS H' v es F := by
 cases h with
 | nil => exact .nil
 | blk hg hr hi => exact .blk (by rw [hs _ (List.mem_singleton.2 rfl)]; exact hg) hr (by omega)
theorem RgS.low {H : Heap} {v : V} {es : List En} {F : List Nat} (h : RgS H v es F) : ∀ i ∈ F, i < H.next := by
 cases h with
 | nil => exact fun i hi => by cases hi
 | blk hg hr hi => exact fun i h => by rw [List.mem_singleton.1 h]; exact hi
def idxI : Option Nat → Int
 | some i => (i : Nat)
 | none => -1
def rgAt (es : List En) (seq : Nat) : Option Nat := es.findIdx? fun x => x.1 == seq
theorem findIdx_take {es : List En} {p : En → Bool} {k : Nat} (h : k < es.length) (h0 : (es.take k).findIdx? p = none) (h1 : p es[k] = true) : es.findIdx? p = some k := by
 rw [List.findIdx?_eq_some_iff_getElem]
 refine ⟨h, h1, fun j hj => ?_⟩
 rw [List.findIdx?_eq_none_iff] at h0
 have := h0 es[j] (List.mem_iff_getElem.2 ⟨j, by rw [List.length_take]; omega, by rw [List.getElem_take]⟩)
 rw [this]; decide
theorem at1_ok {H : Heap} {b : Nat} {x : En} {seq : Nat} (hb : H.get b = some ⟨zaR, [.int .u16 (seq : Nat)], none⟩) (hbl : b < H.next) :
  Ok (sem T zcq [.agg (enC x), .ptr b 0]) H fun r H' => r = .bool (x.1 == seq) ∧ Grow H H' := by
 refine zft ?_
 unfold zer enC
 simp (disch := omega) only [↓RD, RZ, hb]
 refine ⟨?_, Grow.new _ _⟩
 by_cases e : x.1 = seq
 ·rw [e, beq_self_eq_true, beq_self_eq_true]
 ·have e' : ¬ ((x.1 : Nat) : Int) = ((seq : Nat) : Int) := by omega
  rw [beq_eq_false_iff_ne.2 e, beq_eq_false_iff_ne.2 e']
theorem Rat_ok {H : Heap} {q : Nat} {v : V} {es : List En} {F : List Nat} {seq : Nat} (hq : H.get q = some ⟨zch, [v], none⟩) (hql : q < H.next) (h : RgS H v es F) (hl : es.length ≤ 1048576) :
  Ok (sem T zci [.ptr q 0, .int .u16 (seq : Nat)]) H fun r H' => r = .int .i64 (idxI (rgAt es seq)) ∧ Grow H H' := by
 refine zfU ?_
 unfold ze5
 have c := h.cel
 simp (disch := omega) only [↓RD, RZ, hq]
 have s1 := Grow.new H ⟨zaR, [.int .u16 (seq : Nat)], none⟩
 have gb : (H.new ⟨zaR, [.int .u16 (seq : Nat)], none⟩).get H.next = _ := zak _ _
 have h1 : RgS (H.new ⟨zaR, [.int .u16 (seq : Nat)], none⟩) v es F := h.to s1.next fun i hi => s1.same i (h.low i hi)
 have nb : H.next < (H.new ⟨zaR, [.int .u16 (seq : Nat)], none⟩).next := by rw [zan]; omega
 generalize hgb : H.next = b at *
 generalize H.new _ = H1 at *
 refine zac (P := fun r H' => r = .int .i64 (idxI (rgAt es seq)) ∧ Grow H1 H') ?_ ?_
 ·refine zb6 ?_
  unfold zbg
  simp (disch := omega) only [↓RD, RZ, h1.vlen]
  refine zaM (Q := fun r H' => Grow H1 H' ∧ ((r = Res.ex 0 [] ∧ rgAt es seq = none) ∨ (∃ k : Nat, r = .ret [.int .i64 (k : Nat)] ∧ rgAt es seq = some k))) ?_ ?_
  ·refine zaK (fun k L H' => L = [.int .i64 (k : Nat)] ∧ Grow H1 H' ∧ rgAt (es.take k) seq = none) es.length ?_ ?_ ?_
   ·exact ⟨rfl, Grow.refl _, rfl⟩
   ·rintro k L H2 hk ⟨rfl, g2, hP⟩
    have h2 := h1.to g2.next fun i hi => g2.same i (h1.low i hi)
    have hb2 : H2.get b = _ := (g2.same _ nb).trans gb
    have n2 := g2.next
    cases h2 with
    | nil => simp at hk
    | blk hg hr hi =>
     rename_i id rest
     have ia : ∀ {k' : IntKind}, Ax.iaddr none 2 (.sl id 0 es.length (.opn 2)) (.int k' ((k : Nat) : Int)) = some (.ptr id (k * 2)) := fun {k'} => by
      simp only [Ax.iaddr]; rw [if_pos (by omega)]; simp
     have hcell : ldc (some 2) (enF es ++ rest) (k * 2) = some (.agg (enC es[k])) := by
      have hl2 := enF_len es
      unfold ldc
      dsimp only
      rw [if_pos (by rw [List.length_append]; omega), List.drop_append_of_le_length (by omega), enF_drop, List.drop_eq_getElem_cons hk]
      rfl
     unfold zaO
     simp (disch := omega) only [↓RD, RZ, ia, hg, hcell]
     refine zac (at1_ok (x := es[k]) hb2 (by omega)) ?_
     rintro _ H3 ⟨rfl, g3⟩
     cases he : es[k].1 == seq with
     | true =>
      simp (disch := omega) only [↓RD, RZ]
      exact ⟨g2.trans g3, .inr ⟨k, by rfl, findIdx_take hk hP he⟩⟩
     | false =>
      simp (disch := omega) only [↓RD, RZ]
      refine ⟨by rfl, g2.trans g3, ?_⟩
      unfold rgAt at hP ⊢
      rw [List.take_succ_eq_append_getElem hk, List.findIdx?_append, hP]
      simp [List.findIdx?_cons, he]
   ·rintro L H2 ⟨rfl, g2, hP⟩
    unfold zaO
    rw [List.take_length] at hP
    simp (disch := omega) only [↓RD, RZ]
    exact ⟨g2, .inl hP⟩
  ·rintro r H2 ⟨g2, ⟨rfl, hn⟩ | ⟨k, rfl, hk⟩⟩
   ·simp (disch := omega) only [↓RD, RZ]
    rw [hn]
    exact ⟨rfl, g2⟩
   ·simp (disch := omega) only [↓RD, RZ]
    rw [hk]
    exact ⟨rfl, g2⟩
 ·rintro _ H2 ⟨rfl, g2⟩
  simp (disch := omega) only [↓RD, RZ]
  exact s1.trans g2
def e0 : List V := [.int .u16 0, .nils]
theorem enF_erase {es : List En} {i : Nat} (hi : i < es.length) : enF (es.eraseIdx i) = enF (es.take i) ++ enF (es.drop (i + 1)) := by
 rw [List.eraseIdx_eq_take_drop_succ, enF_app]
theorem enF_last {es : List En} {i : Nat} (hi : i < es.length) : enF (es.drop i) = enC es[i] ++ enF (es.drop (i + 1)) := by
 rw [List.drop_eq_getElem_cons hi]; rfl
set_option maxHeartbeats 800000 in
theorem Delete_ok {H : Heap} {id i : Nat} {es : List En} {rest : List V} (hg : H.get id = some ⟨zaC, enF es ++ rest, some 2⟩) (hi : i < es.length) (hl : es.length ≤ 1048576) :
  Ok (sem T zar [.sl id 0 es.length (.opn 2), .int .i64 (i : Nat), .int .i64 ((i : Nat) + 1)]) H fun r H' =>
   r = .sl id 0 (es.length - 1) (.opn 2) ∧ H'.next = H.next ∧ (∀ j, j ≠ id → H'.get j = H.get j) ∧ H'.get id = some ⟨zaC, enF (es.eraseIdx i) ++ (e0 ++ rest), some 2⟩ := by
 have hel := enF_len es
 refine zcm ?_
 unfold zbw
 have hvl : ∀ n, Ax.vlen (.sl id 0 n (.opn 2)) = some (.int .i64 (n : Nat)) := fun n => rfl
 have v1 : vslice .sl 2 (.sl id 0 es.length (.opn 2)) (some (.int .i64 (i : Nat))) (some (.int .i64 ((i : Nat) + 1))) (some (.int .i64 (es.length : Nat))) = some (.sl id (i * 2) 1 (.fix (es.length - i))) := by
  simp only [vslice, optInt, vint, Option.map_some, Option.bind_some, Option.getD_some, Option.isNone_some, Bool.false_eq_true, and_false, if_false]
  rw [if_pos (by omega)]
  simp
 have v2 : vslice .sl 2 (.sl id 0 es.length (.opn 2)) none (some (.int .i64 (i : Nat))) none = some (.sl id 0 i (.opn 2)) := by
  simp only [vslice, optInt, vint, Option.map_some, Option.bind_some, Option.getD_some, Option.getD_none, Option.isSome_none, Bool.false_eq_true, false_and, if_false]
  rw [if_pos ⟨trivial, by omega, by omega, by omega⟩]
  simp
 have v3 : vslice .sl 2 (.sl id 0 es.length (.opn 2)) (some (.int .i64 ((i : Nat) + 1))) none none = some (.sl id ((i + 1) * 2) (es.length - (i + 1)) (.opn 2)) := by
  simp only [vslice, optInt, vint, Option.map_some, Option.bind_some, Option.getD_some, Option.getD_none, Option.isSome_none, Bool.false_eq_true, false_and, if_false]
  rw [if_pos ⟨trivial, by omega, by omega, by omega⟩]
  simp
 have hne : ¬ ((i : Nat) : Int) = ((i : Nat) : Int) + 1 := by omega
 simp (disch := omega) only [↓RD, RZ, hvl, v1, v2, v3, hne]
 -- what is left behind the gap
 have hac : acells 2 H (.sl id ((i + 1) * 2) (es.length - (i + 1)) (.opn 2)) = some (enF (es.drop (i + 1)), es.length - (i + 1)) := by
  simp only [acells, rcells, hg, Option.bind_some]
  rw [if_pos (by rw [List.length_append]; omega), List.drop_append_of_le_length (by omega), enF_drop, List.take_left' (by rw [enF_len, List.length_drop])]
 obtain ⟨X, hX, H1, hap, hn1, hs1, hg1⟩ : ∃ X : List V, X.length = 2 ∧ ∃ H1, mappend zaC 2 32 (.sl id 0 i (.opn 2)) (.sl id ((i + 1) * 2) (es.length - (i + 1)) (.opn 2)) H = some (.sl id 0 (es.length - 1) (.opn 2), H1) ∧ H1.next = H.next ∧ (∀ j, j ≠ id → H1.get j = H.get j) ∧ H1.get id = some ⟨zaC, enF (es.eraseIdx i) ++ (X ++ rest), some 2⟩ := by
  by_cases hq : es.length - (i + 1) = 0
  ·refine ⟨enC es[i], rfl, H, ?_, rfl, fun j _ => rfl, ?_⟩
   ·simp only [mappend, hac, Option.bind_some, mappendq, hg]
    rw [if_pos ⟨by rw [List.length_append]; omega, trivial⟩, if_neg (by rintro ⟨-, -, -, h⟩; rw [List.length_append] at h; omega), if_pos ⟨trivial, hq⟩, show i = es.length - 1 by omega]
   ·rw [hg, enF_erase hi, show es.drop (i + 1) = [] from List.drop_eq_nil_of_le (by omega)]
    congr 2
    conv => lhs; rw [← List.take_append_drop i es, enF_app, enF_last hi, show es.drop (i + 1) = [] from List.drop_eq_nil_of_le (by omega)]
    simp only [List.append_assoc, show enF [] = [] from rfl, List.nil_append]
  ·obtain ⟨m, hm⟩ : ∃ m, es.length = m + 1 := ⟨es.length - 1, by omega⟩
   refine ⟨enC (es[es.length - 1]'(by omega)), rfl, H.set id (some ⟨zaC, splice (enF es ++ rest) (0 + i * 2) (enF (es.drop (i + 1))), some 2⟩), ?_, rfl, fun j hj => zaj _ _ hj, ?_⟩
   ·simp only [mappend, hac, Option.bind_some, mappendq, hg]
    rw [if_pos ⟨by rw [List.length_append]; omega, trivial⟩, if_neg (by rintro ⟨-, -, -, h⟩; rw [List.length_append] at h; omega), if_neg (fun h => hq h.2), if_pos ⟨trivial, trivial, by rw [List.length_append]; omega⟩, show i + (es.length - (i + 1)) = es.length - 1 by omega]
   ·rw [zaq]
    congr 2
    have hlast : enF (es.drop (es.length - 1)) = enC (es[es.length - 1]'(by omega)) := by
     rw [enF_last (by omega), List.drop_eq_nil_of_le (by omega)]; rfl
    unfold splice
    rw [Nat.zero_add, List.take_append_of_le_length (by omega), enF_take, enF_len, List.length_drop, enF_erase hi, show i * 2 + (es.length - (i + 1)) * 2 = (es.length - 1) * 2 by omega, List.drop_append_of_le_length (by omega), enF_drop, hlast]
    try simp only [List.append_assoc]
 have hle : (enF (es.eraseIdx i)).length = (es.length - 1) * 2 := by rw [enF_len, List.length_eraseIdx_of_lt hi]
 refine zbh ⟨_, _, hap, ?_⟩
 simp (disch := omega) only [↓RD, RZ, hvl]
 have hm2 : mslice2 2 (.sl id 0 (es.length - 1) (.opn 2)) (.int .i64 ((es.length - 1 : Nat) : Int)) (.int .i64 ((es.length : Nat) : Int)) H1 = some (.sl id ((es.length - 1) * 2) 1 (.opn 2), H1) := by
  simp only [mslice2, hg1, Option.bind_some, Int.toNat_natCast]
  rw [if_pos ⟨trivial, trivial, by omega, by omega, by simp only [List.length_append]; omega⟩, show es.length - (es.length - 1) = 1 by omega, Nat.zero_add]
 refine zbh ⟨_, _, hm2, ?_⟩
 have hmc : mclear [.int .u16 0, .nils] (.sl id ((es.length - 1) * 2) 1 (.opn 2)) H1 = some (.undef, H1.set id (some ⟨zaC, enF (es.eraseIdx i) ++ (e0 ++ rest), some 2⟩)) := by
  simp only [mclear, hg1, Option.bind_some]
  rw [if_neg (by decide), if_pos (by simp only [List.length_append, List.length_cons, List.length_nil]; omega)]
  have : splice (enF (es.eraseIdx i) ++ (X ++ rest)) ((es.length - 1) * 2) (zeros [.int .u16 0, .nils] 1) = enF (es.eraseIdx i) ++ (e0 ++ rest) := by
   have hz : zeros [.int .u16 0, .nils] 1 = e0 := rfl
   unfold splice
   rw [hz, List.take_left' hle, ← hle, List.drop_append, List.drop_eq_nil_of_le (by omega), Nat.add_sub_cancel_left, List.nil_append, show e0.length = 2 from rfl, List.drop_left' hX, List.append_assoc]
  rw [this]
 refine zbh ⟨_, _, hmc, ?_⟩
 simp (disch := omega) only [↓RD, RZ]
 refine ⟨hn1, fun j hj => ?_⟩
 rw [zaj _ _ hj]; exact hs1 j hj
structure RgR (H : Heap) (q : Nat) (es : List En) (F : List Nat) : Prop where
 ex : ∃ v, H.get q = some ⟨zch, [v], none⟩ ∧ RgS H v es F
 ql : q < H.next
 out : q ∉ F
theorem RgR.to {H H' : Heap} {q : Nat} {es : List En} {F : List Nat} (h : RgR H q es F) (hn : H.next ≤ H'.next) (hs : ∀ i, i < H.next → i = q ∨ i ∈ F → H'.get i = H.get i) : RgR H' q es F := by
 obtain ⟨⟨v, hv, hr⟩, ql, out⟩ := h
 exact ⟨⟨v, (hs q ql (.inl rfl)).trans hv, hr.to hn fun i hi => hs i (hr.low i hi) (.inr hi)⟩, by omega, out⟩
theorem RgR.grow {H H' : Heap} {q : Nat} {es : List En} {F : List Nat} (h : RgR H q es F) (g : Grow H H') : RgR H' q es F := h.to g.next fun i hi _ => g.same i hi
def rgErase (es : List En) : Option Nat → List En
 | some i => es.eraseIdx i
 | none => es
def rgTrim (es : List En) : List En := if 64 < es.length then es.eraseIdx 0 else es
def rgAdd (es : List En) (seq : Nat) (b : V) : List En := rgTrim (rgErase es (rgAt es seq) ++ [(seq, b)])
theorem rgAt_lt {es : List En} {seq i : Nat} (h : rgAt es seq = some i) : i < es.length := by
 unfold rgAt at h
 rw [List.findIdx?_eq_some_iff_getElem] at h
 exact h.1
theorem del_ok {H : Heap} {v : V} {es : List En} {F : List Nat} {i : Nat} (h : RgS H v es F) (hi : i < es.length) (hl : es.length ≤ 1048576) :
  Ok (sem T zar [v, .int .i64 (i : Nat), .int .i64 ((i : Nat) + 1)]) H fun r H' => RgS H' r (es.eraseIdx i) F ∧ Step H H' F F := by
 cases h with
 | nil => simp at hi
 | blk hg hr hid =>
  rename_i id rest
  refine zaM (Delete_ok hg hi hl) ?_
  rintro r H' ⟨rfl, hn, hs, hg'⟩
  refine ⟨?_, by omega, fun j hj hF => hs j fun e => hF (by rw [e]; exact List.mem_singleton.2 rfl), fun j hj => .inl hj⟩
  rw [← List.length_eraseIdx_of_lt hi]
  exact .blk hg' (by rw [List.length_append]; show (2 + rest.length) % 2 = 0; omega) (by omega)
theorem okb_put {β : Type} {H : Heap} {v b : V} {es : List En} {F : List Nat} {seq : Nat} {f : V → M β} {Q : β → Heap → Prop} (h : RgS H v es F) (hl : es.length ≤ 1048576)
  (k : ∀ r H' F', RgS H' r (es ++ [(seq, b)]) F' → Step H H' F F' → Ok (f r) H' Q) :
  Ok ((mappend zaC 2 32 v (.sl H.next 0 1 (.fix 1))).bind f) (H.new ⟨zaC, [.int .u16 (seq : Nat), b], none⟩) Q := by
 have hy : acells 2 (H.new ⟨zaC, [.int .u16 (seq : Nat), b], none⟩) (.sl H.next 0 1 (.fix 1)) = some ([.int .u16 (seq : Nat), b], 1) := acells_fresh (by rfl)
 have s0 := Step.new H ⟨zaC, [.int .u16 (seq : Nat), b], none⟩ F
 have hx : [V.int .u16 (seq : Nat), b] = enF [(seq, b)] := by rw [enF_one]; rfl
 have ml : ∀ n, n ≤ 1048577 → n ≤ maxLen := fun n hn => Nat.le_trans (by omega : n ≤ 140737488355328) byte_bound
 have g0 := Grow.new H ⟨zaC, [.int .u16 (seq : Nat), b], none⟩
 have gn : (H.new ⟨zaC, [.int .u16 (seq : Nat), b], none⟩).next = H.next + 1 := rfl
 generalize H.new _ = H1 at *
 have h1 := h.to g0.next fun i hi => g0.same i (h.low i hi)
 cases h1 with
 | nil =>
  refine zbh ⟨.sl H1.next 0 1 (.opn 2), H1.new ⟨zaC, [.int .u16 (seq : Nat), b], some 2⟩, ?_, ?_⟩
  ·simp only [mappend, hy, Option.bind_some, mappendq]
   rw [if_neg (by decide), if_pos ⟨by decide, ml 1 (by decide)⟩]
  ·refine k _ _ [H1.next] (.blk (es := [(seq, b)]) (rest := []) (by rw [zak, hx, List.append_nil]) rfl (by rw [zan]; omega)) ⟨by rw [zan]; omega, fun i hi _ => ?_, fun i hi => .inr ?_⟩
   ·rw [zay _ _ (by omega), g0.same i hi]
   ·rw [List.mem_singleton.1 hi, zan]; omega
 | blk hg hr hid =>
  rename_i id rest
  have hidl := h.low id (List.mem_singleton.2 rfl)
  have hel := enF_len es
  have hlen : (es ++ [(seq, b)]).length = es.length + 1 := by rw [List.length_append]; rfl
  by_cases hz : rest.length = 0
  ·have hr0 : rest = [] := List.eq_nil_of_length_eq_zero hz
   subst hr0
   rw [List.append_nil] at hg
   refine zbh ⟨.sl H1.next 0 (es.length + 1) (.opn 2), (H1.set id none).new ⟨zaC, enF es ++ [.int .u16 (seq : Nat), b], some 2⟩, ?_, ?_⟩
   ·simp only [mappend, hy, Option.bind_some, mappendq, hg]
    rw [if_pos ⟨by omega, trivial⟩, if_pos ⟨trivial, trivial, trivial, hel⟩, if_neg (by decide), if_pos ⟨by omega, ml _ (by omega)⟩]
   ·rw [← hlen]
    refine k _ _ [H1.next] (.blk (rest := []) (by rw [hx, ← enF_app, List.append_nil]; exact zak _ _) rfl (by rw [zan, zaH]; omega)) ⟨by rw [zan, zaH]; omega, fun i hi hF => ?_, fun i hi => .inr ?_⟩
    ·have : i ≠ id := fun e => hF (by rw [e]; exact List.mem_singleton.2 rfl)
     rw [zay _ _ (by rw [zaH]; omega), zaj _ _ this, g0.same i hi]
    ·rw [List.mem_singleton.1 hi, zan, zaH]; omega
  ·obtain ⟨y, z, rest', rfl⟩ : ∃ y z rest', rest = y :: z :: rest' := by
    rcases rest with _ | ⟨y, _ | ⟨z, rest'⟩⟩
    ·exact absurd rfl hz
    ·simp at hr
    ·exact ⟨_, _, _, rfl⟩
   have hsp : splice (enF es ++ y :: z :: rest') (0 + es.length * 2) [.int .u16 (seq : Nat), b] = enF (es ++ [(seq, b)]) ++ rest' := by
    unfold splice
    rw [Nat.zero_add, List.take_left' hel, ← hel, List.drop_append, List.drop_eq_nil_of_le (by omega), enF_app, hx, Nat.add_sub_cancel_left]
    rfl
   refine zbh ⟨.sl id 0 (es.length + 1) (.opn 2), H1.set id (some ⟨zaC, enF (es ++ [(seq, b)]) ++ rest', some 2⟩), ?_, ?_⟩
   ·simp only [mappend, hy, Option.bind_some, mappendq, hg]
    rw [if_pos ⟨by rw [List.length_append]; omega, trivial⟩, if_neg (by rintro ⟨-, -, -, h⟩; rw [List.length_append, List.length_cons, List.length_cons] at h; omega), if_neg (by rintro ⟨-, h⟩; cases h), if_pos ⟨trivial, trivial, by rw [List.length_append, List.length_cons, List.length_cons]; omega⟩, hsp]
   ·rw [← hlen]
    refine k _ _ [id] (.blk (rest := rest') (zaq _ _ _) (by rw [List.length_cons, List.length_cons] at hr; omega) (by rw [zaH]; exact hid)) ⟨by rw [zaH]; omega, fun i hi hF => ?_, fun i hi => .inl hi⟩
    have : i ≠ id := fun e => hF (by rw [e]; exact List.mem_singleton.2 rfl)
    rw [zaj _ _ this, g0.same i hi]
theorem eraseIdx_len_le (es : List En) (i : Nat) : (es.eraseIdx i).length ≤ es.length := List.length_eraseIdx_le ..
theorem rgErase_len (es : List En) (o : Option Nat) : (rgErase es o).length ≤ es.length := by
 cases o with
 | none => exact Nat.le_refl _
 | some i => exact eraseIdx_len_le es i
theorem idxI_some (i : Nat) : idxI (some i) = (i : Nat) := rfl
set_option maxHeartbeats 1600000 in
theorem Radd_ok {H : Heap} {q : Nat} {es : List En} {F : List Nat} {seq lo : Nat} {bv : V} {l : List Nat} (h : RgR H q es F) (hl : es.length ≤ 64) (hb : R7.By lo H bv l) (hbl : l.length ≤ 1048576) (hbd : ∀ i, bv.pid = some i → i ≠ q ∧ i ∉ F) :
  Ok (sem T zcC [.ptr q 0, .int .u16 (seq : Nat), bv]) H fun r H' => ∃ F' cb, RgR H' q (rgAdd es seq cb) F' ∧ Step H H' (q :: F) (q :: F') ∧ (rgAdd es seq cb).length ≤ 64 ∧ R7.By H.next H' cb l ∧ ∀ i, cb.pid = some i → i ≠ q ∧ i ∉ F' := by
 obtain ⟨⟨v, hv, hr⟩, ql, out⟩ := h
 refine zfG ?_
 unfold zeN
 refine zac (Rat_ok hv ql hr (by omega)) ?_
 rintro _ H1 ⟨rfl, s1⟩
 have n1 := s1.next
 have hv1 : H1.get q = _ := (s1.same _ ql).trans hv
 have hr1 := hr.to n1 fun i hi => s1.same i (hr.low i hi)
 have hb1 := hb.ext s1
 obtain ⟨ix, hix⟩ : ∃ ix, idxI (rgAt es seq) = ix := ⟨_, rfl⟩
 rw [hix]
 simp (disch := first | omega | (simp only [RY] <;> omega) | decide) only [↓RD, RZ, eq_self, Int.reduceToNat, Int.reduceAdd, Nat.reduceAdd, Nat.reduceSub, Nat.reduceMul, Nat.reduceLeDiff]
 -- what had the number goes
 refine zaM (Q := fun r H' => r = .nrm [] ∧ ∃ v2, H'.get q = some ⟨zch, [v2], none⟩ ∧ RgS H' v2 (rgErase es (rgAt es seq)) F ∧ Step H H' (q :: F) (q :: F)) ?_ ?_
 ·cases hat : rgAt es seq with
  | none =>
   rw [hat] at hix
   have hneg : ix = -1 := hix.symm
   clear hix
   simp (disch := first | omega | (simp only [RY] <;> omega) | decide) only [↓RD, RZ, eq_self, Int.reduceToNat, Int.reduceAdd, Nat.reduceAdd, Nat.reduceSub, Nat.reduceMul, Nat.reduceLeDiff]
   exact ⟨v, hv1, hr1, s1.step _⟩
  | some i =>
   have hi := rgAt_lt hat
   rw [hat] at hix
   have hpos : ix = ((i : Nat) : Int) := hix.symm
   clear hix
   simp (disch := first | omega | (simp only [RY] <;> omega) | decide) only [↓RD, RZ, eq_self, Int.reduceToNat, Int.reduceAdd, Nat.reduceAdd, Nat.reduceSub, Nat.reduceMul, Nat.reduceLeDiff, hv1]
   rw [hpos]
   refine zac (del_ok hr1 hi (by omega)) ?_
   rintro v2 H2 ⟨hr2, s2⟩
   have c2 := hr2.cel
   have n2 := s2.next
   have hv2 : H2.get q = _ := (s2.same q (by omega) out).trans hv1
   simp (disch := first | omega | (simp only [RY] <;> omega) | decide) only [↓RD, RZ, eq_self, Int.reduceToNat, Int.reduceAdd, Nat.reduceAdd, Nat.reduceSub, Nat.reduceMul, Nat.reduceLeDiff, hv2, c2.1, c2.2]
   refine ⟨v2, rfl, hr2.to (by rw [zaH]; omega) fun j hj => zaj _ _ (fun e => out (by rw [← e]; exact hj)), by rw [zaH]; omega, fun j hj hF => ?_, fun j hj => .inl hj⟩
   rw [List.mem_cons, not_or] at hF
   rw [zaj _ _ hF.1, s2.same j (by omega) hF.2, s1.same j hj]
 ·rintro _ H2 ⟨rfl, v2, hv2, hr2, s2⟩
  have n2 := s2.next
  have hb2 : R7.By lo H2 bv l := hb.step s2 fun i hi hF => by
   have := hbd i hi
   rcases List.mem_cons.1 hF with h | h
   ·exact this.1 h
   ·exact this.2 h
  have hlen := rgErase_len es (rgAt es seq)
  obtain ⟨es1, hes1⟩ : ∃ es1, rgErase es (rgAt es seq) = es1 := ⟨_, rfl⟩
  rw [hes1] at hr2 hlen
  simp (disch := first | omega | (simp only [RY] <;> omega) | decide) only [↓RD, RZ, eq_self, Int.reduceToNat, Int.reduceAdd, Nat.reduceAdd, Nat.reduceSub, Nat.reduceMul, Nat.reduceLeDiff, hv2]
  refine zac (R7.Clone_ok hb2 (by omega)) ?_
  rintro cb H3 ⟨hcb, s3⟩
  have n3 := s3.next
  have ccb := hcb.cel
  have hv3 : H3.get q = _ := (s3.same q (by omega)).trans hv2
  have hr3 := hr2.to n3 fun i hi => s3.same i (hr2.low i hi)
  have u3 : H3.get q = H2.get q := s3.same q (by omega)
  simp (disch := first | omega | (simp only [RY] <;> omega) | decide) only [↓RD, RZ, eq_self, Int.reduceToNat, Int.reduceAdd, Nat.reduceAdd, Nat.reduceSub, Nat.reduceMul, Nat.reduceLeDiff, u3, ccb.1, ccb.2]
  refine okb_put (seq := seq) (b := cb) hr3 (by omega) fun v4 H4 F4 hr4 s4 => ?_
  have c4 := hr4.cel
  have n4 := s4.next
  have out4 : q ∉ F4 := fun h => by
   rcases s4.own q h with h | h
   ·exact out h
   ·omega
  have hv4 : H4.get q = _ := (s4.same q (by omega) out).trans hv3
  have hcb4 : R7.By H2.next H4 cb l := hcb.step s4 fun i hi hF => by
   have h1 := (hcb.own i hi).1
   have h2 := hr2.low i hF
   omega
  simp (disch := first | omega | (simp only [RY] <;> omega) | decide) only [↓RD, RZ, eq_self, Int.reduceToNat, Int.reduceAdd, Nat.reduceAdd, Nat.reduceSub, Nat.reduceMul, Nat.reduceLeDiff, hv4, c4.1, c4.2]
  generalize hH5 : Heap.set H4 _ _ = H5
  have n5 : H5.next = H4.next := by rw [← hH5]; rfl
  have hv5 : H5.get q = some ⟨zch, [v4], none⟩ := by rw [← hH5]; exact zaq _ _ _
  have hs5 : ∀ i, i ≠ q → H5.get i = H4.get i := fun i hi => by rw [← hH5]; exact zaj _ _ hi
  clear hH5
  have hr5 := hr4.to (H' := H5) (by omega) fun i hi => hs5 i fun e => out4 (by rw [← e]; exact hi)
  have hcb5 : R7.By H2.next H5 cb l := hcb4.step (F := [q]) (F' := []) ⟨by omega, fun i hi hF => hs5 i fun e => hF (by rw [e]; exact List.mem_singleton.2 rfl), fun i hi => by cases hi⟩ fun i hi hF => by
   have h1 := (hcb.own i hi).1
   have := List.mem_singleton.1 hF
   omega
  have s5 : Step H H5 (q :: F) (q :: F4) := by
   refine ⟨by omega, fun i hi hF => ?_, fun i hi => ?_⟩
   ·have hF' := hF
    rw [List.mem_cons, not_or] at hF'
    rw [hs5 i hF'.1, s4.same i (by omega) hF'.2, s3.same i (by omega), s2.same i hi hF]
   ·rcases List.mem_cons.1 hi with rfl | hi
    ·exact .inl (List.mem_cons_self ..)
    ·rcases s4.own i hi with h | h
     ·exact .inl (List.mem_cons_of_mem _ h)
     ·exact .inr (by omega)
  have hF4 : ∀ i, cb.pid = some i → i ≠ q ∧ i ∉ F4 := fun i hi => by
   have h1 := (hcb.own i hi)
   refine ⟨by omega, fun hF => ?_⟩
   rcases s4.own i hF with h | h
   ·have := hr2.low i h
    omega
   ·omega
  simp (disch := first | omega | (simp only [RY] <;> omega) | decide) only [↓RD, RZ, eq_self, Int.reduceToNat, Int.reduceAdd, Nat.reduceAdd, Nat.reduceSub, Nat.reduceMul, Nat.reduceLeDiff, hv5, hr5.vlen]
  by_cases h64 : 64 < (es1 ++ [(seq, cb)]).length
  ·simp (disch := first | omega | (simp only [RY] <;> omega) | decide) only [↓RD, RZ, eq_self, Int.reduceToNat, Int.reduceAdd, Nat.reduceAdd, Nat.reduceSub, Nat.reduceMul, Nat.reduceLeDiff, hv5]
   refine zac (show Ok (sem T zar [v4, .int .i64 0, .int .i64 1]) H5 fun r H' => RgS H' r ((es1 ++ [(seq, cb)]).eraseIdx 0) F4 ∧ Step H5 H' F4 F4 from del_ok hr5 (i := 0) (by omega) (by rw [List.length_append]; simp; omega)) ?_
   rintro v6 H6 ⟨hr6, s6⟩
   have c6 := hr6.cel
   have n6 := s6.next
   have hv6 : H6.get q = _ := (s6.same q (by omega) out4).trans hv5
   simp (disch := first | omega | (simp only [RY] <;> omega) | decide) only [↓RD, RZ, eq_self, Int.reduceToNat, Int.reduceAdd, Nat.reduceAdd, Nat.reduceSub, Nat.reduceMul, Nat.reduceLeDiff, hv6, c6.1, c6.2]
   have et : rgAdd es seq cb = (es1 ++ [(seq, cb)]).eraseIdx 0 := by unfold rgAdd rgTrim; rw [hes1, if_pos h64]
   refine ⟨F4, cb, ?_⟩
   rw [et]
   refine ⟨⟨⟨v6, zaq _ _ _, hr6.to (by rw [zaH]; omega) fun j hj => zaj _ _ fun e => out4 (by rw [← e]; exact hj)⟩, by rw [zaH]; omega, out4⟩, ⟨by rw [zaH]; omega, fun i hi hF => ?_, fun i hi => ?_⟩, ?_, ?_, hF4⟩
   ·have hF' := hF
    rw [List.mem_cons, not_or] at hF'
    have hF4' : i ∉ F4 := fun h => by
     rcases s4.own i h with h | h
     ·exact hF'.2 h
     ·omega
    rw [zaj _ _ hF'.1, s6.same i (by omega) hF4', s5.same i hi hF]
   ·rcases s5.own i hi with h | h
    ·exact .inl h
    ·exact .inr (by rw [zaH]; omega)
   ·rw [List.length_eraseIdx_of_lt (by omega), List.length_append]; simp; omega
   ·refine ((hcb5.step s6 fun i hi hF => (hF4 i hi).2 hF).setn (fun e => (hF4 q e).1 rfl) _).low (by omega)
  ·simp (disch := first | omega | (simp only [RY] <;> omega) | decide) only [↓RD, RZ, eq_self, Int.reduceToNat, Int.reduceAdd, Nat.reduceAdd, Nat.reduceSub, Nat.reduceMul, Nat.reduceLeDiff]
   have et : rgAdd es seq cb = es1 ++ [(seq, cb)] := by unfold rgAdd rgTrim; rw [hes1, if_neg h64]
   refine ⟨F4, cb, ?_⟩
   rw [et]
   exact ⟨⟨⟨v4, hv5, hr5⟩, by omega, out4⟩, s5, by omega, hcb5.low (by omega), hF4⟩
end Go.Ax.LN
/- Rtp2 -/
namespace Go.Ax
end Go.Ax
namespace Go.Ax.R7
open Go.Ax
abbrev X : Type := Int × List Nat
def xc (w : X × V) : List V := [.int .i64 w.1.1, w.2]
structure Exs (lo : Nat) (H : Heap) (v : V) (xs : List X) : Prop where
 ex : ∃ ws : List (X × V), ws.map (·.1) = xs ∧ Lc 2 lo H v (ws.map xc).flatten ws.length ∧ ∀ w ∈ ws, By lo H w.2 w.1.2
theorem Exs.nil {lo : Nat} {H : Heap} : Exs lo H .nils [] := ⟨[], rfl, Lc.nil, fun w h => by cases h⟩
theorem Exs.keep {lo : Nat} {H H' : Heap} {v : V} {xs : List X} (h : Exs lo H v xs) (k : Keep lo H H') : Exs lo H' v xs := by
 obtain ⟨ws, h1, h2, h3⟩ := h
 exact ⟨ws, h1, h2.keep k, fun w hw => (h3 w hw).keep k⟩
theorem Exs.ext {lo : Nat} {H H' : Heap} {v : V} {xs : List X} (h : Exs lo H v xs) (k : Grow H H') : Exs lo H' v xs := h.keep (k.keep lo)
theorem Exs.low {lo lo' : Nat} {H : Heap} {v : V} {xs : List X} (h : Exs lo H v xs) (hl : lo' ≤ lo) : Exs lo' H v xs := by
 obtain ⟨ws, h1, h2, h3⟩ := h
 exact ⟨ws, h1, h2.low hl, fun w hw => (h3 w hw).low hl⟩
theorem Exs.vlen {lo : Nat} {H : Heap} {v : V} {xs : List X} (h : Exs lo H v xs) : Ax.vlen v = some (.int .i64 (xs.length : Nat)) := by
 obtain ⟨ws, rfl, h2, h3⟩ := h
 rw [h2.vlen, List.length_map]
theorem Exs.cells1 {lo : Nat} {H : Heap} {v : V} {xs : List X} (h : Exs lo H v xs) : v.cells = [v] := by
 obtain ⟨ws, rfl, h2, h3⟩ := h
 exact h2.cells1
theorem Exs.okc {lo : Nat} {H : Heap} {v : V} {xs : List X} (h : Exs lo H v xs) : v.okc = true := by
 obtain ⟨ws, rfl, h2, h3⟩ := h
 exact h2.okc
theorem flat_piece {α : Type} {k : Nat} (es : List (List α)) (h : ∀ x ∈ es, x.length = k) (i : Nat) (hi : i < es.length) : (es.flatten.drop (i * k)).take k = es[i] := (flat_at es h i es[i] (List.getElem?_eq_getElem hi)).1
theorem xc_len (ws : List (X × V)) : ∀ x ∈ ws.map xc, x.length = 2 := fun x hx => by
 obtain ⟨w, _, rfl⟩ := List.mem_map.1 hx
 rfl
theorem Exs.at {lo : Nat} {H : Heap} {v : V} {xs : List X} (h : Exs lo H v xs) {i : Nat} (hi : i < xs.length) : ∃ p bv, (∀ {k : IntKind}, Ax.iaddr none 2 v (.int k i) = some p) ∧ Pl H p [.int .i64 xs[i].1, bv] v.pid ∧ By lo H bv xs[i].2 := by
 obtain ⟨ws, rfl, h2, h3⟩ := h
 rw [List.length_map] at hi
 obtain ⟨p, hp, hl⟩ := h2.at (i := (i : Nat)) (by omega) (by omega)
 have e : ((ws.map xc).flatten.drop (i * 2)).take 2 = [.int .i64 ws[i].1.1, ws[i].2] := by
  rw [flat_piece _ (xc_len ws) i (by rw [List.length_map]; exact hi), List.getElem_map]; rfl
 rw [Int.toNat_natCast, e] at hl
 refine ⟨p, ws[i].2, hp, ?_, ?_⟩
 ·simpa using hl
 ·simpa using h3 _ (List.getElem_mem hi)
structure AppX (ty lo : Nat) (H : Heap) (v : V) (xs : List X) : Prop where
 ex : ∃ ws : List (X × V), ws.map (·.1) = xs ∧ App ty 2 lo H v (ws.map xc).flatten ws.length ∧ ∀ w ∈ ws, By lo H w.2 w.1.2 ∧ ∀ id, w.2.pid = some id → v.pid ≠ some id
theorem AppX.exs {ty lo : Nat} {H : Heap} {v : V} {xs : List X} (h : AppX ty lo H v xs) : Exs lo H v xs := by
 obtain ⟨ws, h1, h2, h3⟩ := h
 exact ⟨ws, h1, h2.lc, fun w hw => (h3 w hw).1⟩
theorem AppX.nil {ty lo : Nat} {H : Heap} : AppX ty lo H .nils [] := ⟨[], rfl, App.nil, fun w h => by cases h⟩
theorem App.keep {ty e lo n : Nat} {H H' : Heap} {v : V} {cells : List V} (h : App ty e lo H v cells n) (k : Keep lo H H') : App ty e lo H' v cells n := by
 cases h with
 | opn h ho => exact .opn (h.to fun i hi => k.same i (ho i hi).1 (ho i hi).2) fun i hi => ⟨(ho i hi).1, Nat.lt_of_lt_of_le (ho i hi).2 k.next⟩
 | lit h h0 h1 => exact .lit (by rw [k.same _ h0 h1, h]) h0 (Nat.lt_of_lt_of_le h1 k.next)
theorem AppX.keep {ty lo : Nat} {H H' : Heap} {v : V} {xs : List X} (h : AppX ty lo H v xs) (k : Keep lo H H') : AppX ty lo H' v xs := by
 obtain ⟨ws, h1, h2, h3⟩ := h
 exact ⟨ws, h1, App.keep h2 k, fun w hw => ⟨(h3 w hw).1.keep k, (h3 w hw).2⟩⟩
/-! One element. -/
def eid (one : Bool) (l : List Nat) : Nat := if one then l.getD 0 0 / 16 else l.getD 0 0
def efrom (one : Bool) : Nat := if one then 1 else 2
def enum (one : Bool) (l : List Nat) : Nat := if one then l.getD 0 0 % 16 + 1 else l.getD 1 0
def ebad (one : Bool) (l : List Nat) : Prop := eid one l = 0 ∨ l.length < efrom one + enum one l
instance (one : Bool) (l : List Nat) : Decidable (ebad one l) := by unfold ebad; infer_instance
end Go.Ax.R7
/- Rtp3 -/
namespace Go.Ax.R7
open Go.Ax
end Go.Ax.R7
/- Rtp4 -/
namespace Go.Ax.R7
open Go.Ax
def by32 (n : Nat) : V := .int .u32 n
structure Pkt where
 mark : Bool
 typ : Int
 seq : Nat
 ts : Nat
 ssrc : Nat
 csrc : List Nat
 prof : Int
 exts : List X
 pad : Int
 pay : List Nat
def pcells (p : Pkt) (cv xv pv : V) : List V := [.bool p.mark, .int .i64 p.typ, .int .u16 p.seq, .int .u32 p.ts, .int .u32 p.ssrc, cv, .int .i64 p.prof, xv, .int .i64 p.pad, pv]
structure PkR (lo : Nat) (H : Heap) (v : V) (p : Pkt) : Prop where
 ex : ∃ cv xv pv, v = .agg (pcells p cv xv pv) ∧ Lc 1 lo H cv (p.csrc.map by32) p.csrc.length ∧ Exs lo H xv p.exts ∧ By lo H pv p.pay
theorem PkR.keep {lo : Nat} {H H' : Heap} {v : V} {p : Pkt} (h : PkR lo H v p) (k : Keep lo H H') : PkR lo H' v p := by
 obtain ⟨cv, xv, pv, h1, h2, h3, h4⟩ := h
 exact ⟨cv, xv, pv, h1, h2.keep k, h3.keep k, h4.keep k⟩
theorem PkR.ext {lo : Nat} {H H' : Heap} {v : V} {p : Pkt} (h : PkR lo H v p) (k : Grow H H') : PkR lo H' v p := h.keep (k.keep lo)
theorem PkR.low {lo lo' : Nat} {H : Heap} {v : V} {p : Pkt} (h : PkR lo H v p) (hl : lo' ≤ lo) : PkR lo' H v p := by
 obtain ⟨cv, xv, pv, h1, h2, h3, h4⟩ := h
 exact ⟨cv, xv, pv, h1, h2.low hl, h3.low hl, h4.low hl⟩
def zeroP : Pkt := ⟨false, 0, 0, 0, 0, [], 0, [], 0, []⟩
theorem PkR.zero {lo : Nat} {H : Heap} : PkR lo H (.agg [.bool false, .int .i64 0, .int .u16 0, .int .u32 0, .int .u32 0, .nils, .int .i64 0, .nils, .int .i64 0, .nils]) zeroP := ⟨.nils, .nils, .nils, rfl, Lc.nil, Exs.nil, Lc.nil⟩
def piece (b : List Nat) (i n : Nat) : List Nat := (b.drop i).take n
end Go.Ax.R7
/- Rtp5 -/
namespace Go.Ax.R7
open Go.Ax
def zeroC : List V := [.bool false, .int .i64 0, .int .u16 0, .int .u32 0, .int .u32 0, .nils, .int .i64 0, .nils, .int .i64 0, .nils]
end Go.Ax.R7
/- Rtp6 -/
namespace Go.Ax.R7
open Go.Ax
end Go.Ax.R7
/- Rtp7 -/
namespace Go.Ax.R7
open Go.Ax
theorem w_at {lo : Nat} {H : Heap} {v : V} {l : List Nat} (h : Lc 1 lo H v (l.map by32) l.length) {i : Nat} (hi : i < l.length) : ∃ p, (∀ {k : IntKind}, Ax.iaddr none 1 v (.int k i) = some p) ∧ LdR none H p (.int .u32 (l[i] : Nat)) := by
 obtain ⟨p, hp, hl⟩ := h.at (i := (i : Nat)) (by omega) (by omega)
 have e : ((l.map by32).drop ((i : Int).toNat * 1)).take 1 = [by32 l[i]] := by
  rw [Nat.mul_one, Int.toNat_natCast, ← List.map_drop, List.drop_eq_getElem_cons hi]; rfl
 rw [e] at hl
 refine ⟨p, hp, fun f Q => ?_⟩
 rw [hl.ld0 (by simp)]
 exact b_lift
theorem pl_two {H : Heap} {p a b : V} {own : Option Nat} (h : Pl H p [a, b] own) : LdR none H (fa p 0) a ∧ LdR none H (fa p 1) b :=
 ⟨fun f Q => by rw [h.ld (by simp)]; exact b_lift, fun f Q => by rw [h.ld (by simp)]; exact b_lift⟩
theorem Exs.own {lo : Nat} {H : Heap} {v : V} {xs : List X} (h : Exs lo H v xs) : ∀ id, v.pid = some id → lo ≤ id ∧ id < H.next := by
 obtain ⟨ws, rfl, h2, h3⟩ := h
 exact h2.own
end Go.Ax.R7
/- Rtp8 -/
namespace Go.Ax.R7
open Go.Ax
structure Fit (p : Pkt) : Prop where
 a : p.csrc.length ≤ 15
 b : p.exts.length ≤ 1200
 c : p.pay.length ≤ 1200
 d : ∀ x ∈ p.exts, x.2.length ≤ 1200
end Go.Ax.R7
namespace Go.Ax
open R7
end Go.Ax
/- Rtp9 -/
namespace Go.Ax.R7
open Go.Ax
structure Sml (p : Pkt) : Prop where
 a : p.csrc.length ≤ 1048576
 b : p.exts.length ≤ 1048576
 c : p.pay.length ≤ 1048576
 d : ∀ x ∈ p.exts, x.2.length ≤ 1048576
def idxV : Option Nat → V
 | some i => .int .i64 (i : Nat)
 | none => .int .i64 (-1)
theorem IndexFunc_ok {lo : Nat} {H : Heap} {v f : V} {xs : List X} (h : Exs lo H v xs) (P : X → Bool) (hn : xs.length ≤ 1099511627776)
  (hf : ∀ H', Grow H H' → ∀ (x : X) (bv : V), By lo H' bv x.2 → Ok (callv (sem T) f [.agg [.int .i64 x.1, bv]]) H' fun r H'' => r = .bool (P x) ∧ Grow H' H'') :
  Ok (sem T zaG [v, f]) H fun r H' => r = idxV (xs.findIdx? P) ∧ Grow H H' := by
 refine zcI ?_
 unfold zbL
 simp (disch := omega) only [↓RD, RZ, h.vlen]
 refine zaK (fun k L H' => L = [.int .i64 (k : Nat)] ∧ Grow H H' ∧ ∀ j (hj : j < xs.length), j < k → P xs[j] = false) xs.length ?_ ?_ ?_
 ·exact ⟨rfl, Grow.refl _, fun j hj hk => absurd hk (by omega)⟩
 ·rintro k L H1 hk ⟨rfl, s1, hP⟩
  obtain ⟨q, bv, i1, l1, w1⟩ := (h.ext s1).at hk
  have l2 := l1.all
  dsimp only [List.length_cons, List.length_nil] at l2
  unfold za6
  simp (disch := omega) only [↓RD, RZ, i1, l2]
  refine zac (hf H1 s1 _ bv w1) ?_
  rintro _ H2 ⟨rfl, s2⟩
  cases hp : P xs[k] with
  | true =>
   simp (disch := omega) only [↓RD, RZ]
   refine ⟨?_, s1.trans s2⟩
   have : xs.findIdx? P = some k := List.findIdx?_eq_some_iff_getElem.2 ⟨hk, hp, fun j hj => by rw [hP j (by omega) hj]; decide⟩
   rw [this]; rfl
  | false =>
   simp (disch := omega) only [↓RD, RZ]
   refine ⟨by rfl, s1.trans s2, fun j hj hjk => ?_⟩
   rcases Nat.lt_or_ge j k with h | h
   ·exact hP j hj h
   ·have : j = k := by omega
    subst this; exact hp
 ·rintro L H1 ⟨rfl, s1, hP⟩
  unfold za6
  simp (disch := omega) only [↓RD, RZ]
  refine ⟨?_, s1⟩
  have : xs.findIdx? P = none := List.findIdx?_eq_none_iff.2 fun x hx => by
   obtain ⟨j, hj, rfl⟩ := List.getElem_of_mem hx
   exact hP j hj hj
  rw [this]; rfl
def fd (a : Int) (xs : List X) : Option Nat := xs.findIdx? fun x => x.1 == a
theorem fd_lt {a : Int} {xs : List X} {i : Nat} (h : fd a xs = some i) : i < xs.length := (List.findIdx?_eq_some_iff_getElem.1 h).1
theorem at_ok {lo : Nat} {H : Heap} {v : V} {p : Pkt} (h : PkR lo H v p) (a : Int) (hn : p.exts.length ≤ 1099511627776) :
  Ok (sem T zeI [v, .int .i64 a]) H fun r H' => r = idxV (fd a p.exts) ∧ Grow H H' := by
 obtain ⟨cv, xv, pv, rfl, hc, hx, hp⟩ := h
 refine zhs ?_
 unfold zg7
 unfold pcells
 simp (disch := first | omega | (simp only [RY] <;> omega) | decide) only [↓RD, RZ, Nat.reduceAdd, hc.cells1, hx.cells1, hp.cells1, hc.okc, hx.okc, hp.okc]
 generalize hH2 : Heap.new (Heap.new H _) _ = H2
 have s2 : Grow H H2 := by rw [← hH2]; exact (Grow.new _ _).trans (Grow.new _ _)
 have n2 : H2.next = H.next + 2 := by rw [← hH2]; rfl
 have g2 : H2.get (H.next + 1) = some ⟨zcy, [.int .i64 a], none⟩ := by rw [← hH2]; exact zak _ _
 clear hH2
 refine zac (IndexFunc_ok (hx.ext s2) (fun x => x.1 == a) hn fun H3 s3 x bv hb => ?_) ?_
 ·have g3 : H3.get (H.next + 1) = _ := (s3.same _ (by omega)).trans g2
  have n3 := s3.next
  show Ok (sem T zef [.agg [.int .i64 x.1, bv], .ptr (H.next + 1) 0]) H3 _
  refine zgP ?_
  unfold zge
  simp (disch := first | omega | (simp only [RY] <;> omega) | decide) only [↓RD, RZ, Nat.reduceAdd, hb.cells1, hb.okc, g3]
  exact Grow.new _ _
 ·rintro _ H3 ⟨rfl, s3⟩
  simp (disch := first | omega | (simp only [RY] <;> omega) | decide) only [↓RD, RZ, Nat.reduceAdd]
  exact ⟨rfl, s2.trans s3⟩
def FQ (lo : Nat) (H : Heap) (o : Option (List Nat)) (r : V) : Prop := match o with
 | none => r = .tup [.nils, .bool false]
 | some l => ∃ bv, r = .tup [bv, .bool true] ∧ By lo H bv l
def got (a : Int) (p : Pkt) : Option (List Nat) := (p.exts.find? fun x => x.1 == a).map (·.2)
theorem got_some {a : Int} {p : Pkt} {i : Nat} (h : fd a p.exts = some i) : got a p = some (p.exts[i]'(fd_lt h)).2 := by
 obtain ⟨h1, h2, h3⟩ := List.findIdx?_eq_some_iff_getElem.1 h
 unfold got
 have : p.exts.find? (fun x => x.1 == a) = some p.exts[i] := List.find?_eq_some_iff_getElem.2 ⟨h2, i, h1, rfl, fun j hj => by simpa using h3 j hj⟩
 rw [this]; rfl
theorem got_none {a : Int} {p : Pkt} (h : fd a p.exts = none) : got a p = none := by
 have := List.findIdx?_eq_none_iff.1 h
 unfold got
 rw [List.find?_eq_none.2 fun x hx => by rw [this x hx]; decide]; rfl
end Go.Ax.R7
/- Rtp10 -/
namespace Go.Ax.R7
open Go.Ax
theorem ze8 {β : Type} {ty size id off : Nat} {x : V} {H : Heap} {f : V → M β} {Q : β → Heap → Prop} {cells cells' : List V} {o : Option Nat} (hb : H.get id = some ⟨ty, cells, o⟩) (hc : x.cells.length = size ∧ off + size ≤ cells.length ∧ x.okc = true) (he : splice cells off x.cells = cells')
  (h : Ok (f .undef) (H.set id (some ⟨ty, cells', o⟩)) Q) : @StK β (H.get id) size id off x H ⟨f⟩ ⟨Q⟩ := by
 rw [hb]
 exact ⟨hc, by rw [he]; exact h⟩
def fl (ws : List (X × V)) : List V := (ws.map xc).flatten
theorem fl_len (ws : List (X × V)) : (fl ws).length = ws.length * 2 := by
 unfold fl
 induction ws with
 | nil => rfl
 | cons w ws ih => simp only [List.map_cons, List.flatten_cons, List.length_append, ih, List.length_cons]; simp [xc]; omega
theorem fl_set1 : ∀ (ws : List (X × V)) (k : Nat) (w : X × V), k < ws.length → (∀ u, ws[k]? = some u → u.1.1 = w.1.1) → splice (fl ws) (k * 2 + 1) [w.2] = fl (ws.set k w) := by
 intro ws
 induction ws with
 | nil => intro k w h; simp at h
 | cons u ws ih =>
  intro k w h hu
  cases k with
  | zero => simp [splice, fl, xc, hu u rfl]
  | succ k =>
   have := ih k w (by simpa using h) (by simpa using hu)
   unfold fl splice at this
   unfold fl splice
   have e1 : (k + 1) * 2 + 1 = k * 2 + 1 + 1 + 1 := by omega
   have e2 : k * 2 + 1 + 1 + 1 + [w.2].length = k * 2 + 1 + [w.2].length + 1 + 1 := by simp
   rw [e1, e2]
   simp only [List.map_cons, List.flatten_cons, xc, List.cons_append, List.nil_append, List.take_succ_cons, List.drop_succ_cons, List.set_cons_succ]
   try simp only [xc] at this
   rw [← this]
structure Own (ty lo : Nat) (H : Heap) (v : V) (ws : List (X × V)) : Prop where
 ex : (v = .nils ∧ ws = []) ∨ ∃ id cap o, v = .sl id 0 ws.length cap ∧ H.get id = some ⟨ty, fl ws, o⟩ ∧ lo ≤ id ∧ id < H.next ∧ V.capOk 2 v
theorem Own.lc {ty lo : Nat} {H : Heap} {v : V} {ws : List (X × V)} (h : Own ty lo H v ws) : Lc 2 lo H v (fl ws) ws.length := by
 rcases h.ex with ⟨rfl, rfl⟩ | ⟨id, cap, o, rfl, hb, h1, h2, h3⟩
 ·exact Lc.nil
 ·refine ⟨?_, fun i hi => ?_, h3⟩
  ·simp only [rcells, hb, Option.bind_some]
   rw [if_pos (by rw [fl_len]; omega), List.drop_zero, List.take_of_length_le (by rw [fl_len]; exact Nat.le_refl _)]
  ·simp only [V.pid, Option.some.injEq] at hi; subst hi; exact ⟨h1, h2⟩
theorem Own.exs {ty lo lo' : Nat} {H : Heap} {v : V} {ws : List (X × V)} (h : Own ty lo H v ws) (hl : lo' ≤ lo) (hw : ∀ w ∈ ws, By lo' H w.2 w.1.2) : Exs lo' H v (ws.map (·.1)) :=
 ⟨ws, rfl, h.lc.low hl, hw⟩
theorem Own.to {ty lo : Nat} {H H' : Heap} {v : V} {ws : List (X × V)} (h : Own ty lo H v ws) (hs : ∀ id, v.pid = some id → H'.get id = H.get id) (hn : H.next ≤ H'.next) : Own ty lo H' v ws := by
 rcases h.ex with ⟨rfl, rfl⟩ | ⟨id, cap, o, rfl, hb, h1, h2, h3⟩
 ·exact ⟨.inl ⟨rfl, rfl⟩⟩
 ·exact ⟨.inr ⟨id, cap, o, rfl, by rw [hs id rfl]; exact hb, h1, by omega, h3⟩⟩
theorem app_own {ty lo n : Nat} {H : Heap} {v : V} {cells : List V} (h : App ty 2 lo H v cells n) {ws : List (X × V)} (hc : cells = fl ws) (hn : n = ws.length) : Own ty lo H v ws := by
 cases h with
 | opn h ho =>
  rcases h with ⟨rfl, _, h0⟩ | ⟨id, rfl, hb, hl⟩
  ·have : ws = [] := List.eq_nil_of_length_eq_zero (by omega)
   exact ⟨.inl ⟨rfl, this⟩⟩
  ·obtain ⟨h1, h2⟩ := ho id rfl
   subst hc hn
   exact ⟨.inr ⟨id, _, _, rfl, hb, h1, h2, rfl⟩⟩
 | lit h h0 h1 =>
  have : ws = [] := List.eq_nil_of_length_eq_zero (by omega)
  subst this
  exact ⟨.inr ⟨_, _, _, rfl, h, h0, h1, Nat.le_refl _⟩⟩
theorem Own.at {ty lo : Nat} {H : Heap} {v : V} {ws : List (X × V)} (h : Own ty lo H v ws) {i : Nat} (hi : i < ws.length) : ∃ id cap o, v = .sl id 0 ws.length cap ∧ H.get id = some ⟨ty, fl ws, o⟩ ∧ lo ≤ id ∧ id < H.next ∧ (∀ {k : IntKind}, Ax.iaddr none 2 v (.int k i) = some (.ptr id (i * 2))) ∧ ∀ ws' : List (X × V), ws'.length = ws.length → ∀ H', H'.get id = some ⟨ty, fl ws', o⟩ → H.next ≤ H'.next → Own ty lo H' v ws' := by
 rcases h.ex with ⟨rfl, rfl⟩ | ⟨id, cap, o, rfl, hb, h1, h2, h3⟩
 ·simp at hi
 ·refine ⟨id, cap, o, rfl, hb, h1, h2, fun {k} => ?_, fun ws' hl H' hb' hn => ⟨.inr ⟨id, cap, o, by rw [hl], hb', h1, by omega, by simpa [V.capOk, hl] using h3⟩⟩⟩
  have := zeX (id := id) (off := 0) (len := ws.length) (c := cap) (k := k) (i := ((i : Nat) : Int)) (e := 2) (by omega) (by omega)
  simpa using this
theorem CloneX_ok {lo : Nat} {H : Heap} {v : V} {ws : List (X × V)} (h : Lc 2 lo H v (fl ws) ws.length) (hl : ws.length ≤ 1048576) : Ok (sem T za1 [v]) H fun r H' => Own zbf H.next H' r ws ∧ Grow H H' := by
 refine zc4 ?_
 unfold zbZ
 rcases h.cases with ⟨rfl, hc, hn⟩ | ⟨id, off, cap, b, rfl, _⟩ | ⟨cs, rfl, _⟩
 ·simp (disch := omega) only [↓RD, RZ]
  exact ⟨⟨.inl ⟨rfl, List.eq_nil_of_length_eq_zero hn⟩⟩, Grow.refl _⟩
 ·simp (disch := omega) only [↓RD, RZ]
  refine okb_copy h.ac (fun i hi => (h.own i hi).2) (fl_len ws) (by omega) (by omega) fun x' H' ha hg => ?_
  simp (disch := omega) only [↓RD, RZ]
  exact ⟨app_own ha rfl rfl, hg⟩
 ·simp (disch := omega) only [↓RD, RZ]
  refine okb_copy h.ac (fun i hi => (h.own i hi).2) (fl_len ws) (by omega) (by omega) fun x' H' ha hg => ?_
  simp (disch := omega) only [↓RD, RZ]
  exact ⟨app_own ha rfl rfl, hg⟩
theorem CloneW_ok {lo : Nat} {H : Heap} {v : V} {l : List Nat} (h : Lc 1 lo H v (l.map by32) l.length) (hl : l.length ≤ 1048576) : Ok (sem T za8 [v]) H fun r H' => Lc 1 H.next H' r (l.map by32) l.length ∧ Grow H H' := by
 refine zdk ?_
 unfold zcc
 rcases h.cases with ⟨rfl, hc, hn⟩ | ⟨id, off, cap, b, rfl, _⟩ | ⟨cs, rfl, _⟩
 ·simp (disch := omega) only [↓RD, RZ]
  have : l = [] := List.eq_nil_of_length_eq_zero hn
  subst this
  exact ⟨Lc.nil, Grow.refl _⟩
 ·simp (disch := omega) only [↓RD, RZ]
  refine okb_copy h.ac (fun i hi => (h.own i hi).2) (by simp) (by omega) (by omega) fun x' H' ha hg => ?_
  simp (disch := omega) only [↓RD, RZ]
  exact ⟨ha.lc, hg⟩
 ·simp (disch := omega) only [↓RD, RZ]
  refine okb_copy h.ac (fun i hi => (h.own i hi).2) (by simp) (by omega) (by omega) fun x' H' ha hg => ?_
  simp (disch := omega) only [↓RD, RZ]
  exact ⟨ha.lc, hg⟩
structure PkO (ty lo : Nat) (H : Heap) (v : V) (p : Pkt) : Prop where
 ex : ∃ cv xv pv ws m1 m2, v = .agg (pcells p cv xv pv) ∧ Lc 1 lo H cv (p.csrc.map by32) p.csrc.length ∧ By lo H pv p.pay ∧ Own ty m1 H xv ws ∧ (∀ id, xv.pid = some id → id < m2) ∧ ws.map (·.1) = p.exts ∧ (∀ w ∈ ws, By m2 H w.2 w.1.2) ∧
  (∀ id, cv.pid = some id → id < m1) ∧ (∀ id, pv.pid = some id → id < m1) ∧ lo ≤ m1 ∧ m1 ≤ m2
theorem PkO.ext {ty lo : Nat} {H H' : Heap} {v : V} {p : Pkt} (h : PkO ty lo H v p) (s : Grow H H') : PkO ty lo H' v p := by
 obtain ⟨cv, xv, pv, ws, m1, m2, h1, h2, h3, h4, h5, h6, h7, h8, h9, h10, h11⟩ := h
 exact ⟨cv, xv, pv, ws, m1, m2, h1, h2.ext s, h3.ext s, h4.to (fun id hi => s.same id (h4.lc.own id hi).2) s.next, h5, h6, fun w hw => (h7 w hw).ext s, h8, h9, h10, h11⟩
theorem copied_ok {lo : Nat} {H : Heap} {v : V} {p : Pkt} (h : PkR lo H v p) (hs : Sml p) : Ok (sem T zdw [v]) H fun r H' => PkO zbf H.next H' r p ∧ Grow H H' := by
 obtain ⟨cv, xv, pv, rfl, hc, hx, hp⟩ := h
 obtain ⟨b1, b2, b3, b4⟩ := hs
 refine zgq ?_
 unfold zfC
 unfold pcells
 simp (disch := first | omega | (simp only [RY] <;> omega) | decide) only [↓RD, RZ, eq_self, Int.reduceToNat, Int.reduceAdd, Nat.reduceAdd, Nat.reduceSub, Nat.reduceMul, Nat.reduceLeDiff, hc.cells1, hx.cells1, hp.cells1, hc.okc, hx.okc, hp.okc]
 generalize hH2 : Heap.new (Heap.new H _) _ = H2
 have n2 : H2.next = H.next + 2 := by rw [← hH2]; rfl
 have s2 : Grow H H2 := by rw [← hH2]; exact (Grow.new _ _).trans (Grow.new _ _)
 have g2 : H2.get H.next = some ⟨zai, pcells p cv xv pv, none⟩ := by rw [← hH2, zay _ _ (by rw [zan]; omega), zak]; rfl
 have z2 : H2.get (H.next + 1) = some ⟨zai, zeroC, none⟩ := by rw [← hH2]; exact zak _ _
 clear hH2
 unfold pcells at g2
 unfold zeroC at z2
 obtain ⟨ws, hws, hx1, hx2⟩ := hx
 have hwl : ws.length = p.exts.length := by rw [← hws, List.length_map]
 refine zac (CloneW_ok (hc.ext s2) b1) ?_
 rintro cv' H3 ⟨hc3, s3⟩
 have n3 := s3.next
 have g3 : H3.get H.next = _ := (s3.same _ (by omega)).trans g2
 simp (disch := first | omega | (simp only [RY] <;> omega) | decide) only [↓RD, RZ, eq_self, Int.reduceToNat, Int.reduceAdd, Nat.reduceAdd, Nat.reduceSub, Nat.reduceMul, Nat.reduceLeDiff, g2, g3]
 refine zac (Clone_ok ((hp.ext s2).ext s3) (by omega)) ?_
 rintro pv' H4 ⟨hp4, s4⟩
 have n4 := s4.next
 have g4 : H4.get H.next = _ := (s4.same _ (by omega)).trans g3
 simp (disch := first | omega | (simp only [RY] <;> omega) | decide) only [↓RD, RZ, eq_self, Int.reduceToNat, Int.reduceAdd, Nat.reduceAdd, Nat.reduceSub, Nat.reduceMul, Nat.reduceLeDiff, g3, g4]
 refine zac (CloneX_ok (((hx1.ext s2).ext s3).ext s4) (by omega)) ?_
 rintro xv' H5 ⟨hx5, s5⟩
 have n5 := s5.next
 have g5 : H5.get H.next = _ := (s5.same _ (by omega)).trans g4
 have z5 : H5.get (H.next + 1) = _ := (s5.same _ (by omega)).trans ((s4.same _ (by omega)).trans ((s3.same _ (by omega)).trans z2))
 have hc5 := (hc3.ext s4).ext s5
 have hp5 := hp4.ext s5
 have e5 := hx5.lc.vlen
 simp (disch := first | omega | (simp only [RY] <;> omega) | decide) only [↓RD, RZ, eq_self, Int.reduceToNat, Int.reduceAdd, Nat.reduceAdd, Nat.reduceSub, Nat.reduceMul, Nat.reduceLeDiff, g5, hc5.cells1, hc5.okc, hp5.cells1, hp5.okc, hx5.lc.cells1, hx5.lc.okc, e5]
 generalize hH6 : Heap.set _ H.next _ = H6
 have n6 : H6.next = H5.next := by rw [← hH6]; rfl
 have s6 : ∀ i, i ≠ H.next → H6.get i = H5.get i := fun i hi => by rw [← hH6]; simp only [zaj _ _ hi]
 have g6 : H6.get H.next = some ⟨zai, pcells p cv' xv' pv', none⟩ := by rw [← hH6, zaq]; rfl
 clear hH6
 unfold pcells at g6
 have low6 : ∀ i, i < H.next → H6.get i = H.get i := fun i hi => by
  rw [s6 i (by omega), s5.same i (by omega), s4.same i (by omega), s3.same i (by omega), s2.same i hi]
 refine zaK (fun k L H' => ∃ ws', L = [.int .i64 (k : Nat)] ∧ H6.next ≤ H'.next ∧ (∀ i, i < H6.next → xv'.pid ≠ some i → H'.get i = H6.get i) ∧ Own zbf H4.next H' xv' ws' ∧ ws'.map (·.1) = p.exts ∧
   ∀ j (hj : j < ws'.length), (j < k → By H6.next H' ws'[j].2 ws'[j].1.2) ∧ (k ≤ j → By lo H ws'[j].2 ws'[j].1.2)) ws.length ?_ ?_ ?_
 ·refine ⟨ws, rfl, Nat.le_refl _, fun _ _ _ => rfl, hx5.to (fun id hi => s6 id (by have := (hx5.lc.own id hi).1; omega)) (by omega), hws, fun j hj => ⟨fun h => absurd h (by omega), fun _ => hx2 _ (List.getElem_mem hj)⟩⟩
 ·rintro k L H7 hk ⟨ws', rfl, n7, s7, ho, hm, hj⟩
  have hl' : ws'.length = ws.length := by rw [hwl, ← hm, List.length_map]
  have hk' : k < ws'.length := by omega
  obtain ⟨id, cap, o, rfl, hb, h1, h2, hi, hset⟩ := ho.at hk'
  have g7 : H7.get H.next = _ := (s7 _ (by omega) (by simp [V.pid]; omega)).trans g6
  have low7 : Grow H H7 := ⟨by omega, fun i hi => by rw [s7 i (by omega) (by simp [V.pid]; omega), low6 i hi]⟩
  have w7 := ((hj k hk').2 (Nat.le_refl _)).ext low7
  have hp2 : (fl ws')[k * 2 + 1]? = some ws'[k].2 := by
   have := hset
   have h8 : ((fl ws').drop (k * 2)).take 2 = xc ws'[k] := by
    have := flat_piece (ws'.map xc) (xc_len ws') k (by rw [List.length_map]; exact hk')
    rw [List.getElem_map] at this; exact this
   have h9 := congrArg (·[1]?) h8
   simpa [xc, List.getElem?_take, List.getElem?_drop] using h9
  have hd : ws'[k].1.2.length ≤ 1048576 := by
   refine b4 ws'[k].1 ?_
   rw [← hm]; exact List.mem_map_of_mem (List.getElem_mem hk')
  have ld : LdR none H7 (.ptr id (k * 2 + 1)) ws'[k].2 := fun f Q => by
   refine zcM ⟨_, _, ?_, rfl, rfl⟩
   simp only [zab, hb, Option.bind_some, ldc, hp2, Option.map_some]
  unfold zdW
  simp (disch := first | omega | (simp only [RY] <;> omega) | decide) only [↓RD, RZ, eq_self, Int.reduceToNat, Int.reduceAdd, Nat.reduceAdd, Nat.reduceSub, Nat.reduceMul, Nat.reduceLeDiff, g7, hi, ld]
  refine zac (Clone_ok w7 (by omega)) ?_
  rintro bv H8 ⟨hb8, s8⟩
  have n8 := s8.next
  have g8 : H8.get H.next = _ := (s8.same _ (by omega)).trans g7
  have q8 : H8.get id = _ := (s8.same _ h2).trans hb
  simp (disch := first | omega | (simp only [RY] <;> omega) | decide) only [↓RD, RZ, eq_self, Int.reduceToNat, Int.reduceAdd, Nat.reduceAdd, Nat.reduceSub, Nat.reduceMul, Nat.reduceLeDiff, g7, g8, hi]
  refine ze8 (size := 1) (off := k * 2 + 1) (cells' := fl (ws'.set k (ws'[k].1, bv))) q8 ⟨by rw [hb8.cells1]; rfl, by rw [fl_len]; omega, hb8.okc⟩ (by rw [hb8.cells1]; exact fl_set1 ws' k (ws'[k].1, bv) hk' (fun u hu => by rw [List.getElem?_eq_getElem hk'] at hu; cases hu; rfl)) ?_
  simp (disch := first | omega | (simp only [RY] <;> omega) | decide) only [↓RD, RZ, eq_self, Int.reduceToNat, Int.reduceAdd, Nat.reduceAdd, Nat.reduceSub, Nat.reduceMul, Nat.reduceLeDiff]
  refine ⟨ws'.set k (ws'[k].1, bv), by rfl, by omega, fun i hi6 hne => ?_, hset _ (by rw [List.length_set]) _ (zaq _ _ _) (by rw [zaH]; omega), ?_, fun j hj8 => ?_⟩
  ·have : i ≠ id := fun e => hne (by rw [e]; rfl)
   rw [zaj _ _ this, s8.same i (by omega), s7 i hi6 hne]
  ·rw [← hm, List.map_set]
   have : (ws'.map (·.1))[k]'(by rw [List.length_map]; exact hk') = ws'[k].1 := by rw [List.getElem_map]
   rw [← this, List.set_getElem_self]
  ·rw [List.length_set] at hj8
   have hlt : id < H6.next := by have := (hx5.lc.own id rfl).2; omega
   refine ⟨fun hjk => ?_, fun hjk => ?_⟩
   ·rcases Nat.lt_or_ge j k with h | h
    ·rw [List.getElem_set_ne (by omega)]
     exact (((hj j hj8).1 h).ext s8).keep (Keep.set _ (by omega) _)
    ·have : j = k := by omega
     subst this
     rw [List.getElem_set_self]
     exact (hb8.low n7).keep (Keep.set _ (by omega) _)
   ·rw [List.getElem_set_ne (by omega)]
    exact (hj j hj8).2 (by omega)
 ·rintro L H7 ⟨ws', rfl, n7, s7, ho, hm, hj⟩
  have hl' : ws'.length = ws.length := by rw [hwl, ← hm, List.length_map]
  have hpid : ∀ id, xv'.pid = some id → H4.next ≤ id ∧ id < H5.next := fun id hi => hx5.lc.own id hi
  have g7 : H7.get H.next = _ := (s7 _ (by omega) (fun e => by have := hpid _ e; omega)).trans g6
  have z7 : H7.get (H.next + 1) = _ := (s7 _ (by omega) (fun e => by have := hpid _ e; omega)).trans ((s6 _ (by omega)).trans z5)
  have low7 : Grow H H7 := ⟨by omega, fun i hi => by rw [s7 i (by omega) (fun e => by have := hpid _ e; omega), low6 i hi]⟩
  have k47 : ∀ i, H.next + 1 < i → i < H4.next → H7.get i = H5.get i := fun i h1 h2 => by rw [s7 i (by omega) (fun e => by have := hpid _ e; omega), s6 i (by omega)]
  have hc7 : Lc 1 (H.next + 2) H7 cv' (p.csrc.map by32) p.csrc.length := ⟨by
   rw [rcells_to fun i hi => k47 i (by have := (hc3.own i hi).1; omega) (by have := (hc3.own i hi).2; omega)]; exact hc5.rc, fun i hi => ⟨by have := (hc3.own i hi).1; omega, by have := (hc3.own i hi).2; omega⟩, hc5.cap⟩
  have hp7 : By (H.next + 2) H7 pv' p.pay := ⟨by
   rw [rcells_to fun i hi => k47 i (by have := (hp4.own i hi).1; omega) (by have := (hp4.own i hi).2; omega)]; exact hp5.rc, fun i hi => ⟨by have := (hp4.own i hi).1; omega, by have := (hp4.own i hi).2; omega⟩, hp5.cap⟩
  unfold zdW
  simp (disch := first | omega | (simp only [RY] <;> omega) | decide) only [↓RD, RZ, eq_self, Int.reduceToNat, Int.reduceAdd, Nat.reduceAdd, Nat.reduceSub, Nat.reduceMul, Nat.reduceLeDiff, g7, z7, hc7.cells1, hc7.okc, hp7.cells1, hp7.okc, ho.lc.cells1, ho.lc.okc]
  refine ⟨⟨cv', xv', pv', ws', H4.next, H6.next, rfl, ?_, ?_, ?_, fun id hi => by have := hpid id hi; omega, hm, fun w hw => ?_, fun id hi => by have := (hc3.own id hi).2; omega, fun id hi => (hp4.own id hi).2, by omega, by omega⟩, low7.set (by omega) _⟩
  ·exact (hc7.keep (Keep.set _ (by omega) _)).low (by omega)
  ·exact (hp7.keep (Keep.set _ (by omega) _)).low (by omega)
  ·exact ho.to (fun id hi => by have := hpid id hi; rw [zaj _ _ (by omega)]) (by rw [zaH]; exact Nat.le_refl _)
  ·obtain ⟨j, hj8, rfl⟩ := List.getElem_of_mem hw
   exact ((hj j hj8).1 (by omega)).keep (Keep.set _ (by omega) _)
end Go.Ax.R7
/- Rtp11 -/
namespace Go.Ax.R7
open Go.Ax
def setp (a : Int) (l : List Nat) (p : Pkt) : Pkt := match fd a p.exts with
 | none => p
 | some i => { p with exts := p.exts.set i (a, l) }
theorem fd_eq {a : Int} {xs : List X} {i : Nat} (h : fd a xs = some i) : (xs[i]'(fd_lt h)).1 = a := by
 have := (List.findIdx?_eq_some_iff_getElem.1 h).2.1
 simpa using this
theorem Set_ok {lo lo' : Nat} {H : Heap} {v d : V} {p : Pkt} {l : List Nat} (h : PkR lo H v p) (hs : Sml p) (a : Int) (hd : By lo' H d l) (hl : l.length ≤ 1048576) :
  Ok (sem T zeY [v, .int .i64 a, d]) H fun r H' => (∃ z, r = .tup [z, .bool (fd a p.exts).isSome] ∧ PkR H.next H' z (setp a l p)) ∧ Grow H H' := by
 have h0 := h
 obtain ⟨cv, xv, pv, rfl, hc, hx, hp⟩ := h
 have hb := hs.b
 refine zhe ?_
 unfold zgJ
 unfold pcells
 simp (disch := first | omega | (simp only [RY] <;> omega) | decide) only [↓RD, RZ, eq_self, Int.reduceToNat, Int.reduceAdd, Nat.reduceAdd, Nat.reduceSub, Nat.reduceMul, Nat.reduceLeDiff, hc.cells1, hx.cells1, hp.cells1, hc.okc, hx.okc, hp.okc]
 generalize hH2 : Heap.new (Heap.new H _) _ = H2
 have n2 : H2.next = H.next + 2 := by rw [← hH2]; rfl
 have s2 : Grow H H2 := by rw [← hH2]; exact (Grow.new _ _).trans (Grow.new _ _)
 have g2 : H2.get H.next = some ⟨zai, pcells p cv xv pv, none⟩ := by rw [← hH2, zay _ _ (by rw [zan]; omega), zak]; rfl
 have z2 : H2.get (H.next + 1) = some ⟨zai, zeroC, none⟩ := by rw [← hH2]; exact zak _ _
 clear hH2
 unfold pcells at g2
 unfold zeroC at z2
 refine zac (copied_ok (h0.ext s2) hs) ?_
 rintro z H3 ⟨hz, s3⟩
 obtain ⟨cv', xv', pv', ws, m1, m2, rfl, hc3, hp3, ho, hm2, hws, hbw, hcm, hpm, hm1, hm12⟩ := hz
 have n3 := s3.next
 have g3 : H3.get H.next = _ := (s3.same _ (by omega)).trans g2
 have z3 : H3.get (H.next + 1) = _ := (s3.same _ (by omega)).trans z2
 unfold pcells
 simp (disch := first | omega | (simp only [RY] <;> omega) | decide) only [↓RD, RZ, eq_self, Int.reduceToNat, Int.reduceAdd, Nat.reduceAdd, Nat.reduceSub, Nat.reduceMul, Nat.reduceLeDiff, g3, hc3.cells1, hc3.okc, hp3.cells1, hp3.okc, ho.lc.cells1, ho.lc.okc]
 generalize hH4 : Heap.set H3 _ _ = H4
 have n4 : H4.next = H3.next := by rw [← hH4, zaH]
 have s4 : ∀ i, i ≠ H.next → H4.get i = H3.get i := fun i hi => by rw [← hH4, zaj _ _ hi]
 have g4 : H4.get H.next = some ⟨zai, pcells p cv' xv' pv', none⟩ := by rw [← hH4, zaq]; rfl
 have k4 : Keep H2.next H3 H4 := by rw [← hH4]; exact Keep.set _ (by omega) _
 clear hH4
 unfold pcells at g4
 have hc4 := hc3.keep k4
 have hp4 := hp3.keep k4
 have ho4 := ho.to (fun id hi => s4 id (by have := (ho.lc.own id hi).1; omega)) (by omega)
 have hb4 : ∀ w ∈ ws, By m2 H4 w.2 w.1.2 := fun w hw => (hbw w hw).keep ⟨by omega, fun i h1 h2 => s4 i (by omega)⟩
 have hx4 : Exs H2.next H4 xv' p.exts := by rw [← hws]; exact ho4.exs (by omega) fun w hw => (hb4 w hw).low (by omega)
 have hz4 : PkR H2.next H4 (.agg (pcells p cv' xv' pv')) p := ⟨cv', xv', pv', rfl, hc4, hx4, hp4⟩
 have low4 : ∀ i, i < H.next → H4.get i = H.get i := fun i hi => by rw [s4 i (by omega), s3.same i (by omega), s2.same i hi]
 refine zac (at_ok hz4 a (by omega)) ?_
 rintro _ H5 ⟨rfl, s5⟩
 have n5 := s5.next
 have g5 : H5.get H.next = _ := (s5.same _ (by omega)).trans g4
 have z5 : H5.get (H.next + 1) = _ := (s5.same _ (by omega)).trans ((s4 _ (by omega)).trans z3)
 have hc5 := hc4.ext s5
 have hp5 := hp4.ext s5
 have hx5 := hx4.ext s5
 have ho5 := ho4.to (fun id hi => s5.same id (ho4.lc.own id hi).2) s5.next
 have low5 : Grow H H5 := ⟨by omega, fun i hi => by rw [s5.same i (by omega), low4 i hi]⟩
 have hwl : ws.length = p.exts.length := by rw [← hws, List.length_map]
 unfold setp
 cases hf : fd a p.exts with
 | none =>
  unfold idxV
  simp (disch := first | omega | (simp only [RY] <;> omega) | decide) only [↓RD, RZ, eq_self, Int.reduceToNat, Int.reduceAdd, Nat.reduceAdd, Nat.reduceSub, Nat.reduceMul, Nat.reduceLeDiff, g5, z5, hc5.cells1, hc5.okc, hp5.cells1, hp5.okc, hx5.cells1, hx5.okc]
  refine ⟨⟨_, rfl, cv', xv', pv', rfl, ?_, ?_, ?_⟩, low5.set (by omega) _⟩
  ·exact (hc5.keep (Keep.set _ (by omega) _)).low (by omega)
  ·exact (hx5.keep (Keep.set _ (by omega) _)).low (by omega)
  ·exact (hp5.keep (Keep.set _ (by omega) _)).low (by omega)
 | some i =>
  have hi := fd_lt hf
  have he := fd_eq hf
  obtain ⟨id, cap, o, rfl, hb5, h1, h2, hia, hset⟩ := ho5.at (i := i) (by omega)
  have hid : id < m2 := hm2 id rfl
  unfold idxV
  simp (disch := first | omega | (simp only [RY] <;> omega) | decide) only [↓RD, RZ, eq_self, Int.reduceToNat, Int.reduceAdd, Nat.reduceAdd, Nat.reduceSub, Nat.reduceMul, Nat.reduceLeDiff, g5]
  refine zac (Clone_ok (hd.ext low5) (by omega)) ?_
  rintro bv H6 ⟨hb6, s6⟩
  have n6 := s6.next
  have g6 : H6.get H.next = _ := (s6.same _ (by omega)).trans g5
  have z6 : H6.get (H.next + 1) = _ := (s6.same _ (by omega)).trans z5
  have q6 : H6.get id = _ := (s6.same _ h2).trans hb5
  simp (disch := first | omega | (simp only [RY] <;> omega) | decide) only [↓RD, RZ, eq_self, Int.reduceToNat, Int.reduceAdd, Nat.reduceAdd, Nat.reduceSub, Nat.reduceMul, Nat.reduceLeDiff, g5, g6, hia]
  refine ze8 (size := 1) (off := i * 2 + 1) (cells' := fl (ws.set i ((a, l), bv))) q6 ⟨by rw [hb6.cells1]; rfl, by rw [fl_len]; omega, hb6.okc⟩ (by
   rw [hb6.cells1]
   exact fl_set1 ws i ((a, l), bv) (by omega) (fun u hu => by
    rw [List.getElem?_eq_getElem (by omega)] at hu; cases hu
    have : (ws.map (·.1))[i]? = p.exts[i]? := by rw [hws]
    rw [List.getElem?_map, List.getElem?_eq_getElem (by omega), List.getElem?_eq_getElem (by omega)] at this
    simp only [Option.map_some, Option.some.injEq] at this
    rw [this]; exact he)) ?_
  generalize hH7 : Heap.set H6 id _ = H7
  have n7 : H7.next = H6.next := by rw [← hH7, zaH]
  have s7 : ∀ j, j ≠ id → H7.get j = H6.get j := fun j hj => by rw [← hH7, zaj _ _ hj]
  have q7 : H7.get id = some ⟨zbf, fl (ws.set i ((a, l), bv)), o⟩ := by rw [← hH7, zaq]
  clear hH7
  have g7 : H7.get H.next = _ := (s7 _ (by omega)).trans g6
  have z7 : H7.get (H.next + 1) = _ := (s7 _ (by omega)).trans z6
  have k7 : At1 id H5 H7 := ⟨by omega, fun j hj hne => by rw [s7 j hne, s6.same j hj]⟩
  have hc7 := hc5.at1 k7 (fun e => by have := hcm _ e; omega)
  have hp7 := hp5.at1 k7 (fun e => by have := hpm _ e; omega)
  have ho7 := hset (ws.set i ((a, l), bv)) (by rw [List.length_set]) H7 q7 (by omega)
  have hx7 : Exs (H.next + 2) H7 (.sl id 0 ws.length cap) ((ws.set i ((a, l), bv)).map (·.1)) := ho7.exs (by omega) fun w hw => by
   rcases List.mem_or_eq_of_mem_set hw with hw | rfl
   ·exact (((hb4 w hw).ext s5).at1 k7 (fun e => by have := (((hb4 w hw).ext s5).own _ e).1; omega)).low (by omega)
   ·exact (hb6.keep (⟨by omega, fun j h1 h2 => s7 j (by omega)⟩ : Keep H5.next H6 H7)).low (by omega)
  rw [List.map_set, hws] at hx7
  have low7 : Grow H H7 := ⟨by omega, fun j hj => by rw [s7 j (by omega), s6.same j (by omega), low5.same j hj]⟩
  simp (disch := first | omega | (simp only [RY] <;> omega) | decide) only [↓RD, RZ, eq_self, Int.reduceToNat, Int.reduceAdd, Nat.reduceAdd, Nat.reduceSub, Nat.reduceMul, Nat.reduceLeDiff, g7, z7, hc7.cells1, hc7.okc, hp7.cells1, hp7.okc, hx7.cells1, hx7.okc]
  refine ⟨⟨_, rfl, cv', _, pv', rfl, ?_, ?_, ?_⟩, low7.set (by omega) _⟩
  ·exact (hc7.keep (Keep.set _ (by omega) _)).low (by omega)
  ·exact (hx7.keep (Keep.set _ (by omega) _)).low (by omega)
  ·exact (hp7.keep (Keep.set _ (by omega) _)).low (by omega)
end Go.Ax.R7
/- Rtp12 -/
namespace Go.Ax.R7
open Go.Ax
structure Rng (p : Pkt) : Prop where
 typ : -9223372036854775808 ≤ p.typ ∧ p.typ ≤ 9223372036854775807
 seq : p.seq < 65536
 ts : p.ts < 4294967296
 ssrc : p.ssrc < 4294967296
 csrc : ∀ x ∈ p.csrc, x < 4294967296
 prof : -9223372036854775808 ≤ p.prof ∧ p.prof ≤ 9223372036854775807
 exts : ∀ x ∈ p.exts, (-9223372036854775808 ≤ x.1 ∧ x.1 ≤ 9223372036854775807) ∧ Ok8 x.2
 pad : -9223372036854775808 ≤ p.pad ∧ p.pad ≤ 9223372036854775807
 pay : Ok8 p.pay
theorem ar_lc {α : Type} {f : α → V} {lo : Nat} {H : Heap} {v : V} {l : List α} (h : Ar f v l) : Lc 1 lo H v (l.map f) l.length := by
 refine ⟨h.rc, fun i hi => ?_, ?_⟩
 ·rw [h.pid] at hi; cases hi
 ·rcases h with ⟨rfl, _⟩ | rfl <;> trivial
theorem FQ.get {lo : Nat} {H : Heap} {o : Option (List Nat)} {r : V} (h : FQ lo H o r) : ∃ x, r = .tup [x, .bool o.isSome] ∧ By lo H x (o.getD []) := by
 cases o with
 | none => exact ⟨_, h, Lc.nil⟩
 | some l => obtain ⟨x, rfl, hx⟩ := h; exact ⟨x, rfl, hx⟩
end Go.Ax.R7
namespace Go.Ax
open R7
end Go.Ax
/- Rtp13 -/
namespace Go.Ax.R7
open Go.Ax
inductive Apf (ty e lo : Nat) (H : Heap) : V → List V → Nat → Prop
 | app {v : V} {cells : List V} {n : Nat} (h : App ty e lo H v cells n) : Apf ty e lo H v cells n
 | full {id n : Nat} {cells : List V} (h : H.get id = some ⟨ty, cells, none⟩) (hl : cells.length = n * e) (h0 : lo ≤ id) (h1 : id < H.next) : Apf ty e lo H (.sl id 0 n (.fix n)) cells n
theorem Apf.lc {ty e lo n : Nat} {H : Heap} {v : V} {cells : List V} (h : Apf ty e lo H v cells n) : Lc e lo H v cells n := by
 cases h with
 | app h => exact h.lc
 | full h hl h0 h1 =>
  refine ⟨?_, fun id hi => by simp only [V.pid, Option.some.injEq] at hi; subst hi; exact ⟨h0, h1⟩, Nat.le_refl _⟩
  simp only [rcells, h, Option.bind_some]
  rw [if_pos (by omega), List.drop_zero, List.take_of_length_le (by omega)]
theorem Apf.keep {ty e lo n : Nat} {H H' : Heap} {v : V} {cells : List V} (h : Apf ty e lo H v cells n) (k : Keep lo H H') : Apf ty e lo H' v cells n := by
 cases h with
 | app h => exact .app (App.keep h k)
 | full h hl h0 h1 => exact .full (by rw [k.same _ h0 h1, h]) hl h0 (Nat.lt_of_lt_of_le h1 k.next)
structure Bel (lo : Nat) (H H' : Heap) : Prop where
 next : H.next ≤ H'.next
 same : ∀ i, i < lo → H'.get i = H.get i
theorem Bel.refl (lo : Nat) (H : Heap) : Bel lo H H := ⟨Nat.le_refl _, fun _ _ => rfl⟩
theorem Bel.trans {lo : Nat} {H H1 H2 : Heap} (h : Bel lo H H1) (k : Bel lo H1 H2) : Bel lo H H2 := ⟨Nat.le_trans h.next k.next, fun i hi => by rw [k.same i hi, h.same i hi]⟩
theorem Bel.low {lo lo' : Nat} {H H' : Heap} (h : Bel lo H H') (hl : lo' ≤ lo) : Bel lo' H H' := ⟨h.next, fun i hi => h.same i (by omega)⟩
theorem _root_.Go.Ax.Grow.bel {H H' : Heap} (h : Grow H H') {lo : Nat} (hl : lo ≤ H.next) : Bel lo H H' := ⟨h.next, fun i hi => h.same i (by omega)⟩
theorem Bel.grow {H H' : Heap} (h : Bel H.next H H') : Grow H H' := ⟨h.next, fun i hi => h.same i hi⟩
theorem _root_.Go.Ax.Grow.bel' {H0 H H' : Heap} {lo : Nat} (h0 : Grow H0 H) (hl : H0.next ≤ lo) (h : Bel lo H H') : Grow H0 H' := ⟨Nat.le_trans h0.next h.next, fun i hi => by rw [h.same i (by omega), h0.same i hi]⟩
theorem zhr {β : Type} {ty e bytes lo n m : Nat} {H : Heap} {x y : V} {cells q : List V} {f : V → M β} {Q : β → Heap → Prop} (hx : Apf ty e lo H x cells n) (hlo : lo ≤ H.next) (hy : acells e H y = some (q, m)) (hq : q.length = m * e)
  (hb : (n + m) * bytes ≤ 140737488355328) (hm : n + m ≤ 140737488355328)
  (k : ∀ x' H', Apf ty e lo H' x' (cells ++ q) (n + m) → Bel lo H H' → Step H H' x.pid.toList x'.pid.toList → Ok (f x') H' Q) : Ok ((mappend ty e bytes x y).bind f) H Q := by
 cases hx with
 | app h =>
  refine zfS h hlo hy hq hb hm fun x' H' h1 hs => k x' H' (.app h1) ⟨hs.next, fun i hi => hs.same i (by omega) fun e => ?_⟩ hs
  have := (h.lc.own i (by simpa [mem_pid] using e)).1
  omega
 | full h hl h0 h1 =>
  rename_i id
  have hml : n + m ≤ maxLen := Nat.le_trans hm byte_bound
  by_cases hz : m = 0
  ·subst hz
   have hq0 : q = [] := List.eq_nil_of_length_eq_zero (by omega)
   subst hq0
   refine zbh ⟨.sl id 0 n (.fix n), H.set id (some ⟨ty, cells, none⟩), ?_, k _ _ ?_ ⟨by rw [zaH]; exact Nat.le_refl _, fun i hi => zaj _ _ (by omega)⟩ (Step.set _ (by simp [V.pid]))⟩
   ·simp only [mappend, hy, Option.bind_some, mappendq, h]
    rw [if_pos ⟨by omega, trivial⟩]
    simp only [Nat.add_zero, Nat.le_refl, if_true]
    rw [if_pos (by omega)]
    simp [splice]
   ·rw [List.append_nil]
    exact .full (zaq _ _ _) hl h0 h1
  ·refine zbh ⟨.sl H.next 0 (n + m) (.opn e), H.new ⟨ty, cells ++ q, some e⟩, ?_, ?_⟩
   ·simp only [mappend, hy, Option.bind_some, mappendq, h]
    rw [if_pos ⟨by omega, trivial⟩, if_neg (by omega), if_pos ⟨hb, hml⟩, List.drop_zero, List.take_of_length_le (by omega)]
   ·refine k _ _ (.app (.opn (.inr ⟨H.next, rfl, zak _ _, by simp [hl, hq, Nat.add_mul]⟩) fun i hi => ?_)) ⟨by rw [zan]; omega, fun i hi => zay _ _ (by omega)⟩ ⟨by rw [zan]; omega, fun i hi _ => zay _ _ (by omega), fun i hi => .inr (by simp only [V.pid, Option.toList_some, List.mem_singleton] at hi; subst hi; exact ⟨Nat.le_refl _, by rw [zan]; omega⟩)⟩
    simp only [V.pid, Option.some.injEq] at hi
    subst hi
    exact ⟨hlo, by rw [zan]; omega⟩
theorem okb_apfz {β : Type} {ty bytes lo n m : Nat} {z : V} {H : Heap} {x : V} {cells : List V} {f : V → M β} {Q : β → Heap → Prop} (hx : Apf ty 1 lo H x cells n) (hlo : lo ≤ H.next)
  (hb : (n + m) * bytes ≤ 140737488355328) (hm : n + m ≤ 140737488355328)
  (k : ∀ x' H', Apf ty 1 lo H' x' (cells ++ List.replicate m z) (n + m) → Bel lo H H' → Ok (f x') H' Q) : Ok ((mappendz ty bytes [z] x (.int .i64 (m : Nat))).bind f) H Q := by
 have hw : IntKind.i64.wrap (m : Nat) = (m : Int) := by
  have h1 : (m : Int) % 18446744073709551616 = m := Int.emod_eq_of_lt (by omega) (by omega)
  simp only [IntKind.wrap, IntKind.signed, IntKind.bits]
  simp
  omega
 have hm2 : m * bytes ≤ 140737488355328 := Nat.le_trans (Nat.mul_le_mul_right _ (by omega)) hb
 have hm3 : ((m : Int) * (bytes : Int)) ≤ 281474976710656 := by
  have : ((m * bytes : Nat) : Int) ≤ 140737488355328 := by omega
  rw [Int.natCast_mul] at this; omega
 have e : (mappendz ty bytes [z] x (.int .i64 (m : Nat)) H) = mappend ty 1 bytes x (.rs (List.replicate m z) m) H := by
  simp only [mappendz, mappend, hw]
  rw [if_pos ⟨by omega, hm3⟩]
  simp [acells, rcells, zeros1]
 have := zhr (y := .rs (List.replicate m z) m) (q := List.replicate m z) (m := m) hx hlo (by simp [acells, rcells]) (by simp) hb hm fun x' H' h1 h2 _ => k x' H' h1 h2
 unfold Ok M.bind at this ⊢
 rw [e]; exact this
def bn (k n : Nat) : List Nat := (List.range k).map fun i => n / 256 ^ (k - 1 - i) % 256
theorem bn_len (k n : Nat) : (bn k n).length = k := by simp [bn]
theorem bn_get (k n i : Nat) (h : i < k) : (bn k n).getD i 0 = n / 256 ^ (k - 1 - i) % 256 := by
 rw [List.getD_eq_getElem?_getD, List.getElem?_eq_getElem (by rw [bn_len]; exact h)]; simp [bn]
abbrev Ab (lo : Nat) (H : Heap) (v : V) (l : List Nat) : Prop := Apf zaz 1 lo H v (l.map by8) l.length
theorem Ab.by {lo : Nat} {H : Heap} {v : V} {l : List Nat} (h : Ab lo H v l) : By lo H v l := h.lc
theorem okb_ab' {β : Type} {lo : Nat} {H : Heap} {x y : V} {l m : List Nat} {f : V → M β} {Q : β → Heap → Prop} (hx : Ab lo H x l) (hlo : lo ≤ H.next) (hy : acells 1 H y = some (m.map by8, m.length)) (hm : l.length + m.length ≤ 1099511627776)
  (k : ∀ x' H', Ab lo H' x' (l ++ m) → Bel lo H H' → Step H H' x.pid.toList x'.pid.toList → Ok (f x') H' Q) : Ok ((mappend zaz 1 1 x y).bind f) H Q := by
 refine zhr hx hlo hy (by simp) (by omega) (by omega) fun x' H' h1 h2 => k x' H' ?_ h2
 show Apf zaz 1 lo H' x' ((l ++ m).map by8) (l ++ m).length
 rw [List.map_append, List.length_append]; exact h1
theorem zgw {β : Type} {lo : Nat} {H : Heap} {x y : V} {l m : List Nat} {f : V → M β} {Q : β → Heap → Prop} (hx : Ab lo H x l) (hlo : lo ≤ H.next) (hy : acells 1 H y = some (m.map by8, m.length)) (hm : l.length + m.length ≤ 1099511627776)
  (k : ∀ x' H', Ab lo H' x' (l ++ m) → Bel lo H H' → Ok (f x') H' Q) : Ok ((mappend zaz 1 1 x y).bind f) H Q :=
 okb_ab' hx hlo hy hm fun x' H' h1 h2 _ => k x' H' h1 h2
theorem put_ok {lo : Nat} {H : Heap} {v : V} {l : List Nat} (h : Ab lo H v l) (hlo : lo ≤ H.next) (hl : l.length ≤ 2097152) (n k : Nat) (hn : n < 4294967296) (hk : k ≤ 4) :
  Ok (sem T zco [v, .int .u32 n, .int .i64 k]) H fun r H' => Ab lo H' r (l ++ bn k n) ∧ Bel lo H H' ∧ Step H H' v.pid.toList r.pid.toList := by
 refine zhd ?_
 unfold zgI
 simp (disch := omega) only [↓RD, RZ]
 refine zaK (fun m L H' => ∃ w, L = [w, .int .i64 ((k : Int) - 1 - (m : Nat))] ∧ Ab lo H' w (l ++ (bn k n).take m) ∧ Bel lo H H' ∧ Step H H' v.pid.toList w.pid.toList) k ?_ ?_ ?_
 ·exact ⟨v, by simp, by simpa using h, Bel.refl _ _, (Grow.refl H).step _⟩
 ·rintro m L H1 hm ⟨w, rfl, ha, hb, hst⟩
  have e1 : (k : Int) - 1 - (m : Nat) = ((k - 1 - m : Nat) : Int) := by omega
  have e2 : (8 : Int) * ((k - 1 - m : Nat) : Int) = ((8 * (k - 1 - m) : Nat) : Int) := by omega
  have e3 : shr n (8 * (k - 1 - m)) = n / 256 ^ (k - 1 - m) := by rw [shr_def, Nat.shiftRight_eq_div_pow, Nat.pow_mul]
  have hlo1 := hb.next
  rw [e1]
  unfold zfc
  simp (disch := omega) only [↓RD, RZ, e2, e3]
  refine okb_ab' (m := [n / 256 ^ (k - 1 - m) % 256]) (ha.keep ((Grow.new _ _).keep _)) (by rw [zan]; omega) (acells_fresh rfl) (by simp; omega) fun w' H2 h2 hb2 st2 => ?_
  simp (disch := omega) only [↓RD, RZ]
  refine ⟨w', by rw [show ((k - 1 - m : Nat) : Int) - 1 = (k : Int) - 1 - ((m + 1 : Nat) : Int) by omega], ?_, hb.trans (((Grow.new _ _).bel (by omega)).trans hb2), hst.trans (((Grow.new _ _).step _).trans st2)⟩
  rw [take_snoc (by rw [bn_len]; exact hm), bn_get k n m hm, ← List.append_assoc]
  exact h2
 ·rintro L H1 ⟨w, rfl, ha, hb, hst⟩
  have e1 : (k : Int) - 1 - (k : Nat) = -1 := by omega
  rw [e1]
  unfold zfc
  simp (disch := omega) only [↓RD, RZ]
  rw [List.take_of_length_le (by rw [bn_len]; exact Nat.le_refl _)] at ha
  exact ⟨ha, hb, hst⟩
/-! What is good. -/
def goodX (prof : Int) (x : X) : Bool :=
 if prof = 48862 then decide (1 ≤ x.1 ∧ x.1 ≤ 14 ∧ 1 ≤ x.2.length ∧ x.2.length ≤ 16) else decide (1 ≤ x.1 ∧ x.1 ≤ 255 ∧ x.2.length ≤ 255)
def good (p : Pkt) : Bool :=
 decide ((0 ≤ p.typ ∧ p.typ ≤ 127) ∧ p.csrc.length ≤ 15 ∧ (0 ≤ p.pad ∧ p.pad ≤ 255)) &&
  (if p.prof = 0 then decide (p.exts.length = 0) else decide (p.prof = 48862 ∨ p.prof = 4096) && p.exts.all (goodX p.prof))
theorem goodExt_ok {lo : Nat} {H : Heap} {bv : V} (x : X) (h : By lo H bv x.2) (prof : Int) : Ok (sem T zc8 [.int .i64 prof, .agg [.int .i64 x.1, bv]]) H fun r H' => r = .bool (goodX prof x) ∧ Grow H H' := by
 refine zf7 ?_
 unfold zfj goodX
 by_cases hp : prof = 48862
 ·rw [if_pos hp]
  have hv := (h.newn ⟨zbf, [.int .i64 x.1, bv], none⟩).vlen
  by_cases h1 : 1 ≤ x.1
  ·by_cases h2 : x.1 ≤ 14
   ·by_cases h3 : 1 ≤ x.2.length
    ·by_cases h4 : x.2.length ≤ 16
     ·simp (disch := omega) only [↓RD, RZ, h.cells1, h.okc, h.vlen]
      exact ⟨by simp [*], Grow.new _ _⟩
     ·simp (disch := omega) only [↓RD, RZ, h.cells1, h.okc, h.vlen]
      exact ⟨by simp [*], Grow.new _ _⟩
    ·simp (disch := omega) only [↓RD, RZ, h.cells1, h.okc, h.vlen]
     exact ⟨by simp [*], Grow.new _ _⟩
   ·simp (disch := omega) only [↓RD, RZ, h.cells1, h.okc, h.vlen]
    exact ⟨by simp [*], Grow.new _ _⟩
  ·simp (disch := omega) only [↓RD, RZ, h.cells1, h.okc, h.vlen]
   exact ⟨by simp [*], Grow.new _ _⟩
 ·rw [if_neg hp]
  by_cases h1 : 1 ≤ x.1
  ·by_cases h2 : x.1 ≤ 255
   ·by_cases h4 : x.2.length ≤ 255
    ·simp (disch := omega) only [↓RD, RZ, h.cells1, h.okc, h.vlen]
     exact ⟨by simp [*], Grow.new _ _⟩
    ·simp (disch := omega) only [↓RD, RZ, h.cells1, h.okc, h.vlen]
     exact ⟨by simp [*], Grow.new _ _⟩
   ·simp (disch := omega) only [↓RD, RZ, h.cells1, h.okc, h.vlen]
    exact ⟨by simp [*], Grow.new _ _⟩
  ·simp (disch := omega) only [↓RD, RZ, h.cells1, h.okc, h.vlen]
   exact ⟨by simp [*], Grow.new _ _⟩
end Go.Ax.R7
/- Rtp14 -/
namespace Go.Ax.R7
open Go.Ax
theorem good_no {p : Pkt} (h : ¬ ((0 ≤ p.typ ∧ p.typ ≤ 127) ∧ p.csrc.length ≤ 15 ∧ (0 ≤ p.pad ∧ p.pad ≤ 255))) : good p = false := by
 unfold good; rw [decide_eq_false h]; rfl
theorem good_yes {p : Pkt} (h : (0 ≤ p.typ ∧ p.typ ≤ 127) ∧ p.csrc.length ≤ 15 ∧ (0 ≤ p.pad ∧ p.pad ≤ 255)) : good p = if p.prof = 0 then decide (p.exts.length = 0) else decide (p.prof = 48862 ∨ p.prof = 4096) && p.exts.all (goodX p.prof) := by
 unfold good; rw [decide_eq_true h]; simp
theorem all_idx (P : X → Bool) (xs : List X) : (match xs.findIdx? (fun x => !P x) with | some _ => false | none => true) = xs.all P := by
 cases h : xs.findIdx? (fun x => !P x) with
 | none =>
  have := List.findIdx?_eq_none_iff.1 h
  exact (List.all_eq_true.2 fun x hx => by simpa using this x hx).symm
 | some i =>
  obtain ⟨h1, h2, _⟩ := List.findIdx?_eq_some_iff_getElem.1 h
  refine (Bool.eq_false_iff.2 fun e => ?_).symm
  have := List.all_eq_true.1 e _ (List.getElem_mem h1)
  rw [this] at h2; cases h2
theorem Good_ok {lo : Nat} {H : Heap} {v : V} {p : Pkt} (h : PkR lo H v p) (hs : Sml p) : Ok (sem T zeg [v]) H fun r H' => r = .bool (good p) ∧ Grow H H' := by
 obtain ⟨cv, xv, pv, rfl, hc, hx, hp⟩ := h
 have hb := hs.b
 refine zgQ ?_
 unfold zgf
 unfold pcells
 simp (disch := first | omega | (simp only [RY] <;> omega) | decide) only [↓RD, RZ, Nat.reduceAdd, hc.cells1, hx.cells1, hp.cells1, hc.okc, hx.okc, hp.okc]
 generalize hH1 : Heap.new H _ = H1
 have n1 : H1.next = H.next + 1 := by rw [← hH1]; rfl
 have s1 : Grow H H1 := by rw [← hH1]; exact Grow.new _ _
 have g1 : H1.get H.next = some ⟨zai, pcells p cv xv pv, none⟩ := by rw [← hH1]; exact zak _ _
 clear hH1
 unfold pcells at g1
 have ec := hc.vlen
 have ex := hx.vlen
 by_cases a1 : p.typ < 0
 ·simp (disch := first | omega | (simp only [RY] <;> omega) | decide) only [↓RD, RZ, Nat.reduceAdd, g1]
  exact ⟨by rw [good_no (by omega)], s1⟩
 by_cases a2 : 127 < p.typ
 ·simp (disch := first | omega | (simp only [RY] <;> omega) | decide) only [↓RD, RZ, Nat.reduceAdd, g1]
  exact ⟨by rw [good_no (by omega)], s1⟩
 by_cases a3 : 15 < p.csrc.length
 ·simp (disch := first | omega | (simp only [RY] <;> omega) | decide) only [↓RD, RZ, Nat.reduceAdd, g1, ec]
  exact ⟨by rw [good_no (by omega)], s1⟩
 by_cases a4 : p.pad < 0
 ·simp (disch := first | omega | (simp only [RY] <;> omega) | decide) only [↓RD, RZ, Nat.reduceAdd, g1, ec]
  exact ⟨by rw [good_no (by omega)], s1⟩
 by_cases a5 : 255 < p.pad
 ·simp (disch := first | omega | (simp only [RY] <;> omega) | decide) only [↓RD, RZ, Nat.reduceAdd, g1, ec]
  exact ⟨by rw [good_no (by omega)], s1⟩
 rw [good_yes (by omega)]
 by_cases hz : p.prof = 0
 ·rw [if_pos hz]
  rw [hz] at g1
  by_cases he : p.exts.length = 0
  ·simp (disch := first | omega | (simp only [RY] <;> omega) | decide) only [↓RD, RZ, Nat.reduceAdd, g1, ec, ex, he]
   exact s1
  ·simp (disch := first | omega | (simp only [RY] <;> omega) | decide) only [↓RD, RZ, Nat.reduceAdd, g1, ec, ex, he]
   exact s1
 ·rw [if_neg hz]
  by_cases hpf : p.prof = 48862 ∨ p.prof = 4096
  ·rw [decide_eq_true hpf, Bool.true_and, ← all_idx]
   have main : Ok ((sem T zaD [xv, .fn zcp [.ptr H.next 0]]).bind fun t48 => (M.lift (un .not t48)).bind fun t49 => M.pure (Res.ret [t49])) H1
     (fun r H' => ∃ L, r = Res.ret L ∧ zdX L = .bool (match p.exts.findIdx? (fun x => !goodX p.prof x) with | some _ => false | none => true) ∧ Grow H H') := by
    have hcf : Ok (sem T zaD [xv, .fn zcp [.ptr H.next 0]]) H1 (fun (r : V) H' => r = V.bool (match p.exts.findIdx? (fun x => !goodX p.prof x) with | some _ => true | none => false) ∧ Grow H H') := by
     refine zcn ?_
     unfold zbx
     refine zac (IndexFunc_ok (hx.ext s1) (fun x => !goodX p.prof x) (by omega) fun H3 s3 x bv hb => ?_) ?_
     ·have g3 : H3.get H.next = _ := (s3.same _ (by omega)).trans g1
      have n3 := s3.next
      show Ok (sem T zcp [.agg [.int .i64 x.1, bv], .ptr H.next 0]) H3 _
      refine zgr ?_
      unfold zfD
      simp (disch := first | omega | (simp only [RY] <;> omega) | decide) only [↓RD, RZ, Nat.reduceAdd, hb.cells1, hb.okc, g3]
      refine zac (goodExt_ok x (hb.newn _) p.prof) ?_
      rintro _ H4 ⟨rfl, s4⟩
      simp (disch := first | omega | (simp only [RY] <;> omega) | decide) only [↓RD, RZ, Nat.reduceAdd]
      exact (Grow.new _ _).trans s4
     ·rintro _ H3 ⟨rfl, s3⟩
      cases hf : p.exts.findIdx? (fun x => !goodX p.prof x) with
      | none =>
       unfold idxV
       simp (disch := first | omega | (simp only [RY] <;> omega) | decide) only [↓RD, RZ, Nat.reduceAdd]
       exact s1.trans s3
      | some i =>
       unfold idxV
       simp (disch := first | omega | (simp only [RY] <;> omega) | decide) only [↓RD, RZ, Nat.reduceAdd]
       exact s1.trans s3
    refine zac hcf ?_
    ·rintro _ H3 ⟨rfl, s3⟩
     cases hf : p.exts.findIdx? (fun x => !goodX p.prof x) with
     | none =>
      simp (disch := first | omega | (simp only [RY] <;> omega) | decide) only [↓RD, RZ, Nat.reduceAdd]
      exact s3
     | some i =>
      simp (disch := first | omega | (simp only [RY] <;> omega) | decide) only [↓RD, RZ, Nat.reduceAdd]
      exact s3
   rcases hpf with hpf | hpf
   ·rw [hpf] at g1
    simp (disch := first | omega | (simp only [RY] <;> omega) | decide) only [↓RD, RZ, Nat.reduceAdd, g1, ec]
    refine zaM main ?_
    rintro r H' ⟨L, rfl, h1, h2⟩
    exact ⟨_, rfl, h1, h2⟩
   ·rw [hpf] at g1
    simp (disch := first | omega | (simp only [RY] <;> omega) | decide) only [↓RD, RZ, Nat.reduceAdd, g1, ec]
    refine zaM main ?_
    rintro r H' ⟨L, rfl, h1, h2⟩
    exact ⟨_, rfl, h1, h2⟩
  ·rw [decide_eq_false hpf, Bool.false_and]
   have h1 : p.prof ≠ 48862 := fun e => hpf (.inl e)
   have h2 : p.prof ≠ 4096 := fun e => hpf (.inr e)
   simp (disch := first | omega | (simp only [RY] <;> omega) | decide) only [↓RD, RZ, Nat.reduceAdd, g1, ec]
   exact s1
end Go.Ax.R7
/- Rtp15 -/
namespace Go.Ax.R7
open Go.Ax
def b0 (p : Pkt) : Nat := 128 + p.csrc.length + (if 0 < p.pad then 32 else 0) + (if p.prof = 0 then 0 else 16)
def b1 (p : Pkt) : Nat := p.typ.toNat + (if p.mark = true then 128 else 0)
def xb (prof : Int) (x : X) : List Nat := (if prof = 48862 then [16 * x.1.toNat + (x.2.length - 1)] else [x.1.toNat, x.2.length]) ++ x.2
def xsb (p : Pkt) : List Nat := (p.exts.map (xb p.prof)).flatten
def padn (n : Nat) : Nat := (4 - n % 4) % 4
def elems (p : Pkt) : List Nat := xsb p ++ List.replicate (padn (xsb p).length) 0
structure Gd (p : Pkt) : Prop where
 a : (0 ≤ p.typ ∧ p.typ ≤ 127) ∧ p.csrc.length ≤ 15 ∧ (0 ≤ p.pad ∧ p.pad ≤ 255)
 b : p.prof = 0 → p.exts = []
 c : p.prof = 0 ∨ p.prof = 48862 ∨ p.prof = 4096
 d : ∀ x ∈ p.exts, goodX p.prof x = true
theorem good_gd {p : Pkt} (h : good p = true) : Gd p := by
 have ha : (0 ≤ p.typ ∧ p.typ ≤ 127) ∧ p.csrc.length ≤ 15 ∧ (0 ≤ p.pad ∧ p.pad ≤ 255) := by
  refine Classical.byContradiction fun e => ?_
  rw [good_no e] at h; cases h
 rw [good_yes ha] at h
 by_cases hz : p.prof = 0
 ·rw [if_pos hz] at h
  have hn := List.eq_nil_of_length_eq_zero (of_decide_eq_true h)
  exact ⟨ha, fun _ => hn, .inl hz, fun x hx => by rw [hn] at hx; cases hx⟩
 ·rw [if_neg hz] at h
  obtain ⟨h1, h2⟩ := Bool.and_eq_true_iff.1 h
  exact ⟨ha, fun e => absurd e hz, .inr (of_decide_eq_true h1), List.all_eq_true.1 h2⟩
theorem goodX_1 {x : X} (h : goodX 48862 x = true) : 1 ≤ x.1 ∧ x.1 ≤ 14 ∧ 1 ≤ x.2.length ∧ x.2.length ≤ 16 := by
 unfold goodX at h; rw [if_pos rfl] at h; exact of_decide_eq_true h
theorem goodX_2 {x : X} (h : goodX 4096 x = true) : 1 ≤ x.1 ∧ x.1 ≤ 255 ∧ x.2.length ≤ 255 := by
 unfold goodX at h; rw [if_neg (by decide)] at h; exact of_decide_eq_true h
theorem or_a : ∀ c, c ≤ 15 → 128 ||| c = 128 + c ∧ (128 + c) ||| 32 = 160 + c ∧ (128 + c) ||| 16 = 144 + c ∧ (160 + c) ||| 16 = 176 + c := by
 intro c hc
 have : ∀ c, c < 16 → 128 ||| c = 128 + c ∧ (128 + c) ||| 32 = 160 + c ∧ (128 + c) ||| 16 = 144 + c ∧ (160 + c) ||| 16 = 176 + c := by decide
 exact this c (by omega)
theorem or_b : ∀ t, t ≤ 127 → t ||| 128 = t + 128 := by
 intro t ht
 have : ∀ t, t < 128 → t ||| 128 = t + 128 := by decide
 exact this t (by omega)
theorem or_c (i n : Nat) (h : n < 16) : (16 * i) ||| n = 16 * i + n := by
 have := Nat.shiftLeft_add_eq_or_of_lt (i := 4) (b := n) h i
 rw [Nat.shiftLeft_eq, Nat.mul_comm] at this
 exact this.symm
theorem ab_lit {H : Heap} {l : List Nat} {lo : Nat} (h : lo ≤ H.next) : Ab lo (H.new ⟨zaz, l.map by8, none⟩) (.sl H.next 0 l.length (.fix l.length)) l :=
 .full (zak _ _) (by simp) h (by rw [zan]; omega)
theorem first_ok {lo : Nat} {H : Heap} {v : V} {p : Pkt} (h : PkR lo H v p) (hg : Gd p) : Ok (sem T zdM [v]) H fun r H' => Ab H.next H' r [b0 p, b1 p] ∧ Grow H H' := by
 obtain ⟨cv, xv, pv, rfl, hc, hx, hp⟩ := h
 obtain ⟨⟨⟨ht0, ht1⟩, hcl, hp0, hp1⟩, -, -, -⟩ := hg
 refine zgx ?_
 unfold zfY
 unfold pcells
 obtain ⟨t, ht⟩ := Int.eq_ofNat_of_zero_le ht0
 obtain ⟨o1, o2, o3, o4⟩ := or_a _ hcl
 have o5 := or_b t (by omega)
 have mm : (128 + p.csrc.length) % 256 = 128 + p.csrc.length := by omega
 have mt : t % 256 = t := by omega
 have ec := (hc.newn ⟨zai, pcells p cv xv pv, none⟩).vlen
 have fin : ∀ x y : Nat, Ab H.next ((H.new ⟨zai, [.bool p.mark, .int .i64 t, .int .u16 p.seq, .int .u32 p.ts, .int .u32 p.ssrc, cv, .int .i64 p.prof, xv, .int .i64 p.pad, pv], none⟩).new ⟨zaz, [.int .u8 x, .int .u8 y], none⟩) (.sl (H.next + 1) 0 2 (.fix 2)) [x, y] ∧ Grow H ((H.new ⟨zai, [.bool p.mark, .int .i64 t, .int .u16 p.seq, .int .u32 p.ts, .int .u32 p.ssrc, cv, .int .i64 p.prof, xv, .int .i64 p.pad, pv], none⟩).new ⟨zaz, [.int .u8 x, .int .u8 y], none⟩) := fun x y =>
  ⟨ab_lit (H := H.new _) (l := [x, y]) (by rw [zan]; omega), (Grow.new _ _).trans (Grow.new _ _)⟩
 by_cases c1 : 0 < p.pad <;> by_cases c2 : p.prof = 0
 ·have e0 : b0 p = 160 + p.csrc.length := by unfold b0; rw [if_pos c1, if_pos c2]; omega
  rw [e0]
  rw [c2] at fin
  cases c3 : p.mark
  ·have e1 : b1 p = t := by unfold b1; rw [c3, ht, Int.toNat_natCast]; rfl
   rw [e1]
   rw [c3] at fin
   simp (disch := first | omega | (simp only [RY] <;> omega) | decide) only [↓RD, RZ, eq_self, Int.reduceToNat, Int.reduceAdd, Nat.reduceAdd, Nat.reduceSub, Nat.reduceMul, Nat.reduceLeDiff, hc.cells1, hx.cells1, hp.cells1, hc.okc, hx.okc, hp.okc, hc.vlen, o1, o2, o3, o4, o5, mm, mt, c2, ht, c3]
   exact fin _ _
  ·have e1 : b1 p = t + 128 := by unfold b1; rw [c3, ht, Int.toNat_natCast]; rfl
   rw [e1]
   rw [c3] at fin
   simp (disch := first | omega | (simp only [RY] <;> omega) | decide) only [↓RD, RZ, eq_self, Int.reduceToNat, Int.reduceAdd, Nat.reduceAdd, Nat.reduceSub, Nat.reduceMul, Nat.reduceLeDiff, hc.cells1, hx.cells1, hp.cells1, hc.okc, hx.okc, hp.okc, hc.vlen, o1, o2, o3, o4, o5, mm, mt, c2, ht, c3]
   exact fin _ _
 ·have e0 : b0 p = 176 + p.csrc.length := by unfold b0; rw [if_pos c1, if_neg c2]; omega
  rw [e0]
  cases c3 : p.mark
  ·have e1 : b1 p = t := by unfold b1; rw [c3, ht, Int.toNat_natCast]; rfl
   rw [e1]
   rw [c3] at fin
   simp (disch := first | omega | (simp only [RY] <;> omega) | decide) only [↓RD, RZ, eq_self, Int.reduceToNat, Int.reduceAdd, Nat.reduceAdd, Nat.reduceSub, Nat.reduceMul, Nat.reduceLeDiff, hc.cells1, hx.cells1, hp.cells1, hc.okc, hx.okc, hp.okc, hc.vlen, o1, o2, o3, o4, o5, mm, mt, c2, ht, c3]
   exact fin _ _
  ·have e1 : b1 p = t + 128 := by unfold b1; rw [c3, ht, Int.toNat_natCast]; rfl
   rw [e1]
   rw [c3] at fin
   simp (disch := first | omega | (simp only [RY] <;> omega) | decide) only [↓RD, RZ, eq_self, Int.reduceToNat, Int.reduceAdd, Nat.reduceAdd, Nat.reduceSub, Nat.reduceMul, Nat.reduceLeDiff, hc.cells1, hx.cells1, hp.cells1, hc.okc, hx.okc, hp.okc, hc.vlen, o1, o2, o3, o4, o5, mm, mt, c2, ht, c3]
   exact fin _ _
 ·have e0 : b0 p = 128 + p.csrc.length := by unfold b0; rw [if_neg c1, if_pos c2]; omega
  rw [e0]
  rw [c2] at fin
  cases c3 : p.mark
  ·have e1 : b1 p = t := by unfold b1; rw [c3, ht, Int.toNat_natCast]; rfl
   rw [e1]
   rw [c3] at fin
   simp (disch := first | omega | (simp only [RY] <;> omega) | decide) only [↓RD, RZ, eq_self, Int.reduceToNat, Int.reduceAdd, Nat.reduceAdd, Nat.reduceSub, Nat.reduceMul, Nat.reduceLeDiff, hc.cells1, hx.cells1, hp.cells1, hc.okc, hx.okc, hp.okc, hc.vlen, o1, o2, o3, o4, o5, mm, mt, c2, ht, c3]
   exact fin _ _
  ·have e1 : b1 p = t + 128 := by unfold b1; rw [c3, ht, Int.toNat_natCast]; rfl
   rw [e1]
   rw [c3] at fin
   simp (disch := first | omega | (simp only [RY] <;> omega) | decide) only [↓RD, RZ, eq_self, Int.reduceToNat, Int.reduceAdd, Nat.reduceAdd, Nat.reduceSub, Nat.reduceMul, Nat.reduceLeDiff, hc.cells1, hx.cells1, hp.cells1, hc.okc, hx.okc, hp.okc, hc.vlen, o1, o2, o3, o4, o5, mm, mt, c2, ht, c3]
   exact fin _ _
 ·have e0 : b0 p = 144 + p.csrc.length := by unfold b0; rw [if_neg c1, if_neg c2]; omega
  rw [e0]
  cases c3 : p.mark
  ·have e1 : b1 p = t := by unfold b1; rw [c3, ht, Int.toNat_natCast]; rfl
   rw [e1]
   rw [c3] at fin
   simp (disch := first | omega | (simp only [RY] <;> omega) | decide) only [↓RD, RZ, eq_self, Int.reduceToNat, Int.reduceAdd, Nat.reduceAdd, Nat.reduceSub, Nat.reduceMul, Nat.reduceLeDiff, hc.cells1, hx.cells1, hp.cells1, hc.okc, hx.okc, hp.okc, hc.vlen, o1, o2, o3, o4, o5, mm, mt, c2, ht, c3]
   exact fin _ _
  ·have e1 : b1 p = t + 128 := by unfold b1; rw [c3, ht, Int.toNat_natCast]; rfl
   rw [e1]
   rw [c3] at fin
   simp (disch := first | omega | (simp only [RY] <;> omega) | decide) only [↓RD, RZ, eq_self, Int.reduceToNat, Int.reduceAdd, Nat.reduceAdd, Nat.reduceSub, Nat.reduceMul, Nat.reduceLeDiff, hc.cells1, hx.cells1, hp.cells1, hc.okc, hx.okc, hp.okc, hc.vlen, o1, o2, o3, o4, o5, mm, mt, c2, ht, c3]
   exact fin _ _
theorem xb_len {prof : Int} {x : X} (h : goodX prof x = true) (hp : prof = 48862 ∨ prof = 4096) : (xb prof x).length ≤ 257 := by
 unfold xb
 rcases hp with rfl | rfl
 ·have := goodX_1 h
  rw [if_pos rfl]; simp; omega
 ·have := goodX_2 h
  rw [if_neg (by decide)]; simp; omega
end Go.Ax.R7
/- Rtp16 -/
namespace Go.Ax.R7
open Go.Ax
def xsk (p : Pkt) (k : Nat) : List Nat := ((p.exts.take k).map (xb p.prof)).flatten
theorem xsk_succ {p : Pkt} {k : Nat} (h : k < p.exts.length) : xsk p (k + 1) = xsk p k ++ xb p.prof p.exts[k] := by
 unfold xsk
 rw [List.take_succ_eq_append_getElem h, List.map_append, List.flatten_append]; simp
theorem xsk_all (p : Pkt) : xsk p p.exts.length = xsb p := by unfold xsk xsb; rw [List.take_length]
theorem xsk_len {p : Pkt} (hg : Gd p) (hp : p.prof ≠ 0) : ∀ k, k ≤ p.exts.length → (xsk p k).length ≤ 257 * k := by
 intro k
 induction k with
 | zero => intro _; simp [xsk]
 | succ k ih =>
  intro hk
  rw [xsk_succ (by omega), List.length_append]
  have h1 := xb_len (hg.d _ (List.getElem_mem (show k < p.exts.length by omega))) (hg.c.resolve_left hp)
  have := ih (by omega)
  omega
theorem shl4 {i : Nat} (h : i ≤ 15) : Ax.bin .shl (.int .i64 (i : Nat)) (.int .u64 4) = some (.int .i64 ((16 * i : Nat) : Int)) := by
 have : ∀ i : Nat, i < 16 → Ax.bin .shl (.int .i64 (i : Nat)) (.int .u64 4) = some (.int .i64 ((16 * i : Nat) : Int)) := by
  intro i hi
  rw [bin_shl (by omega)]
  simp only [IntKind.wrap, IntKind.bits, IntKind.signed]
  have h4 : (4 : Int).toNat = 4 := rfl
  rw [h4]
  congr 2
  simp
  omega
 exact this i (by omega)
theorem Exs.at0 {lo : Nat} {H H2 : Heap} {v : V} {xs : List X} (h : Exs lo H v xs) (g : Grow H H2) {i : Nat} (hi : i < xs.length) : ∃ p bv, (∀ {k : IntKind}, Ax.iaddr none 2 v (.int k i) = some p) ∧ Pl H2 p [.int .i64 xs[i].1, bv] v.pid ∧ By lo H bv xs[i].2 := by
 obtain ⟨ws, rfl, h2, h3⟩ := h
 rw [List.length_map] at hi
 obtain ⟨p, hp, hl⟩ := (h2.ext g).at (i := (i : Nat)) (by omega) (by omega)
 have e : ((ws.map xc).flatten.drop (i * 2)).take 2 = [.int .i64 ws[i].1.1, ws[i].2] := by
  rw [flat_piece _ (xc_len ws) i (by rw [List.length_map]; exact hi), List.getElem_map]; rfl
 rw [Int.toNat_natCast, e] at hl
 refine ⟨p, ws[i].2, hp, ?_, ?_⟩
 ·simpa using hl
 ·simpa using h3 _ (List.getElem_mem hi)
theorem pad_ok {lo : Nat} {H : Heap} {w : V} {l : List Nat} (t2 : V) (h : Ab lo H w l) (hlo : lo ≤ H.next) (hl : l.length ≤ 549755813888) {Q : Res → Heap → Prop} (k : ∀ w' H', Ab lo H' w' (l ++ List.replicate (padn l.length) 0) → Bel lo H H' → Q (.ex 2 [w']) H') :
  Ok (M.iter (zcH (sem T) t2) [w]) H Q := by
 refine zaK (fun m L H' => ∃ w', L = [w'] ∧ Ab lo H' w' (l ++ List.replicate m 0) ∧ Bel lo H H') (padn l.length) ?_ ?_ ?_
 ·exact ⟨w, rfl, by simpa using h, Bel.refl _ _⟩
 ·rintro m L H1 hm ⟨w', rfl, ha, hb⟩
  have hv := ha.lc.vlen
  rw [List.length_append, List.length_replicate] at hv
  have n1 := hb.next
  have hne : (l.length + m) % 4 ≠ 0 := by unfold padn at hm; omega
  unfold zcH
  simp (disch := omega) only [↓RD, RZ, hv]
  refine zgw (m := [0]) (ha.keep ((Grow.new _ _).keep _)) (by rw [zan]; omega) (acells_fresh rfl) (by simp; unfold padn at hm; omega) fun w2 H2 h2 hb2 => ?_
  simp (disch := omega) only [↓RD, RZ]
  refine ⟨w2, rfl, ?_, hb.trans (((Grow.new _ _).bel (by omega)).trans hb2)⟩
  rw [List.replicate_succ', ← List.append_assoc]
  exact h2
 ·rintro L H1 ⟨w', rfl, ha, hb⟩
  have hv := ha.lc.vlen
  rw [List.length_append, List.length_replicate] at hv
  have hne : (l.length + padn l.length) % 4 = 0 := by unfold padn; omega
  have hb3 : padn l.length ≤ 3 := by unfold padn; omega
  unfold zcH
  simp (disch := omega) only [↓RD, RZ, hv, hne]
  exact k _ _ ha hb
theorem elemsP_ok {lo : Nat} {H : Heap} {v : V} {p : Pkt} (h : PkR lo H v p) (hs : Sml p) (hg : Gd p) (hp0 : p.prof ≠ 0) : Ok (sem T zcN [v]) H fun r H' => By H.next H' r (elems p) ∧ Grow H H' := by
 obtain ⟨cv, xv, pv, rfl, hc, hx, hp⟩ := h
 have hb := hs.b
 refine zfT ?_
 unfold ze4
 unfold pcells
 simp (disch := first | omega | (simp only [RY] <;> omega) | decide) only [↓RD, RZ, eq_self, Int.reduceToNat, Int.reduceAdd, Nat.reduceAdd, Nat.reduceSub, Nat.reduceMul, Nat.reduceLeDiff, hc.cells1, hx.cells1, hp.cells1, hc.okc, hx.okc, hp.okc, hx.vlen]
 generalize hH1 : Heap.new H _ = H1
 have n1 : H1.next = H.next + 1 := by rw [← hH1]; rfl
 have s1 : Grow H H1 := by rw [← hH1]; exact Grow.new _ _
 have g1 : H1.get H.next = some ⟨zai, pcells p cv xv pv, none⟩ := by rw [← hH1]; exact zak _ _
 clear hH1
 unfold pcells at g1
 refine zaK (fun k L H' => ∃ w, L = [w, .int .i64 (k : Nat)] ∧ Ab H1.next H' w (xsk p k) ∧ Grow H1 H') p.exts.length ?_ ?_ ?_
 ·exact ⟨.nils, rfl, Apf.app App.nil, Grow.refl _⟩
 ·rintro k L H2 hk ⟨w, rfl, ha, s2⟩
  have g2 : H2.get H.next = _ := (s2.same _ (by omega)).trans g1
  have n2 := s2.next
  have s02 := s1.trans s2
  obtain ⟨q, bv, i1, l1, w1⟩ := hx.at0 s02 hk
  have l2 := l1.all
  dsimp only [List.length_cons, List.length_nil] at l2
  have hlen := xsk_len hg hp0 k (by omega)
  have hgx := hg.d _ (List.getElem_mem hk)
  generalize hxe : p.exts[k] = x at *
  have hsx : xsk p (k + 1) = xsk p k ++ xb p.prof x := by rw [xsk_succ hk, hxe]
  obtain ⟨x1, x2⟩ := x
  dsimp only at l2 w1 l1
  unfold zdo
  rcases hg.c.resolve_left hp0 with hpf | hpf
  ·rw [hpf] at g2 hgx hsx
   obtain ⟨c1, c2, c3, c4⟩ := goodX_1 hgx
   dsimp only at c1 c2 c3 c4
   obtain ⟨i, rfl⟩ := Int.eq_ofNat_of_zero_le (show 0 ≤ x1 by omega)
   have e1 : ((x2.length : Nat) : Int) - 1 = ((x2.length - 1 : Nat) : Int) := by omega
   have e2 := or_c i (x2.length - 1) (by omega)
   have e3 := shl4 (i := i) (by omega)
   have e4 : (16 * i + (x2.length - 1)) % 256 = 16 * i + (x2.length - 1) := by omega
   simp (disch := first | omega | (simp only [RY] <;> omega) | decide) only [↓RD, RZ, eq_self, Int.reduceToNat, Int.reduceAdd, Nat.reduceAdd, Nat.reduceSub, Nat.reduceMul, Nat.reduceLeDiff, g2, i1, l2, w1.cells1, w1.okc, w1.vlen, e1, e2, e3, e4]
   generalize hH3 : Heap.set _ _ _ = H3
   have n3 : H3.next = H2.next + 1 := by rw [← hH3]; rfl
   have s3 : Grow H2 H3 := by rw [← hH3]; exact (Grow.new _ _).set (Nat.le_refl _) _
   have g3 : H3.get H2.next = some ⟨zbf, [.int .i64 (i : Nat), bv], none⟩ := by rw [← hH3]; exact zaq _ _ _
   clear hH3
   refine okb_ab' (m := [16 * i + (x2.length - 1)]) (ha.keep ((s3.trans (Grow.new _ _)).keep _)) (by rw [zan]; omega) (acells_at (by omega) rfl) (by simp; omega) fun w' H4 h4 hb4 k4 => ?_
   have g4 : H4.get H2.next = _ := (k4.same _ (by rw [zan]; omega) (fun e => by have := (ha.lc.own _ (by simpa [mem_pid] using e)).2; omega)).trans ((zay _ _ (by omega)).trans g3)
   have n4 := hb4.next
   rw [zan] at n4
   have s4 : Grow H1 H4 := Grow.bel' ((s2.trans s3).trans (Grow.new _ _)) (Nat.le_refl _) hb4
   have w4 := w1.ext (s1.trans s4)
   simp (disch := first | omega | (simp only [RY] <;> omega) | decide) only [↓RD, RZ, eq_self, Int.reduceToNat, Int.reduceAdd, Nat.reduceAdd, Nat.reduceSub, Nat.reduceMul, Nat.reduceLeDiff, g4]
   refine zgw (m := x2) h4 (by omega) w4.ac (by simp; omega) fun w5 H5 h5 hb5 => ?_
   simp (disch := first | omega | (simp only [RY] <;> omega) | decide) only [↓RD, RZ, eq_self, Int.reduceToNat, Int.reduceAdd, Nat.reduceAdd, Nat.reduceSub, Nat.reduceMul, Nat.reduceLeDiff]
   refine ⟨w5, by rfl, ?_, Grow.bel' s4 (Nat.le_refl _) hb5⟩
   rw [hsx]
   unfold xb
   rw [if_pos rfl]
   rw [List.append_assoc] at h5
   exact h5
  ·rw [hpf] at g2 hgx hsx
   obtain ⟨c1, c2, c4⟩ := goodX_2 hgx
   dsimp only at c1 c2 c4
   obtain ⟨i, rfl⟩ := Int.eq_ofNat_of_zero_le (show 0 ≤ x1 by omega)
   have e4 : i % 256 = i := by omega
   have e5 : x2.length % 256 = x2.length := by omega
   simp (disch := first | omega | (simp only [RY] <;> omega) | decide) only [↓RD, RZ, eq_self, Int.reduceToNat, Int.reduceAdd, Nat.reduceAdd, Nat.reduceSub, Nat.reduceMul, Nat.reduceLeDiff, g2, i1, l2, w1.cells1, w1.okc, w1.vlen, e4, e5]
   generalize hH3 : Heap.set _ _ _ = H3
   have n3 : H3.next = H2.next + 1 := by rw [← hH3]; rfl
   have s3 : Grow H2 H3 := by rw [← hH3]; exact (Grow.new _ _).set (Nat.le_refl _) _
   have g3 : H3.get H2.next = some ⟨zbf, [.int .i64 (i : Nat), bv], none⟩ := by rw [← hH3]; exact zaq _ _ _
   clear hH3
   refine okb_ab' (m := [i, x2.length]) (ha.keep ((s3.trans (Grow.new _ _)).keep _)) (by rw [zan]; omega) (acells_at (by omega) rfl) (by simp; omega) fun w' H4 h4 hb4 k4 => ?_
   have g4 : H4.get H2.next = _ := (k4.same _ (by rw [zan]; omega) (fun e => by have := (ha.lc.own _ (by simpa [mem_pid] using e)).2; omega)).trans ((zay _ _ (by omega)).trans g3)
   have n4 := hb4.next
   rw [zan] at n4
   have s4 : Grow H1 H4 := Grow.bel' ((s2.trans s3).trans (Grow.new _ _)) (Nat.le_refl _) hb4
   have w4 := w1.ext (s1.trans s4)
   simp (disch := first | omega | (simp only [RY] <;> omega) | decide) only [↓RD, RZ, eq_self, Int.reduceToNat, Int.reduceAdd, Nat.reduceAdd, Nat.reduceSub, Nat.reduceMul, Nat.reduceLeDiff, g4]
   refine zgw (m := x2) h4 (by omega) w4.ac (by simp; omega) fun w5 H5 h5 hb5 => ?_
   simp (disch := first | omega | (simp only [RY] <;> omega) | decide) only [↓RD, RZ, eq_self, Int.reduceToNat, Int.reduceAdd, Nat.reduceAdd, Nat.reduceSub, Nat.reduceMul, Nat.reduceLeDiff]
   refine ⟨w5, by rfl, ?_, Grow.bel' s4 (Nat.le_refl _) hb5⟩
   rw [hsx]
   unfold xb
   rw [if_neg (by decide)]
   rw [List.append_assoc] at h5
   exact h5
 ·rintro L H2 ⟨w, rfl, ha, s2⟩
  rw [xsk_all] at ha
  have hlen := xsk_len hg hp0 p.exts.length (Nat.le_refl _)
  rw [xsk_all] at hlen
  unfold zdo
  simp (disch := first | omega | (simp only [RY] <;> omega) | decide) only [↓RD, RZ, eq_self, Int.reduceToNat, Int.reduceAdd, Nat.reduceAdd, Nat.reduceSub, Nat.reduceMul, Nat.reduceLeDiff]
  refine pad_ok _ ha s2.next (by omega) fun w' H3 h3 hb3 => ?_
  simp (disch := first | omega | (simp only [RY] <;> omega) | decide) only [↓RD, RZ, eq_self, Int.reduceToNat, Int.reduceAdd, Nat.reduceAdd, Nat.reduceSub, Nat.reduceMul, Nat.reduceLeDiff]
  exact ⟨h3.by.low (by omega), s1.trans (Grow.bel' s2 (Nat.le_refl _) hb3)⟩
end Go.Ax.R7
/- Rtp17 -/
namespace Go.Ax.R7
open Go.Ax
def csb (p : Pkt) : List Nat := (p.csrc.map (bn 4)).flatten
def extb (p : Pkt) : List Nat := if p.prof = 0 then [] else bn 2 p.prof.toNat ++ bn 2 ((elems p).length / 4) ++ elems p
def hb0 (p : Pkt) : List Nat := [b0 p, b1 p] ++ bn 2 p.seq ++ bn 4 p.ts ++ bn 4 p.ssrc ++ csb p
def hb (p : Pkt) : List Nat := hb0 p ++ extb p
def padb (n : Nat) : List Nat := if n = 0 then [] else List.replicate (n - 1) 0 ++ [n]
def bytes (p : Pkt) : Except Int (List Nat) :=
 if good p = false then .error 1
 else if 1200 < (hb p).length + p.pay.length + p.pad.toNat then .error 4
 else .ok (hb p ++ p.pay ++ padb p.pad.toNat)
structure Num (p : Pkt) : Prop where
 seq : p.seq < 65536
 ts : p.ts < 4294967296
 ssrc : p.ssrc < 4294967296
 csrc : ∀ x ∈ p.csrc, x < 4294967296
theorem Rng.num {p : Pkt} (h : Rng p) : Num p := ⟨h.seq, h.ts, h.ssrc, h.csrc⟩
def BytesQ (H : Heap) (o : Except Int (List Nat)) (r : V) (H' : Heap) : Prop :=
 Grow H H' ∧ match o with
  | .error e => r = .tup [.nils, .int .i64 e]
  | .ok l => ∃ w, r = .tup [w, .int .i64 0] ∧ By H.next H' w l
def csk (p : Pkt) (k : Nat) : List Nat := ((p.csrc.take k).map (bn 4)).flatten
theorem csk_succ {p : Pkt} {k : Nat} (h : k < p.csrc.length) : csk p (k + 1) = csk p k ++ bn 4 p.csrc[k] := by
 unfold csk
 rw [List.take_succ_eq_append_getElem h, List.map_append, List.flatten_append]; simp
theorem csk_len {p : Pkt} : ∀ k, k ≤ p.csrc.length → (csk p k).length = 4 * k := by
 intro k
 induction k with
 | zero => intro _; simp [csk]
 | succ k ih => intro hk; rw [csk_succ (by omega), List.length_append, ih (by omega), bn_len]; omega
theorem csk_all (p : Pkt) : csk p p.csrc.length = csb p := by unfold csk csb; rw [List.take_length]
theorem hb0_len (p : Pkt) : (hb0 p).length = 12 + 4 * p.csrc.length := by
 unfold hb0
 have := csk_len (p := p) p.csrc.length (Nat.le_refl _)
 rw [csk_all] at this
 simp only [List.length_append, bn_len, this, List.length_cons, List.length_nil]
theorem elems_len {p : Pkt} (hg : Gd p) (hp : p.prof ≠ 0) : (elems p).length ≤ 257 * p.exts.length + 3 := by
 have := xsk_len hg hp p.exts.length (Nat.le_refl _)
 rw [xsk_all] at this
 unfold elems padn
 rw [List.length_append, List.length_replicate]; omega
theorem Ab.mem {lo : Nat} {H : Heap} {v : V} {l : List Nat} (h : Ab lo H v l) (hl : 0 < l.length) : ∃ id cap o, v = .sl id 0 l.length cap ∧ H.get id = some ⟨zaz, l.map by8, o⟩ ∧ lo ≤ id ∧ id < H.next ∧ V.capOk 1 v := by
 unfold Ab at h
 generalize hc : l.map by8 = cells at h
 generalize hn : l.length = n at h hl
 cases h with
 | app h =>
  cases h with
  | opn h ho =>
   rcases h with ⟨rfl, _, h0⟩ | ⟨id, rfl, hb, _⟩
   ·omega
   ·obtain ⟨h1, h2⟩ := ho id rfl
    exact ⟨id, _, _, rfl, hb, h1, h2, rfl⟩
  | lit h h0 h1 => omega
 | full h hl h0 h1 => exact ⟨_, _, _, rfl, h, h0, h1, Nat.le_refl _⟩
theorem splice_last (m : List Nat) (x y : Nat) : splice ((m ++ [x]).map by8) m.length [by8 y] = (m ++ [y]).map by8 := by
 unfold splice
 simp [List.take_append_of_le_length]
def PB (lo : Nat) (H : Heap) (p : Pkt) (r : Res) (H' : Heap) : Prop := ∃ w, r = .nrm [w] ∧ Ab lo H' w (hb p) ∧ Bel lo H H'
theorem Bytes_ok {lo : Nat} {H : Heap} {v : V} {p : Pkt} (h : PkR lo H v p) (hs : Sml p) (hn : Num p) : Ok (sem T zde [v]) H (BytesQ H (bytes p)) := by
 have h0 := h
 obtain ⟨cv, xv, pv, rfl, hc, hx, hp⟩ := h
 obtain ⟨q1, q2, q3, q4⟩ := hs
 obtain ⟨m1, m2, m3, m4⟩ := hn
 refine zgy ?_
 unfold zfZ
 unfold bytes
 unfold pcells
 simp (disch := first | omega | (simp only [RY] <;> omega) | decide) only [↓RD, RZ, Nat.reduceAdd, hc.cells1, hx.cells1, hp.cells1, hc.okc, hx.okc, hp.okc]
 generalize hH1 : Heap.new H _ = H1
 have n1 : H1.next = H.next + 1 := by rw [← hH1]; rfl
 have s1 : Grow H H1 := by rw [← hH1]; exact Grow.new _ _
 have g1 : H1.get H.next = some ⟨zai, pcells p cv xv pv, none⟩ := by rw [← hH1]; exact zak _ _
 clear hH1
 unfold pcells at g1
 refine zac (Good_ok (h0.ext s1) ⟨q1, q2, q3, q4⟩) ?_
 rintro _ H2 ⟨rfl, s2⟩
 have n2 := s2.next
 have s02 := s1.trans s2
 have g2 : H2.get H.next = _ := (s2.same _ (by omega)).trans g1
 cases hgd : good p with
 | false =>
  simp (disch := first | omega | (simp only [RY] <;> omega) | decide) only [↓RD, RZ, Nat.reduceAdd]
  exact ⟨s02, rfl⟩
 | true =>
  have hg := good_gd hgd
  obtain ⟨⟨ht, hcl, hpd0, hpd1⟩, -, -, -⟩ := id hg
  have e1 : p.seq % 4294967296 = p.seq := by omega
  rw [if_neg (by decide)]
  simp (disch := first | omega | (simp only [RY] <;> omega) | decide) only [↓RD, RZ, Nat.reduceAdd, g2, e1]
  refine zac (first_ok (h0.ext s02) hg) ?_
  rintro w3 H3 ⟨a3, s3⟩
  have n3 := s3.next
  have g3 : H3.get H.next = _ := (s3.same _ (by omega)).trans g2
  have k3 : Bel H2.next H2 H3 := s3.bel (Nat.le_refl _)
  simp (disch := first | omega | (simp only [RY] <;> omega) | decide) only [↓RD, RZ, Nat.reduceAdd, g2, g3]
  refine zac (put_ok a3 k3.next (by simp) p.seq 2 (by omega) (by omega)) ?_
  rintro w4 H4 ⟨a4, b4, -⟩
  have k4 := k3.trans b4
  have g4 : H4.get H.next = _ := (k4.same _ (by omega)).trans g2
  simp (disch := first | omega | (simp only [RY] <;> omega) | decide) only [↓RD, RZ, Nat.reduceAdd, g4]
  refine zac (put_ok a4 k4.next (by simp [bn_len]) p.ts 4 m2 (by omega)) ?_
  rintro w5 H5 ⟨a5, b5, -⟩
  have k5 := k4.trans b5
  have g5 : H5.get H.next = _ := (k5.same _ (by omega)).trans g2
  simp (disch := first | omega | (simp only [RY] <;> omega) | decide) only [↓RD, RZ, Nat.reduceAdd, g4, g5]
  refine zac (put_ok a5 k5.next (by simp [bn_len]) p.ssrc 4 m3 (by omega)) ?_
  rintro w6 H6 ⟨a6, b6, -⟩
  have k6 := k5.trans b6
  have g6 : H6.get H.next = _ := (k6.same _ (by omega)).trans g2
  simp (disch := first | omega | (simp only [RY] <;> omega) | decide) only [↓RD, RZ, Nat.reduceAdd, g6, hc.vlen]
  refine zaK (fun k L H' => ∃ w, L = [w, .int .i64 (k : Nat)] ∧ Ab H2.next H' w ([b0 p, b1 p] ++ bn 2 p.seq ++ bn 4 p.ts ++ bn 4 p.ssrc ++ csk p k) ∧ Bel H2.next H2 H') p.csrc.length ?_ ?_ ?_
  ·exact ⟨w6, rfl, by simpa [csk] using a6, k6⟩
  ·rintro k L H7 hk ⟨w, rfl, a7, k7⟩
   have s7 : Grow H H7 := Grow.bel' s02 (by omega) k7
   obtain ⟨q, i1, l1⟩ := w_at (hc.ext s7) hk
   have hlen := csk_len (p := p) k (by omega)
   unfold zem
   simp (disch := first | omega | (simp only [RY] <;> omega) | decide) only [↓RD, RZ, Nat.reduceAdd, i1, l1]
   refine zac (put_ok a7 k7.next (by simp [bn_len, hlen]; omega) p.csrc[k] 4 (m4 _ (List.getElem_mem hk)) (by omega)) ?_
   rintro w8 H8 ⟨a8, b8, -⟩
   simp (disch := first | omega | (simp only [RY] <;> omega) | decide) only [↓RD, RZ, Nat.reduceAdd]
   refine ⟨w8, by rfl, ?_, k7.trans b8⟩
   rw [csk_succ hk, ← List.append_assoc]
   exact a8
  ·rintro L H7 ⟨w7, rfl, a7, k7⟩
   rw [csk_all] at a7
   have a7' : Ab H2.next H7 w7 (hb0 p) := a7
   have g7 : H7.get H.next = _ := (k7.same _ (by omega)).trans g2
   have s7 : Grow H H7 := Grow.bel' s02 (by omega) k7
   have hl0 := hb0_len p
   unfold zem
   simp (disch := first | omega | (simp only [RY] <;> omega) | decide) only [↓RD, RZ, Nat.reduceAdd, g7]
   refine zaM (Q := PB H2.next H2 p) ?_ ?_
   ·by_cases hz : p.prof = 0
    ·simp (disch := first | omega | (simp only [RY] <;> omega) | decide) only [↓RD, RZ, Nat.reduceAdd, hz]
     refine ⟨w7, rfl, ?_, k7⟩
     unfold hb extb
     rw [if_pos hz, List.append_nil]; exact a7'
    ·have hel := elems_len hg hz
     simp (disch := first | omega | (simp only [RY] <;> omega) | decide) only [↓RD, RZ, Nat.reduceAdd, hz, g7]
     refine zac (elemsP_ok (h0.ext s7) ⟨q1, q2, q3, q4⟩ hg hz) ?_
     rintro ev H8 ⟨he8, s8⟩
     have n8 := s8.next
     have k8 := k7.trans (s8.bel k7.next)
     have g8 : H8.get H.next = _ := (k8.same _ (by omega)).trans g2
     have a8 : Ab H2.next H8 w7 (hb0 p) := Apf.keep a7' (s8.keep _)
     obtain ⟨f, hf, hf2⟩ : ∃ f : Nat, p.prof = (f : Int) ∧ f < 65536 := by
      rcases hg.c.resolve_left hz with e | e
      ·exact ⟨48862, e, by omega⟩
      ·exact ⟨4096, e, by omega⟩
     have e2 : f % 4294967296 = f := by omega
     have hpid8 : ∀ id, ev.pid = some id → H7.next ≤ id ∧ id < H8.next := fun id hi => he8.own id hi
     rw [hf] at g8
     simp (disch := first | omega | (simp only [RY] <;> omega) | decide) only [↓RD, RZ, Nat.reduceAdd, g8, e2]
     refine zac (put_ok a8 k8.next (by omega) f 2 (by omega) (by omega)) ?_
     rintro w9 H9 ⟨a9, b9, st9⟩
     have e3 : (elems p).length / 4 % 4294967296 = (elems p).length / 4 := by omega
     have he9 : By H7.next H9 ev (elems p) := he8.step st9 fun id hi hF => by
      have h1 := (a7'.lc.own id (by simpa [mem_pid] using hF)).2
      have h2 := (hpid8 id hi).1
      omega
     have k9 := k8.trans b9
     simp (disch := first | omega | (simp only [RY] <;> omega) | decide) only [↓RD, RZ, Nat.reduceAdd, he9.vlen, e3]
     refine zac (put_ok a9 k9.next (by simp [bn_len, hl0]; omega) ((elems p).length / 4) 2 (by omega) (by omega)) ?_
     rintro w10 H10 ⟨a10, b10, st10⟩
     have he10 : By H7.next H10 ev (elems p) := he9.step st10 fun id hi hF => by
      have h2 := hpid8 id hi
      rcases st9.own id hF with h | h
      ·have h1 := (a7'.lc.own id (by simpa [mem_pid] using h)).2
       omega
      ·omega
     have k10 := k9.trans b10
     simp (disch := first | omega | (simp only [RY] <;> omega) | decide) only [↓RD, RZ, Nat.reduceAdd]
     refine zgw a10 k10.next he10.ac (by simp [bn_len, hl0]; omega) fun w11 H11 a11 b11 => ?_
     simp (disch := first | omega | (simp only [RY] <;> omega) | decide) only [↓RD, RZ, Nat.reduceAdd]
     refine ⟨w11, rfl, ?_, k10.trans b11⟩
     have ehb : hb p = hb0 p ++ bn 2 f ++ bn 2 ((elems p).length / 4) ++ elems p := by
      unfold hb extb
      rw [if_neg hz, hf, Int.toNat_natCast]
      simp only [List.append_assoc]
     rw [ehb]; exact a11
   ·rintro r H8 ⟨w8, rfl, a8, k8⟩
    have g8 : H8.get H.next = _ := (k8.same _ (by omega)).trans g2
    have s8 : Grow H H8 := Grow.bel' s02 (by omega) k8
    have hpl := (hp.ext s8).vlen
    obtain ⟨d, hd⟩ := Int.eq_ofNat_of_zero_le hpd0
    rw [hd] at g8 hpd1
    have hdt : p.pad.toNat = d := by rw [hd]; rfl
    rw [hdt]
    have hhl : (hb p).length ≤ 549755813888 := by
     unfold hb extb
     rw [List.length_append, hl0]
     split
     ·simp; omega
     ·rename_i hz
      have := elems_len hg hz
      simp only [List.length_append, bn_len]; omega
    have e1 : ((hb p).length : Int) + (p.pay.length : Nat) = (((hb p).length + p.pay.length : Nat) : Int) := rfl
    have e2 : (((hb p).length + p.pay.length : Nat) : Int) + (d : Nat) = (((hb p).length + p.pay.length + d : Nat) : Int) := rfl
    by_cases hbig : 1200 < (hb p).length + p.pay.length + d
    ·rw [if_pos hbig]
     simp (disch := first | omega | (simp only [RY] <;> omega) | decide) only [↓RD, RZ, Nat.reduceAdd, a8.lc.vlen, g8, hpl, e1, e2]
     exact ⟨s8, rfl⟩
    ·rw [if_neg hbig]
     simp (disch := first | omega | (simp only [RY] <;> omega) | decide) only [↓RD, RZ, Nat.reduceAdd, a8.lc.vlen, g8, hpl, e1, e2]
     refine zgw a8 k8.next (hp.ext s8).ac (by omega) fun w9 H9 a9 b9 => ?_
     have k9 := k8.trans b9
     have s9 : Grow H H9 := Grow.bel' s02 (by omega) k9
     have g9 : H9.get H.next = _ := (b9.same _ (by omega)).trans g8
     by_cases hd0 : d = 0
     ·subst hd0
      simp (disch := first | omega | (simp only [RY] <;> omega) | decide) only [↓RD, RZ, Nat.reduceAdd, g9]
      refine ⟨s9, w9, rfl, ?_⟩
      unfold padb
      rw [if_pos rfl, List.append_nil]
      exact a9.by.low (by omega)
     ·simp (disch := first | omega | (simp only [RY] <;> omega) | decide) only [↓RD, RZ, Nat.reduceAdd, g9]
      refine okb_apfz (m := d) a9 k9.next (by simp; omega) (by simp; omega) fun w10 H10 a10 b10 => ?_
      obtain ⟨c, rfl⟩ : ∃ c, d = c + 1 := ⟨d - 1, by omega⟩
      have ea : Ab H2.next H10 w10 ((hb p ++ p.pay ++ List.replicate c 0) ++ [0]) := by
       have e1 : (hb p ++ p.pay ++ List.replicate c 0) ++ [0] = (hb p ++ p.pay) ++ List.replicate (c + 1) 0 := by
        rw [List.append_assoc (hb p ++ p.pay), ← List.replicate_succ']
       show Apf _ _ _ _ _ _ _
       rw [e1, List.map_append, List.length_append, List.map_replicate, List.length_replicate]
       exact a10
      have k10 := k9.trans b10
      have g10 : H10.get H.next = _ := (b10.same _ (by omega)).trans g9
      have s10 : Grow H H10 := Grow.bel' s02 (by omega) k10
      generalize hlm : hb p ++ p.pay ++ List.replicate c 0 = lm at *
      have hll : lm.length ≤ 1200 := by rw [← hlm]; simp only [List.length_append, List.length_replicate]; omega
      have hvl := ea.lc.vlen
      obtain ⟨id, cap, o, rfl, hb10, h1, h2, hcap⟩ := ea.mem (by simp)
      rw [List.length_append, List.length_singleton] at hvl hcap ⊢
      have e5 : ((lm.length + 1 : Nat) : Int) - 1 = (lm.length : Nat) := by omega
      have hia : ∀ {k : IntKind}, Ax.iaddr none 1 (.sl id 0 (lm.length + 1) cap) (.int k (lm.length : Nat)) = some (.ptr id lm.length) := fun {k} => by
       have := zeX (id := id) (off := 0) (len := lm.length + 1) (c := cap) (k := k) (i := ((lm.length : Nat) : Int)) (e := 1) (by omega) (by omega)
       simpa using this
      have e6 : (c + 1) % 256 = c + 1 := by omega
      simp (disch := first | omega | (simp only [RY] <;> omega) | decide) only [↓RD, RZ, Nat.reduceAdd, hvl, e5, g10, hia, e6]
      refine ze8 (size := 1) (off := lm.length) (cells' := (lm ++ [c + 1]).map by8) hb10 ⟨by rfl, by simp, by rfl⟩ (splice_last lm 0 (c + 1)) ?_
      simp (disch := first | omega | (simp only [RY] <;> omega) | decide) only [↓RD, RZ, Nat.reduceAdd]
      refine ⟨s10.set (by omega) _, _, rfl, ?_⟩
      have efin : hb p ++ p.pay ++ padb (c + 1) = lm ++ [c + 1] := by
       unfold padb
       rw [if_neg (by omega), ← hlm]
       simp
      rw [efin]
      refine ⟨?_, fun i hi => ?_, by simpa using hcap⟩
      ·simp only [rcells, zaq, Option.bind_some]
       rw [if_pos (by simp), List.drop_zero, List.take_of_length_le (by simp)]
       simp
      ·simp only [V.pid, Option.some.injEq] at hi; subst hi; exact ⟨by omega, by rw [zaH]; omega⟩
end Go.Ax.R7
/- Lan4 -/
namespace Go.Ax.LN
open Go.Ax D9
structure Ln where
 ssrc : Nat
 c : Ca
 t : Tn
 refs : List Nat
 es : List En
 broken : Bool
def lnC (L : Ln) (rv : V) (q : Nat) : List V := [.int .u32 (L.ssrc : Nat), .int .i64 3, .int .i64 7, .bool L.c.any, .int .i64 L.c.now, .int .i64 L.c.want, .bool L.t.any, .int .u16 (L.t.seq : Nat), .int .u32 (L.t.ts : Nat), .int .u32 (L.t.dts : Nat), .int .u16 (L.t.fr : Nat), .int .u16 (L.t.dfr : Nat), .int .i64 L.t.at', rv, .ptr q 0, .bool L.broken]
structure LnX (H : Heap) (p : Nat) (L : Ln) (rv : V) (q : Nat) (Fq : List Nat) : Prop where
 cell : H.get p = some ⟨zbN, lnC L rv q, none⟩
 pl : p < H.next
 ring : RgR H q L.es Fq
 ne : p ≠ q ∧ p ∉ Fq
 refs : Wl 0 H rv L.refs
 rvd : ∀ i, rv.pid = some i → i ≠ p ∧ i ≠ q ∧ i ∉ Fq
 o : TnO L.t
 es64 : L.es.length ≤ 64
 good : goodC L.c = true
structure LnR (H : Heap) (p : Nat) (L : Ln) (F : List Nat) : Prop where
 ex : ∃ rv q Fq, F = p :: q :: Fq ∧ LnX H p L rv q Fq
theorem LnX.low {H : Heap} {p : Nat} {L : Ln} {rv : V} {q : Nat} {Fq : List Nat} (h : LnX H p L rv q Fq) : ∀ i ∈ p :: q :: Fq, i < H.next := by
 obtain ⟨⟨v, hv, hr⟩, ql, out⟩ := h.ring
 intro i hi
 rcases List.mem_cons.1 hi with rfl | hi
 ·exact h.pl
 ·rcases List.mem_cons.1 hi with rfl | hi
  ·exact ql
  ·exact hr.low i hi
theorem LnX.put {H H' : Heap} {p : Nat} {L L' : Ln} {rv rv' : V} {q : Nat} {Fq : List Nat} (h : LnX H p L rv q Fq) (s : At1 p H H') (hc : H'.get p = some ⟨zbN, lnC L' rv' q, none⟩) (he : L'.es = L.es)
  (hr : Wl 0 H' rv' L'.refs) (hd : ∀ i, rv'.pid = some i → i ≠ p ∧ i ≠ q ∧ i ∉ Fq) (ho : TnO L'.t) (hg : goodC L'.c = true) : LnX H' p L' rv' q Fq := by
 have n := s.next
 refine ⟨hc, by have := h.pl; omega, ?_, h.ne, hr, hd, ho, by rw [he]; exact h.es64, hg⟩
 rw [he]
 exact h.ring.to n fun i hi hq => s.same i hi fun e => by
  subst e
  rcases hq with hq | hq
  ·exact h.ne.1 hq
  ·exact h.ne.2 hq
theorem LnX.refs1 {H H' : Heap} {p : Nat} {L : Ln} {rv : V} {q : Nat} {Fq : List Nat} (h : LnX H p L rv q Fq) (s : At1 p H H') : Wl 0 H' rv L.refs := h.refs.at1 s fun e => (h.rvd p e).1 rfl
theorem LnX.grow {H H' : Heap} {p : Nat} {L : Ln} {rv : V} {q : Nat} {Fq : List Nat} (h : LnX H p L rv q Fq) (g : Grow H H') : LnX H' p L rv q Fq :=
 h.put (g.at1 p) ((g.same p h.pl).trans h.cell) rfl (h.refs.ext g) h.rvd h.o h.good
theorem LnR.grow {H H' : Heap} {p : Nat} {L : Ln} {F : List Nat} (h : LnR H p L F) (g : Grow H H') : LnR H' p L F := by
 obtain ⟨rv, q, Fq, h1, h2⟩ := h
 exact ⟨rv, q, Fq, h1, h2.grow g⟩
structure LnB (H : Heap) (p : Nat) (L : Ln) (F : List Nat) (B : Nat) (G : List Nat) : Prop where
 ex : ∃ rv q Fq, F = p :: q :: Fq ∧ LnX H p L rv q Fq ∧ (∀ i, i ∈ F ∨ rv.pid = some i → i < B) ∧ ∀ i, rv.pid = some i → i ∈ G
structure LnG (H : Heap) (p : Nat) (L : Ln) (F : List Nat) (G : List Nat) : Prop where
 ex : ∃ rv q Fq, F = p :: q :: Fq ∧ LnX H p L rv q Fq ∧ ∀ i, rv.pid = some i → i ∈ G
theorem LnB.lg {H : Heap} {p : Nat} {L : Ln} {F : List Nat} {B : Nat} {G : List Nat} (h : LnB H p L F B G) : LnG H p L F G := by
 obtain ⟨rv, q, Fq, h1, h2, -, h3⟩ := h
 exact ⟨rv, q, Fq, h1, h2, h3⟩
theorem LnG.ln {H : Heap} {p : Nat} {L : Ln} {F : List Nat} {G : List Nat} (h : LnG H p L F G) : LnR H p L F := by
 obtain ⟨rv, q, Fq, h1, h2, h3⟩ := h
 exact ⟨rv, q, Fq, h1, h2⟩
theorem LnG.lb {H : Heap} {p : Nat} {L : Ln} {F : List Nat} {G : List Nat} (h : LnG H p L F G) : LnB H p L F H.next G := by
 obtain ⟨rv, q, Fq, rfl, h2, h3⟩ := h
 exact ⟨rv, q, Fq, rfl, h2, fun i hi => hi.elim (h2.low i) fun hi => (h2.refs.own i hi).2, h3⟩
theorem LnG.grow {H H' : Heap} {p : Nat} {L : Ln} {F : List Nat} {G : List Nat} (h : LnG H p L F G) (g : Grow H H') : LnG H' p L F G := by
 obtain ⟨rv, q, Fq, h1, h2, h3⟩ := h
 exact ⟨rv, q, Fq, h1, h2.grow g, h3⟩
theorem LnB.far {H H' : Heap} {p : Nat} {L : Ln} {F : List Nat} {B : Nat} {G : List Nat} (h : LnB H p L F B G) (hn : H.next ≤ H'.next) (hs : ∀ i, i < B → H'.get i = H.get i) : LnB H' p L F B G := by
 obtain ⟨rv, q, Fq, rfl, h2, hB, hG⟩ := h
 have hF := fun i hi => hs i (hB i (.inl hi))
 refine ⟨rv, q, Fq, rfl, ⟨(hF p (List.mem_cons_self ..)).trans h2.cell, by have := h2.pl; omega, h2.ring.to hn fun i _ hi => hF i ?_, h2.ne, ?_, h2.rvd, h2.o, h2.es64, h2.good⟩, hB, hG⟩
 ·rcases hi with rfl | hi
  ·exact List.mem_cons_of_mem _ (List.mem_cons_self ..)
  ·exact List.mem_cons_of_mem _ (List.mem_cons_of_mem _ hi)
 ·exact ⟨by rw [rcells_to fun i hi => hs i (hB i (.inr hi))]; exact h2.refs.rc, fun i hi => ⟨Nat.zero_le _, Nat.lt_of_lt_of_le (h2.refs.own i hi).2 hn⟩, h2.refs.cap⟩
theorem LnB.grow {H H' : Heap} {p : Nat} {L : Ln} {F : List Nat} {B : Nat} {G : List Nat} (h : LnB H p L F B G) (g : Grow H H') : LnB H' p L F B G := by
 obtain ⟨rv, q, Fq, h1, h2, hB⟩ := h
 exact ⟨rv, q, Fq, h1, h2.grow g, hB⟩
def keyF (f : D9.Fr) : Bool := f.new && f.st
def goesL (L : Ln) (i : Int) (f : D9.Fr) : Bool := (castOn L.c i (keyF f)).2.1
def turn1 (L : Ln) (i : Int) (f : D9.Fr) : Ln := if (castOn L.c i (keyF f)).2.1 = true ∧ keyF f = true then { L with c := (castOn L.c i (keyF f)).1, refs := [], broken := false } else { L with c := (castOn L.c i (keyF f)).1 }
def turnL (L : Ln) (i : Int) (ts : Nat) (f : D9.Fr) (now : Int) : Ln := if (castOn L.c i (keyF f)).2.2 = true then { turn1 L i f with t := tbeg L.t ts f.num now } else turn1 L i f
theorem castOn_good {c : Ca} {i : Int} {key : Bool} (h : goodC c = true) : goodC (castOn c i key).1 = true := by
 unfold castOn
 rw [if_neg (by rw [h]; decide)]
 split
 ·rename_i hc
  rw [Bool.and_eq_true, Bool.and_eq_true] at hc
  have hw := of_decide_eq_true hc.1.1
  unfold goodC at h ⊢
  rw [Bool.and_eq_true, Bool.and_eq_true] at h
  dsimp only
  rw [hw, h.1.2]; rfl
 ·exact h
theorem whole_ok {H : Heap} {p q : Nat} {L : Ln} {rv : V} (hc : H.get p = some ⟨zbN, lnC L rv q, none⟩) :
  Ok (sem T zb8 [.ptr p 0]) H fun r H' => H'.get p = some ⟨zbN, lnC { L with refs := [], broken := false } .nils q, none⟩ ∧ At1 p H H' := by
 refine zfe ?_
 unfold zd0
 unfold lnC at hc ⊢
 simp (disch := first | omega | (simp only [RY] <;> omega) | decide) only [↓RD, RZ, eq_self, Int.reduceToNat, Int.reduceAdd, Nat.reduceAdd, Nat.reduceSub, Nat.reduceMul, Nat.reduceLeDiff, hc]
 exact (At1.set p H _).trans (At1.set p _ _)
theorem At1.grow {p : Nat} {H H1 H2 : Heap} (h : At1 p H H1) (g : Grow H1 H2) : At1 p H H2 := h.trans (g.at1 p)
set_option maxHeartbeats 1600000 in
theorem turned_ok {H : Heap} {p lo lo' B : Nat} {L : Ln} {F G : List Nat} {v w : V} {pk : R7.Pkt} {f : D9.Fr} (h : LnB H p L F B G) (i : Int) (hv : R7.PkR lo H v pk) (hw : FrR lo' H w f) {now : Int} (hts : pk.ts < 4294967296) (hfn : f.num < 65536) (hnow : 0 ≤ now ∧ now < 4611686018427387904) :
  Ok (sem T zb1 [.ptr p 0, .int .i64 i, v, w, .int .i64 now]) H fun r H' => r = .bool (goesL L i f) ∧ LnB H' p (turnL L i pk.ts f now) F B G ∧ At1 p H H' := by
 obtain ⟨rv, q, Fq, rfl, h, hB, hG⟩ := h
 obtain ⟨cv, xv, pv, rfl, hcv, hxv, hpv⟩ := hv
 obtain ⟨a, b, c, d, e, g, rfl, hf⟩ := hw
 obtain ⟨ca, cb, cc, cd, ce, cg⟩ := fr_dti hf
 have ccv := hcv.cel
 have cpv := hpv.cel
 have crv := h.refs.cel
 refine zfb ?_
 unfold zdS
 unfold R7.pcells fcells
 have hpl := h.pl
 have hcell := h.cell
 unfold lnC at hcell
 simp (disch := first | omega | (simp only [RY] <;> omega) | decide) only [↓RD, RZ, eq_self, Int.reduceToNat, Int.reduceAdd, Nat.reduceAdd, Nat.reduceSub, Nat.reduceMul, Nat.reduceLeDiff, ca.1, ca.2, cb.1, cb.2, cc.1, cc.2, cd.1, cd.2, ce.1, ce.2, cg.1, cg.2, hcv.cells1, hxv.cells1, hpv.cells1, hcv.okc, hxv.okc, hpv.okc, hcell]
 generalize hH1 : Heap.new (Heap.new H _) _ = H1
 have s1 : Grow H H1 := by rw [← hH1]; exact (Grow.new _ _).trans (Grow.new _ _)
 have n1 : H1.next = H.next + 2 := by rw [← hH1]; rfl
 have g1 : H1.get H.next = some ⟨zai, [.bool pk.mark, .int .i64 pk.typ, .int .u16 pk.seq, .int .u32 pk.ts, .int .u32 pk.ssrc, cv, .int .i64 pk.prof, xv, .int .i64 pk.pad, pv], none⟩ := by rw [← hH1]; simp (disch := first | omega | (simp only [RY] <;> omega) | decide) only [↓RD, RZ, eq_self, Int.reduceToNat, Int.reduceAdd, Nat.reduceAdd, Nat.reduceSub, Nat.reduceMul, Nat.reduceLeDiff]
 have g1' : H1.get (H.next + 1) = some ⟨zal, fcells f a b c d e g, none⟩ := by rw [← hH1]; unfold fcells; simp (disch := first | omega | (simp only [RY] <;> omega) | decide) only [↓RD, RZ, eq_self, Int.reduceToNat, Int.reduceAdd, Nat.reduceAdd, Nat.reduceSub, Nat.reduceMul, Nat.reduceLeDiff]
 clear hH1
 unfold fcells at g1'
 have a1 : At1 p H H1 := s1.at1 p
 have c1 : H1.get p = _ := (s1.same p hpl).trans hcell
 simp (disch := first | omega | (simp only [RY] <;> omega) | decide) only [↓RD, RZ, eq_self, Int.reduceToNat, Int.reduceAdd, Nat.reduceAdd, Nat.reduceSub, Nat.reduceMul, Nat.reduceLeDiff, RG, g1', c1]
 refine zac (On_ok L.c i (keyF f)) ?_
 rintro _ H2 ⟨rfl, s2⟩
 have n2 := s2.next
 have c2 : H2.get p = _ := (s2.same p (by omega)).trans c1
 have hg' := castOn_good (i := i) (key := keyF f) h.good
 obtain ⟨c', goes, turned, hce⟩ : ∃ c' goes turned, castOn L.c i (keyF f) = (c', goes, turned) := ⟨_, _, _, rfl⟩
 rw [hce] at hg'
 have hgo : goesL L i f = goes := by unfold goesL; rw [hce]
 have ht1 : turn1 L i f = if goes = true ∧ keyF f = true then { L with c := c', refs := [], broken := false } else { L with c := c' } := by unfold turn1; rw [hce]
 have htl : turnL L i pk.ts f now = if turned = true then { turn1 L i f with t := tbeg L.t pk.ts f.num now } else turn1 L i f := by unfold turnL; rw [hce]
 rw [hce]
 dsimp only
 unfold caC
 simp (disch := first | omega | (simp only [RY] <;> omega) | decide) only [↓RD, RZ, eq_self, Int.reduceToNat, Int.reduceAdd, Nat.reduceAdd, Nat.reduceSub, Nat.reduceMul, Nat.reduceLeDiff, RG, c2]
 generalize hH3 : Heap.set (Heap.set (Heap.new H2 _) _ _) _ _ = H3
 have a3 : At1 p H2 H3 := by
  rw [← hH3]
  exact ((((Grow.new H2 _).set (Nat.le_refl _) _).at1 p)).trans (At1.set p _ _)
 have c3 : H3.get p = some ⟨zbN, lnC { L with c := c' } rv q, none⟩ := by rw [← hH3]; unfold lnC; simp (disch := first | omega | (simp only [RY] <;> omega) | decide) only [↓RD, RZ, eq_self, Int.reduceToNat, Int.reduceAdd, Nat.reduceAdd, Nat.reduceSub, Nat.reduceMul, Nat.reduceLeDiff]
 have n3 : H3.next = H2.next + 1 := by rw [← hH3]; rfl
 clear hH3
 have a03 : At1 p H H3 := (At1.grow a1 s2).trans a3
 have hpt : p < H.next := hpl
 have g3 : H3.get H.next = _ := (a3.same _ (by omega) (by omega)).trans ((s2.same _ (by omega)).trans g1)
 have g3' : H3.get (H.next + 1) = _ := (a3.same _ (by omega) (by omega)).trans ((s2.same _ (by omega)).trans g1')
 refine zaM (Q := fun r H' => r = .nrm [] ∧ ∃ rv', H'.get p = some ⟨zbN, lnC (turn1 L i f) rv' q, none⟩ ∧ At1 p H3 H' ∧ (rv' = .nils ∧ (turn1 L i f).refs = [] ∨ rv' = rv ∧ (turn1 L i f).refs = L.refs)) ?_ ?_
 ·refine ze3 (fun hd => ?_) fun hd => ?_
  ·have e : goes = true ∧ keyF f = true := by
    rw [Bool.and_eq_true] at hd
    exact hd
   rw [ht1, if_pos e]
   refine zac (whole_ok c3) ?_
   rintro _ H4 ⟨c4, a4⟩
   simp (disch := first | omega | (simp only [RY] <;> omega) | decide) only [↓RD, RZ, eq_self, Int.reduceToNat, Int.reduceAdd, Nat.reduceAdd, Nat.reduceSub, Nat.reduceMul, Nat.reduceLeDiff]
   first | exact ⟨.nils, c4, a4, .inl ⟨rfl, rfl⟩⟩ | exact ⟨.nils, c4, a4, .inl rfl⟩
  ·have e : ¬ (goes = true ∧ keyF f = true) := by
    rintro ⟨h1, h2⟩
    have : (goes && (f.new && f.st)) = true := by rw [h1]; exact h2
    rw [this] at hd; cases hd
   rw [ht1, if_neg e]
   simp (disch := first | omega | (simp only [RY] <;> omega) | decide) only [↓RD, RZ, eq_self, Int.reduceToNat, Int.reduceAdd, Nat.reduceAdd, Nat.reduceSub, Nat.reduceMul, Nat.reduceLeDiff]
   first | exact ⟨rv, c3, At1.refl _ _, .inr ⟨rfl, rfl⟩⟩ | exact ⟨rv, c3, At1.refl _ _, .inr rfl⟩
 ·rintro _ H4 ⟨rfl, rv', c4, a4, hrv⟩
  have n4 := a4.next
  have g4 : H4.get H.next = _ := (a4.same _ (by omega) (by omega)).trans g3
  have g4' : H4.get (H.next + 1) = _ := (a4.same _ (by omega) (by omega)).trans g3'
  have a04 := a03.trans a4
  have ht14 : (turn1 L i f).t = L.t := by rw [ht1]; split <;> rfl
  have hes : (turn1 L i f).es = L.es := by rw [ht1]; split <;> rfl
  have hcc : (turn1 L i f).c = c' := by rw [ht1]; split <;> rfl
  have hgd : goodC (turn1 L i f).c = true := by rw [hcc]; exact hg'
  have hr4 : Wl 0 H4 rv' (turn1 L i f).refs := by
   rcases hrv with ⟨rfl, e⟩ | ⟨rfl, e⟩
   ·rw [e]; exact Lc.nil
   ·rw [e]; exact h.refs1 a04
  have hd4 : ∀ j, rv'.pid = some j → j ≠ p ∧ j ≠ q ∧ j ∉ Fq := by
   rcases hrv with ⟨rfl, e⟩ | ⟨rfl, e⟩
   ·exact fun j hj => by cases hj
   ·exact h.rvd
  have hB4 : ∀ j, j ∈ p :: q :: Fq ∨ rv'.pid = some j → j < B := by
   rcases hrv with ⟨rfl, e⟩ | ⟨rfl, e⟩
   ·exact fun j hj => hj.elim (fun h => hB j (.inl h)) fun h => by cases h
   ·exact hB
  have hG4 : ∀ j, rv'.pid = some j → j ∈ G := by
   rcases hrv with ⟨rfl, e⟩ | ⟨rfl, e⟩
   ·exact fun j hj => by cases hj
   ·exact hG
  generalize turn1 L i f = L1 at *
  simp (disch := first | omega | (simp only [RY] <;> omega) | decide) only [↓RD, RZ, eq_self, Int.reduceToNat, Int.reduceAdd, Nat.reduceAdd, Nat.reduceSub, Nat.reduceMul, Nat.reduceLeDiff]
  cases turned with
  | false =>
   have e : turnL L i pk.ts f now = L1 := by rw [htl, if_neg (by decide)]
   simp (disch := first | omega | (simp only [RY] <;> omega) | decide) only [↓RD, RZ, eq_self, Int.reduceToNat, Int.reduceAdd, Nat.reduceAdd, Nat.reduceSub, Nat.reduceMul, Nat.reduceLeDiff]
   rw [e, hgo]
   exact ⟨rfl, ⟨rv', q, Fq, rfl, h.put a04 c4 hes hr4 hd4 (by rw [ht14]; exact h.o) hgd, hB4, hG4⟩, a04⟩
  | true =>
   have e : turnL L i pk.ts f now = { L1 with t := tbeg L.t pk.ts f.num now } := by rw [htl, if_pos rfl]
   unfold lnC at c4
   simp (disch := first | omega | (simp only [RY] <;> omega) | decide) only [↓RD, RZ, eq_self, Int.reduceToNat, Int.reduceAdd, Nat.reduceAdd, Nat.reduceSub, Nat.reduceMul, Nat.reduceLeDiff, c4, g4, g4', ht14]
   have ho := h.o
   have hB := Begin_ok (H := H4) (t := L.t) ho hts hfn hnow
   unfold tnC at hB
   refine zac hB ?_
   rintro _ H5 ⟨rfl, s5⟩
   have n5 := s5.next
   have c5 : H5.get p = _ := (s5.same p (by omega)).trans c4
   simp (disch := first | omega | (simp only [RY] <;> omega) | decide) only [↓RD, RZ, eq_self, Int.reduceToNat, Int.reduceAdd, Nat.reduceAdd, Nat.reduceSub, Nat.reduceMul, Nat.reduceLeDiff, c5]
   have a5 : At1 p H H5 := At1.grow a04 s5
   rw [e, hgo]
   refine ⟨rfl, ⟨rv', q, Fq, rfl, h.put (a5.trans (At1.set p _ _)) (by unfold lnC; exact zaq _ _ _) hes (hr4.at1 ((s5.at1 p).trans (At1.set p _ _)) fun e => (hd4 p e).1 rfl) hd4 (tbeg_o ho _ _ _) hgd, hB4, hG4⟩, a5.trans (At1.set p _ _)⟩
end Go.Ax.LN
