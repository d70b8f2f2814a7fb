/-
  Pick: the laws PickSays and PickBest.
-/
import Derived.Test.YtblfcdaedibdnaaDepP1
set_option maxRecDepth 100000
set_option linter.unusedVariables false
set_option linter.unusedSimpArgs false
namespace Go.Ax.D9
open Go.Ax

theorem says_ok {H : Heap} {v w z : V} {s : Sr} {f : Fr} {rates : List Int} (hv : ∀ lo H, SrR lo H v s) (ho : SrO s) (hw : ∀ lo H, FrR lo H w f) (hf : FrO f) (hz : ∀ lo H, Il lo H z rates) (hr : I64 rates) (hl : rates.length ≤ 1048576)
    (act : Nat) (hact : act < 4294967296) (sp te target : Int) (rate : Nat) (hrate : rate < 18446744073709551616) :
    Ok (sem T fn_palanquinlaw20_PickSays [v, .int .u32 act, .int .i64 sp, .int .i64 te, w, .int .i64 target, .int .u64 rate, z]) H fun r H' => r = .bool true := by
  obtain ⟨a, b, c, rfl, h⟩ := hv 0 H
  obtain ⟨p, q, r, d, e, g, rfl, k⟩ := hw 0 H
  obtain ⟨cp, cq, cr, cd, ce, cg⟩ := fr_dti k
  have hdl := hf.dti.2
  refine ok_palanquinlaw20_PickSays ?_
  unfold f_palanquinlaw20_PickSays
  unfold scells fcells
  simp (disch := first | omega | (simp only [nx_new, nx_set, List.length_cons, List.length_nil] <;> omega) | decide) only [↓RD, RC, RH, RO, RN, RL, RX, RS, RM, eq_self, Int.reduceToNat, Int.reduceAdd, Int.reduceSub, Int.reduceMul, Nat.reduceAdd, Nat.reduceSub, Nat.reduceMul, Nat.reduceDiv, Nat.reduceMod, Nat.reduceBEq, Nat.reduceLeDiff, h.ts.cells1, h.ts.okc, h.pro.cells1, h.pro.okc, h.siz.cells1, h.siz.okc, cp.1, cp.2, cq.1, cq.2, cr.1, cr.2, cd.1, cd.2, ce.1, ce.2, cg.1, cg.2]
  generalize hH1 : Heap.new (Heap.new H _) _ = H1
  have n1 : H1.next = H.next + 2 := by rw [← hH1]; rfl
  have g1 : H1.get H.next = some ⟨ty_depend_Structure, scells s a b c, none⟩ := by rw [← hH1, get_new_ne _ _ (by rw [next_new]; omega), get_new_self]; rfl
  have f1 : H1.get (H.next + 1) = some ⟨ty_depend_Frame, fcells f p q r d e g, none⟩ := by rw [← hH1]; exact get_new_self _ _
  clear hH1
  unfold scells at g1
  unfold fcells at f1
  refine ok_bind' awake20_ok ?_
  rintro _ H2 ⟨rfl, s2⟩
  have n2 := s2.next
  have g2 : H2.get H.next = _ := (s2.same _ (by omega)).trans g1
  have f2 : H2.get (H.next + 1) = _ := (s2.same _ (by omega)).trans f1
  simp (disch := first | omega | (simp only [nx_new, nx_set, List.length_cons, List.length_nil] <;> omega) | decide) only [↓RD, RC, RH, RO, RN, RL, RX, RS, RM, eq_self, Int.reduceToNat, Int.reduceAdd, Int.reduceSub, Int.reduceMul, Nat.reduceAdd, Nat.reduceSub, Nat.reduceMul, Nat.reduceDiv, Nat.reduceMod, Nat.reduceBEq, Nat.reduceLeDiff, g2]
  refine ok_bind' (heavy20_ok (hv 0 _) ho) ?_
  rintro _ H3 ⟨⟨b1, rfl, -⟩, s3⟩
  have n3 := s3.next
  have g3 : H3.get H.next = _ := (s3.same _ (by omega)).trans g2
  have f3 : H3.get (H.next + 1) = _ := (s3.same _ (by omega)).trans f2
  cases b1 with
  | true => simp (disch := first | omega | (simp only [nx_new, nx_set, List.length_cons, List.length_nil] <;> omega) | decide) only [↓RD, RC, RH, RO, RN, RL, RX, RS, RM, eq_self, Int.reduceToNat, Int.reduceAdd, Int.reduceSub, Int.reduceMul, Nat.reduceAdd, Nat.reduceSub, Nat.reduceMul, Nat.reduceDiv, Nat.reduceMod, Nat.reduceBEq, Nat.reduceLeDiff]
  | false =>
  simp (disch := first | omega | (simp only [nx_new, nx_set, List.length_cons, List.length_nil] <;> omega) | decide) only [↓RD, RC, RH, RO, RN, RL, RX, RS, RM, eq_self, Int.reduceToNat, Int.reduceAdd, Int.reduceSub, Int.reduceMul, Nat.reduceAdd, Nat.reduceSub, Nat.reduceMul, Nat.reduceDiv, Nat.reduceMod, Nat.reduceBEq, Nat.reduceLeDiff, f3]
  obtain ⟨p', q', r', d', e', g', hw', k'⟩ := hw 0 H3
  unfold fcells at hw'
  simp only [V.agg.injEq, List.cons.injEq, true_and, and_true] at hw'
  obtain ⟨rfl, rfl, rfl, rfl, rfl, rfl⟩ := hw'
  refine ok_bind' (heavy20_ok k'.s.val hf.s) ?_
  rintro _ H4 ⟨⟨b1, rfl, -⟩, s4⟩
  have n4 := s4.next
  have g4 : H4.get H.next = _ := (s4.same _ (by omega)).trans g3
  have f4 : H4.get (H.next + 1) = _ := (s4.same _ (by omega)).trans f3
  cases b1 with
  | true => simp (disch := first | omega | (simp only [nx_new, nx_set, List.length_cons, List.length_nil] <;> omega) | decide) only [↓RD, RC, RH, RO, RN, RL, RX, RS, RM, eq_self, Int.reduceToNat, Int.reduceAdd, Int.reduceSub, Int.reduceMul, Nat.reduceAdd, Nat.reduceSub, Nat.reduceMul, Nat.reduceDiv, Nat.reduceMod, Nat.reduceBEq, Nat.reduceLeDiff]
  | false =>
  simp (disch := first | omega | (simp only [nx_new, nx_set, List.length_cons, List.length_nil] <;> omega) | decide) only [↓RD, RC, RH, RO, RN, RL, RX, RS, RM, eq_self, Int.reduceToNat, Int.reduceAdd, Int.reduceSub, Int.reduceMul, Nat.reduceAdd, Nat.reduceSub, Nat.reduceMul, Nat.reduceDiv, Nat.reduceMod, Nat.reduceBEq, Nat.reduceLeDiff, g4]
  refine ok_bind' (Fits_ok (hv 0 _) ho act hact sp te) ?_
  rintro _ H5 ⟨rfl, s5⟩
  have n5 := s5.next
  have g5 : H5.get H.next = _ := (s5.same _ (by omega)).trans g4
  have f5 : H5.get (H.next + 1) = _ := (s5.same _ (by omega)).trans f4
  unfold ftV
  simp (disch := first | omega | (simp only [nx_new, nx_set, List.length_cons, List.length_nil] <;> omega) | decide) only [↓RD, RC, RH, RO, RN, RL, RX, RS, RM, eq_self, Int.reduceToNat, Int.reduceAdd, Int.reduceSub, Int.reduceMul, Nat.reduceAdd, Nat.reduceSub, Nat.reduceMul, Nat.reduceDiv, Nat.reduceMod, Nat.reduceBEq, Nat.reduceLeDiff, g5]
  refine ok_bind' (Structure_ok (hv 0 _) ho) ?_
  rintro v' H6 ⟨hv', s6⟩
  have n6 := s6.next
  have f6 : H6.get (H.next + 1) = _ := (s6.same _ (by omega)).trans f5
  refine ok_bind' (Fits2_ok hv' ho act hact sp te) ?_
  rintro _ H7 ⟨rfl, s7⟩
  have n7 := s7.next
  have f7 : H7.get (H.next + 1) = _ := (s7.same _ (by omega)).trans f6
  generalize ft s act sp te 32 = x
  unfold ftV
  have e1 : (x.2.2.2 == x.2.2.2) = true := by cases x.2.2.2 <;> rfl
  have kk := k'.ext (((s4.trans s5).trans s6).trans s7)
  simp (disch := first | omega | (simp only [nx_new, nx_set, List.length_cons, List.length_nil] <;> omega) | decide) only [↓RD, RC, RH, RO, RN, RL, RX, RS, RM, eq_self, Int.reduceToNat, Int.reduceAdd, Int.reduceSub, Int.reduceMul, Nat.reduceAdd, Nat.reduceSub, Nat.reduceMul, Nat.reduceDiv, Nat.reduceMod, Nat.reduceBEq, Nat.reduceLeDiff, e1, f7, kk.dti.cells1, kk.dti.okc]
  refine ok_bind' (In_ok kk target (by omega)) ?_
  rintro _ H8 ⟨rfl, s8⟩
  have f8 : H8.get (H.next + 1) = _ := (s8.same _ (by omega)).trans f7
  simp (disch := first | omega | (simp only [nx_new, nx_set, List.length_cons, List.length_nil] <;> omega) | decide) only [↓RD, RC, RH, RO, RN, RL, RX, RS, RM, eq_self, Int.reduceToNat, Int.reduceAdd, Int.reduceSub, Int.reduceMul, Nat.reduceAdd, Nat.reduceSub, Nat.reduceMul, Nat.reduceDiv, Nat.reduceMod, Nat.reduceBEq, Nat.reduceLeDiff, f7, f8]
  refine ok_bind' (In2_ok (f := { Fr0 with dti := f.dti }) (a := .nils) (b := .nils) (c := .nils) (e := .nils) (g := .nils) ⟨SrC.zero, (kk.ext s8).dti, Lc.nil, Lc.nil⟩ target (by dsimp only; omega)) ?_
  rintro _ H9 ⟨rfl, s9⟩
  have e2 : (isIn f.dti target == isIn f.dti target) = true := by cases isIn f.dti target <;> rfl
  simp (disch := first | omega | (simp only [nx_new, nx_set, List.length_cons, List.length_nil] <;> omega) | decide) only [↓RD, RC, RH, RO, RN, RL, RX, RS, RM, eq_self, Int.reduceToNat, Int.reduceAdd, Int.reduceSub, Int.reduceMul, Nat.reduceAdd, Nat.reduceSub, Nat.reduceMul, Nat.reduceDiv, Nat.reduceMod, Nat.reduceBEq, Nat.reduceLeDiff, e2]
  refine ok_bind' (Source_ok (hz 0 _) hr rate hrate (by omega)) ?_
  rintro _ H10 ⟨rfl, rfl⟩
  simp (disch := first | omega | (simp only [nx_new, nx_set, List.length_cons, List.length_nil] <;> omega) | decide) only [↓RD, RC, RH, RO, RN, RL, RX, RS, RM, eq_self, Int.reduceToNat, Int.reduceAdd, Int.reduceSub, Int.reduceMul, Nat.reduceAdd, Nat.reduceSub, Nat.reduceMul, Nat.reduceDiv, Nat.reduceMod, Nat.reduceBEq, Nat.reduceLeDiff]
  refine ok_bind' (Source2_ok (hz 0 _) hr rate hrate (by omega)) ?_
  rintro _ H11 ⟨rfl, rfl⟩
  simp (disch := first | omega | (simp only [nx_new, nx_set, List.length_cons, List.length_nil] <;> omega) | decide) only [↓RD, RC, RH, RO, RN, RL, RX, RS, RM, eq_self, Int.reduceToNat, Int.reduceAdd, Int.reduceSub, Int.reduceMul, Nat.reduceAdd, Nat.reduceSub, Nat.reduceMul, Nat.reduceDiv, Nat.reduceMod, Nat.reduceBEq, Nat.reduceLeDiff]

theorem rem_u8 {n : Nat} (hn : n < 256) (m : Nat) (h0 : 0 < m) (hm : m < 256) : Ax.bin .rem (.int .u8 (n : Nat)) (.int .u8 (m : Nat)) = some (.int .u8 ((n % m : Nat) : Int)) := by
  have e : Int.tmod (n : Nat) (m : Nat) = ((n % m : Nat) : Int) := rfl
  have := Nat.mod_lt n h0
  have hz : ¬ (m : Int) = 0 := by omega
  simp [Ax.bin, intBin, e, IntKind.wrap, IntKind.signed, IntKind.bits]
  omega

end Go.Ax.D9
namespace Go.Ax
open D9

theorem law_pickSays (us : List V) (h : TyArgs [.st shSr, .int .u32, .int .i64, .int .i64, .st shFr, .int .i64, .int .u64, .sl (.int .i64)] us) (hb : V.blks us ≤ 1048576) : ∃ H', sem T fn_palanquinlaw20_PickSays us H0 = some (.bool true, H') := by
  obtain ⟨u0, u1, u2, u3, u4, u5, u6, u7, rfl⟩ : ∃ u0 u1 u2 u3 u4 u5 u6 u7, us = [u0, u1, u2, u3, u4, u5, u6, u7] := by
    rcases us with _ | ⟨u0, _ | ⟨u1, _ | ⟨u2, _ | ⟨u3, _ | ⟨u4, _ | ⟨u5, _ | ⟨u6, _ | ⟨u7, _ | ⟨u8, us⟩⟩⟩⟩⟩⟩⟩⟩⟩
    · cases h
    · cases h.2
    · cases h.2.2
    · cases h.2.2.2
    · cases h.2.2.2.2
    · cases h.2.2.2.2.2
    · cases h.2.2.2.2.2.2
    · cases h.2.2.2.2.2.2.2
    · exact ⟨_, _, _, _, _, _, _, _, rfl⟩
    · cases h.2.2.2.2.2.2.2.2
  simp only [V.blks] at hb
  obtain ⟨s, hs, ho⟩ := sr_arg h.1 (by omega)
  obtain ⟨act, h1, hact⟩ := sh_u32 h.2.1
  obtain ⟨sp, h2, -⟩ := sh_i64 h.2.2.1
  obtain ⟨te, h3, -⟩ := sh_i64 h.2.2.2.1
  obtain ⟨f, hf, hfo⟩ := fr_arg h.2.2.2.2.1 (by omega)
  obtain ⟨t, h5, -⟩ := sh_i64 h.2.2.2.2.2.1
  obtain ⟨rate, h6, hrate⟩ := sh_u64 h.2.2.2.2.2.2.1
  obtain ⟨z, rates, h7, hz, hr, hl⟩ := sh_il h.2.2.2.2.2.2.2.1
  cases h1; cases h2; cases h3; cases h5; cases h6; cases h7
  simp only [V.blks] at hl
  obtain ⟨r, H', e1, rfl⟩ := says_ok (H := H0) hs ho hf hfo hz hr (by omega) act hact sp te t rate hrate
  exact ⟨H', e1⟩

end Go.Ax
