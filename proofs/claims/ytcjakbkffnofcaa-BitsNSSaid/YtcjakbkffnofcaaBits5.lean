/-
  Bits: the law BitsSays.
-/
import Derived.Test.YtcjakbkffnofcaaBits4
import Derived.Test.YtcjakbkffnofcaaAx24
set_option maxRecDepth 100000
set_option linter.unusedVariables false
set_option linter.unusedSimpArgs false
namespace Go.Ax.B6
open Go.Ax

theorem awake_ok {H : Heap} : Ok (sem T fn_palanquinlaw6_awake []) H fun r H' => r = .bool true ∧ H.next ≤ H'.next ∧ ∀ i, i < H.next → H'.get i = H.get i := by
  refine ok_palanquinlaw6_awake ?_
  unfold f_palanquinlaw6_awake
  refine ok_bind' New_ok ?_
  rintro _ H1 ⟨rfl, h1, s1⟩
  simp (disch := first | omega | decide) only [↓RD, RC, RH, RO, RN, RL, RX, RS, eq_self, Int.reduceToNat, Int.reduceAdd, Int.reduceSub, Int.reduceMul, Nat.reduceAdd, Nat.reduceSub, Nat.reduceMul, Nat.reduceDiv, Nat.reduceMod, Nat.reduceBEq, Nat.reduceLeDiff]
  refine ok_bind' (Add_ok h1 5 3 (by decide) (by decide) (by decide)) ?_
  rintro _ H2 ⟨F2, rfl, h2, s2⟩
  refine ok_bind' (Add_ok h2 1 2 (by decide) (by decide) (by decide)) ?_
  rintro _ H3 ⟨F3, rfl, h3, s3⟩
  have e3 : addB (addB [] 5 3) 1 2 = [true, false, true, false, true] := by decide +kernel
  rw [e3] at h3
  refine ok_bind' (Bytes_ok h3 (by decide)) ?_
  rintro x H4 ⟨l, hp, ho, s4⟩
  have hb3 := h3.low
  have h4 := h3.to (fun i hi => s4.same i (hb3 i hi) (by simp)) s4.next
  have e1 : addE 5 3 = 0 := by decide +kernel
  have e2 : addE 1 2 = 0 := by decide +kernel
  have hl : l = [168] := hp.unique ⟨rfl, fun i h => by simp at h; subst h; simp, fun i j h hj => by
    simp at h; subst h
    have : ∀ j, j < 8 → Nat.testBit 168 (7 - j) = [true, false, true, false, true].getD (8 * 0 + j) false := by decide
    exact this j hj⟩
  subst hl
  simp (disch := first | omega | decide) only [↓RD, RC, RH, RO, RN, RL, RX, RS, eq_self, Int.reduceToNat, Int.reduceAdd, Int.reduceSub, Int.reduceMul, Nat.reduceAdd, Nat.reduceSub, Nat.reduceMul, Nat.reduceDiv, Nat.reduceMod, Nat.reduceBEq, Nat.reduceLeDiff, e1, e2]
  refine ok_bind' (Len_ok h4) ?_
  rintro _ _ ⟨rfl, rfl⟩
  obtain ⟨id, rfl, hg, hia⟩ := ho.at (k := .i64) (i := 0) (by decide) (by decide)
  simp (disch := first | omega | decide) only [↓RD, RC, RH, RO, RN, RL, RX, RS, eq_self, Int.reduceToNat, Int.reduceAdd, Int.reduceSub, Int.reduceMul, Nat.reduceAdd, Nat.reduceSub, Nat.reduceMul, Nat.reduceDiv, Nat.reduceMod, Nat.reduceBEq, Nat.reduceLeDiff, hg, hia, List.map_cons, by8]
  refine ⟨?_, fun i hi => ?_⟩
  · have := s1.next; have := s2.next; have := s3.next; have := s4.next; omega
  · have n1 := s1.next; have n2 := s2.next; have n3 := s3.next
    have f1 : i ∉ [H.next] := by simp; omega
    have f2 := s2.ne (w := i) (by omega) f1
    have f3 := s3.ne (w := i) (by omega) f2
    rw [s4.same i (by omega) (by simp), s3.same i (by omega) f2, s2.same i (by omega) f1, s1.same i hi (by simp)]

/-- A call's data. -/
structure Stp where
  v : Nat
  m : Nat
  n : Int
  ns : Bool

def Stp.cells (s : Stp) : List V := [.int .u64 s.v, .int .u64 s.m, .int .i64 s.n, .bool s.ns]
def Stp.ok (s : Stp) : Prop := s.v < 18446744073709551616 ∧ s.m < 18446744073709551616 ∧ -9223372036854775808 ≤ s.n ∧ s.n ≤ 9223372036854775807

theorem ty_stp {vs : List V} (h : Sh.Ty (.st [.int .u64, .int .u64, .int .i64, .bool]) vs) : ∃ s : Stp, vs = s.cells ∧ s.ok := by
  obtain ⟨a, r1, rfl, ha, b, r2, rfl, hb, c, r3, rfl, hc, d, r4, rfl, hd, rfl⟩ := h
  obtain ⟨v, rfl, hv⟩ := sh_u64 ha
  obtain ⟨m, rfl, hm⟩ := sh_u64 hb
  obtain ⟨n, rfl, hn⟩ := sh_i64 hc
  obtain ⟨t, rfl⟩ := hd
  exact ⟨⟨v, m, n, t⟩, rfl, hv, hm, hn⟩

/-- A slice of calls. -/
def Stps (v : V) (l : List Stp) : Prop := (v = .nils ∧ l = []) ∨ v = .rs (l.map Stp.cells).flatten l.length

theorem Stps.vlen {v : V} {l : List Stp} (h : Stps v l) : Ax.vlen v = some (.int .i64 (l.length : Nat)) := by
  rcases h with ⟨rfl, rfl⟩ | rfl <;> rfl

theorem Stps.at {v : V} {l : List Stp} (h : Stps v l) {k : IntKind} {i : Nat} (hi : i < l.length) : ∃ cells, Ax.iaddr none 4 v (.int k i) = some (.rp cells (i * 4)) ∧ ldc (some 4) cells (i * 4) = some (.agg l[i].cells) := by
  rcases h with ⟨rfl, rfl⟩ | rfl
  · cases hi
  · refine ⟨(l.map Stp.cells).flatten, by rw [iaddr_rs (by omega) (by omega)]; simp, ldc_flat ?_ ?_⟩
    · intro x hx
      obtain ⟨s, _, rfl⟩ := List.mem_map.1 hx
      rfl
    · rw [List.getElem?_map, List.getElem?_eq_getElem hi]; rfl

theorem stps_of {vs : List V} (h : Sh.Ty (.sl (.st [.int .u64, .int .u64, .int .i64, .bool])) vs) : ∃ v l, vs = [v] ∧ Stps v l ∧ ∀ s ∈ l, s.ok := by
  rcases h with rfl | ⟨es, rfl, _, he⟩
  · exact ⟨.nils, [], rfl, .inl ⟨rfl, rfl⟩, fun s h => by cases h⟩
  · obtain ⟨l, rfl, hl⟩ := list_of es fun x hx => ty_stp (he x hx)
    exact ⟨_, l, rfl, .inr (by simp), hl⟩

theorem addB_len (bits : List Bool) (v : Nat) (n : Int) : (addB bits v n).length ≤ bits.length + 64 := by
  unfold addB; split
  · omega
  · simp only [List.length_append, nb_length]; omega

theorem addNSB_len (bits : List Bool) (v n : Nat) : (addNSB bits v n).length ≤ bits.length + 64 := by
  unfold addNSB; split
  · omega
  · rename_i h
    have := (addNS_lt (v := v) (n := n) (by omega) (by omega) (by omega)).2.2.2.2.1
    split <;> simp only [List.length_append, nb_length] <;> omega

/-- Two sets of blocks lie apart. -/
def Apart (F G : List Nat) : Prop := ∀ i ∈ F, i ∉ G

theorem Apart.step {H H' : Heap} {F F' G : List Nat} (h : Apart F G) (s : Step H H' F F') (hG : Below G H) : Apart F' G := fun i hi hg => by
  rcases s.own i hi with k | k
  · exact h i k hg
  · have := hG i hg; omega

theorem Apart.symm {F G : List Nat} (h : Apart F G) : Apart G F := fun i hi hf => h i hf hi

theorem says_step {H : Heap} {v : V} {l : List Stp} (hv : Stps v l) (hl : ∀ s ∈ l, s.ok) {w r : Nat} {bits : List Bool} {F G : List Nat} (h1 : WRep H w bits F) (h2 : RRep H r bits G) (ha : Apart F G) (i : Nat) (hi : i < l.length) (hi60 : i < 60) (hb : bits.length ≤ 64 * i)
    {Q : Res → Heap → Prop} (k : ∀ H' bits' F' G', WRep H' w bits' F' → RRep H' r bits' G' → Apart F' G' → bits'.length ≤ 64 * (i + 1) → Q (.nrm [.int .i64 ((i : Int) + 1)]) H') :
    Ok (f_palanquinlaw6_BitsSays_0 (sem T) v (.ptr w 0) (.ptr r 0) [.int .i64 (i : Int)]) H Q := by
  obtain ⟨cells, hia, hld⟩ := hv.at (k := .i64) hi
  obtain ⟨hv1, hv2, hv3, hv4⟩ := hl _ (List.getElem_mem hi)
  generalize l[i] = s at *
  obtain ⟨sv, sm, sn, ns⟩ := s
  simp only [Stp.cells] at hld hv1 hv2 hv3 hv4
  unfold f_palanquinlaw6_BitsSays_0
  have hw0 := h1.low w (by obtain ⟨⟨_, _, _, _, _, rfl, _⟩, _⟩ := h1; simp)
  have hr0 := h2.low r (by obtain ⟨⟨_, _, _, rfl, _⟩, _⟩ := h2; simp)
  simp (disch := first | omega | decide) only [↓RD, RC, RH, RO, RN, RL, RX, RS, eq_self, Int.reduceToNat, Int.reduceAdd, Int.reduceSub, Int.reduceMul, Nat.reduceAdd, Nat.reduceSub, Nat.reduceMul, Nat.reduceDiv, Nat.reduceMod, Nat.reduceBEq, Nat.reduceLeDiff, hv.vlen, hia, hld]
  generalize hH1 : (H.new _).set _ _ = H1
  have hb1 : ∀ i, i < H.next → H1.get i = H.get i := fun i hi => by rw [← hH1, get_set_ne _ _ (by omega), get_new_ne _ _ (by omega)]
  have hg1 : H1.get H.next = some ⟨ty_palanquinlaw6_Step, [.int .u64 sv, .int .u64 sm, .int .i64 sn, .bool ns], none⟩ := by rw [← hH1, get_set_self]
  have hn1 : H1.next = H.next + 1 := by rw [← hH1]; rfl
  have k1 := h1.to (fun i hi => hb1 i (h1.low i hi)) (by omega)
  have k2 := h2.to (fun i hi => hb1 i (h2.low i hi)) (by omega)
  have nF : H.next ∉ F := fun h => by have := h1.low _ h; omega
  have nG : H.next ∉ G := fun h => by have := h2.low _ h; omega
  -- the two calls
  refine ok_mono (Q := fun r' H' => ∃ e bits' F' G', r' = .nrm [.int .i64 e, .int .i64 e] ∧ WRep H' w bits' F' ∧ RRep H' r bits' G' ∧ Apart F' G' ∧ bits'.length ≤ 64 * (i + 1)) ?_ ?_
  · refine ok_ite (fun hn => ?_) fun hn => ?_
    · simp (disch := first | omega | decide) only [↓RD, RC, RH, RO, RN, RL, RX, RS, eq_self, Int.reduceToNat, Int.reduceAdd, Int.reduceSub, Int.reduceMul, Nat.reduceAdd, Nat.reduceSub, Nat.reduceMul, Nat.reduceDiv, Nat.reduceMod, Nat.reduceBEq, Nat.reduceLeDiff, hg1]
      refine ok_bind' (AddNS_ok k1 sv sm hv1 hv2 (by omega)) ?_
      rintro _ H2 ⟨F2, rfl, g1, s2⟩
      have e2 : H2.get H.next = H1.get H.next := s2.same _ (by omega) nF
      have g2 := k2.to (fun i hi => s2.same i (k2.low i hi) (ha.symm i hi)) s2.next
      have a2 : Apart F2 G := ha.step s2 k2.low
      simp (disch := first | omega | decide) only [↓RD, RC, RH, RO, RN, RL, RX, RS, eq_self, Int.reduceToNat, Int.reduceAdd, Int.reduceSub, Int.reduceMul, Nat.reduceAdd, Nat.reduceSub, Nat.reduceMul, Nat.reduceDiv, Nat.reduceMod, Nat.reduceBEq, Nat.reduceLeDiff, e2]
      refine ok_bind' (RAddNS_ok g2 sv sm hv1 hv2 (by omega)) ?_
      rintro _ H3 ⟨G3, rfl, g3, s3⟩
      simp (disch := first | omega | decide) only [↓RD, RC, RH, RO, RN, RL, RX, RS, eq_self, Int.reduceToNat, Int.reduceAdd, Int.reduceSub, Int.reduceMul, Nat.reduceAdd, Nat.reduceSub, Nat.reduceMul, Nat.reduceDiv, Nat.reduceMod, Nat.reduceBEq, Nat.reduceLeDiff]
      have g1' := g1.to (fun i hi => s3.same i (g1.low i hi) (a2 i hi)) s3.next
      exact ⟨_, _, F2, G3, rfl, g1', g3, (a2.symm.step s3 g1.low).symm, by have := addNSB_len bits sv sm; omega⟩
    · simp (disch := first | omega | decide) only [↓RD, RC, RH, RO, RN, RL, RX, RS, eq_self, Int.reduceToNat, Int.reduceAdd, Int.reduceSub, Int.reduceMul, Nat.reduceAdd, Nat.reduceSub, Nat.reduceMul, Nat.reduceDiv, Nat.reduceMod, Nat.reduceBEq, Nat.reduceLeDiff, hg1]
      refine ok_bind' (Add_ok k1 sv sn hv1 (by omega) ⟨hv3, hv4⟩) ?_
      rintro _ H2 ⟨F2, rfl, g1, s2⟩
      have e2 : H2.get H.next = H1.get H.next := s2.same _ (by omega) nF
      have g2 := k2.to (fun i hi => s2.same i (k2.low i hi) (ha.symm i hi)) s2.next
      have a2 : Apart F2 G := ha.step s2 k2.low
      simp (disch := first | omega | decide) only [↓RD, RC, RH, RO, RN, RL, RX, RS, eq_self, Int.reduceToNat, Int.reduceAdd, Int.reduceSub, Int.reduceMul, Nat.reduceAdd, Nat.reduceSub, Nat.reduceMul, Nat.reduceDiv, Nat.reduceMod, Nat.reduceBEq, Nat.reduceLeDiff, e2]
      refine ok_bind' (RAdd_ok g2 sv sn hv1 (by omega) ⟨hv3, hv4⟩) ?_
      rintro _ H3 ⟨G3, rfl, g3, s3⟩
      simp (disch := first | omega | decide) only [↓RD, RC, RH, RO, RN, RL, RX, RS, eq_self, Int.reduceToNat, Int.reduceAdd, Int.reduceSub, Int.reduceMul, Nat.reduceAdd, Nat.reduceSub, Nat.reduceMul, Nat.reduceDiv, Nat.reduceMod, Nat.reduceBEq, Nat.reduceLeDiff]
      have g1' := g1.to (fun i hi => s3.same i (g1.low i hi) (a2 i hi)) s3.next
      exact ⟨_, _, F2, G3, rfl, g1', g3, (a2.symm.step s3 g1.low).symm, by have := addB_len bits sv sn; omega⟩
  · rintro _ H3 ⟨e, bits', F', G', rfl, g1, g2, ga, gl⟩
    obtain ⟨⟨bv, hr, ho, _, _⟩, _⟩ := id g2
    simp (disch := first | omega | decide) only [↓RD, RC, RH, RO, RN, RL, RX, RS, eq_self, Int.reduceToNat, Int.reduceAdd, Int.reduceSub, Int.reduceMul, Nat.reduceAdd, Nat.reduceSub, Nat.reduceMul, Nat.reduceDiv, Nat.reduceMod, Nat.reduceBEq, Nat.reduceLeDiff, hr, ho.vlen]
    refine ok_bind' (Len_ok g1) ?_
    rintro _ _ ⟨rfl, rfl⟩
    simp (disch := first | omega | decide) only [↓RD, RC, RH, RO, RN, RL, RX, RS, eq_self, Int.reduceToNat, Int.reduceAdd, Int.reduceSub, Int.reduceMul, Nat.reduceAdd, Nat.reduceSub, Nat.reduceMul, Nat.reduceDiv, Nat.reduceMod, Nat.reduceBEq, Nat.reduceLeDiff]
    exact k _ _ _ _ g1 g2 ga gl

end Go.Ax.B6
namespace Go.Ax
open B6

theorem law_bitsSays (us : List V) (h : TyArgs [.sl (.st [.int .u64, .int .u64, .int .i64, .bool])] us) : ∃ H', sem T fn_palanquinlaw6_BitsSays us H0 = some (.bool true, H') := by
  obtain _ | ⟨u, _ | ⟨u2, us⟩⟩ := us
  · cases h
  · obtain ⟨v, l, hvs, hv, hl⟩ := stps_of h.1
    simp only [List.cons.injEq, and_true] at hvs
    subst hvs
    have key : Ok (sem T fn_palanquinlaw6_BitsSays [u]) H0 fun r _ => r = .bool true := by
      refine ok_palanquinlaw6_BitsSays ?_
      unfold f_palanquinlaw6_BitsSays
      refine ok_bind' New_ok ?_
      rintro _ H1 ⟨rfl, h1, s1⟩
      simp (disch := first | omega | decide) only [↓RD, RC, RH, RO, RN, RL, RX, RS, eq_self, Int.reduceToNat, Int.reduceAdd, Int.reduceSub, Int.reduceMul, Nat.reduceAdd, Nat.reduceSub, Nat.reduceMul, Nat.reduceDiv, Nat.reduceMod, Nat.reduceBEq, Nat.reduceLeDiff]
      generalize hH2 : H1.new _ = H2
      have k1 : WRep H2 H0.next [] [H0.next] := h1.to (fun i hi => by rw [← hH2, get_new_ne _ _ (by have := h1.low i hi; omega)]) (by rw [← hH2, next_new]; omega)
      have k2 : RRep H2 H1.next [] [H1.next] := by
        refine ⟨⟨.nils, by rw [← hH2, get_new_self], Opn.nil, rfl, by simp [V.pid]⟩, fun i hi => ?_⟩
        simp only [List.mem_singleton] at hi; subst hi; rw [← hH2, next_new]; omega
      refine ok_bind' awake_ok ?_
      rintro _ H3 ⟨rfl, n3, s3⟩
      have k1' := k1.to (fun i hi => s3 i (k1.low i hi)) n3
      have k2' := k2.to (fun i hi => s3 i (k2.low i hi)) n3
      simp (disch := first | omega | decide) only [↓RD, RC, RH, RO, RN, RL, RX, RS, eq_self, Int.reduceToNat, Int.reduceAdd, Int.reduceSub, Int.reduceMul, Nat.reduceAdd, Nat.reduceSub, Nat.reduceMul, Nat.reduceDiv, Nat.reduceMod, Nat.reduceBEq, Nat.reduceLeDiff]
      refine ok_loop (fun k L H' => ∃ bits F G, L = [.int .i64 (k : Nat)] ∧ WRep H' H0.next bits F ∧ RRep H' H1.next bits G ∧ Apart F G ∧ bits.length ≤ 64 * k) (min l.length 60) ⟨[], _, _, rfl, k1', k2', ?_, by simp⟩ ?_ ?_
      · intro i hi hj
        simp only [List.mem_singleton] at hi hj
        have := h1.low H0.next (by simp)
        omega
      · rintro k L H4 hk ⟨bits, F, G, rfl, g1, g2, ga, gb⟩
        exact says_step hv hl g1 g2 ga k (by omega) (by omega) gb fun H5 bits' F' G' h1 h2 h3 h4 => ⟨bits', F', G', rfl, h1, h2, h3, h4⟩
      · rintro L H4 ⟨bits, F, G, rfl, g1, g2, ga, gb⟩
        unfold f_palanquinlaw6_BitsSays_0
        have fin : Ok ((sem T fn_bits_Writer_Bytes [.ptr H0.next 0]).bind fun t72 => (sem T fn_palanquinref6_Writer_Bytes [.ptr H1.next 0]).bind fun t74 => (sem T fn_palanquinref1_Same [t72, t74]).bind fun t75 => M.pure (.ret [t75])) H4 fun r H' => ∃ L, r = Res.ret L ∧ tupled L = V.bool true := by
          refine ok_bind' (Bytes_ok g1 (by omega)) ?_
          rintro x H5 ⟨l1, p1, o1, s5⟩
          have g2' := g2.to (fun i hi => s5.same i (g2.low i hi) (by simp)) s5.next
          refine ok_bind' (RBytes_ok g2' (by omega)) ?_
          rintro y H6 ⟨l2, p2, o2, _, s6⟩
          have e := p1.unique p2
          subst e
          have o1' := o1.rc
          have hb : ∀ z ∈ l1, z < 256 := fun z hz => by
            obtain ⟨i, hi, rfl⟩ := List.getElem_of_mem hz
            exact p1.lt i hi
          have o1'' : rcells 1 H6 x = some (l1.map by8, l1.length) := by
            rw [rcells_to fun i hi => s6.same i (by have := s5.own i (by simp [hi]); simp at this; exact this.2) (by simp), o1']
          refine ok_bind' (Same_ok (l := l1) (m := l1) o1'' o2 hb hb) ?_
          rintro _ _ ⟨rfl, rfl⟩
          simp (disch := first | omega | decide) only [↓RD, RC, RH, RO, RN, RL, RX, RS, eq_self, Int.reduceToNat, Int.reduceAdd, Int.reduceSub, Int.reduceMul, Nat.reduceAdd, Nat.reduceSub, Nat.reduceMul, Nat.reduceDiv, Nat.reduceMod, Nat.reduceBEq, Nat.reduceLeDiff, decide_true]
        by_cases hlen : l.length < 60
        · have hm : min l.length 60 = l.length := by omega
          rw [hm]
          simp (disch := first | omega | decide) only [↓RD, RC, RH, RO, RN, RL, RX, RS, eq_self, Int.reduceToNat, Int.reduceAdd, Int.reduceSub, Int.reduceMul, Nat.reduceAdd, Nat.reduceSub, Nat.reduceMul, Nat.reduceDiv, Nat.reduceMod, Nat.reduceBEq, Nat.reduceLeDiff, hv.vlen]
          exact fin
        · have hm : min l.length 60 = 60 := by omega
          rw [hm]
          simp (disch := first | omega | decide) only [↓RD, RC, RH, RO, RN, RL, RX, RS, eq_self, Int.reduceToNat, Int.reduceAdd, Int.reduceSub, Int.reduceMul, Nat.reduceAdd, Nat.reduceSub, Nat.reduceMul, Nat.reduceDiv, Nat.reduceMod, Nat.reduceBEq, Nat.reduceLeDiff, hv.vlen]
          by_cases h60 : 60 < l.length
          · simp (disch := first | omega | decide) only [↓RD, RC, RH, RO, RN, RL, RX, RS, eq_self, Int.reduceToNat, Int.reduceAdd, Int.reduceSub, Int.reduceMul, Nat.reduceAdd, Nat.reduceSub, Nat.reduceMul, Nat.reduceDiv, Nat.reduceMod, Nat.reduceBEq, Nat.reduceLeDiff]
            exact fin
          · simp (disch := first | omega | decide) only [↓RD, RC, RH, RO, RN, RL, RX, RS, eq_self, Int.reduceToNat, Int.reduceAdd, Int.reduceSub, Int.reduceMul, Nat.reduceAdd, Nat.reduceSub, Nat.reduceMul, Nat.reduceDiv, Nat.reduceMod, Nat.reduceBEq, Nat.reduceLeDiff]
            exact fin
    obtain ⟨r, H', h1, rfl⟩ := key
    exact ⟨H', h1⟩
  · cases h.2

end Go.Ax
