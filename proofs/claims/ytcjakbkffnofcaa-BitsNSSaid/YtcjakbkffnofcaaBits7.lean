/-
  Bits: the law BitsTakes.
-/
import Derived.Test.YtcjakbkffnofcaaBits6
import Derived.Test.YtcjakbkffnofcaaAx24
set_option maxRecDepth 100000
set_option linter.unusedVariables false
set_option linter.unusedSimpArgs false
namespace Go.Ax.B6
open Go.Ax

theorem Over_ok {H : Heap} {v : V} {l : List Nat} (hv : rcells 1 H v = some (l.map by8, l.length)) (hlt : ∀ i (h : i < l.length), l[i] < 256) (hl : l.length ≤ 1099511627776) :
    Ok (sem T fn_bits_Over [v]) H fun r H' => ∃ k, r = .ptr k 0 ∧ H.next ≤ k ∧ PRd H' H'.next k l 0 ∧ (∀ i, i < H.next → H'.get i = H.get i) ∧ H.next ≤ H'.next := by
  refine ok_bits_Over ?_
  unfold f_bits_Over
  refine okb_append0 (acells_rc hv) (by simp) (by omega) (by omega) fun x' H1 ho1 hs hf => ?_
  simp (disch := first | omega | decide) only [↓RD, RC, RH, RO, RN, RL, RX, RS, eq_self, Int.reduceToNat, Int.reduceAdd, Int.reduceSub, Int.reduceMul, Nat.reduceAdd, Nat.reduceSub, Nat.reduceMul, Nat.reduceDiv, Nat.reduceMod, Nat.reduceBEq, Nat.reduceLeDiff, ho1.cells1, ho1.okc]
  have hn := hs.next
  refine ⟨H1.next, rfl, hn, ⟨⟨x', get_new_self _ _, ?_, fun e => ?_, fun i hi => ?_⟩, ?_, hlt, hl, Nat.zero_le _⟩, fun i hi => ?_, ?_⟩
  · exact ho1.to fun i hi => get_new_ne _ _ (by have := hf i hi; omega)
  · have := hf _ e; omega
  · have := hf i hi; omega
  · omega
  · rw [get_new_ne _ _ (by omega), hs.same i hi (by simp)]
  · omega

theorem Stps.at' {v : V} {l : List Stp} (h : Stps v l) {k : IntKind} {i : Nat} (hi : i < l.length) : ∃ cells, Ax.iaddr none 4 v (.int k i) = some (.rp cells (i * 4)) ∧ ldc (some 4) cells (i * 4) = some (.agg l[i].cells) ∧ cells[i * 4]? = some (.int .u64 l[i].v) ∧ cells[i * 4 + 1]? = some (.int .u64 l[i].m) ∧ cells[i * 4 + 2]? = some (.int .i64 l[i].n) ∧ cells[i * 4 + 3]? = some (.bool l[i].ns) := by
  rcases h with ⟨rfl, rfl⟩ | rfl
  · cases hi
  · have hk : ∀ x ∈ l.map Stp.cells, x.length = 4 := by
      intro x hx
      obtain ⟨s, _, rfl⟩ := List.mem_map.1 hx
      rfl
    have hg : (l.map Stp.cells)[i]? = some l[i].cells := by rw [List.getElem?_map, List.getElem?_eq_getElem hi]; rfl
    have key : ∀ j, j < 4 → (l.map Stp.cells).flatten[i * 4 + j]? = l[i].cells[j]? := by
      intro j hj
      rw [flatten_get (by decide) _ hk]
      have e1 : (i * 4 + j) / 4 = i := by omega
      have e2 : (i * 4 + j) % 4 = j := by omega
      rw [e1, e2, hg]; rfl
    exact ⟨(l.map Stp.cells).flatten, by rw [iaddr_rs (by omega) (by omega)]; simp, ldc_flat hk hg, key 0 (by decide), key 1 (by decide), key 2 (by decide), key 3 (by decide)⟩

theorem takes_step {H : Heap} {v : V} {l : List Stp} (hv : Stps v l) (hl : ∀ s ∈ l, s.ok) {m w r : Nat} {b : List Nat} {at' : Nat} (h1 : PRd H m w b at') (h2 : RRd H r b at') (hr : m ≤ r) (i : Nat) (hi : i < l.length) (hi60 : i < 100)
    {Q : Res → Heap → Prop} (k : ∀ H' a', PRd H' m w b a' → RRd H' r b a' → Q (.nrm [.int .i64 ((i : Int) + 1)]) H') :
    Ok (f_palanquinlaw6_BitsTakes_0 (sem T) v (.ptr w 0) (.ptr r 0) [.int .i64 (i : Int)]) H Q := by
  obtain ⟨cells, hia, hld, c0, c1, c2, c3⟩ := hv.at' (k := .i64) hi
  obtain ⟨hv1, hv2, hv3, hv4⟩ := hl _ (List.getElem_mem hi)
  generalize l[i] = s at *
  obtain ⟨sv, sm, sn, ns⟩ := s
  simp only at c0 c1 c2 c3 hv1 hv2 hv3 hv4
  have hw := h1.low
  unfold f_palanquinlaw6_BitsTakes_0
  simp (disch := first | omega | decide) only [↓RD, RC, RH, RO, RN, RL, RX, RS, eq_self, Int.reduceToNat, Int.reduceAdd, Int.reduceSub, Int.reduceMul, Nat.reduceAdd, Nat.reduceSub, Nat.reduceMul, Nat.reduceDiv, Nat.reduceMod, Nat.reduceBEq, Nat.reduceLeDiff, hv.vlen, hia, c3]
  refine ok_mono (Q := fun r' H' => ∃ e a x, r' = .nrm [.int .u64 x, .int .u64 x, .int .i64 e, .int .i64 e] ∧ PRd H' m w b a ∧ RRd H' r b a) ?_ ?_
  · refine ok_ite (fun hn => ?_) fun hn => ?_
    · simp (disch := first | omega | decide) only [↓RD, RC, RH, RO, RN, RL, RX, RS, eq_self, Int.reduceToNat, Int.reduceAdd, Int.reduceSub, Int.reduceMul, Nat.reduceAdd, Nat.reduceSub, Nat.reduceMul, Nat.reduceDiv, Nat.reduceMod, Nat.reduceBEq, Nat.reduceLeDiff, hia, c1]
      refine ok_bind' (PTakeNS_ok h1 sm hv2) ?_
      rintro _ H1 ⟨rfl, g1, s1⟩
      have g2 := h2.frame (s1.2 r (by omega)) (by rw [s1.1]; omega)
      simp (disch := first | omega | decide) only [↓RD, RC, RH, RO, RN, RL, RX, RS, eq_self, Int.reduceToNat, Int.reduceAdd, Int.reduceSub, Int.reduceMul, Nat.reduceAdd, Nat.reduceSub, Nat.reduceMul, Nat.reduceDiv, Nat.reduceMod, Nat.reduceBEq, Nat.reduceLeDiff, hia, c1]
      refine ok_bind' (RTakeNS_ok g2 sm hv2) ?_
      rintro _ H2 ⟨rfl, g3, s2⟩
      simp (disch := first | omega | decide) only [↓RD, RC, RH, RO, RN, RL, RX, RS, eq_self, Int.reduceToNat, Int.reduceAdd, Int.reduceSub, Int.reduceMul, Nat.reduceAdd, Nat.reduceSub, Nat.reduceMul, Nat.reduceDiv, Nat.reduceMod, Nat.reduceBEq, Nat.reduceLeDiff]
      exact ⟨_, _, _, rfl, g1.frame fun i hi => s2.2 i (by omega), g3⟩
    · simp (disch := first | omega | decide) only [↓RD, RC, RH, RO, RN, RL, RX, RS, eq_self, Int.reduceToNat, Int.reduceAdd, Int.reduceSub, Int.reduceMul, Nat.reduceAdd, Nat.reduceSub, Nat.reduceMul, Nat.reduceDiv, Nat.reduceMod, Nat.reduceBEq, Nat.reduceLeDiff, hia, c2]
      refine ok_bind' (PTake_ok h1 sn ⟨hv3, hv4⟩) ?_
      rintro _ H1 ⟨rfl, g1, s1⟩
      have g2 := h2.frame (s1.2 r (by omega)) (by rw [s1.1]; omega)
      simp (disch := first | omega | decide) only [↓RD, RC, RH, RO, RN, RL, RX, RS, eq_self, Int.reduceToNat, Int.reduceAdd, Int.reduceSub, Int.reduceMul, Nat.reduceAdd, Nat.reduceSub, Nat.reduceMul, Nat.reduceDiv, Nat.reduceMod, Nat.reduceBEq, Nat.reduceLeDiff, hia, c2]
      refine ok_bind' (RTake_ok g2 sn ⟨hv3, hv4⟩) ?_
      rintro _ H2 ⟨rfl, g3, s2⟩
      simp (disch := first | omega | decide) only [↓RD, RC, RH, RO, RN, RL, RX, RS, eq_self, Int.reduceToNat, Int.reduceAdd, Int.reduceSub, Int.reduceMul, Nat.reduceAdd, Nat.reduceSub, Nat.reduceMul, Nat.reduceDiv, Nat.reduceMod, Nat.reduceBEq, Nat.reduceLeDiff]
      exact ⟨_, _, _, rfl, g1.frame fun i hi => s2.2 i (by omega), g3⟩
  · rintro _ H3 ⟨e, a, x, rfl, g1, g2⟩
    simp (disch := first | omega | decide) only [↓RD, RC, RH, RO, RN, RL, RX, RS, eq_self, Int.reduceToNat, Int.reduceAdd, Int.reduceSub, Int.reduceMul, Nat.reduceAdd, Nat.reduceSub, Nat.reduceMul, Nat.reduceDiv, Nat.reduceMod, Nat.reduceBEq, Nat.reduceLeDiff]
    refine ok_bind' (PLeft_ok g1) ?_
    rintro _ _ ⟨rfl, rfl⟩
    simp (disch := first | omega | decide) only [↓RD, RC, RH, RO, RN, RL, RX, RS, eq_self, Int.reduceToNat, Int.reduceAdd, Int.reduceSub, Int.reduceMul, Nat.reduceAdd, Nat.reduceSub, Nat.reduceMul, Nat.reduceDiv, Nat.reduceMod, Nat.reduceBEq, Nat.reduceLeDiff]
    refine ok_bind' (RLeft_ok g2) ?_
    rintro _ _ ⟨rfl, rfl⟩
    simp (disch := first | omega | decide) only [↓RD, RC, RH, RO, RN, RL, RX, RS, eq_self, Int.reduceToNat, Int.reduceAdd, Int.reduceSub, Int.reduceMul, Nat.reduceAdd, Nat.reduceSub, Nat.reduceMul, Nat.reduceDiv, Nat.reduceMod, Nat.reduceBEq, Nat.reduceLeDiff]
    exact k _ _ g1 g2

end Go.Ax.B6
namespace Go.Ax
open B6

theorem law_bitsTakes (us : List V) (h : TyArgs [.sl (.int .u8), .sl (.st [.int .u64, .int .u64, .int .i64, .bool])] us) (hb : V.blks us ≤ 1048576) : ∃ H', sem T fn_palanquinlaw6_BitsTakes us H0 = some (.bool true, H') := by
  obtain _ | ⟨u, _ | ⟨u2, _ | ⟨u3, us⟩⟩⟩ := us
  · cases h
  · cases h.2
  · obtain ⟨v, b, hvs, hv, hb8⟩ := sh_u8s h.1
    simp only [List.cons.injEq, and_true] at hvs
    subst hvs
    obtain ⟨v, l, hvs, hs, hl⟩ := stps_of h.2.1
    simp only [List.cons.injEq, and_true] at hvs
    subst hvs
    have hlen : b.length ≤ 1048576 := by
      have h1 := hv.blk (fun x => by simp [by8, V.blk])
      simp only [V.blks] at hb; omega
    have hlt : ∀ i (h : i < b.length), b[i] < 256 := fun i h => hb8 _ (List.getElem_mem h)
    have key : Ok (sem T fn_palanquinlaw6_BitsTakes [u, u2]) H0 fun r _ => r = .bool true := by
      refine ok_palanquinlaw6_BitsTakes ?_
      unfold f_palanquinlaw6_BitsTakes
      refine ok_bind' (Over_ok hv.rc hlt (by omega)) ?_
      rintro _ H1 ⟨w, rfl, hw, h1, s1, n1⟩
      simp (disch := first | omega | decide) only [↓RD, RC, RH, RO, RN, RL, RX, RS, eq_self, Int.reduceToNat, Int.reduceAdd, Int.reduceSub, Int.reduceMul, Nat.reduceAdd, Nat.reduceSub, Nat.reduceMul, Nat.reduceDiv, Nat.reduceMod, Nat.reduceBEq, Nat.reduceLeDiff, hv.cells1, hv.okc]
      generalize hH2 : H1.new _ = H2
      have k1 : PRd H2 H1.next w b 0 := h1.frame (fun i hi => by rw [← hH2, get_new_ne _ _ (by omega)])
      have k2 : RRd H2 H1.next b 0 := ⟨⟨u, by rw [← hH2, get_new_self]; rfl, hv⟩, by rw [← hH2, next_new]; omega, hlt, by omega, by omega⟩
      have n2 : H2.next = H1.next + 1 := by rw [← hH2, next_new]
      refine ok_bind' awake_ok ?_
      rintro _ H3 ⟨rfl, n3, s3⟩
      have k1' := k1.frame (fun i hi => s3 i (by omega))
      have k2' := k2.frame (s3 _ k2.low) n3
      simp (disch := first | omega | decide) only [↓RD, RC, RH, RO, RN, RL, RX, RS, eq_self, Int.reduceToNat, Int.reduceAdd, Int.reduceSub, Int.reduceMul, Nat.reduceAdd, Nat.reduceSub, Nat.reduceMul, Nat.reduceDiv, Nat.reduceMod, Nat.reduceBEq, Nat.reduceLeDiff]
      refine ok_loop (fun k L H' => ∃ a, L = [.int .i64 (k : Nat)] ∧ PRd H' H1.next w b a ∧ RRd H' H1.next b a) (min l.length 100) ⟨0, rfl, k1', k2'⟩ ?_ ?_
      · rintro k L H4 hk ⟨a, rfl, g1, g2⟩
        exact takes_step hs hl g1 g2 (Nat.le_refl _) k (by omega) (by omega) fun H5 a' q1 q2 => ⟨a', rfl, q1, q2⟩
      · rintro L H4 ⟨a, rfl, g1, g2⟩
        unfold f_palanquinlaw6_BitsTakes_0
        by_cases hlen : l.length < 100
        · have hm : min l.length 100 = l.length := by omega
          rw [hm]
          simp (disch := first | omega | decide) only [↓RD, RC, RH, RO, RN, RL, RX, RS, eq_self, Int.reduceToNat, Int.reduceAdd, Int.reduceSub, Int.reduceMul, Nat.reduceAdd, Nat.reduceSub, Nat.reduceMul, Nat.reduceDiv, Nat.reduceMod, Nat.reduceBEq, Nat.reduceLeDiff, hs.vlen]
        · have hm : min l.length 100 = 100 := by omega
          rw [hm]
          simp (disch := first | omega | decide) only [↓RD, RC, RH, RO, RN, RL, RX, RS, eq_self, Int.reduceToNat, Int.reduceAdd, Int.reduceSub, Int.reduceMul, Nat.reduceAdd, Nat.reduceSub, Nat.reduceMul, Nat.reduceDiv, Nat.reduceMod, Nat.reduceBEq, Nat.reduceLeDiff, hs.vlen]
          by_cases h60 : 100 < l.length
          · simp (disch := first | omega | decide) only [↓RD, RC, RH, RO, RN, RL, RX, RS, eq_self, Int.reduceToNat, Int.reduceAdd, Int.reduceSub, Int.reduceMul, Nat.reduceAdd, Nat.reduceSub, Nat.reduceMul, Nat.reduceDiv, Nat.reduceMod, Nat.reduceBEq, Nat.reduceLeDiff]
          · simp (disch := first | omega | decide) only [↓RD, RC, RH, RO, RN, RL, RX, RS, eq_self, Int.reduceToNat, Int.reduceAdd, Int.reduceSub, Int.reduceMul, Nat.reduceAdd, Nat.reduceSub, Nat.reduceMul, Nat.reduceDiv, Nat.reduceMod, Nat.reduceBEq, Nat.reduceLeDiff]
    obtain ⟨r, H', h1, rfl⟩ := key
    exact ⟨H', h1⟩
  · cases h.2.2

end Go.Ax
