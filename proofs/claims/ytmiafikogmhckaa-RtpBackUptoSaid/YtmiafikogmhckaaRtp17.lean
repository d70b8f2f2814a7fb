/-
  Rtp: a packet's bytes, as the program writes them.
-/
import Derived.Test.YtmiafikogmhckaaRtp16
set_option maxRecDepth 100000
set_option linter.unusedVariables false
set_option linter.unusedSimpArgs false
namespace Go.Ax.R7
open Go.Ax

def csb (p : Pkt) : List Nat := (p.csrc.map (bn 4)).flatten
def extb (p : Pkt) : List Nat := if p.prof = 0 then [] else bn 2 p.prof.toNat ++ bn 2 ((elems p).length / 4) ++ elems p
def hb0 (p : Pkt) : List Nat := [b0 p, b1 p] ++ bn 2 p.seq ++ bn 4 p.ts ++ bn 4 p.ssrc ++ csb p
def hb (p : Pkt) : List Nat := hb0 p ++ extb p
def padb (n : Nat) : List Nat := if n = 0 then [] else List.replicate (n - 1) 0 ++ [n]

/-- A packet's bytes, or the error. -/
def bytes (p : Pkt) : Except Int (List Nat) :=
  if good p = false then .error 1
  else if 1200 < (hb p).length + p.pay.length + p.pad.toNat then .error 4
  else .ok (hb p ++ p.pay ++ padb p.pad.toNat)

structure Num (p : Pkt) : Prop where
  seq : p.seq < 65536
  ts : p.ts < 4294967296
  ssrc : p.ssrc < 4294967296
  csrc : ∀ x ∈ p.csrc, x < 4294967296

theorem Rng.num {p : Pkt} (h : Rng p) : Num p := ⟨h.seq, h.ts, h.ssrc, h.csrc⟩

/-- What writing answers. -/
def BytesQ (H : Heap) (o : Except Int (List Nat)) (r : V) (H' : Heap) : Prop :=
  Grow H H' ∧ match o with
    | .error e => r = .tup [.nils, .int .i64 e]
    | .ok l => ∃ w, r = .tup [w, .int .i64 0] ∧ By H.next H' w l

def csk (p : Pkt) (k : Nat) : List Nat := ((p.csrc.take k).map (bn 4)).flatten
theorem csk_succ {p : Pkt} {k : Nat} (h : k < p.csrc.length) : csk p (k + 1) = csk p k ++ bn 4 p.csrc[k] := by
  unfold csk
  rw [List.take_succ_eq_append_getElem h, List.map_append, List.flatten_append]; simp
theorem csk_len {p : Pkt} : ∀ k, k ≤ p.csrc.length → (csk p k).length = 4 * k := by
  intro k
  induction k with
  | zero => intro _; simp [csk]
  | succ k ih => intro hk; rw [csk_succ (by omega), List.length_append, ih (by omega), bn_len]; omega
theorem csk_all (p : Pkt) : csk p p.csrc.length = csb p := by unfold csk csb; rw [List.take_length]

theorem hb0_len (p : Pkt) : (hb0 p).length = 12 + 4 * p.csrc.length := by
  unfold hb0
  have := csk_len (p := p) p.csrc.length (Nat.le_refl _)
  rw [csk_all] at this
  simp only [List.length_append, bn_len, this, List.length_cons, List.length_nil]

theorem elems_len {p : Pkt} (hg : Gd p) (hp : p.prof ≠ 0) : (elems p).length ≤ 257 * p.exts.length + 3 := by
  have := xsk_len hg hp p.exts.length (Nat.le_refl _)
  rw [xsk_all] at this
  unfold elems padn
  rw [List.length_append, List.length_replicate]; omega

/-- Where one's own bytes lie. -/
theorem Ab.mem {lo : Nat} {H : Heap} {v : V} {l : List Nat} (h : Ab lo H v l) (hl : 0 < l.length) : ∃ id cap o, v = .sl id 0 l.length cap ∧ H.get id = some ⟨ty_uint8, l.map by8, o⟩ ∧ lo ≤ id ∧ id < H.next ∧ V.capOk 1 v := by
  unfold Ab at h
  generalize hc : l.map by8 = cells at h
  generalize hn : l.length = n at h hl
  cases h with
  | app h =>
    cases h with
    | opn h ho =>
      rcases h with ⟨rfl, _, h0⟩ | ⟨id, rfl, hb, _⟩
      · omega
      · obtain ⟨h1, h2⟩ := ho id rfl
        exact ⟨id, _, _, rfl, hb, h1, h2, rfl⟩
    | lit h h0 h1 => omega
  | full h hl h0 h1 => exact ⟨_, _, _, rfl, h, h0, h1, Nat.le_refl _⟩

theorem splice_last (m : List Nat) (x y : Nat) : splice ((m ++ [x]).map by8) m.length [by8 y] = (m ++ [y]).map by8 := by
  unfold splice
  simp [List.take_append_of_le_length]

/-- Behind the extension. -/
def PB (lo : Nat) (H : Heap) (p : Pkt) (r : Res) (H' : Heap) : Prop := ∃ w, r = .nrm [w] ∧ Ab lo H' w (hb p) ∧ Bel lo H H'

theorem Bytes_ok {lo : Nat} {H : Heap} {v : V} {p : Pkt} (h : PkR lo H v p) (hs : Sml p) (hn : Num p) : Ok (sem T fn_rtp_Bytes [v]) H (BytesQ H (bytes p)) := by
  have h0 := h
  obtain ⟨cv, xv, pv, rfl, hc, hx, hp⟩ := h
  obtain ⟨q1, q2, q3, q4⟩ := hs
  obtain ⟨m1, m2, m3, m4⟩ := hn
  refine ok_rtp_Bytes ?_
  unfold f_rtp_Bytes
  unfold bytes
  unfold pcells
  simp (disch := first | omega | (simp only [nx_new, nx_set, List.length_cons, List.length_nil] <;> omega) | decide) only [↓RD, RC, RH, RO, RN, RL, RX, RS, RM, eq_self, Int.reduceToNat, Int.reduceAdd, Int.reduceSub, Int.reduceMul, Nat.reduceAdd, Nat.reduceSub, Nat.reduceMul, Nat.reduceDiv, Nat.reduceMod, Nat.reduceBEq, Nat.reduceLeDiff, hc.cells1, hx.cells1, hp.cells1, hc.okc, hx.okc, hp.okc]
  generalize hH1 : Heap.new H _ = H1
  have n1 : H1.next = H.next + 1 := by rw [← hH1]; rfl
  have s1 : Grow H H1 := by rw [← hH1]; exact Grow.new _ _
  have g1 : H1.get H.next = some ⟨ty_rtp_Packet, pcells p cv xv pv, none⟩ := by rw [← hH1]; exact get_new_self _ _
  clear hH1
  unfold pcells at g1
  refine ok_bind' (Good_ok (h0.ext s1) ⟨q1, q2, q3, q4⟩) ?_
  rintro _ H2 ⟨rfl, s2⟩
  have n2 := s2.next
  have s02 := s1.trans s2
  have g2 : H2.get H.next = _ := (s2.same _ (by omega)).trans g1
  cases hgd : good p with
  | false =>
    simp (disch := first | omega | (simp only [nx_new, nx_set, List.length_cons, List.length_nil] <;> omega) | decide) only [↓RD, RC, RH, RO, RN, RL, RX, RS, RM, eq_self, Int.reduceToNat, Int.reduceAdd, Int.reduceSub, Int.reduceMul, Nat.reduceAdd, Nat.reduceSub, Nat.reduceMul, Nat.reduceDiv, Nat.reduceMod, Nat.reduceBEq, Nat.reduceLeDiff]
    exact ⟨s02, rfl⟩
  | true =>
    have hg := good_gd hgd
    obtain ⟨⟨ht, hcl, hpd0, hpd1⟩, -, -, -⟩ := id hg
    have e1 : p.seq % 4294967296 = p.seq := by omega
    rw [if_neg (by decide)]
    simp (disch := first | omega | (simp only [nx_new, nx_set, List.length_cons, List.length_nil] <;> omega) | decide) only [↓RD, RC, RH, RO, RN, RL, RX, RS, RM, eq_self, Int.reduceToNat, Int.reduceAdd, Int.reduceSub, Int.reduceMul, Nat.reduceAdd, Nat.reduceSub, Nat.reduceMul, Nat.reduceDiv, Nat.reduceMod, Nat.reduceBEq, Nat.reduceLeDiff, g2, e1]
    refine ok_bind' (first_ok (h0.ext s02) hg) ?_
    rintro w3 H3 ⟨a3, s3⟩
    have n3 := s3.next
    have g3 : H3.get H.next = _ := (s3.same _ (by omega)).trans g2
    have k3 : Bel H2.next H2 H3 := s3.bel (Nat.le_refl _)
    simp (disch := first | omega | (simp only [nx_new, nx_set, List.length_cons, List.length_nil] <;> omega) | decide) only [↓RD, RC, RH, RO, RN, RL, RX, RS, RM, eq_self, Int.reduceToNat, Int.reduceAdd, Int.reduceSub, Int.reduceMul, Nat.reduceAdd, Nat.reduceSub, Nat.reduceMul, Nat.reduceDiv, Nat.reduceMod, Nat.reduceBEq, Nat.reduceLeDiff, g2, g3]
    refine ok_bind' (put_ok a3 k3.next (by simp) p.seq 2 (by omega) (by omega)) ?_
    rintro w4 H4 ⟨a4, b4, -⟩
    have k4 := k3.trans b4
    have g4 : H4.get H.next = _ := (k4.same _ (by omega)).trans g2
    simp (disch := first | omega | (simp only [nx_new, nx_set, List.length_cons, List.length_nil] <;> omega) | decide) only [↓RD, RC, RH, RO, RN, RL, RX, RS, RM, eq_self, Int.reduceToNat, Int.reduceAdd, Int.reduceSub, Int.reduceMul, Nat.reduceAdd, Nat.reduceSub, Nat.reduceMul, Nat.reduceDiv, Nat.reduceMod, Nat.reduceBEq, Nat.reduceLeDiff, g4]
    refine ok_bind' (put_ok a4 k4.next (by simp [bn_len]) p.ts 4 m2 (by omega)) ?_
    rintro w5 H5 ⟨a5, b5, -⟩
    have k5 := k4.trans b5
    have g5 : H5.get H.next = _ := (k5.same _ (by omega)).trans g2
    simp (disch := first | omega | (simp only [nx_new, nx_set, List.length_cons, List.length_nil] <;> omega) | decide) only [↓RD, RC, RH, RO, RN, RL, RX, RS, RM, eq_self, Int.reduceToNat, Int.reduceAdd, Int.reduceSub, Int.reduceMul, Nat.reduceAdd, Nat.reduceSub, Nat.reduceMul, Nat.reduceDiv, Nat.reduceMod, Nat.reduceBEq, Nat.reduceLeDiff, g4, g5]
    refine ok_bind' (put_ok a5 k5.next (by simp [bn_len]) p.ssrc 4 m3 (by omega)) ?_
    rintro w6 H6 ⟨a6, b6, -⟩
    have k6 := k5.trans b6
    have g6 : H6.get H.next = _ := (k6.same _ (by omega)).trans g2
    simp (disch := first | omega | (simp only [nx_new, nx_set, List.length_cons, List.length_nil] <;> omega) | decide) only [↓RD, RC, RH, RO, RN, RL, RX, RS, RM, eq_self, Int.reduceToNat, Int.reduceAdd, Int.reduceSub, Int.reduceMul, Nat.reduceAdd, Nat.reduceSub, Nat.reduceMul, Nat.reduceDiv, Nat.reduceMod, Nat.reduceBEq, Nat.reduceLeDiff, g6, hc.vlen]
    refine ok_loop (fun k L H' => ∃ w, L = [w, .int .i64 (k : Nat)] ∧ Ab H2.next H' w ([b0 p, b1 p] ++ bn 2 p.seq ++ bn 4 p.ts ++ bn 4 p.ssrc ++ csk p k) ∧ Bel H2.next H2 H') p.csrc.length ?_ ?_ ?_
    · exact ⟨w6, rfl, by simpa [csk] using a6, k6⟩
    · rintro k L H7 hk ⟨w, rfl, a7, k7⟩
      have s7 : Grow H H7 := Grow.bel' s02 (by omega) k7
      obtain ⟨q, i1, l1⟩ := w_at (hc.ext s7) hk
      have hlen := csk_len (p := p) k (by omega)
      unfold f_rtp_Bytes_0
      simp (disch := first | omega | (simp only [nx_new, nx_set, List.length_cons, List.length_nil] <;> omega) | decide) only [↓RD, RC, RH, RO, RN, RL, RX, RS, RM, eq_self, Int.reduceToNat, Int.reduceAdd, Int.reduceSub, Int.reduceMul, Nat.reduceAdd, Nat.reduceSub, Nat.reduceMul, Nat.reduceDiv, Nat.reduceMod, Nat.reduceBEq, Nat.reduceLeDiff, i1, l1]
      refine ok_bind' (put_ok a7 k7.next (by simp [bn_len, hlen]; omega) p.csrc[k] 4 (m4 _ (List.getElem_mem hk)) (by omega)) ?_
      rintro w8 H8 ⟨a8, b8, -⟩
      simp (disch := first | omega | (simp only [nx_new, nx_set, List.length_cons, List.length_nil] <;> omega) | decide) only [↓RD, RC, RH, RO, RN, RL, RX, RS, RM, eq_self, Int.reduceToNat, Int.reduceAdd, Int.reduceSub, Int.reduceMul, Nat.reduceAdd, Nat.reduceSub, Nat.reduceMul, Nat.reduceDiv, Nat.reduceMod, Nat.reduceBEq, Nat.reduceLeDiff]
      refine ⟨w8, by rfl, ?_, k7.trans b8⟩
      rw [csk_succ hk, ← List.append_assoc]
      exact a8
    · rintro L H7 ⟨w7, rfl, a7, k7⟩
      rw [csk_all] at a7
      have a7' : Ab H2.next H7 w7 (hb0 p) := a7
      have g7 : H7.get H.next = _ := (k7.same _ (by omega)).trans g2
      have s7 : Grow H H7 := Grow.bel' s02 (by omega) k7
      have hl0 := hb0_len p
      unfold f_rtp_Bytes_0
      simp (disch := first | omega | (simp only [nx_new, nx_set, List.length_cons, List.length_nil] <;> omega) | decide) only [↓RD, RC, RH, RO, RN, RL, RX, RS, RM, eq_self, Int.reduceToNat, Int.reduceAdd, Int.reduceSub, Int.reduceMul, Nat.reduceAdd, Nat.reduceSub, Nat.reduceMul, Nat.reduceDiv, Nat.reduceMod, Nat.reduceBEq, Nat.reduceLeDiff, g7]
      refine ok_mono (Q := PB H2.next H2 p) ?_ ?_
      · by_cases hz : p.prof = 0
        · simp (disch := first | omega | (simp only [nx_new, nx_set, List.length_cons, List.length_nil] <;> omega) | decide) only [↓RD, RC, RH, RO, RN, RL, RX, RS, RM, eq_self, Int.reduceToNat, Int.reduceAdd, Int.reduceSub, Int.reduceMul, Nat.reduceAdd, Nat.reduceSub, Nat.reduceMul, Nat.reduceDiv, Nat.reduceMod, Nat.reduceBEq, Nat.reduceLeDiff, hz]
          refine ⟨w7, rfl, ?_, k7⟩
          unfold hb extb
          rw [if_pos hz, List.append_nil]; exact a7'
        · have hel := elems_len hg hz
          simp (disch := first | omega | (simp only [nx_new, nx_set, List.length_cons, List.length_nil] <;> omega) | decide) only [↓RD, RC, RH, RO, RN, RL, RX, RS, RM, eq_self, Int.reduceToNat, Int.reduceAdd, Int.reduceSub, Int.reduceMul, Nat.reduceAdd, Nat.reduceSub, Nat.reduceMul, Nat.reduceDiv, Nat.reduceMod, Nat.reduceBEq, Nat.reduceLeDiff, hz, g7]
          refine ok_bind' (elemsP_ok (h0.ext s7) ⟨q1, q2, q3, q4⟩ hg hz) ?_
          rintro ev H8 ⟨he8, s8⟩
          have n8 := s8.next
          have k8 := k7.trans (s8.bel k7.next)
          have g8 : H8.get H.next = _ := (k8.same _ (by omega)).trans g2
          have a8 : Ab H2.next H8 w7 (hb0 p) := Apf.keep a7' (s8.keep _)
          obtain ⟨f, hf, hf2⟩ : ∃ f : Nat, p.prof = (f : Int) ∧ f < 65536 := by
            rcases hg.c.resolve_left hz with e | e
            · exact ⟨48862, e, by omega⟩
            · exact ⟨4096, e, by omega⟩
          have e2 : f % 4294967296 = f := by omega
          have hpid8 : ∀ id, ev.pid = some id → H7.next ≤ id ∧ id < H8.next := fun id hi => he8.own id hi
          rw [hf] at g8
          simp (disch := first | omega | (simp only [nx_new, nx_set, List.length_cons, List.length_nil] <;> omega) | decide) only [↓RD, RC, RH, RO, RN, RL, RX, RS, RM, eq_self, Int.reduceToNat, Int.reduceAdd, Int.reduceSub, Int.reduceMul, Nat.reduceAdd, Nat.reduceSub, Nat.reduceMul, Nat.reduceDiv, Nat.reduceMod, Nat.reduceBEq, Nat.reduceLeDiff, g8, e2]
          refine ok_bind' (put_ok a8 k8.next (by omega) f 2 (by omega) (by omega)) ?_
          rintro w9 H9 ⟨a9, b9, st9⟩
          have e3 : (elems p).length / 4 % 4294967296 = (elems p).length / 4 := by omega
          have he9 : By H7.next H9 ev (elems p) := he8.step st9 fun id hi hF => by
            have h1 := (a7'.lc.own id (by simpa [mem_pid] using hF)).2
            have h2 := (hpid8 id hi).1
            omega
          have k9 := k8.trans b9
          simp (disch := first | omega | (simp only [nx_new, nx_set, List.length_cons, List.length_nil] <;> omega) | decide) only [↓RD, RC, RH, RO, RN, RL, RX, RS, RM, eq_self, Int.reduceToNat, Int.reduceAdd, Int.reduceSub, Int.reduceMul, Nat.reduceAdd, Nat.reduceSub, Nat.reduceMul, Nat.reduceDiv, Nat.reduceMod, Nat.reduceBEq, Nat.reduceLeDiff, he9.vlen, e3]
          refine ok_bind' (put_ok a9 k9.next (by simp [bn_len, hl0]; omega) ((elems p).length / 4) 2 (by omega) (by omega)) ?_
          rintro w10 H10 ⟨a10, b10, st10⟩
          have he10 : By H7.next H10 ev (elems p) := he9.step st10 fun id hi hF => by
            have h2 := hpid8 id hi
            rcases st9.own id hF with h | h
            · have h1 := (a7'.lc.own id (by simpa [mem_pid] using h)).2
              omega
            · omega
          have k10 := k9.trans b10
          simp (disch := first | omega | (simp only [nx_new, nx_set, List.length_cons, List.length_nil] <;> omega) | decide) only [↓RD, RC, RH, RO, RN, RL, RX, RS, RM, eq_self, Int.reduceToNat, Int.reduceAdd, Int.reduceSub, Int.reduceMul, Nat.reduceAdd, Nat.reduceSub, Nat.reduceMul, Nat.reduceDiv, Nat.reduceMod, Nat.reduceBEq, Nat.reduceLeDiff]
          refine okb_ab a10 k10.next he10.ac (by simp [bn_len, hl0]; omega) fun w11 H11 a11 b11 => ?_
          simp (disch := first | omega | (simp only [nx_new, nx_set, List.length_cons, List.length_nil] <;> omega) | decide) only [↓RD, RC, RH, RO, RN, RL, RX, RS, RM, eq_self, Int.reduceToNat, Int.reduceAdd, Int.reduceSub, Int.reduceMul, Nat.reduceAdd, Nat.reduceSub, Nat.reduceMul, Nat.reduceDiv, Nat.reduceMod, Nat.reduceBEq, Nat.reduceLeDiff]
          refine ⟨w11, rfl, ?_, k10.trans b11⟩
          have ehb : hb p = hb0 p ++ bn 2 f ++ bn 2 ((elems p).length / 4) ++ elems p := by
            unfold hb extb
            rw [if_neg hz, hf, Int.toNat_natCast]
            simp only [List.append_assoc]
          rw [ehb]; exact a11
      · rintro r H8 ⟨w8, rfl, a8, k8⟩
        have g8 : H8.get H.next = _ := (k8.same _ (by omega)).trans g2
        have s8 : Grow H H8 := Grow.bel' s02 (by omega) k8
        have hpl := (hp.ext s8).vlen
        obtain ⟨d, hd⟩ := Int.eq_ofNat_of_zero_le hpd0
        rw [hd] at g8 hpd1
        have hdt : p.pad.toNat = d := by rw [hd]; rfl
        rw [hdt]
        have hhl : (hb p).length ≤ 549755813888 := by
          unfold hb extb
          rw [List.length_append, hl0]
          split
          · simp; omega
          · rename_i hz
            have := elems_len hg hz
            simp only [List.length_append, bn_len]; omega
        have e1 : ((hb p).length : Int) + (p.pay.length : Nat) = (((hb p).length + p.pay.length : Nat) : Int) := rfl
        have e2 : (((hb p).length + p.pay.length : Nat) : Int) + (d : Nat) = (((hb p).length + p.pay.length + d : Nat) : Int) := rfl
        by_cases hbig : 1200 < (hb p).length + p.pay.length + d
        · rw [if_pos hbig]
          simp (disch := first | omega | (simp only [nx_new, nx_set, List.length_cons, List.length_nil] <;> omega) | decide) only [↓RD, RC, RH, RO, RN, RL, RX, RS, RM, eq_self, Int.reduceToNat, Int.reduceAdd, Int.reduceSub, Int.reduceMul, Nat.reduceAdd, Nat.reduceSub, Nat.reduceMul, Nat.reduceDiv, Nat.reduceMod, Nat.reduceBEq, Nat.reduceLeDiff, a8.lc.vlen, g8, hpl, e1, e2]
          exact ⟨s8, rfl⟩
        · rw [if_neg hbig]
          simp (disch := first | omega | (simp only [nx_new, nx_set, List.length_cons, List.length_nil] <;> omega) | decide) only [↓RD, RC, RH, RO, RN, RL, RX, RS, RM, eq_self, Int.reduceToNat, Int.reduceAdd, Int.reduceSub, Int.reduceMul, Nat.reduceAdd, Nat.reduceSub, Nat.reduceMul, Nat.reduceDiv, Nat.reduceMod, Nat.reduceBEq, Nat.reduceLeDiff, a8.lc.vlen, g8, hpl, e1, e2]
          refine okb_ab a8 k8.next (hp.ext s8).ac (by omega) fun w9 H9 a9 b9 => ?_
          have k9 := k8.trans b9
          have s9 : Grow H H9 := Grow.bel' s02 (by omega) k9
          have g9 : H9.get H.next = _ := (b9.same _ (by omega)).trans g8
          by_cases hd0 : d = 0
          · subst hd0
            simp (disch := first | omega | (simp only [nx_new, nx_set, List.length_cons, List.length_nil] <;> omega) | decide) only [↓RD, RC, RH, RO, RN, RL, RX, RS, RM, eq_self, Int.reduceToNat, Int.reduceAdd, Int.reduceSub, Int.reduceMul, Nat.reduceAdd, Nat.reduceSub, Nat.reduceMul, Nat.reduceDiv, Nat.reduceMod, Nat.reduceBEq, Nat.reduceLeDiff, g9]
            refine ⟨s9, w9, rfl, ?_⟩
            unfold padb
            rw [if_pos rfl, List.append_nil]
            exact a9.by.low (by omega)
          · simp (disch := first | omega | (simp only [nx_new, nx_set, List.length_cons, List.length_nil] <;> omega) | decide) only [↓RD, RC, RH, RO, RN, RL, RX, RS, RM, eq_self, Int.reduceToNat, Int.reduceAdd, Int.reduceSub, Int.reduceMul, Nat.reduceAdd, Nat.reduceSub, Nat.reduceMul, Nat.reduceDiv, Nat.reduceMod, Nat.reduceBEq, Nat.reduceLeDiff, g9]
            refine okb_apfz (m := d) a9 k9.next (by simp; omega) (by simp; omega) fun w10 H10 a10 b10 => ?_
            obtain ⟨c, rfl⟩ : ∃ c, d = c + 1 := ⟨d - 1, by omega⟩
            have ea : Ab H2.next H10 w10 ((hb p ++ p.pay ++ List.replicate c 0) ++ [0]) := by
              have e1 : (hb p ++ p.pay ++ List.replicate c 0) ++ [0] = (hb p ++ p.pay) ++ List.replicate (c + 1) 0 := by
                rw [List.append_assoc (hb p ++ p.pay), ← List.replicate_succ']
              show Apf _ _ _ _ _ _ _
              rw [e1, List.map_append, List.length_append, List.map_replicate, List.length_replicate]
              exact a10
            have k10 := k9.trans b10
            have g10 : H10.get H.next = _ := (b10.same _ (by omega)).trans g9
            have s10 : Grow H H10 := Grow.bel' s02 (by omega) k10
            generalize hlm : hb p ++ p.pay ++ List.replicate c 0 = lm at *
            have hll : lm.length ≤ 1200 := by rw [← hlm]; simp only [List.length_append, List.length_replicate]; omega
            have hvl := ea.lc.vlen
            obtain ⟨id, cap, o, rfl, hb10, h1, h2, hcap⟩ := ea.mem (by simp)
            rw [List.length_append, List.length_singleton] at hvl hcap ⊢
            have e5 : ((lm.length + 1 : Nat) : Int) - 1 = (lm.length : Nat) := by omega
            have hia : ∀ {k : IntKind}, Ax.iaddr none 1 (.sl id 0 (lm.length + 1) cap) (.int k (lm.length : Nat)) = some (.ptr id lm.length) := fun {k} => by
              have := iaddr_sl (id := id) (off := 0) (len := lm.length + 1) (c := cap) (k := k) (i := ((lm.length : Nat) : Int)) (e := 1) (by omega) (by omega)
              simpa using this
            have e6 : (c + 1) % 256 = c + 1 := by omega
            simp (disch := first | omega | (simp only [nx_new, nx_set, List.length_cons, List.length_nil] <;> omega) | decide) only [↓RD, RC, RH, RO, RN, RL, RX, RS, RM, eq_self, Int.reduceToNat, Int.reduceAdd, Int.reduceSub, Int.reduceMul, Nat.reduceAdd, Nat.reduceSub, Nat.reduceMul, Nat.reduceDiv, Nat.reduceMod, Nat.reduceBEq, Nat.reduceLeDiff, hvl, e5, g10, hia, e6]
            refine ok_store_at (size := 1) (off := lm.length) (cells' := (lm ++ [c + 1]).map by8) hb10 ⟨by rfl, by simp, by rfl⟩ (splice_last lm 0 (c + 1)) ?_
            simp (disch := first | omega | (simp only [nx_new, nx_set, List.length_cons, List.length_nil] <;> omega) | decide) only [↓RD, RC, RH, RO, RN, RL, RX, RS, RM, eq_self, Int.reduceToNat, Int.reduceAdd, Int.reduceSub, Int.reduceMul, Nat.reduceAdd, Nat.reduceSub, Nat.reduceMul, Nat.reduceDiv, Nat.reduceMod, Nat.reduceBEq, Nat.reduceLeDiff]
            refine ⟨s10.set (by omega) _, _, rfl, ?_⟩
            have efin : hb p ++ p.pay ++ padb (c + 1) = lm ++ [c + 1] := by
              unfold padb
              rw [if_neg (by omega), ← hlm]
              simp
            rw [efin]
            refine ⟨?_, fun i hi => ?_, by simpa using hcap⟩
            · simp only [rcells, get_set_self, Option.bind_some]
              rw [if_pos (by simp), List.drop_zero, List.take_of_length_le (by simp)]
              simp
            · simp only [V.pid, Option.some.injEq] at hi; subst hi; exact ⟨by omega, by rw [next_set]; omega⟩

end Go.Ax.R7
