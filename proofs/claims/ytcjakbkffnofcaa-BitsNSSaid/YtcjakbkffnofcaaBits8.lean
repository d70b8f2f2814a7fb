/-
  Bits: the laws BitsBack, BitsNS.
-/
import Derived.Test.YtcjakbkffnofcaaBits7
set_option maxRecDepth 100000
set_option linter.unusedVariables false
set_option linter.unusedSimpArgs false
namespace Go.Ax.B6
open Go.Ax

/-- What a call writes, if it may be. -/
def Stp.seg (s : Stp) : List Bool := if s.ns then (if s.v < 2 ^ bl s.m - s.m then nb s.v (bl s.m - 1) else nb (s.v + (2 ^ bl s.m - s.m)) (bl s.m)) else nb s.v s.n.toNat
def Stp.good (s : Stp) : Prop := if s.ns then addNSE s.v s.m = 0 else addE s.v s.n = 0

theorem addB_good {s : Stp} (h : s.ns = false) (g : s.good) (bits : List Bool) : addB bits s.v s.n = bits ++ s.seg := by
  unfold Stp.good at g
  unfold Stp.seg addB
  simp only [h, Bool.false_eq_true, if_false] at g ⊢
  unfold addE at g
  split at g
  · cases g
  · rename_i h1; rw [if_neg h1]

theorem addB_bad {v : Nat} {n : Int} (h : addE v n ≠ 0) (bits : List Bool) : addB bits v n = bits := by
  unfold addE at h; unfold addB
  split at h
  · rename_i h1; rw [if_pos h1]
  · exact absurd rfl h

theorem addNSB_good {s : Stp} (h : s.ns = true) (g : s.good) (bits : List Bool) : addNSB bits s.v s.m = bits ++ s.seg := by
  unfold Stp.good at g
  unfold Stp.seg addNSB
  simp only [h, if_true] at g ⊢
  unfold addNSE at g
  split at g
  · cases g
  · rename_i h1; rw [if_neg h1]; split <;> rfl

theorem addNSB_bad {v n : Nat} (h : addNSE v n ≠ 0) (bits : List Bool) : addNSB bits v n = bits := by
  unfold addNSE at h; unfold addNSB
  split at h
  · rename_i h1; rw [if_pos h1]
  · exact absurd rfl h

def Segs (l : List Stp) : List Bool := (l.map Stp.seg).flatten
theorem Segs_snoc (l : List Stp) (s : Stp) : Segs (l ++ [s]) = Segs l ++ s.seg := by simp [Segs]
def Cls (l : List Stp) : List V := (l.map Stp.cells).flatten
theorem Cls_snoc (l : List Stp) (s : Stp) : Cls (l ++ [s]) = Cls l ++ s.cells := by simp [Cls]

/-- The first loop's state. -/
structure Bk (H : Heap) (w : Nat) (okv : V) (l : List Stp) (k : Nat) : Prop where
  mk' ::
  ex : ∃ F, WRep H w (Segs l) F ∧ Opn ty_palanquinlaw6_Step 4 H okv (Cls l) l.length ∧ Apart F okv.pid.toList ∧ Below okv.pid.toList H
  good : ∀ s ∈ l, s.ok ∧ s.good
  num : l.length ≤ k ∧ (Segs l).length ≤ 64 * k

theorem back_step {H : Heap} {v okv : V} {l oks : List Stp} (hv : Stps v l) (hl : ∀ s ∈ l, s.ok) {w : Nat} (i : Nat) (hi : i < l.length) (hi60 : i < 60) (hB : Bk H w okv oks i) (t2 : V)
    {Q : Res → Heap → Prop} (k : ∀ H' okv' oks', Bk H' w okv' oks' (i + 1) → Q (.nrm [okv', .int .i64 ((i : Int) + 1)]) H') :
    Ok (f_palanquinlaw6_BitsBack_0 (sem T) (.ptr w 0) v t2 [okv, .int .i64 (i : Int)]) H Q := by
  obtain ⟨⟨F, h1, h2, ha, hb⟩, hg, hn1, hn2⟩ := hB
  obtain ⟨cells, hia, hld, c0, c1, c2, c3⟩ := hv.at' (k := .i64) hi
  have hsok := hl _ (List.getElem_mem hi)
  obtain ⟨hv1, hv2, hv3, hv4⟩ := id hsok
  generalize l[i] = s at *
  unfold f_palanquinlaw6_BitsBack_0
  simp (disch := first | omega | decide) only [↓RD, RC, RH, RO, RN, RL, RX, RS, eq_self, Int.reduceToNat, Int.reduceAdd, Int.reduceSub, Int.reduceMul, Nat.reduceAdd, Nat.reduceSub, Nat.reduceMul, Nat.reduceDiv, Nat.reduceMod, Nat.reduceBEq, Nat.reduceLeDiff, hv.vlen, hia, c3]
  -- the call
  refine ok_mono (Q := fun r' H' => ∃ e F' bits, r' = .nrm [.int .i64 e] ∧ WRep H' w bits F' ∧ Step H H' F F' ∧ (e = 0 → s.good ∧ bits = Segs oks ++ s.seg) ∧ (e ≠ 0 → bits = Segs oks) ∧ bits.length ≤ 64 * (i + 1)) ?_ ?_
  · refine ok_ite (fun hn => ?_) fun hn => ?_
    · simp (disch := first | omega | decide) only [↓RD, RC, RH, RO, RN, RL, RX, RS, eq_self, Int.reduceToNat, Int.reduceAdd, Int.reduceSub, Int.reduceMul, Nat.reduceAdd, Nat.reduceSub, Nat.reduceMul, Nat.reduceDiv, Nat.reduceMod, Nat.reduceBEq, Nat.reduceLeDiff, hia, c0, c1]
      refine ok_bind' (AddNS_ok h1 s.v s.m hv1 hv2 (by omega)) ?_
      rintro _ H1 ⟨F1, rfl, g1, s1⟩
      simp (disch := first | omega | decide) only [↓RD, RC, RH, RO, RN, RL, RX, RS, eq_self, Int.reduceToNat, Int.reduceAdd, Int.reduceSub, Int.reduceMul, Nat.reduceAdd, Nat.reduceSub, Nat.reduceMul, Nat.reduceDiv, Nat.reduceMod, Nat.reduceBEq, Nat.reduceLeDiff]
      refine ⟨_, F1, _, rfl, g1, s1, fun e => ?_, fun e => addNSB_bad e _, by have := addNSB_len (Segs oks) s.v s.m; omega⟩
      have gd : s.good := by unfold Stp.good; rw [if_pos hn]; exact e
      exact ⟨gd, addNSB_good hn gd _⟩
    · simp (disch := first | omega | decide) only [↓RD, RC, RH, RO, RN, RL, RX, RS, eq_self, Int.reduceToNat, Int.reduceAdd, Int.reduceSub, Int.reduceMul, Nat.reduceAdd, Nat.reduceSub, Nat.reduceMul, Nat.reduceDiv, Nat.reduceMod, Nat.reduceBEq, Nat.reduceLeDiff, hia, c0, c2]
      refine ok_bind' (Add_ok h1 s.v s.n hv1 (by omega) ⟨hv3, hv4⟩) ?_
      rintro _ H1 ⟨F1, rfl, g1, s1⟩
      simp (disch := first | omega | decide) only [↓RD, RC, RH, RO, RN, RL, RX, RS, eq_self, Int.reduceToNat, Int.reduceAdd, Int.reduceSub, Int.reduceMul, Nat.reduceAdd, Nat.reduceSub, Nat.reduceMul, Nat.reduceDiv, Nat.reduceMod, Nat.reduceBEq, Nat.reduceLeDiff]
      refine ⟨_, F1, _, rfl, g1, s1, fun e => ?_, fun e => addB_bad e _, by have := addB_len (Segs oks) s.v s.n; omega⟩
      have gd : s.good := by unfold Stp.good; rw [if_neg (by simp [hn])]; exact e
      exact ⟨gd, addB_good hn gd _⟩
  · rintro _ H1 ⟨e, F1, bits, rfl, g1, s1, ge, gn, gl⟩
    have a1 : Apart F1 okv.pid.toList := ha.step s1 hb
    have h2' : Opn ty_palanquinlaw6_Step 4 H1 okv (Cls oks) oks.length := h2.to fun j hj => s1.same j (hb j (by simp [hj])) (ha.symm j (by simp [hj]))
    have hb1 : Below okv.pid.toList H1 := fun j hj => Nat.lt_of_lt_of_le (hb j hj) s1.next
    simp (disch := first | omega | decide) only [↓RD, RC, RH, RO, RN, RL, RX, RS, eq_self, Int.reduceToNat, Int.reduceAdd, Int.reduceSub, Int.reduceMul, Nat.reduceAdd, Nat.reduceSub, Nat.reduceMul, Nat.reduceDiv, Nat.reduceMod, Nat.reduceBEq, Nat.reduceLeDiff]
    refine ok_iteb (fun e0 => ?_) fun e0 => ?_
    · obtain ⟨gd, rfl⟩ := ge e0
      obtain ⟨sv, sm, sn, ns⟩ := s
      simp only [Stp.cells] at hld
      simp (disch := first | omega | decide) only [↓RD, RC, RH, RO, RN, RL, RX, RS, eq_self, Int.reduceToNat, Int.reduceAdd, Int.reduceSub, Int.reduceMul, Nat.reduceAdd, Nat.reduceSub, Nat.reduceMul, Nat.reduceDiv, Nat.reduceMod, Nat.reduceBEq, Nat.reduceLeDiff, hia, hld]
      refine okb_append (bytes := 32) (n := oks.length) (m := 1) (cells := Cls oks) (q := Stp.cells ⟨sv, sm, sn, ns⟩) (h2'.to fun j hj => get_new_ne _ _ (by have := hb1 j (by simp [hj]); omega)) (acells_fresh rfl) rfl (by omega) (by omega) fun okv' H2 ho hs hf => ?_
      simp (disch := first | omega | decide) only [↓RD, RC, RH, RO, RN, RL, RX, RS, eq_self, Int.reduceToNat, Int.reduceAdd, Int.reduceSub, Int.reduceMul, Nat.reduceAdd, Nat.reduceSub, Nat.reduceMul, Nat.reduceDiv, Nat.reduceMod, Nat.reduceBEq, Nat.reduceLeDiff]
      have hf' := hf (.inr (by decide))
      have hlow : ∀ j, j < H1.next → j ∉ okv.pid.toList → H2.get j = H1.get j := fun j hj hn => by
        rw [hs.same j (by rw [next_new]; omega) hn, get_new_ne _ _ (by omega)]
      have hn2' := hs.next
      rw [next_new] at hn2'
      refine k _ _ (oks ++ [⟨sv, sm, sn, ns⟩]) ⟨⟨F1, ?_, ?_, ?_, ?_⟩, ?_, by simp; omega, by rw [Segs_snoc]; exact gl⟩
      · rw [Segs_snoc]
        exact g1.to (fun j hj => hlow j (g1.low j hj) (a1 j hj)) (by omega)
      · rw [Cls_snoc, List.length_append]; exact ho
      · intro j hj hj'
        have := hf' j (by simpa [mem_pid] using hj')
        have := g1.low j hj
        rw [next_new] at *
        omega
      · exact hs.below fun j hj => by rw [next_new]; have := hb1 j hj; omega
      · intro s hs
        rcases List.mem_append.1 hs with h | h
        · exact hg s h
        · simp only [List.mem_singleton] at h; subst h; exact ⟨hsok, gd⟩
    · have := gn e0
      subst this
      simp (disch := first | omega | decide) only [↓RD, RC, RH, RO, RN, RL, RX, RS, eq_self, Int.reduceToNat, Int.reduceAdd, Int.reduceSub, Int.reduceMul, Nat.reduceAdd, Nat.reduceSub, Nat.reduceMul, Nat.reduceDiv, Nat.reduceMod, Nat.reduceBEq, Nat.reduceLeDiff]
      exact k _ _ oks ⟨⟨F1, g1, h2', a1, hb1⟩, hg, by omega, by omega⟩

theorem ub_take {l : List Nat} {bits : List Bool} (h : Pk bits.length l bits) : (ub l).take bits.length = bits := by
  have hl := h.len
  refine List.ext_getElem (by rw [List.length_take, ub_length]; omega) fun k h1 h2 => ?_
  rw [List.getElem_take, ub_get l k (by omega)]
  have hk : k / 8 < l.length := by omega
  have hgd : l.getD (k / 8) 0 = l[k / 8] := by rw [List.getD_eq_getElem?_getD, List.getElem?_eq_getElem hk]; rfl
  rw [hgd, h.bit (k / 8) (k % 8) hk (Nat.mod_lt _ (by decide))]
  have : 8 * (k / 8) + k % 8 = k := by omega
  rw [this, List.getD_eq_getElem?_getD, List.getElem?_eq_getElem h2]; rfl

theorem ub_seg {l : List Nat} {pre sg post : List Bool} (h : Pk (pre ++ sg ++ post).length l (pre ++ sg ++ post)) : ((ub l).drop pre.length).take sg.length = sg ∧ pre.length + sg.length ≤ 8 * l.length := by
  have h1 := ub_take h
  have hl := h.len
  refine ⟨?_, by simp only [List.length_append] at hl; omega⟩
  have e : ub l = (pre ++ sg ++ post) ++ (ub l).drop (pre ++ sg ++ post).length := by
    conv => lhs; rw [← List.take_append_drop (pre ++ sg ++ post).length (ub l)]
    rw [h1]
  rw [e]
  simp only [List.append_assoc]
  rw [List.drop_left, List.take_left]

theorem nb_half (x k : Nat) : nb x (k + 1) = nb (x / 2) k ++ [x.testBit 0] := by
  induction k with
  | zero => rfl
  | succ k ih =>
    rw [nb, ih, nb, List.cons_append]
    congr 1
    rw [Nat.testBit_succ]

/-- What was written is taken. -/
theorem seg_take {l : List Nat} {pre sg post : List Bool} (h : Pk (pre ++ sg ++ post).length l (pre ++ sg ++ post)) {n : Nat} (hn : sg.length = n) (h64 : n ≤ 64) : tkE l pre.length n = 0 ∧ tkV l pre.length n = val sg ∧ tkA l pre.length n = pre.length + n := by
  subst hn
  obtain ⟨h1, h2⟩ := ub_seg h
  have e : tkE l pre.length (sg.length : Nat) = 0 := by unfold tkE; rw [if_neg (by omega), if_neg (by omega)]
  refine ⟨e, ?_, ?_⟩
  · unfold tkV; rw [if_pos e, Int.toNat_natCast, h1]
  · unfold tkA; rw [if_pos e, Int.toNat_natCast]

theorem seg_n {l : List Nat} {pre post : List Bool} {s : Stp} (hns : s.ns = false) (hg : s.good) (h : Pk (pre ++ s.seg ++ post).length l (pre ++ s.seg ++ post)) : tkE l pre.length s.n = 0 ∧ tkV l pre.length s.n = s.v ∧ tkA l pre.length s.n = (pre ++ s.seg).length := by
  unfold Stp.good at hg
  unfold Stp.seg at h ⊢
  simp only [hns, Bool.false_eq_true, if_false] at hg h ⊢
  unfold addE at hg
  split at hg
  · cases hg
  · rename_i hc
    obtain ⟨m, hm⟩ := Int.eq_ofNat_of_zero_le (show 0 ≤ s.n by omega)
    rw [hm] at h ⊢
    rw [hm] at hc
    simp only [Int.toNat_natCast] at h ⊢
    obtain ⟨a1, a2, a3⟩ := seg_take h (nb_length s.v m) (by omega)
    refine ⟨a1, ?_, ?_⟩
    · rw [a2]
      show val (nb s.v m) = s.v
      rw [val_nb, Nat.mod_eq_of_lt ((bl_le_iff s.v m).1 (by omega))]
    · rw [a3]
      show _ = (pre ++ nb s.v m).length
      rw [List.length_append, nb_length]

theorem seg_ns {l : List Nat} {pre post : List Bool} {s : Stp} (hns : s.ns = true) (hg : s.good) (h : Pk (pre ++ s.seg ++ post).length l (pre ++ s.seg ++ post)) : tnE l pre.length s.m = 0 ∧ tnV l pre.length s.m = s.v ∧ tnA l pre.length s.m = (pre ++ s.seg).length := by
  unfold Stp.good at hg
  unfold Stp.seg at h ⊢
  simp only [hns, if_true] at hg h ⊢
  unfold addNSE at hg
  split at hg
  · cases hg
  · rename_i hc
    obtain ⟨a1, a2, a3, a4, a5, a6, a7⟩ := addNS_lt (v := s.v) (n := s.m) (by omega) (by omega) (by omega)
    obtain ⟨b1, b2, b3, b4, b5, b6⟩ := tn_m s.m (by omega) (by omega)
    have ec : ((bl s.m : Nat) : Int) - 1 = ((bl s.m - 1 : Nat) : Int) := by omega
    by_cases hM : s.v < 2 ^ bl s.m - s.m
    · rw [if_pos hM] at h ⊢
      obtain ⟨t1, t2, t3⟩ := seg_take h (nb_length s.v (bl s.m - 1)) (by omega)
      rw [val_nb, Nat.mod_eq_of_lt ((bl_le_iff _ _).1 (a6 hM))] at t2
      have e : tnE l pre.length s.m = 0 := by
        unfold tnE
        rw [if_neg (by omega), ec, if_neg (by simp [t1]), if_pos (by rw [t2]; exact hM)]
      refine ⟨e, ?_, ?_⟩
      · unfold tnV; rw [if_neg (by simp [e]), ec, if_pos (by rw [t2]; exact hM), t2]
      · unfold tnA; rw [if_neg (by simp [e]), ec, if_pos (by rw [t2]; exact hM), List.length_append, nb_length]
    · rw [if_neg hM] at h ⊢
      obtain ⟨q, hq⟩ : ∃ q, bl s.m = q + 1 := ⟨bl s.m - 1, by omega⟩
      generalize hx : s.v + (2 ^ bl s.m - s.m) = x at h ⊢
      have hsp : nb x (bl s.m) = nb (x / 2) (bl s.m - 1) ++ [x.testBit 0] := by rw [hq]; exact nb_half x q
      rw [hsp] at h ⊢
      have h1 : Pk (pre ++ nb (x / 2) (bl s.m - 1) ++ ([x.testBit 0] ++ post)).length l (pre ++ nb (x / 2) (bl s.m - 1) ++ ([x.testBit 0] ++ post)) := by simpa using h
      have h2 : Pk ((pre ++ nb (x / 2) (bl s.m - 1)) ++ [x.testBit 0] ++ post).length l ((pre ++ nb (x / 2) (bl s.m - 1)) ++ [x.testBit 0] ++ post) := by simpa using h
      obtain ⟨t1, t2, t3⟩ := seg_take h1 (nb_length _ (bl s.m - 1)) (by omega)
      obtain ⟨u1, u2, u3⟩ := seg_take (n := 1) h2 rfl (by omega)
      have hpl : (pre ++ nb (x / 2) (bl s.m - 1)).length = pre.length + (bl s.m - 1) := by rw [List.length_append, nb_length]
      rw [hpl] at u1 u2 u3
      rw [val_nb, Nat.mod_eq_of_lt (by omega)] at t2
      have hlast : val [x.testBit 0] = x % 2 := by rw [Nat.testBit_zero]; rcases Nat.mod_two_eq_zero_or_one x with h | h <;> simp [val, h]
      rw [hlast] at u2
      have hge : ¬ tkV l pre.length ((bl s.m - 1 : Nat) : Int) < 2 ^ bl s.m - s.m := by rw [t2]; omega
      have e : tnE l pre.length s.m = 0 := by
        unfold tnE
        rw [if_neg (by omega), ec, if_neg (by simp [t1]), if_neg hge]; exact u1
      have u2' : tkV l (pre.length + (bl s.m - 1)) 1 = x % 2 := u2
      refine ⟨e, ?_, ?_⟩
      · unfold tnV; rw [if_neg (by simp [e]), ec, if_neg hge, t2, u2']; omega
      · unfold tnA; rw [if_neg (by simp [e]), ec, if_neg hge]; simp only [List.length_append, nb_length, List.length_cons, List.length_nil]; omega

theorem Cls_at {H : Heap} {okv : V} {l : List Stp} (h : Opn ty_palanquinlaw6_Step 4 H okv (Cls l) l.length) {k : IntKind} {i : Nat} (hi : i < l.length) : ∃ id, Ax.iaddr none 4 okv (.int k i) = some (.ptr id (i * 4)) ∧ H.get id = some ⟨ty_palanquinlaw6_Step, Cls l, some 4⟩ ∧ okv.pid = some id ∧ (Cls l)[i * 4]? = some (.int .u64 l[i].v) ∧ (Cls l)[i * 4 + 1]? = some (.int .u64 l[i].m) ∧ (Cls l)[i * 4 + 2]? = some (.int .i64 l[i].n) ∧ (Cls l)[i * 4 + 3]? = some (.bool l[i].ns) := by
  obtain ⟨id, rfl, hg, hia⟩ := h.at (k := k) (i := i) (by omega) (by omega)
  have hk : ∀ x ∈ l.map Stp.cells, x.length = 4 := by
    intro x hx
    obtain ⟨s, _, rfl⟩ := List.mem_map.1 hx
    rfl
  have hg' : (l.map Stp.cells)[i]? = some l[i].cells := by rw [List.getElem?_map, List.getElem?_eq_getElem hi]; rfl
  have key : ∀ j, j < 4 → (Cls l)[i * 4 + j]? = l[i].cells[j]? := by
    intro j hj
    unfold Cls
    rw [flatten_get (by decide) _ hk]
    have e1 : (i * 4 + j) / 4 = i := by omega
    have e2 : (i * 4 + j) % 4 = j := by omega
    rw [e1, e2, hg']; rfl
  exact ⟨id, by simpa using hia, hg, rfl, key 0 (by decide), key 1 (by decide), key 2 (by decide), key 3 (by decide)⟩

theorem read_step {H : Heap} {okv : V} {oks : List Stp} {m r : Nat} {l : List Nat} (ho : Opn ty_palanquinlaw6_Step 4 H okv (Cls oks) oks.length) (hor : ∀ i, okv.pid = some i → i ≠ r) (hg : ∀ s ∈ oks, s.ok ∧ s.good) (hp : Pk (Segs oks).length l (Segs oks)) (i : Nat) (hi : i < oks.length) (hi60 : i < 60) (h1 : PRd H m r l (Segs (oks.take i)).length)
    {Q : Res → Heap → Prop} (k : ∀ H', PRd H' m r l (Segs (oks.take (i + 1))).length → RStep H H' r → Q (.nrm [.int .i64 ((i : Int) + 1)]) H') :
    Ok (f_palanquinlaw6_BitsBack_1 (sem T) (.ptr r 0) okv [.int .i64 (i : Int)]) H Q := by
  obtain ⟨id, hia, hgid, hpid, c0, c1, c2, c3⟩ := Cls_at ho (k := .i64) hi
  obtain ⟨⟨hv1, hv2, hv3, hv4⟩, gd⟩ := hg _ (List.getElem_mem hi)
  have hsp : oks = oks.take i ++ ([oks[i]] ++ oks.drop (i + 1)) := by
    rw [List.singleton_append, List.getElem_cons_drop hi]; exact (List.take_append_drop i oks).symm
  have hsegs : Segs oks = Segs (oks.take i) ++ oks[i].seg ++ Segs (oks.drop (i + 1)) := by
    have e := congrArg (fun x => (x.map Stp.seg).flatten) hsp
    simp only [List.map_append, List.flatten_append, List.map_cons, List.map_nil, List.flatten_cons, List.flatten_nil, List.append_nil] at e
    unfold Segs
    rw [List.append_assoc]; exact e
  have htk : Segs (oks.take (i + 1)) = Segs (oks.take i) ++ oks[i].seg := by
    rw [List.take_add_one, List.getElem?_eq_getElem hi]; exact Segs_snoc _ _
  rw [hsegs] at hp
  rw [htk] at k
  generalize oks[i] = s at *
  generalize Segs (oks.take i) = pre at *
  have hvl := ho.vlen
  unfold f_palanquinlaw6_BitsBack_1
  simp (disch := first | omega | decide) only [↓RD, RC, RH, RO, RN, RL, RX, RS, eq_self, Int.reduceToNat, Int.reduceAdd, Int.reduceSub, Int.reduceMul, Nat.reduceAdd, Nat.reduceSub, Nat.reduceMul, Nat.reduceDiv, Nat.reduceMod, Nat.reduceBEq, Nat.reduceLeDiff, hvl, hia, hgid, c3]
  refine ok_mono (Q := fun r' H' => r' = .nrm [.int .u64 s.v, .int .i64 0] ∧ PRd H' m r l (pre ++ s.seg).length ∧ RStep H H' r) ?_ ?_
  · refine ok_ite (fun hn => ?_) fun hn => ?_
    · obtain ⟨q1, q2, q3⟩ := seg_ns hn gd hp
      simp (disch := first | omega | decide) only [↓RD, RC, RH, RO, RN, RL, RX, RS, eq_self, Int.reduceToNat, Int.reduceAdd, Int.reduceSub, Int.reduceMul, Nat.reduceAdd, Nat.reduceSub, Nat.reduceMul, Nat.reduceDiv, Nat.reduceMod, Nat.reduceBEq, Nat.reduceLeDiff, hia, hgid, c1]
      refine ok_bind' (PTakeNS_ok h1 s.m hv2) ?_
      rintro _ H1 ⟨rfl, g1, s1⟩
      simp (disch := first | omega | decide) only [↓RD, RC, RH, RO, RN, RL, RX, RS, eq_self, Int.reduceToNat, Int.reduceAdd, Int.reduceSub, Int.reduceMul, Nat.reduceAdd, Nat.reduceSub, Nat.reduceMul, Nat.reduceDiv, Nat.reduceMod, Nat.reduceBEq, Nat.reduceLeDiff, q1, q2]
      rw [q3] at g1
      exact ⟨g1, s1⟩
    · obtain ⟨q1, q2, q3⟩ := seg_n hn gd hp
      simp (disch := first | omega | decide) only [↓RD, RC, RH, RO, RN, RL, RX, RS, eq_self, Int.reduceToNat, Int.reduceAdd, Int.reduceSub, Int.reduceMul, Nat.reduceAdd, Nat.reduceSub, Nat.reduceMul, Nat.reduceDiv, Nat.reduceMod, Nat.reduceBEq, Nat.reduceLeDiff, hia, hgid, c2]
      refine ok_bind' (PTake_ok h1 s.n ⟨hv3, hv4⟩) ?_
      rintro _ H1 ⟨rfl, g1, s1⟩
      simp (disch := first | omega | decide) only [↓RD, RC, RH, RO, RN, RL, RX, RS, eq_self, Int.reduceToNat, Int.reduceAdd, Int.reduceSub, Int.reduceMul, Nat.reduceAdd, Nat.reduceSub, Nat.reduceMul, Nat.reduceDiv, Nat.reduceMod, Nat.reduceBEq, Nat.reduceLeDiff, q1, q2]
      rw [q3] at g1
      exact ⟨g1, s1⟩
  · rintro _ H1 ⟨rfl, g1, s1⟩
    have hg1 : H1.get id = some ⟨ty_palanquinlaw6_Step, Cls oks, some 4⟩ := by rw [s1.2 id (hor id hpid), hgid]
    simp (disch := first | omega | decide) only [↓RD, RC, RH, RO, RN, RL, RX, RS, eq_self, Int.reduceToNat, Int.reduceAdd, Int.reduceSub, Int.reduceMul, Nat.reduceAdd, Nat.reduceSub, Nat.reduceMul, Nat.reduceDiv, Nat.reduceMod, Nat.reduceBEq, Nat.reduceLeDiff, hia, hg1, c0]
    exact k _ g1 s1

end Go.Ax.B6
namespace Go.Ax
open B6

theorem law_bitsBack (us : List V) (h : TyArgs [.sl (.st [.int .u64, .int .u64, .int .i64, .bool])] us) : ∃ H', sem T fn_palanquinlaw6_BitsBack us H0 = some (.bool true, H') := by
  obtain _ | ⟨u, _ | ⟨u2, us⟩⟩ := us
  · cases h
  · obtain ⟨v, l, hvs, hv, hl⟩ := stps_of h.1
    simp only [List.cons.injEq, and_true] at hvs
    subst hvs
    have key : Ok (sem T fn_palanquinlaw6_BitsBack [u]) H0 fun r _ => r = .bool true := by
      refine ok_palanquinlaw6_BitsBack ?_
      unfold f_palanquinlaw6_BitsBack
      refine ok_bind' New_ok ?_
      rintro _ H1 ⟨rfl, h1, s1⟩
      refine ok_bind' awake_ok ?_
      rintro _ H2 ⟨rfl, n2, s2⟩
      have k1 := h1.to (fun i hi => s2 i (h1.low i hi)) n2
      simp (disch := first | omega | decide) only [↓RD, RC, RH, RO, RN, RL, RX, RS, eq_self, Int.reduceToNat, Int.reduceAdd, Int.reduceSub, Int.reduceMul, Nat.reduceAdd, Nat.reduceSub, Nat.reduceMul, Nat.reduceDiv, Nat.reduceMod, Nat.reduceBEq, Nat.reduceLeDiff]
      refine ok_loop (fun k L H' => ∃ okv oks, L = [okv, .int .i64 (k : Nat)] ∧ Bk H' H0.next okv oks k) (min l.length 60) ⟨.nils, [], rfl, ⟨⟨[H0.next], k1, Opn.nil, fun i hi => (by simp [V.pid]), fun i hi => (by simp [V.pid] at hi)⟩, fun s h => (by cases h), by simp [Segs]⟩⟩ ?_ ?_
      · rintro k L H4 hk ⟨okv, oks, rfl, g⟩
        exact back_step hv hl k (by omega) (by omega) g _ fun H5 okv' oks' q => ⟨okv', oks', rfl, q⟩
      · rintro L H4 ⟨okv, oks, rfl, ⟨F, g1, g2, ga, gb⟩, gg, gn1, gn2⟩
        unfold f_palanquinlaw6_BitsBack_0
        have fin : Ok ((sem T fn_bits_Writer_Bytes [.ptr H0.next 0]).bind fun t67 =>
    (sem T fn_bits_Over [t67]).bind fun t68 =>
    (M.lift (eqr .ptr false t68 V.nilp)).bind fun t70 =>
    M.ite t70
      (M.pure (.ret [(V.bool false)]))
      (M.blk 2 (
        M.iter (f_palanquinlaw6_BitsBack_1 (sem T) t68 okv) [(V.int .i64 0)]) fun _ =>
      (sem T fn_bits_Reader_Left [t68]).bind fun t114 =>
      (M.lift (Ax.bin .geq t114 (V.int .i64 0))).bind fun t115 =>
      (guarded [(0, t115)] (some (0, true)) (M.pure t68)).bind fun t117 =>
      (guarded [(0, t115)] (some (0, true)) (sem T fn_bits_Reader_Left [t117])).bind fun t118 =>
      (guarded [(0, t115)] (some (0, true)) (M.lift (Ax.bin .lss t118 (V.int .i64 8)))).bind fun t119 =>
      (M.lift (Ax.pick t115 t119 (V.bool false))).bind fun t120 =>
      M.pure (.ret [t120]))) H4 fun r H' => ∃ L, r = Res.ret L ∧ tupled L = V.bool true := by
          refine ok_bind' (Bytes_ok g1 (by omega)) ?_
          rintro x H5 ⟨bs, p1, o1, s5⟩
          have hlen := p1.len
          refine ok_bind' (Over_ok o1.rc (fun i hi => p1.lt i hi) (by omega)) ?_
          rintro _ H6 ⟨r, rfl, hr, q1, s6, n6⟩
          have hlow : ∀ j, okv.pid = some j → j < H4.next ∧ H6.get j = H4.get j := fun j hj => by
            have hj' := gb j (by simp [hj])
            have := s5.next
            exact ⟨hj', by rw [s6 j (by omega), s5.same j hj' (by simp)]⟩
          have o6 : Opn ty_palanquinlaw6_Step 4 H6 okv (Cls oks) oks.length := g2.to fun j hj => (hlow j hj).2
          have hor : ∀ j, okv.pid = some j → j ≠ r := fun j hj => by
            have := (hlow j hj).1; have := s5.next; omega
          simp (disch := first | omega | decide) only [↓RD, RC, RH, RO, RN, RL, RX, RS, eq_self, Int.reduceToNat, Int.reduceAdd, Int.reduceSub, Int.reduceMul, Nat.reduceAdd, Nat.reduceSub, Nat.reduceMul, Nat.reduceDiv, Nat.reduceMod, Nat.reduceBEq, Nat.reduceLeDiff]
          refine ok_loop (fun k L H' => L = [.int .i64 (k : Nat)] ∧ PRd H' H6.next r bs (Segs (oks.take k)).length ∧ RStep H6 H' r) oks.length ⟨rfl, q1, RStep.refl _ _⟩ ?_ ?_
          · rintro k L H7 hk ⟨rfl, g7, s7⟩
            exact read_step (o6.to fun j hj => s7.2 j (hor j hj)) hor gg p1 k hk (by omega) g7 fun H8 g8 s8 => ⟨rfl, g8, s7.trans s8⟩
          · rintro L H7 ⟨rfl, g7, s7⟩
            have o7 := (o6.to fun j hj => s7.2 j (hor j hj)).vlen
            rw [List.take_length] at g7
            unfold f_palanquinlaw6_BitsBack_1
            simp (disch := first | omega | decide) only [↓RD, RC, RH, RO, RN, RL, RX, RS, eq_self, Int.reduceToNat, Int.reduceAdd, Int.reduceSub, Int.reduceMul, Nat.reduceAdd, Nat.reduceSub, Nat.reduceMul, Nat.reduceDiv, Nat.reduceMod, Nat.reduceBEq, Nat.reduceLeDiff, o7]
            refine ok_bind' (PLeft_ok g7) ?_
            rintro _ _ ⟨rfl, rfl⟩
            simp (disch := first | omega | decide) only [↓RD, RC, RH, RO, RN, RL, RX, RS, eq_self, Int.reduceToNat, Int.reduceAdd, Int.reduceSub, Int.reduceMul, Nat.reduceAdd, Nat.reduceSub, Nat.reduceMul, Nat.reduceDiv, Nat.reduceMod, Nat.reduceBEq, Nat.reduceLeDiff]
            refine ok_bind' (PLeft_ok g7) ?_
            rintro _ _ ⟨rfl, rfl⟩
            simp (disch := first | omega | decide) only [↓RD, RC, RH, RO, RN, RL, RX, RS, eq_self, Int.reduceToNat, Int.reduceAdd, Int.reduceSub, Int.reduceMul, Nat.reduceAdd, Nat.reduceSub, Nat.reduceMul, Nat.reduceDiv, Nat.reduceMod, Nat.reduceBEq, Nat.reduceLeDiff]
        by_cases hlen : l.length < 60
        · have hm : min l.length 60 = l.length := by omega
          rw [hm]
          simp (disch := first | omega | decide) only [↓RD, RC, RH, RO, RN, RL, RX, RS, eq_self, Int.reduceToNat, Int.reduceAdd, Int.reduceSub, Int.reduceMul, Nat.reduceAdd, Nat.reduceSub, Nat.reduceMul, Nat.reduceDiv, Nat.reduceMod, Nat.reduceBEq, Nat.reduceLeDiff, hv.vlen]
          exact fin
        · have hm : min l.length 60 = 60 := by omega
          rw [hm]
          simp (disch := first | omega | decide) only [↓RD, RC, RH, RO, RN, RL, RX, RS, eq_self, Int.reduceToNat, Int.reduceAdd, Int.reduceSub, Int.reduceMul, Nat.reduceAdd, Nat.reduceSub, Nat.reduceMul, Nat.reduceDiv, Nat.reduceMod, Nat.reduceBEq, Nat.reduceLeDiff, hv.vlen]
          by_cases h60 : 60 < l.length
          · simp (disch := first | omega | decide) only [↓RD, RC, RH, RO, RN, RL, RX, RS, eq_self, Int.reduceToNat, Int.reduceAdd, Int.reduceSub, Int.reduceMul, Nat.reduceAdd, Nat.reduceSub, Nat.reduceMul, Nat.reduceDiv, Nat.reduceMod, Nat.reduceBEq, Nat.reduceLeDiff]
            exact fin
          · simp (disch := first | omega | decide) only [↓RD, RC, RH, RO, RN, RL, RX, RS, eq_self, Int.reduceToNat, Int.reduceAdd, Int.reduceSub, Int.reduceMul, Nat.reduceAdd, Nat.reduceSub, Nat.reduceMul, Nat.reduceDiv, Nat.reduceMod, Nat.reduceBEq, Nat.reduceLeDiff]
            exact fin
    obtain ⟨r, H', h1, rfl⟩ := key
    exact ⟨H', h1⟩
  · cases h.2

end Go.Ax
