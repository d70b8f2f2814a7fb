/-
  Depend: writing: a writer among other memory; short descriptors; what the document tells.
-/
import Derived.Test.YtblfcdaedibdnaaDepS3
import Derived.Test.YtblfcdaedibdnaaWb4
set_option maxRecDepth 100000
set_option linter.unusedVariables false
set_option linter.unusedSimpArgs false
namespace Go.Ax.D9
open Go.Ax B6

/-- A writer: what it is hangs on its own blocks alone. -/
structure Kp (R : Heap → List Bool → List Nat → Prop) : Prop where
  to : ∀ {H H' : Heap} {bits : List Bool} {F : List Nat}, R H bits F → (∀ i ∈ F, H'.get i = H.get i) → H.next ≤ H'.next → R H' bits F
  low : ∀ {H : Heap} {bits : List Bool} {F : List Nat}, R H bits F → Below F H

abbrev WR (w : Nat) (H : Heap) (bits : List Bool) (F : List Nat) : Prop := WRep H w bits F
abbrev DR (w : Nat) (H : Heap) (bits : List Bool) (F : List Nat) : Prop := RRep H w bits F
theorem kpW (w : Nat) : Kp (WR w) := ⟨fun h => h.to, fun h => h.low⟩
theorem kpD (w : Nat) : Kp (DR w) := ⟨fun h => h.to, fun h => h.low⟩

/-- A writer that was made behind B; boxes ks beside it. -/
structure Wk (R : Heap → List Bool → List Nat → Prop) (B : Heap) (ks : List (Nat × Blk)) (H : Heap) (bits : List Bool) : Prop where
  kp : Kp R
  ex : ∃ F, R H bits F ∧ (∀ i ∈ F, B.next ≤ i) ∧ ∀ k ∈ ks, k.1 ∉ F
  gr : Grow B H
  kk : ∀ k ∈ ks, k.1 < H.next ∧ H.get k.1 = some k.2

section
variable {R : Heap → List Bool → List Nat → Prop} {B H H' : Heap} {ks : List (Nat × Blk)} {bits bits' : List Bool}

theorem Wk.step {x : M V} {P : V → Prop} (h : Wk R B ks H bits) (hop : ∀ F, R H bits F → Ok x H fun r H' => ∃ F', P r ∧ R H' bits' F' ∧ Step H H' F F') : Ok x H fun r H' => P r ∧ Wk R B ks H' bits' := by
  obtain ⟨hR, ⟨F, hF, hlo, hks⟩, gr, kk⟩ := h
  refine ok_mono (hop F hF) ?_
  rintro r H' ⟨F', hp, hF', s⟩
  have gn := gr.next
  refine ⟨hp, hR, ⟨F', hF', fun i hi => ?_, fun k hk => s.ne (kk k hk).1 (hks k hk)⟩, ⟨Nat.le_trans gr.next s.next, fun i hi => ?_⟩, fun k hk => ⟨Nat.lt_of_lt_of_le (kk k hk).1 s.next, ?_⟩⟩
  · rcases s.own i hi with h | h
    · exact hlo i h
    · omega
  · rw [s.same i (by omega) (fun h => by have := hlo i h; omega), gr.same i hi]
  · rw [s.same _ (kk k hk).1 (hks k hk)]; exact (kk k hk).2

theorem Wk.add (h : Wk R B ks H bits) (s : Grow H H') {id : Nat} {b : Blk} (h0 : H.next ≤ id) (h1 : id < H'.next) (hg : H'.get id = some b) : Wk R B ((id, b) :: ks) H' bits := by
  obtain ⟨hR, ⟨F, hF, hlo, hks⟩, gr, kk⟩ := h
  have hb := hR.low hF
  refine ⟨hR, ⟨F, hR.to hF (fun i hi => s.same i (hb i hi)) s.next, hlo, fun k hk => ?_⟩, gr.trans s, fun k hk => ?_⟩
  · rcases List.mem_cons.1 hk with rfl | hk
    · exact fun hi => by have := hb _ hi; omega
    · exact hks k hk
  · rcases List.mem_cons.1 hk with rfl | hk
    · exact ⟨h1, hg⟩
    · exact ⟨Nat.lt_of_lt_of_le (kk k hk).1 s.next, (s.same _ (kk k hk).1).trans (kk k hk).2⟩
theorem Wk.grow (h : Wk R B ks H bits) (s : Grow H H') : Wk R B ks H' bits := by
  obtain ⟨hR, ⟨F, hF, hlo, hks⟩, gr, kk⟩ := h
  have hb := hR.low hF
  exact ⟨hR, ⟨F, hR.to hF (fun i hi => s.same i (hb i hi)) s.next, hlo, hks⟩, gr.trans s, fun k hk => ⟨Nat.lt_of_lt_of_le (kk k hk).1 s.next, (s.same _ (kk k hk).1).trans (kk k hk).2⟩⟩
theorem Wk.new (h : Wk R B ks H bits) (b : Blk) : Wk R B ((H.next, b) :: ks) (H.new b) bits := h.add (Grow.new H b) (Nat.le_refl _) (by rw [next_new]; omega) (get_new_self _ _)
theorem Wk.drop {k : Nat × Blk} (h : Wk R B (k :: ks) H bits) : Wk R B ks H bits := by
  obtain ⟨hR, ⟨F, hF, hlo, hks⟩, gr, kk⟩ := h
  exact ⟨hR, ⟨F, hF, hlo, fun k hk => hks k (List.mem_cons_of_mem _ hk)⟩, gr, fun k hk => kk k (List.mem_cons_of_mem _ hk)⟩
theorem Wk.get {id : Nat} {b : Blk} (h : Wk R B ((id, b) :: ks) H bits) : H.get id = some b := (h.kk _ (List.mem_cons_self ..)).2
theorem Wk.lt {id : Nat} {b : Blk} (h : Wk R B ((id, b) :: ks) H bits) : id < H.next := (h.kk _ (List.mem_cons_self ..)).1
end

theorem addB_eq {bits : List Bool} {v n : Nat} (h : v < 2 ^ n) (hn : n ≤ 64) : addB bits v (n : Nat) = bits ++ nb v n := by
  unfold addB
  have := (bl_le_iff v n).2 h
  rw [if_neg (by omega)]; simp

theorem pow64 {v n : Nat} (h : v < 2 ^ n) (hn : n ≤ 63) : v < 9223372036854775808 := by
  have : 2 ^ n ≤ 2 ^ 63 := Nat.pow_le_pow_right (by decide) hn
  omega

/-- A number is written. -/
theorem num_ok {B H : Heap} {ks : List (Nat × Blk)} {w : Nat} {bits : List Bool} (h : Wk (WR w) B ks H bits) (v : Int) (n : Nat) (h0 : 0 ≤ v) (hv : v.toNat < 2 ^ n) (hn : n ≤ 63) (hl : bits.length < 549755813888) :
    Ok (sem T fn_depend_writer_num [.agg [.ptr w 0], .int .i64 v, .int .i64 (n : Nat)]) H fun r H' => Wk (WR w) B ks H' (bits ++ nb v.toNat n) := by
  have hv63 := pow64 hv hn
  obtain ⟨m, rfl⟩ := Int.eq_ofNat_of_zero_le h0
  rw [Int.toNat_natCast] at hv hv63 ⊢
  have em : m % 18446744073709551616 = m := Nat.mod_eq_of_lt (by omega)
  refine ok_depend_writer_num ?_
  unfold f_depend_writer_num
  simp (maxSteps := 1000000) (disch := first | omega | (simp only [nx_new, nx_set, List.length_cons, List.length_nil] <;> omega) | decide) only [↓RD, RC, RH, RO, RN, RL, RX, RS, RM, eq_self, Int.reduceToNat, Int.reduceAdd, Int.reduceSub, Int.reduceMul, Nat.reduceAdd, Nat.reduceSub, Nat.reduceMul, Nat.reduceDiv, Nat.reduceMod, Nat.reduceBEq, Nat.reduceLeDiff, em]
  have h1 := h.new ⟨ty_depend_writer, [.ptr w 0], none⟩
  refine ok_bind' (h1.step (P := fun r => True) (bits' := bits ++ nb m n) fun F hF => ok_mono (Add_ok hF m (n : Nat) (by omega) hl (by omega)) ?_) ?_
  · rintro r H' ⟨F', -, h2, s⟩
    rw [addB_eq hv (by omega)] at h2
    exact ⟨F', trivial, h2, s⟩
  · rintro r H' ⟨-, h2⟩
    simp (maxSteps := 1000000) (disch := first | omega | (simp only [nx_new, nx_set, List.length_cons, List.length_nil] <;> omega) | decide) only [↓RD, RC, RH, RO, RN, RL, RX, RS, RM, eq_self, Int.reduceToNat, Int.reduceAdd, Int.reduceSub, Int.reduceMul, Nat.reduceAdd, Nat.reduceSub, Nat.reduceMul, Nat.reduceDiv, Nat.reduceMod, Nat.reduceBEq, Nat.reduceLeDiff]
    exact h2.drop

theorem nb_bit (b : Bool) : nb (if b = true then 1 else 0) 1 = [b] := by cases b <;> rfl

theorem bit_ok {B H : Heap} {ks : List (Nat × Blk)} {w : Nat} {bits : List Bool} (h : Wk (WR w) B ks H bits) (b : Bool) (hl : bits.length < 549755813888) :
    Ok (sem T fn_depend_writer_bit [.agg [.ptr w 0], .bool b]) H fun r H' => Wk (WR w) B ks H' (bits ++ [b]) := by
  refine ok_depend_writer_bit ?_
  unfold f_depend_writer_bit
  have h1 := h.new ⟨ty_depend_writer, [.ptr w 0], none⟩
  cases b with
  | true =>
    simp (maxSteps := 1000000) (disch := first | omega | (simp only [nx_new, nx_set, List.length_cons, List.length_nil] <;> omega) | decide) only [↓RD, RC, RH, RO, RN, RL, RX, RS, RM, eq_self, Int.reduceToNat, Int.reduceAdd, Int.reduceSub, Int.reduceMul, Nat.reduceAdd, Nat.reduceSub, Nat.reduceMul, Nat.reduceDiv, Nat.reduceMod, Nat.reduceBEq, Nat.reduceLeDiff]
    refine ok_bind' (num_ok h1 1 1 (by omega) (by decide) (by omega) hl) ?_
    rintro r H' h2
    simp (maxSteps := 1000000) (disch := first | omega | (simp only [nx_new, nx_set, List.length_cons, List.length_nil] <;> omega) | decide) only [↓RD, RC, RH, RO, RN, RL, RX, RS, RM, eq_self, Int.reduceToNat, Int.reduceAdd, Int.reduceSub, Int.reduceMul, Nat.reduceAdd, Nat.reduceSub, Nat.reduceMul, Nat.reduceDiv, Nat.reduceMod, Nat.reduceBEq, Nat.reduceLeDiff]
    exact h2.drop
  | false =>
    simp (maxSteps := 1000000) (disch := first | omega | (simp only [nx_new, nx_set, List.length_cons, List.length_nil] <;> omega) | decide) only [↓RD, RC, RH, RO, RN, RL, RX, RS, RM, eq_self, Int.reduceToNat, Int.reduceAdd, Int.reduceSub, Int.reduceMul, Nat.reduceAdd, Nat.reduceSub, Nat.reduceMul, Nat.reduceDiv, Nat.reduceMod, Nat.reduceBEq, Nat.reduceLeDiff]
    refine ok_bind' (num_ok h1 0 1 (by omega) (by decide) (by omega) hl) ?_
    rintro r H' h2
    simp (maxSteps := 1000000) (disch := first | omega | (simp only [nx_new, nx_set, List.length_cons, List.length_nil] <;> omega) | decide) only [↓RD, RC, RH, RO, RN, RL, RX, RS, RM, eq_self, Int.reduceToNat, Int.reduceAdd, Int.reduceSub, Int.reduceMul, Nat.reduceAdd, Nat.reduceSub, Nat.reduceMul, Nat.reduceDiv, Nat.reduceMod, Nat.reduceBEq, Nat.reduceLeDiff]
    exact h2.drop

theorem wk_new {H : Heap} : Ok (sem T fn_bits_New []) H fun r H' => r = .ptr H.next 0 ∧ Wk (WR H.next) H [] H' [] := by
  refine ok_mono New_ok ?_
  rintro r H' ⟨h1, h2, s⟩
  refine ⟨h1, kpW _, ⟨[H.next], h2, fun i hi => ?_, fun k hk => by cases hk⟩, s.ext, fun k hk => by cases hk⟩
  simp only [List.mem_singleton] at hi
  omega

abbrev By (lo : Nat) (H : Heap) (v : V) (l : List Nat) : Prop := Lc 1 lo H v (l.map by8) l.length

theorem wk_bytes {B H : Heap} {ks : List (Nat × Blk)} {w : Nat} {bits : List Bool} (h : Wk (WR w) B ks H bits) (hl : bits.length < 549755813888) :
    Ok (sem T fn_bits_Writer_Bytes [.ptr w 0]) H fun r H' => (∃ l, Pk bits.length l bits ∧ By 0 H' r l) ∧ Grow H H' := by
  obtain ⟨hR, ⟨F, hF, hlo, hks⟩, gr, kk⟩ := h
  refine ok_mono (Bytes_ok hF hl) ?_
  rintro r H' ⟨l, hp, ho, s⟩
  refine ⟨⟨l, hp, ?_⟩, s.ext⟩
  refine ho.lc fun i hi => ⟨Nat.zero_le _, ?_⟩
  have := s.own i (by simp [hi])
  simp only [List.not_mem_nil, false_or] at this
  exact this.2

/-- The bits of a descriptor's head. -/
def headB (f : Fr) : List Bool := [f.st, f.en] ++ nb f.id.toNat 6 ++ nb f.num 16
theorem headB_len (f : Fr) : (headB f).length = 24 := by simp [headB, nb_length]

theorem good_id {f : Fr} {k : Sr} (h : good f k = true) : 0 ≤ f.id ∧ f.id ≤ 63 := by
  obtain ⟨t, h1, -⟩ := dec_iff.1 h
  unfold tmOf tmPl at h1
  split at h1
  · split at h1
    · assumption
    · cases h1
  · cases h1

theorem Bytes_short {H : Heap} {v w : V} {f : Fr} {k : Sr} (hf : FrR 0 H v f) (hk : SrR 0 H w k) (fo : FrO f) (ko : SrO k) (hg : good f k = true) (h1 : f.new = false) (h2 : f.has = false) (h3 : f.od = false) (h4 : f.of' = false) (h5 : f.oc = false) :
    Ok (sem T fn_depend_Bytes [v, w]) H fun r H' => (∃ x l, r = .tup [x, .int .i64 0] ∧ Pk (headB f).length l (headB f) ∧ By 0 H' x l) ∧ Grow H H' := by
  have hid := good_id hg
  have hnum := fo.num
  obtain ⟨a, b, c, d, e, g, rfl, hf⟩ := hf
  obtain ⟨p, q, r, rfl, hk⟩ := hk
  obtain ⟨ca, cb, cc, cd, ce, cg⟩ := fr_dti hf
  have kts := hk.ts.cel
  have kpr := hk.pro.cel
  have ksi := hk.siz.cel
  refine ok_depend_Bytes ?_
  unfold f_depend_Bytes
  unfold fcells scells
  simp (maxSteps := 1000000) (disch := first | omega | (simp only [nx_new, nx_set, List.length_cons, List.length_nil] <;> omega) | decide) only [↓RD, RC, RH, RO, RN, RL, RX, RS, RM, eq_self, Int.reduceToNat, Int.reduceAdd, Int.reduceSub, Int.reduceMul, Nat.reduceAdd, Nat.reduceSub, Nat.reduceMul, Nat.reduceDiv, Nat.reduceMod, Nat.reduceBEq, Nat.reduceLeDiff, ca.1, ca.2, cb.1, cb.2, cc.1, cc.2, cd.1, cd.2, ce.1, ce.2, cg.1, cg.2, kts.1, kts.2, kpr.1, kpr.2, ksi.1, ksi.2]
  generalize hH1 : Heap.new (Heap.new H _) _ = H1
  have s1 : Grow H H1 := by rw [← hH1]; exact (Grow.new _ _).trans (Grow.new _ _)
  have n1 : H1.next = H.next + 2 := by rw [← hH1]; rfl
  have f1 : H1.get H.next = some ⟨ty_depend_Frame, fcells f a b c d e g, none⟩ := by rw [← hH1]; unfold fcells; simp (maxSteps := 1000000) (disch := first | omega | (simp only [nx_new, nx_set, List.length_cons, List.length_nil] <;> omega) | decide) only [↓RD, RC, RH, RO, RN, RL, RX, RS, RM, eq_self, Int.reduceToNat, Int.reduceAdd, Int.reduceSub, Int.reduceMul, Nat.reduceAdd, Nat.reduceSub, Nat.reduceMul, Nat.reduceDiv, Nat.reduceMod, Nat.reduceBEq, Nat.reduceLeDiff]
  clear hH1
  unfold fcells at f1
  refine ok_bind' (Good_ok (hf.ext s1).val (hk.ext s1).val fo ko) ?_
  rintro _ H2 ⟨rfl, s2⟩
  have n2 := s2.next
  have f2 : H2.get H.next = _ := (s2.same _ (by omega)).trans f1
  rw [hg]
  simp (maxSteps := 1000000) (disch := first | omega | (simp only [nx_new, nx_set, List.length_cons, List.length_nil] <;> omega) | decide) only [↓RD, RC, RH, RO, RN, RL, RX, RS, RM, eq_self, Int.reduceToNat, Int.reduceAdd, Int.reduceSub, Int.reduceMul, Nat.reduceAdd, Nat.reduceSub, Nat.reduceMul, Nat.reduceDiv, Nat.reduceMod, Nat.reduceBEq, Nat.reduceLeDiff]
  refine ok_bind' wk_new ?_
  rintro _ H3 ⟨rfl, k3⟩
  have s3 := k3.gr
  have n3 := s3.next
  have f3 : H3.get H.next = _ := (s3.same _ (by omega)).trans f2
  simp (maxSteps := 1000000) (disch := first | omega | (simp only [nx_new, nx_set, List.length_cons, List.length_nil] <;> omega) | decide) only [↓RD, RC, RH, RO, RN, RL, RX, RS, RM, eq_self, Int.reduceToNat, Int.reduceAdd, Int.reduceSub, Int.reduceMul, Nat.reduceAdd, Nat.reduceSub, Nat.reduceMul, Nat.reduceDiv, Nat.reduceMod, Nat.reduceBEq, Nat.reduceLeDiff, f3]
  generalize hH4 : Heap.set _ _ _ = H4
  have s4 : Grow H3 H4 := by rw [← hH4]; exact (Grow.new _ _).set (by omega) _
  have n4 : H4.next = H3.next + 1 := by rw [← hH4]; rfl
  have g4 : H4.get H3.next = some ⟨ty_depend_writer, [.ptr H2.next 0], none⟩ := by rw [← hH4]; simp (maxSteps := 1000000) (disch := first | omega | (simp only [nx_new, nx_set, List.length_cons, List.length_nil] <;> omega) | decide) only [↓RD, RC, RH, RO, RN, RL, RX, RS, RM, eq_self, Int.reduceToNat, Int.reduceAdd, Int.reduceSub, Int.reduceMul, Nat.reduceAdd, Nat.reduceSub, Nat.reduceMul, Nat.reduceDiv, Nat.reduceMod, Nat.reduceBEq, Nat.reduceLeDiff]
  clear hH4
  have k4 := k3.add s4 (Nat.le_refl _) (by omega) g4
  have em : f.num % 9223372036854775808 = f.num := by omega
  have get : ∀ {H' : Heap} {bits : List Bool}, Wk (WR H2.next) H2 [(H3.next, ⟨ty_depend_writer, [.ptr H2.next 0], none⟩)] H' bits → H'.get H.next = some ⟨ty_depend_Frame, [.bool f.st, .bool f.en, .int .i64 f.id, .int .u16 f.num, .bool f.new, .int .i64 f.s.off, .int .i64 f.s.tar, a, .int .i64 f.s.cha, b, c, .bool f.has, .int .u32 f.act, .bool f.od, .bool f.of', .bool f.oc, d, e, g], none⟩ := fun k => (k.gr.same _ (by omega)).trans f2
  refine ok_bind' (bit_ok k4 f.st (by simp)) ?_
  rintro _ H5 k5
  simp (maxSteps := 1000000) (disch := first | omega | (simp only [nx_new, nx_set, List.length_cons, List.length_nil] <;> omega) | decide) only [↓RD, RC, RH, RO, RN, RL, RX, RS, RM, eq_self, Int.reduceToNat, Int.reduceAdd, Int.reduceSub, Int.reduceMul, Nat.reduceAdd, Nat.reduceSub, Nat.reduceMul, Nat.reduceDiv, Nat.reduceMod, Nat.reduceBEq, Nat.reduceLeDiff, get k5, k5.get]
  refine ok_bind' (bit_ok k5 f.en (by simp)) ?_
  rintro _ H6 k6
  simp (maxSteps := 1000000) (disch := first | omega | (simp only [nx_new, nx_set, List.length_cons, List.length_nil] <;> omega) | decide) only [↓RD, RC, RH, RO, RN, RL, RX, RS, RM, eq_self, Int.reduceToNat, Int.reduceAdd, Int.reduceSub, Int.reduceMul, Nat.reduceAdd, Nat.reduceSub, Nat.reduceMul, Nat.reduceDiv, Nat.reduceMod, Nat.reduceBEq, Nat.reduceLeDiff, get k6, k6.get]
  refine ok_bind' (num_ok k6 f.id 6 (by omega) (by omega) (by omega) (by simp)) ?_
  rintro _ H7 k7
  simp (maxSteps := 1000000) (disch := first | omega | (simp only [nx_new, nx_set, List.length_cons, List.length_nil] <;> omega) | decide) only [↓RD, RC, RH, RO, RN, RL, RX, RS, RM, eq_self, Int.reduceToNat, Int.reduceAdd, Int.reduceSub, Int.reduceMul, Nat.reduceAdd, Nat.reduceSub, Nat.reduceMul, Nat.reduceDiv, Nat.reduceMod, Nat.reduceBEq, Nat.reduceLeDiff, get k7, k7.get]
  refine ok_bind' (num_ok k7 (f.num : Nat) 16 (by omega) (by omega) (by omega) (by simp [nb_length])) ?_
  rintro _ H8 k8
  simp (maxSteps := 1000000) (disch := first | omega | (simp only [nx_new, nx_set, List.length_cons, List.length_nil] <;> omega) | decide) only [↓RD, RC, RH, RO, RN, RL, RX, RS, RM, eq_self, Int.reduceToNat, Int.reduceAdd, Int.reduceSub, Int.reduceMul, Nat.reduceAdd, Nat.reduceSub, Nat.reduceMul, Nat.reduceDiv, Nat.reduceMod, Nat.reduceBEq, Nat.reduceLeDiff, get k8, k8.get, h1, h2, h3, h4, h5]
  refine ok_bind' (wk_bytes k8 (by simp [nb_length])) ?_
  rintro x H9 ⟨⟨l, hp, hb⟩, s9⟩
  simp (maxSteps := 1000000) (disch := first | omega | (simp only [nx_new, nx_set, List.length_cons, List.length_nil] <;> omega) | decide) only [↓RD, RC, RH, RO, RN, RL, RX, RS, RM, eq_self, Int.reduceToNat, Int.reduceAdd, Int.reduceSub, Int.reduceMul, Nat.reduceAdd, Nat.reduceSub, Nat.reduceMul, Nat.reduceDiv, Nat.reduceMod, Nat.reduceBEq, Nat.reduceLeDiff]
  refine ⟨⟨x, l, rfl, ?_, hb⟩, ((s1.trans s2).trans k8.gr).trans s9⟩
  have e1 : [] ++ [f.st] ++ [f.en] ++ nb f.id.toNat 6 ++ nb ((f.num : Nat) : Int).toNat 16 = headB f := by
    unfold headB; rw [Int.toNat_natCast]; rfl
  rw [e1] at hp
  exact hp

end Go.Ax.D9
