/-
  Bits, the walk: the program's bytes; the document's writer.
-/
import Derived.Test.YtblfcdaedibdnaaWb3
set_option maxRecDepth 100000
set_option linter.unusedVariables false
set_option linter.unusedSimpArgs false
namespace Go.Ax.B6
open Go.Ax

theorem Bytes_ok {H : Heap} {w : Nat} {bits : List Bool} {F : List Nat} (h : WRep H w bits F) (hl : bits.length < 549755813888) :
    Ok (sem T fn_bits_Writer_Bytes [.ptr w 0]) H fun r H' => ∃ l, Pk bits.length l bits ∧ Opn ty_uint8 1 H' r (l.map by8) l.length ∧ Step H H' [] r.pid.toList := by
  obtain ⟨⟨bv, l, hw, hp, ho, rfl, hne⟩, hb⟩ := h
  have hpl := hp.len
  refine ok_bits_Writer_Bytes ?_
  unfold f_bits_Writer_Bytes
  simp (disch := first | omega | decide) only [↓RD, RC, RH, RO, RN, RL, RX, RS, eq_self, Int.reduceToNat, Int.reduceAdd, Int.reduceSub, Int.reduceMul, Nat.reduceAdd, Nat.reduceSub, Nat.reduceMul, Nat.reduceDiv, Nat.reduceMod, Nat.reduceBEq, Nat.reduceLeDiff, hw]
  refine okb_append (bytes := 1) .nil (acells_rc ho.rc) (by simp) (by omega) (by omega) fun x' H1 ho1 hs hf => ?_
  simp (disch := first | omega | decide) only [↓RD, RC, RH, RO, RN, RL, RX, RS, eq_self, Int.reduceToNat, Int.reduceAdd, Int.reduceSub, Int.reduceMul, Nat.reduceAdd, Nat.reduceSub, Nat.reduceMul, Nat.reduceDiv, Nat.reduceMod, Nat.reduceBEq, Nat.reduceLeDiff]
  exact ⟨l, hp, by simpa using ho1, hs⟩

/-- The document's writer. -/
structure RRep (H : Heap) (w : Nat) (bits : List Bool) (F : List Nat) : Prop where
  mk' ::
  ex : ∃ bv, H.get w = some ⟨ty_palanquinref6_Writer, [bv], none⟩ ∧ Opn ty_bool 1 H bv (bits.map V.bool) bits.length ∧ F = w :: bv.pid.toList ∧ bv.pid ≠ some w
  low : Below F H

theorem RRep.to {H H' : Heap} {w : Nat} {bits : List Bool} {F : List Nat} (h : RRep H w bits F) (hs : ∀ i ∈ F, H'.get i = H.get i) (hn : H.next ≤ H'.next) : RRep H' w bits F := by
  obtain ⟨⟨bv, h1, h3, rfl, h5⟩, hb⟩ := h
  refine ⟨⟨bv, ?_, h3.to fun i hi => hs i (by simp [hi]), rfl, h5⟩, fun i hi => Nat.lt_of_lt_of_le (hb i hi) hn⟩
  rw [hs w (by simp), h1]

theorem shr_bl (v n : Nat) : shr v n = 0 ↔ bl v ≤ n := by
  rw [bl_le_iff, shr_pow]
  constructor
  · intro h
    exact Nat.lt_of_div_eq_zero (Nat.two_pow_pos n) h
  · exact Nat.div_eq_of_lt

theorem RAdd_loop {H : Heap} {w : Nat} {bits : List Bool} {F : List Nat} (h : RRep H w bits F) (v i : Nat) (hv : v < 18446744073709551616) (hi : i < 64) (hl : bits.length < 1099511627776) (t6 : V) {Q : Res → Heap → Prop}
    (k : ∀ H' F', RRep H' w (bits ++ [v.testBit i]) F' → Step H H' F F' → Q (.nrm [.int .i64 ((i : Int) - 1)]) H') :
    Ok (f_palanquinref6_Writer_Add_0 (sem T) (.ptr w 0) (.int .u64 v) t6 [.int .i64 (i : Int)]) H Q := by
  obtain ⟨⟨bv, hw, ho, rfl, hne⟩, hb⟩ := h
  have hw0 : w < H.next := hb w (by simp)
  have hsh := shr_le v i
  have hbit : (v.testBit i).toNat ≤ 1 := Bool.toNat_le _
  have hbe : (((v.testBit i).toNat : Int) == 1) = v.testBit i := by cases v.testBit i <;> rfl
  unfold f_palanquinref6_Writer_Add_0
  simp (disch := first | omega | decide) only [↓RD, RC, RH, RO, RN, RL, RX, RS, eq_self, Int.reduceToNat, Int.reduceAdd, Int.reduceSub, Int.reduceMul, Nat.reduceAdd, Nat.reduceSub, Nat.reduceMul, Nat.reduceDiv, Nat.reduceMod, Nat.reduceBEq, Nat.reduceLeDiff, hw, shr1, hbe]
  refine okb_append (bytes := 1) (n := bits.length) (m := 1) (q := [V.bool (v.testBit i)]) (ho.to fun i hi => get_new_ne _ _ ?_) (acells_fresh rfl) rfl (by omega) (by omega) fun bv' H1 ho1 hs hf => ?_
  · have := hb i (by simp [hi]); omega
  have hw1 : H1.get w = some ⟨ty_palanquinref6_Writer, [bv], none⟩ := by
    rw [hs.same w (by rw [next_new]; omega) (by rw [mem_pid]; exact hne), get_new_ne _ _ (by omega), hw]
  have hn := hs.next
  rw [next_new] at hn
  have hne1 : bv'.pid ≠ some w := fun e => by
    have := hf (.inr (by decide)) w e
    rw [next_new] at this; omega
  simp (disch := first | omega | decide) only [↓RD, RC, RH, RO, RN, RL, RX, RS, eq_self, Int.reduceToNat, Int.reduceAdd, Int.reduceSub, Int.reduceMul, Nat.reduceAdd, Nat.reduceSub, Nat.reduceMul, Nat.reduceDiv, Nat.reduceMod, Nat.reduceBEq, Nat.reduceLeDiff, hw1, ho1.cells1, ho1.okc]
  refine k _ (w :: bv'.pid.toList) ⟨⟨bv', ?_, ?_, rfl, hne1⟩, ?_⟩ (((Step.new H _ _).trans (hs.cons w)).trans (Step.set _ (by simp)))
  · rw [get_set_self]
  · simp only [List.map_append, List.length_append]
    exact ho1.to fun j hj => get_set_ne _ _ fun e => hne1 (e ▸ hj)
  · refine Below.cons (by rw [next_set]; omega) fun j hj => ?_
    rw [next_set]
    exact hs.below (fun i hi => by rw [next_new]; have := hb i (List.mem_cons_of_mem _ hi); omega) j hj

theorem RAdd_ok {H : Heap} {w : Nat} {bits : List Bool} {F : List Nat} (h : RRep H w bits F) (v : Nat) (n : Int) (hv : v < 18446744073709551616) (hl : bits.length < 549755813888) (hn : -9223372036854775808 ≤ n ∧ n ≤ 9223372036854775807) :
    Ok (sem T fn_palanquinref6_Writer_Add [.ptr w 0, .int .u64 v, .int .i64 n]) H fun r H' => ∃ F', r = .int .i64 (addE v n) ∧ RRep H' w (addB bits v n) F' ∧ Step H H' F F' := by
  refine ok_palanquinref6_Writer_Add ?_
  unfold f_palanquinref6_Writer_Add addE addB
  have h64 : bl v ≤ 64 := (bl_le_iff v 64).2 hv
  simp (disch := first | omega | decide) only [↓RD, RC, RH, RO, RN, RL, RX, RS, eq_self, Int.reduceToNat, Int.reduceAdd, Int.reduceSub, Int.reduceMul, Nat.reduceAdd, Nat.reduceSub, Nat.reduceMul, Nat.reduceDiv, Nat.reduceMod, Nat.reduceBEq, Nat.reduceLeDiff]
  refine ok_gdp (fun h1 => ?_) fun h1 => ?_
  · simp (disch := first | omega | decide) only [↓RD, RC, RH, RO, RN, RL, RX, RS, eq_self, Int.reduceToNat, Int.reduceAdd, Int.reduceSub, Int.reduceMul, Nat.reduceAdd, Nat.reduceSub, Nat.reduceMul, Nat.reduceDiv, Nat.reduceMod, Nat.reduceBEq, Nat.reduceLeDiff]
    rw [if_pos (.inl h1), if_pos (.inl h1)]
    exact ⟨F, rfl, h, Step.refl _ _⟩
  · simp (disch := first | omega | decide) only [↓RD, RC, RH, RO, RN, RL, RX, RS, eq_self, Int.reduceToNat, Int.reduceAdd, Int.reduceSub, Int.reduceMul, Nat.reduceAdd, Nat.reduceSub, Nat.reduceMul, Nat.reduceDiv, Nat.reduceMod, Nat.reduceBEq, Nat.reduceLeDiff]
    refine ok_gdp (fun h2 => ?_) fun h2 => ?_
    · simp (disch := first | omega | decide) only [↓RD, RC, RH, RO, RN, RL, RX, RS, eq_self, Int.reduceToNat, Int.reduceAdd, Int.reduceSub, Int.reduceMul, Nat.reduceAdd, Nat.reduceSub, Nat.reduceMul, Nat.reduceDiv, Nat.reduceMod, Nat.reduceBEq, Nat.reduceLeDiff]
      rw [if_pos (.inr (.inl h2)), if_pos (.inr (.inl h2))]
      exact ⟨F, rfl, h, Step.refl _ _⟩
    · obtain ⟨m, rfl⟩ := Int.eq_ofNat_of_zero_le (show 0 ≤ n by omega)
      have hsh := shr_le v m
      -- the loop
      have rest : ¬ m < bl v → Ok (M.blk 0 (M.iter (f_palanquinref6_Writer_Add_0 (sem T) (.ptr w 0) (.int .u64 v) (.int .i64 0)) [.int .i64 ((m : Int) - 1)]) fun _ => M.pure (.ret [.int .i64 0])) H fun r H' => ∃ L, r = .ret L ∧ ∃ F', tupled L = .int .i64 0 ∧ RRep H' w (bits ++ nb v m) F' ∧ Step H H' F F' := by
        intro h3
        simp (disch := first | omega | decide) only [↓RD, RC, RH, RO, RN, RL, RX, RS, eq_self, Int.reduceToNat, Int.reduceAdd, Int.reduceSub, Int.reduceMul, Nat.reduceAdd, Nat.reduceSub, Nat.reduceMul, Nat.reduceDiv, Nat.reduceMod, Nat.reduceBEq, Nat.reduceLeDiff]
        refine ok_loop (fun j L H' => ∃ F', L = [.int .i64 ((m : Int) - 1 - j)] ∧ RRep H' w (bits ++ (nb v m).take j) F' ∧ Step H H' F F') m ⟨F, by simp, by simpa using h, Step.refl _ _⟩ ?_ ?_
        · rintro j L H1 hj ⟨F1, rfl, h1, s1⟩
          have e : (m : Int) - 1 - j = ((m - 1 - j : Nat) : Int) := by omega
          rw [e]
          refine RAdd_loop h1 v _ hv (by omega) (by simp only [List.length_append, List.length_take, nb_length]; omega) _ fun H2 F2 h2 s2 => ?_
          refine ⟨F2, by congr 2; omega, ?_, s1.trans s2⟩
          rw [nb_take v m j hj, ← List.append_assoc]; exact h2
        · rintro L H1 ⟨F1, rfl, h1, s1⟩
          unfold f_palanquinref6_Writer_Add_0
          simp (disch := first | omega | decide) only [↓RD, RC, RH, RO, RN, RL, RX, RS, eq_self, Int.reduceToNat, Int.reduceAdd, Int.reduceSub, Int.reduceMul, Nat.reduceAdd, Nat.reduceSub, Nat.reduceMul, Nat.reduceDiv, Nat.reduceMod, Nat.reduceBEq, Nat.reduceLeDiff]
          rw [List.take_of_length_le (by rw [nb_length]; omega)] at h1
          exact ⟨F1, h1, s1⟩
      simp (disch := first | omega | decide) only [↓RD, RC, RH, RO, RN, RL, RX, RS, eq_self, Int.reduceToNat, Int.reduceAdd, Int.reduceSub, Int.reduceMul, Nat.reduceAdd, Nat.reduceSub, Nat.reduceMul, Nat.reduceDiv, Nat.reduceMod, Nat.reduceBEq, Nat.reduceLeDiff]
      refine ok_gdp (fun h3 => ?_) fun h3 => ?_
      · simp (disch := first | omega | decide) only [↓RD, RC, RH, RO, RN, RL, RX, RS, eq_self, Int.reduceToNat, Int.reduceAdd, Int.reduceSub, Int.reduceMul, Nat.reduceAdd, Nat.reduceSub, Nat.reduceMul, Nat.reduceDiv, Nat.reduceMod, Nat.reduceBEq, Nat.reduceLeDiff]
        refine ok_itenb (fun h4 => ?_) fun h4 => ?_
        · have : ¬ bl v ≤ m := fun e => by have := (shr_bl v m).2 e; omega
          simp (disch := first | omega | decide) only [↓RD, RC, RH, RO, RN, RL, RX, RS, eq_self, Int.reduceToNat, Int.reduceAdd, Int.reduceSub, Int.reduceMul, Nat.reduceAdd, Nat.reduceSub, Nat.reduceMul, Nat.reduceDiv, Nat.reduceMod, Nat.reduceBEq, Nat.reduceLeDiff]
          rw [if_pos (by omega), if_pos (by omega)]
          exact ⟨F, rfl, h, Step.refl _ _⟩
        · have := (shr_bl v m).1 (by omega)
          rw [if_neg (by omega), if_neg (by omega)]
          simp (disch := first | omega | decide) only [↓RD, RC, RH, RO, RN, RL, RX, RS, eq_self, Int.reduceToNat, Int.reduceAdd, Int.reduceSub, Int.reduceMul, Nat.reduceAdd, Nat.reduceSub, Nat.reduceMul, Nat.reduceDiv, Nat.reduceMod, Nat.reduceBEq, Nat.reduceLeDiff]
          simpa only [↓RD, RC] using rest (by omega)
      · rw [if_neg (by omega), if_neg (by omega)]
        simp (disch := first | omega | decide) only [↓RD, RC, RH, RO, RN, RL, RX, RS, eq_self, Int.reduceToNat, Int.reduceAdd, Int.reduceSub, Int.reduceMul, Nat.reduceAdd, Nat.reduceSub, Nat.reduceMul, Nat.reduceDiv, Nat.reduceMod, Nat.reduceBEq, Nat.reduceLeDiff]
        simpa only [↓RD, RC] using rest (by omega)

theorem RBytes_ok {H : Heap} {w : Nat} {bits : List Bool} {F : List Nat} (h : RRep H w bits F) (hl : bits.length < 549755813888) :
    Ok (sem T fn_palanquinref6_Writer_Bytes [.ptr w 0]) H fun r H' => ∃ l, Pk bits.length l bits ∧ rcells 1 H' r = some (l.map by8, l.length) ∧ (∃ id, r.pid = some id ∧ H.next ≤ id ∧ id < H'.next) ∧ Step H H' [] r.pid.toList := by
  have hR := h
  obtain ⟨⟨bv, hw, ho, rfl, hne⟩, hb⟩ := h
  have hw0 : w < H.next := hb w (by simp)
  refine ok_palanquinref6_Writer_Bytes ?_
  unfold f_palanquinref6_Writer_Bytes
  simp (disch := first | omega | decide) only [↓RD, RC, RH, RO, RN, RL, RX, RS, eq_self, Int.reduceToNat, Int.reduceAdd, Int.reduceSub, Int.reduceMul, Nat.reduceAdd, Nat.reduceSub, Nat.reduceMul, Nat.reduceDiv, Nat.reduceMod, Nat.reduceBEq, Nat.reduceLeDiff, hw, ho.vlen]
  have e : (((bits.length : Int) + 7) / 8).toNat = (bits.length + 7) / 8 := by omega
  refine ⟨⟨by omega, by omega, by omega, by omega⟩, ?_⟩
  rw [e, zeros1]
  generalize hH1 : H.new _ = H1
  have hn1 : H1.next = H.next + 1 := by rw [← hH1, next_new]
  have hg1 : H1.get H.next = some ⟨ty_uint8, List.replicate ((bits.length + 7) / 8) (.int .u8 0), none⟩ := by rw [← hH1, get_new_self]
  have hs1 : Step H H1 [] [H.next] := by rw [← hH1]; exact Step.newo H _ []
  have hbv : ∀ i, bv.pid = some i → i < H.next := fun i hi => hb i (by simp [hi])
  refine ok_loop (fun k L H' => L = [.int .i64 (k : Nat)] ∧ ∃ l, H'.get H.next = some ⟨ty_uint8, l.map by8, none⟩ ∧ Pk bits.length l (bits.take k) ∧ Step H1 H' [H.next] [H.next]) bits.length ⟨rfl, List.replicate ((bits.length + 7) / 8) 0, by rw [hg1, List.map_replicate]; rfl, by rw [List.take_zero]; exact Pk.zeros _, Step.refl _ _⟩ ?_ ?_
  · rintro k L H2 hk ⟨rfl, l, hg2, hp2, hs2⟩
    have hpl := hp2.len
    have hw2 : H2.get w = some ⟨ty_palanquinref6_Writer, [bv], none⟩ := by rw [hs2.same w (by omega) (by simp; omega), hs1.same w hw0 (by simp), hw]
    have ho2 : Opn ty_bool 1 H2 bv (bits.map V.bool) bits.length := ho.to fun i hi => by
      have := hbv i hi
      rw [hs2.same i (by omega) (by simp; omega), hs1.same i this (by simp)]
    unfold f_palanquinref6_Writer_Bytes_0
    obtain ⟨id, rfl, hg, hia⟩ := ho2.at (k := .i64) (i := (k : Nat)) (by omega) (by omega)
    have hat : bits.take (k + 1) = bits.take k ++ [bits[k]] := by rw [List.take_add_one, List.getElem?_eq_getElem hk]; rfl
    have hk' : (bits.take k).length = k := by rw [List.length_take]; omega
    have hlt : k / 8 < l.length := by omega
    have hx : l[k / 8] < 256 := hp2.lt _ hlt
    have hs8 := shr_le 128 (k % 8)
    have e8 : ((k : Int) / 8).toNat = k / 8 := by omega
    have e9 : ((k : Int) % 8).toNat = k % 8 := by omega
    simp (disch := first | omega | decide) only [↓RD, RC, RH, RO, RN, RL, RX, RS, eq_self, Int.reduceToNat, Int.reduceAdd, Int.reduceSub, Int.reduceMul, Nat.reduceAdd, Nat.reduceSub, Nat.reduceMul, Nat.reduceDiv, Nat.reduceMod, Nat.reduceBEq, Nat.reduceLeDiff, hw2, hia, hg, List.getElem?_map, List.getElem?_eq_getElem hk, e8, e9, hg2, List.getElem?_eq_getElem hlt, by8]
    refine ok_ite (fun hbt => ?_) fun hbt => ?_
    · simp (disch := first | omega | decide) only [↓RD, RC, RH, RO, RN, RL, RX, RS, eq_self, Int.reduceToNat, Int.reduceAdd, Int.reduceSub, Int.reduceMul, Nat.reduceAdd, Nat.reduceSub, Nat.reduceMul, Nat.reduceDiv, Nat.reduceMod, Nat.reduceBEq, Nat.reduceLeDiff, hw2, hia, hg, List.getElem?_map, List.getElem?_eq_getElem hk, e8, e9, hg2, List.getElem?_eq_getElem hlt, by8]
      have hon := hp2.on (by omega) (by rw [hk']; exact hlt)
      simp only [hk'] at hon
      refine ⟨by rw [List.length_map]; omega, rfl, l.set (k / 8) (l[k / 8] ||| shr 128 (k % 8)), ?_, ?_, hs2.trans (Step.set _ (by simp))⟩
      · try rw [get_set_self]
        rw [sp_set _ _ _ (by rw [List.length_map]; omega), List.map_set]; rfl
      · rw [hat, hbt]; exact hon
    · simp (disch := first | omega | decide) only [↓RD, RC, RH, RO, RN, RL, RX, RS, eq_self, Int.reduceToNat, Int.reduceAdd, Int.reduceSub, Int.reduceMul, Nat.reduceAdd, Nat.reduceSub, Nat.reduceMul, Nat.reduceDiv, Nat.reduceMod, Nat.reduceBEq, Nat.reduceLeDiff]
      refine ⟨rfl, l, hg2, ?_, hs2⟩
      rw [hat, hbt]; exact hp2.off
  · rintro L H2 ⟨rfl, l, hg2, hp2, hs2⟩
    have hpl := hp2.len
    have hw2 : H2.get w = some ⟨ty_palanquinref6_Writer, [bv], none⟩ := by rw [hs2.same w (by omega) (by simp; omega), hs1.same w hw0 (by simp), hw]
    have ho2 : Opn ty_bool 1 H2 bv (bits.map V.bool) bits.length := ho.to fun i hi => by
      have := hbv i hi
      rw [hs2.same i (by omega) (by simp; omega), hs1.same i this (by simp)]
    unfold f_palanquinref6_Writer_Bytes_0
    simp (disch := first | omega | decide) only [↓RD, RC, RH, RO, RN, RL, RX, RS, eq_self, Int.reduceToNat, Int.reduceAdd, Int.reduceSub, Int.reduceMul, Nat.reduceAdd, Nat.reduceSub, Nat.reduceMul, Nat.reduceDiv, Nat.reduceMod, Nat.reduceBEq, Nat.reduceLeDiff, hw2, ho2.vlen]
    rw [List.take_length] at hp2
    refine ⟨l, hp2, ?_, ⟨H.next, rfl, Nat.le_refl _, Nat.lt_of_lt_of_le (by omega) hs2.next⟩, hs1.trans hs2⟩
    simp only [rcells, hg2, Option.bind_some]
    rw [if_pos (by simp; omega), List.drop_zero, List.take_of_length_le (by simp; omega), hpl]

theorem Same_ok {H : Heap} {a b : V} {l m : List Nat} {j k : Nat} (ha : rcells 1 H a = some (l.map by8, j)) (hb : rcells 1 H b = some (m.map by8, k)) (hl : ∀ x ∈ l, x < 256) (hm : ∀ x ∈ m, x < 256) :
    Ok (sem T fn_palanquinref1_Same [a, b]) H fun r H' => r = .bool (decide (l = m)) ∧ H' = H := by
  refine ok_palanquinref1_Same ?_
  unfold f_palanquinref1_Same
  refine okb_tostr ha ?_
  refine okb_tostr hb ?_
  simp (disch := first | omega | decide) only [↓RD, RC, RH, RO, RN, RL, RX, RS, eq_self, Int.reduceToNat, Int.reduceAdd, Int.reduceSub, Int.reduceMul, Nat.reduceAdd, Nat.reduceSub, Nat.reduceMul, Nat.reduceDiv, Nat.reduceMod, Nat.reduceBEq, Nat.reduceLeDiff, bytes_eq hl hm]

theorem width_eq (n : Nat) (h0 : 1 ≤ n) (h : n ≤ 4294967296) : sem T fn_palanquinref6_width [.int .u64 n] = M.pure (.tup [.int .i64 (bl n : Nat), .int .u64 ((2 ^ bl n - n : Nat) : Int)]) := by
  have h1 := lt_bl n
  have h33 : bl n ≤ 33 := (bl_le_iff n 33).2 (by omega)
  have h2 : 2 ^ bl n ≤ 2 ^ 33 := Nat.pow_le_pow_right (by decide) h33
  have e : shl 1 (bl n) % 18446744073709551616 = 2 ^ bl n := by
    rw [shl_def, Nat.one_shiftLeft]; exact Nat.mod_eq_of_lt (by omega)
  refine pure_of_ok fun H => ?_
  refine ok_palanquinref6_width ?_
  unfold f_palanquinref6_width
  simp (disch := first | omega | decide) only [↓RD, RC, RH, RO, RN, RL, RX, RS, eq_self, Int.reduceToNat, Int.reduceAdd, Int.reduceSub, Int.reduceMul, Nat.reduceAdd, Nat.reduceSub, Nat.reduceMul, Nat.reduceDiv, Nat.reduceMod, Nat.reduceBEq, Nat.reduceLeDiff]
  refine ok_while (fun L H' m => ∃ x k : Nat, L = [.int .i64 (k : Nat), .int .u64 (x : Nat)] ∧ m = x ∧ x ≤ n ∧ bl n = bl x + k ∧ H' = H) n ⟨n, 0, rfl, rfl, Nat.le_refl _, rfl, rfl⟩ ?_
  rintro L H' m ⟨x, k, rfl, rfl, hx, hb, rfl⟩
  unfold f_palanquinref6_width_0
  simp (disch := first | omega | decide) only [↓RD, RC, RH, RO, RN, RL, RX, RS, eq_self, Int.reduceToNat, Int.reduceAdd, Int.reduceSub, Int.reduceMul, Nat.reduceAdd, Nat.reduceSub, Nat.reduceMul, Nat.reduceDiv, Nat.reduceMod, Nat.reduceBEq, Nat.reduceLeDiff]
  refine ok_itep (fun h3 => ?_) fun h3 => ?_
  · have hd := bl_div m (by omega)
    simp (disch := first | omega | decide) only [↓RD, RC, RH, RO, RN, RL, RX, RS, eq_self, Int.reduceToNat, Int.reduceAdd, Int.reduceSub, Int.reduceMul, Nat.reduceAdd, Nat.reduceSub, Nat.reduceMul, Nat.reduceDiv, Nat.reduceMod, Nat.reduceBEq, Nat.reduceLeDiff]
    exact ⟨m / 2, by omega, m / 2, k + 1, rfl, rfl, by omega, by omega⟩
  · have : m = 0 := by omega
    subst this
    have hk : bl n = k := by simpa [bl] using hb
    subst hk
    simp (disch := first | omega | decide) only [↓RD, RC, RH, RO, RN, RL, RX, RS, eq_self, Int.reduceToNat, Int.reduceAdd, Int.reduceSub, Int.reduceMul, Nat.reduceAdd, Nat.reduceSub, Nat.reduceMul, Nat.reduceDiv, Nat.reduceMod, Nat.reduceBEq, Nat.reduceLeDiff, e, Int.toNat_one]
    rw [Int.ofNat_sub (by omega)]

theorem RAddNS_ok {H : Heap} {w : Nat} {bits : List Bool} {F : List Nat} (h : RRep H w bits F) (v n : Nat) (hv : v < 18446744073709551616) (hn : n < 18446744073709551616) (hl : bits.length < 549755813888) :
    Ok (sem T fn_palanquinref6_Writer_AddNS [.ptr w 0, .int .u64 v, .int .u64 n]) H fun r H' => ∃ F', r = .int .i64 (addNSE v n) ∧ RRep H' w (addNSB bits v n) F' ∧ Step H H' F F' := by
  refine ok_palanquinref6_Writer_AddNS ?_
  unfold f_palanquinref6_Writer_AddNS addNSE addNSB
  simp (disch := first | omega | decide) only [↓RD, RC, RH, RO, RN, RL, RX, RS, eq_self, Int.reduceToNat, Int.reduceAdd, Int.reduceSub, Int.reduceMul, Nat.reduceAdd, Nat.reduceSub, Nat.reduceMul, Nat.reduceDiv, Nat.reduceMod, Nat.reduceBEq, Nat.reduceLeDiff]
  refine ok_gdp (fun h1 => ?_) fun h1 => ?_
  · simp (disch := first | omega | decide) only [↓RD, RC, RH, RO, RN, RL, RX, RS, eq_self, Int.reduceToNat, Int.reduceAdd, Int.reduceSub, Int.reduceMul, Nat.reduceAdd, Nat.reduceSub, Nat.reduceMul, Nat.reduceDiv, Nat.reduceMod, Nat.reduceBEq, Nat.reduceLeDiff]
    rw [if_pos (by omega), if_pos (by omega)]
    exact ⟨F, rfl, h, Step.refl _ _⟩
  · simp (disch := first | omega | decide) only [↓RD, RC, RH, RO, RN, RL, RX, RS, eq_self, Int.reduceToNat, Int.reduceAdd, Int.reduceSub, Int.reduceMul, Nat.reduceAdd, Nat.reduceSub, Nat.reduceMul, Nat.reduceDiv, Nat.reduceMod, Nat.reduceBEq, Nat.reduceLeDiff]
    refine ok_gdp (fun h2 => ?_) fun h2 => ?_
    · simp (disch := first | omega | decide) only [↓RD, RC, RH, RO, RN, RL, RX, RS, eq_self, Int.reduceToNat, Int.reduceAdd, Int.reduceSub, Int.reduceMul, Nat.reduceAdd, Nat.reduceSub, Nat.reduceMul, Nat.reduceDiv, Nat.reduceMod, Nat.reduceBEq, Nat.reduceLeDiff]
      rw [if_pos (by omega), if_pos (by omega)]
      exact ⟨F, rfl, h, Step.refl _ _⟩
    · simp (disch := first | omega | decide) only [↓RD, RC, RH, RO, RN, RL, RX, RS, eq_self, Int.reduceToNat, Int.reduceAdd, Int.reduceSub, Int.reduceMul, Nat.reduceAdd, Nat.reduceSub, Nat.reduceMul, Nat.reduceDiv, Nat.reduceMod, Nat.reduceBEq, Nat.reduceLeDiff]
      refine ok_itep (fun h3 => ?_) fun h3 => ?_
      · simp (disch := first | omega | decide) only [↓RD, RC, RH, RO, RN, RL, RX, RS, eq_self, Int.reduceToNat, Int.reduceAdd, Int.reduceSub, Int.reduceMul, Nat.reduceAdd, Nat.reduceSub, Nat.reduceMul, Nat.reduceDiv, Nat.reduceMod, Nat.reduceBEq, Nat.reduceLeDiff]
        rw [if_pos (by omega), if_pos (by omega)]
        exact ⟨F, rfl, h, Step.refl _ _⟩
      · rw [if_neg (by omega), if_neg (by omega)]
        obtain ⟨a1, a2, a3, a4, a5, a6, a7⟩ := addNS_lt (v := v) (n := n) (by omega) (by omega) (by omega)
        simp (disch := first | omega | decide) only [↓RD, RC, RH, RO, RN, RL, RX, RS, eq_self, Int.reduceToNat, Int.reduceAdd, Int.reduceSub, Int.reduceMul, Nat.reduceAdd, Nat.reduceSub, Nat.reduceMul, Nat.reduceDiv, Nat.reduceMod, Nat.reduceBEq, Nat.reduceLeDiff, width_eq]
        refine ok_itep (fun h4 => ?_) fun h4 => ?_
        · have a6' := a6 (by omega)
          simp (disch := first | omega | decide) only [↓RD, RC, RH, RO, RN, RL, RX, RS, eq_self, Int.reduceToNat, Int.reduceAdd, Int.reduceSub, Int.reduceMul, Nat.reduceAdd, Nat.reduceSub, Nat.reduceMul, Nat.reduceDiv, Nat.reduceMod, Nat.reduceBEq, Nat.reduceLeDiff]
          rw [if_pos (by omega)]
          have e : (bl n : Int) - 1 = ((bl n - 1 : Nat) : Int) := by omega
          rw [e]
          refine ok_bind' (RAdd_ok h v _ hv hl ⟨by omega, by omega⟩) ?_
          rintro r H1 ⟨F1, rfl, hw1, hs1⟩
          simp only [addE, addB] at hw1 ⊢
          rw [if_neg (by omega)] at hw1
          rw [if_neg (by omega)]
          simp (disch := first | omega | decide) only [↓RD, RC, RH, RO, RN, RL, RX, RS, eq_self, Int.reduceToNat, Int.reduceAdd, Int.reduceSub, Int.reduceMul, Nat.reduceAdd, Nat.reduceSub, Nat.reduceMul, Nat.reduceDiv, Nat.reduceMod, Nat.reduceBEq, Nat.reduceLeDiff]
          exact ⟨F1, hw1, hs1⟩
        · have a7' := a7 (by omega)
          simp (disch := first | omega | decide) only [↓RD, RC, RH, RO, RN, RL, RX, RS, eq_self, Int.reduceToNat, Int.reduceAdd, Int.reduceSub, Int.reduceMul, Nat.reduceAdd, Nat.reduceSub, Nat.reduceMul, Nat.reduceDiv, Nat.reduceMod, Nat.reduceBEq, Nat.reduceLeDiff]
          rw [if_neg (by omega)]
          have e : (v : Int) + ((2 ^ bl n - n : Nat) : Int) = ((v + (2 ^ bl n - n) : Nat) : Int) := by omega
          rw [e]
          refine ok_bind' (RAdd_ok h _ _ (by omega) hl ⟨by omega, by omega⟩) ?_
          rintro r H1 ⟨F1, rfl, hw1, hs1⟩
          simp only [addE, addB] at hw1 ⊢
          rw [if_neg (by omega)] at hw1
          rw [if_neg (by omega)]
          simp (disch := first | omega | decide) only [↓RD, RC, RH, RO, RN, RL, RX, RS, eq_self, Int.reduceToNat, Int.reduceAdd, Int.reduceSub, Int.reduceMul, Nat.reduceAdd, Nat.reduceSub, Nat.reduceMul, Nat.reduceDiv, Nat.reduceMod, Nat.reduceBEq, Nat.reduceLeDiff]
          exact ⟨F1, hw1, hs1⟩

end Go.Ax.B6
