/-
  Rtp: a packet's bytes, as the program writes them: the first two, the elements.
-/
import Derived.Test.YtmiafikogmhckaaRtp14
set_option maxRecDepth 100000
set_option linter.unusedVariables false
set_option linter.unusedSimpArgs false
namespace Go.Ax.R7
open Go.Ax

def b0 (p : Pkt) : Nat := 128 + p.csrc.length + (if 0 < p.pad then 32 else 0) + (if p.prof = 0 then 0 else 16)
def b1 (p : Pkt) : Nat := p.typ.toNat + (if p.mark = true then 128 else 0)
def xb (prof : Int) (x : X) : List Nat := (if prof = 48862 then [16 * x.1.toNat + (x.2.length - 1)] else [x.1.toNat, x.2.length]) ++ x.2
def xsb (p : Pkt) : List Nat := (p.exts.map (xb p.prof)).flatten
def padn (n : Nat) : Nat := (4 - n % 4) % 4
def elems (p : Pkt) : List Nat := xsb p ++ List.replicate (padn (xsb p).length) 0

structure Gd (p : Pkt) : Prop where
  a : (0 ≤ p.typ ∧ p.typ ≤ 127) ∧ p.csrc.length ≤ 15 ∧ (0 ≤ p.pad ∧ p.pad ≤ 255)
  b : p.prof = 0 → p.exts = []
  c : p.prof = 0 ∨ p.prof = 48862 ∨ p.prof = 4096
  d : ∀ x ∈ p.exts, goodX p.prof x = true

theorem good_gd {p : Pkt} (h : good p = true) : Gd p := by
  have ha : (0 ≤ p.typ ∧ p.typ ≤ 127) ∧ p.csrc.length ≤ 15 ∧ (0 ≤ p.pad ∧ p.pad ≤ 255) := by
    refine Classical.byContradiction fun e => ?_
    rw [good_no e] at h; cases h
  rw [good_yes ha] at h
  by_cases hz : p.prof = 0
  · rw [if_pos hz] at h
    have hn := List.eq_nil_of_length_eq_zero (of_decide_eq_true h)
    exact ⟨ha, fun _ => hn, .inl hz, fun x hx => by rw [hn] at hx; cases hx⟩
  · rw [if_neg hz] at h
    obtain ⟨h1, h2⟩ := Bool.and_eq_true_iff.1 h
    exact ⟨ha, fun e => absurd e hz, .inr (of_decide_eq_true h1), List.all_eq_true.1 h2⟩

theorem goodX_1 {x : X} (h : goodX 48862 x = true) : 1 ≤ x.1 ∧ x.1 ≤ 14 ∧ 1 ≤ x.2.length ∧ x.2.length ≤ 16 := by
  unfold goodX at h; rw [if_pos rfl] at h; exact of_decide_eq_true h
theorem goodX_2 {x : X} (h : goodX 4096 x = true) : 1 ≤ x.1 ∧ x.1 ≤ 255 ∧ x.2.length ≤ 255 := by
  unfold goodX at h; rw [if_neg (by decide)] at h; exact of_decide_eq_true h

theorem or_a : ∀ c, c ≤ 15 → 128 ||| c = 128 + c ∧ (128 + c) ||| 32 = 160 + c ∧ (128 + c) ||| 16 = 144 + c ∧ (160 + c) ||| 16 = 176 + c := by
  intro c hc
  have : ∀ c, c < 16 → 128 ||| c = 128 + c ∧ (128 + c) ||| 32 = 160 + c ∧ (128 + c) ||| 16 = 144 + c ∧ (160 + c) ||| 16 = 176 + c := by decide
  exact this c (by omega)
theorem or_b : ∀ t, t ≤ 127 → t ||| 128 = t + 128 := by
  intro t ht
  have : ∀ t, t < 128 → t ||| 128 = t + 128 := by decide
  exact this t (by omega)
theorem or_c (i n : Nat) (h : n < 16) : (16 * i) ||| n = 16 * i + n := by
  have := Nat.shiftLeft_add_eq_or_of_lt (i := 4) (b := n) h i
  rw [Nat.shiftLeft_eq, Nat.mul_comm] at this
  exact this.symm

theorem ab_lit {H : Heap} {l : List Nat} {lo : Nat} (h : lo ≤ H.next) : Ab lo (H.new ⟨ty_uint8, l.map by8, none⟩) (.sl H.next 0 l.length (.fix l.length)) l :=
  .full (get_new_self _ _) (by simp) h (by rw [next_new]; omega)

theorem first_ok {lo : Nat} {H : Heap} {v : V} {p : Pkt} (h : PkR lo H v p) (hg : Gd p) : Ok (sem T fn_rtp_first [v]) H fun r H' => Ab H.next H' r [b0 p, b1 p] ∧ Grow H H' := by
  obtain ⟨cv, xv, pv, rfl, hc, hx, hp⟩ := h
  obtain ⟨⟨⟨ht0, ht1⟩, hcl, hp0, hp1⟩, -, -, -⟩ := hg
  refine ok_rtp_first ?_
  unfold f_rtp_first
  unfold pcells
  obtain ⟨t, ht⟩ := Int.eq_ofNat_of_zero_le ht0
  obtain ⟨o1, o2, o3, o4⟩ := or_a _ hcl
  have o5 := or_b t (by omega)
  have mm : (128 + p.csrc.length) % 256 = 128 + p.csrc.length := by omega
  have mt : t % 256 = t := by omega
  have ec := (hc.newn ⟨ty_rtp_Packet, pcells p cv xv pv, none⟩).vlen
  have fin : ∀ x y : Nat, Ab H.next ((H.new ⟨ty_rtp_Packet, [.bool p.mark, .int .i64 t, .int .u16 p.seq, .int .u32 p.ts, .int .u32 p.ssrc, cv, .int .i64 p.prof, xv, .int .i64 p.pad, pv], none⟩).new ⟨ty_uint8, [.int .u8 x, .int .u8 y], none⟩) (.sl (H.next + 1) 0 2 (.fix 2)) [x, y] ∧ Grow H ((H.new ⟨ty_rtp_Packet, [.bool p.mark, .int .i64 t, .int .u16 p.seq, .int .u32 p.ts, .int .u32 p.ssrc, cv, .int .i64 p.prof, xv, .int .i64 p.pad, pv], none⟩).new ⟨ty_uint8, [.int .u8 x, .int .u8 y], none⟩) := fun x y =>
    ⟨ab_lit (H := H.new _) (l := [x, y]) (by rw [next_new]; omega), (Grow.new _ _).trans (Grow.new _ _)⟩
  by_cases c1 : 0 < p.pad <;> by_cases c2 : p.prof = 0
  · have e0 : b0 p = 160 + p.csrc.length := by unfold b0; rw [if_pos c1, if_pos c2]; omega
    rw [e0]
    rw [c2] at fin
    cases c3 : p.mark
    · have e1 : b1 p = t := by unfold b1; rw [c3, ht, Int.toNat_natCast]; rfl
      rw [e1]
      rw [c3] at fin
      simp (disch := first | omega | (simp only [nx_new, nx_set, List.length_cons, List.length_nil] <;> omega) | decide) only [↓RD, RC, RH, RO, RN, RL, RX, RS, RM, eq_self, Int.reduceToNat, Int.reduceAdd, Int.reduceSub, Int.reduceMul, Nat.reduceAdd, Nat.reduceSub, Nat.reduceMul, Nat.reduceDiv, Nat.reduceMod, Nat.reduceBEq, Nat.reduceLeDiff, hc.cells1, hx.cells1, hp.cells1, hc.okc, hx.okc, hp.okc, hc.vlen, o1, o2, o3, o4, o5, mm, mt, c2, ht, c3]
      exact fin _ _
    · have e1 : b1 p = t + 128 := by unfold b1; rw [c3, ht, Int.toNat_natCast]; rfl
      rw [e1]
      rw [c3] at fin
      simp (disch := first | omega | (simp only [nx_new, nx_set, List.length_cons, List.length_nil] <;> omega) | decide) only [↓RD, RC, RH, RO, RN, RL, RX, RS, RM, eq_self, Int.reduceToNat, Int.reduceAdd, Int.reduceSub, Int.reduceMul, Nat.reduceAdd, Nat.reduceSub, Nat.reduceMul, Nat.reduceDiv, Nat.reduceMod, Nat.reduceBEq, Nat.reduceLeDiff, hc.cells1, hx.cells1, hp.cells1, hc.okc, hx.okc, hp.okc, hc.vlen, o1, o2, o3, o4, o5, mm, mt, c2, ht, c3]
      exact fin _ _
  · have e0 : b0 p = 176 + p.csrc.length := by unfold b0; rw [if_pos c1, if_neg c2]; omega
    rw [e0]
    cases c3 : p.mark
    · have e1 : b1 p = t := by unfold b1; rw [c3, ht, Int.toNat_natCast]; rfl
      rw [e1]
      rw [c3] at fin
      simp (disch := first | omega | (simp only [nx_new, nx_set, List.length_cons, List.length_nil] <;> omega) | decide) only [↓RD, RC, RH, RO, RN, RL, RX, RS, RM, eq_self, Int.reduceToNat, Int.reduceAdd, Int.reduceSub, Int.reduceMul, Nat.reduceAdd, Nat.reduceSub, Nat.reduceMul, Nat.reduceDiv, Nat.reduceMod, Nat.reduceBEq, Nat.reduceLeDiff, hc.cells1, hx.cells1, hp.cells1, hc.okc, hx.okc, hp.okc, hc.vlen, o1, o2, o3, o4, o5, mm, mt, c2, ht, c3]
      exact fin _ _
    · have e1 : b1 p = t + 128 := by unfold b1; rw [c3, ht, Int.toNat_natCast]; rfl
      rw [e1]
      rw [c3] at fin
      simp (disch := first | omega | (simp only [nx_new, nx_set, List.length_cons, List.length_nil] <;> omega) | decide) only [↓RD, RC, RH, RO, RN, RL, RX, RS, RM, eq_self, Int.reduceToNat, Int.reduceAdd, Int.reduceSub, Int.reduceMul, Nat.reduceAdd, Nat.reduceSub, Nat.reduceMul, Nat.reduceDiv, Nat.reduceMod, Nat.reduceBEq, Nat.reduceLeDiff, hc.cells1, hx.cells1, hp.cells1, hc.okc, hx.okc, hp.okc, hc.vlen, o1, o2, o3, o4, o5, mm, mt, c2, ht, c3]
      exact fin _ _
  · have e0 : b0 p = 128 + p.csrc.length := by unfold b0; rw [if_neg c1, if_pos c2]; omega
    rw [e0]
    rw [c2] at fin
    cases c3 : p.mark
    · have e1 : b1 p = t := by unfold b1; rw [c3, ht, Int.toNat_natCast]; rfl
      rw [e1]
      rw [c3] at fin
      simp (disch := first | omega | (simp only [nx_new, nx_set, List.length_cons, List.length_nil] <;> omega) | decide) only [↓RD, RC, RH, RO, RN, RL, RX, RS, RM, eq_self, Int.reduceToNat, Int.reduceAdd, Int.reduceSub, Int.reduceMul, Nat.reduceAdd, Nat.reduceSub, Nat.reduceMul, Nat.reduceDiv, Nat.reduceMod, Nat.reduceBEq, Nat.reduceLeDiff, hc.cells1, hx.cells1, hp.cells1, hc.okc, hx.okc, hp.okc, hc.vlen, o1, o2, o3, o4, o5, mm, mt, c2, ht, c3]
      exact fin _ _
    · have e1 : b1 p = t + 128 := by unfold b1; rw [c3, ht, Int.toNat_natCast]; rfl
      rw [e1]
      rw [c3] at fin
      simp (disch := first | omega | (simp only [nx_new, nx_set, List.length_cons, List.length_nil] <;> omega) | decide) only [↓RD, RC, RH, RO, RN, RL, RX, RS, RM, eq_self, Int.reduceToNat, Int.reduceAdd, Int.reduceSub, Int.reduceMul, Nat.reduceAdd, Nat.reduceSub, Nat.reduceMul, Nat.reduceDiv, Nat.reduceMod, Nat.reduceBEq, Nat.reduceLeDiff, hc.cells1, hx.cells1, hp.cells1, hc.okc, hx.okc, hp.okc, hc.vlen, o1, o2, o3, o4, o5, mm, mt, c2, ht, c3]
      exact fin _ _
  · have e0 : b0 p = 144 + p.csrc.length := by unfold b0; rw [if_neg c1, if_neg c2]; omega
    rw [e0]
    cases c3 : p.mark
    · have e1 : b1 p = t := by unfold b1; rw [c3, ht, Int.toNat_natCast]; rfl
      rw [e1]
      rw [c3] at fin
      simp (disch := first | omega | (simp only [nx_new, nx_set, List.length_cons, List.length_nil] <;> omega) | decide) only [↓RD, RC, RH, RO, RN, RL, RX, RS, RM, eq_self, Int.reduceToNat, Int.reduceAdd, Int.reduceSub, Int.reduceMul, Nat.reduceAdd, Nat.reduceSub, Nat.reduceMul, Nat.reduceDiv, Nat.reduceMod, Nat.reduceBEq, Nat.reduceLeDiff, hc.cells1, hx.cells1, hp.cells1, hc.okc, hx.okc, hp.okc, hc.vlen, o1, o2, o3, o4, o5, mm, mt, c2, ht, c3]
      exact fin _ _
    · have e1 : b1 p = t + 128 := by unfold b1; rw [c3, ht, Int.toNat_natCast]; rfl
      rw [e1]
      rw [c3] at fin
      simp (disch := first | omega | (simp only [nx_new, nx_set, List.length_cons, List.length_nil] <;> omega) | decide) only [↓RD, RC, RH, RO, RN, RL, RX, RS, RM, eq_self, Int.reduceToNat, Int.reduceAdd, Int.reduceSub, Int.reduceMul, Nat.reduceAdd, Nat.reduceSub, Nat.reduceMul, Nat.reduceDiv, Nat.reduceMod, Nat.reduceBEq, Nat.reduceLeDiff, hc.cells1, hx.cells1, hp.cells1, hc.okc, hx.okc, hp.okc, hc.vlen, o1, o2, o3, o4, o5, mm, mt, c2, ht, c3]
      exact fin _ _

theorem xb_len {prof : Int} {x : X} (h : goodX prof x = true) (hp : prof = 48862 ∨ prof = 4096) : (xb prof x).length ≤ 257 := by
  unfold xb
  rcases hp with rfl | rfl
  · have := goodX_1 h
    rw [if_pos rfl]; simp; omega
  · have := goodX_2 h
    rw [if_neg (by decide)]; simp; omega

end Go.Ax.R7
