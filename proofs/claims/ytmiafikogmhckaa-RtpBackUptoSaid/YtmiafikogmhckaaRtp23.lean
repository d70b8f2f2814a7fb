/-
  Rtp: what is written is read again, whole (plain).
-/
import Derived.Test.YtmiafikogmhckaaRtp22
set_option maxRecDepth 100000
set_option linter.unusedVariables false
set_option linter.unusedSimpArgs false
namespace Go.Ax.R7
open Go.Ax

theorem parse_bytes {p : Pkt} {b : List Nat} (h : bytes p = .ok b) (hn : Num p) : parse b = .ok p := by
  obtain ⟨hgd, hlen, hbe⟩ := bytes_good h
  have hg := good_gd hgd
  obtain ⟨⟨⟨ht0, ht1⟩, hcl, hpd0, hpd1⟩, hz0, hpf, hgx⟩ := id hg
  obtain ⟨m1, m2, m3, m4⟩ := hn
  obtain ⟨c, hcd⟩ := Int.eq_ofNat_of_zero_le hpd0
  obtain ⟨t, htd⟩ := Int.eq_ofNat_of_zero_le ht0
  have hct : p.pad.toNat = c := by rw [hcd]; rfl
  have htt : p.typ.toNat = t := by rw [htd]; rfl
  rw [hct] at hlen hbe
  have hl0 := hb0_len p
  have hlc := csk_len (p := p) p.csrc.length (Nat.le_refl _)
  rw [csk_all] at hlc
  have hbl : b.length = (hb p).length + p.pay.length + c := by rw [hbe, List.length_append, List.length_append, padb_len]
  have hhl : (hb p).length = 12 + 4 * p.csrc.length + (extb p).length := by unfold hb; rw [List.length_append, hl0]
  generalize htl : extb p ++ p.pay ++ padb c = tl
  have eb : b = b0 p :: b1 p :: (bn 2 p.seq ++ (bn 4 p.ts ++ (bn 4 p.ssrc ++ (csb p ++ tl)))) := by
    rw [hbe, ← htl]; unfold hb hb0; simp [List.append_assoc]
  have g0 : b.getD 0 0 = b0 p := by rw [eb]; rfl
  have g1 : b.getD 1 0 = b1 p := by rw [eb]; rfl
  have q0 : b0 p / 64 = 2 ∧ b0 p % 16 = p.csrc.length ∧ (b0 p / 16 % 2 = 1 ↔ p.prof ≠ 0) ∧ (b0 p / 32 % 2 = 1 ↔ 0 < c) := by
    unfold b0
    rw [hcd]
    by_cases e1 : 0 < c <;> by_cases e2 : p.prof = 0
    · rw [if_pos (by omega), if_pos e2]; refine ⟨by omega, by omega, by omega, by omega⟩
    · rw [if_pos (by omega), if_neg e2]; refine ⟨by omega, by omega, by omega, by omega⟩
    · rw [if_neg (by omega), if_pos e2]; refine ⟨by omega, by omega, by omega, by omega⟩
    · rw [if_neg (by omega), if_neg e2]; refine ⟨by omega, by omega, by omega, by omega⟩
  obtain ⟨q01, q02, q03, q04⟩ := q0
  have q1 : decide (b1 p / 128 % 2 = 1) = p.mark ∧ b1 p % 128 = t := by
    unfold b1
    rw [htt]
    cases p.mark
    · rw [if_neg (by decide)]; exact ⟨decide_eq_false (by omega), by omega⟩
    · rw [if_pos rfl]; exact ⟨decide_eq_true (by omega), by omega⟩
  have k1 : be (piece b 2 2) = p.seq := by
    rw [eb, show b0 p :: b1 p :: (bn 2 p.seq ++ (bn 4 p.ts ++ (bn 4 p.ssrc ++ (csb p ++ tl)))) = [b0 p, b1 p] ++ (bn 2 p.seq ++ (bn 4 p.ts ++ (bn 4 p.ssrc ++ (csb p ++ tl)))) from rfl, piece_app (i := 2) rfl (bn_len _ _), be_bn _ _ (by omega)]
  have k2 : be (piece b 4 4) = p.ts := by
    rw [eb, show b0 p :: b1 p :: (bn 2 p.seq ++ (bn 4 p.ts ++ (bn 4 p.ssrc ++ (csb p ++ tl)))) = ([b0 p, b1 p] ++ bn 2 p.seq) ++ (bn 4 p.ts ++ (bn 4 p.ssrc ++ (csb p ++ tl))) by simp, piece_app (by simp [bn_len]) (bn_len _ _), be_bn _ _ (by omega)]
  have k3 : be (piece b 8 4) = p.ssrc := by
    rw [eb, show b0 p :: b1 p :: (bn 2 p.seq ++ (bn 4 p.ts ++ (bn 4 p.ssrc ++ (csb p ++ tl)))) = ([b0 p, b1 p] ++ bn 2 p.seq ++ bn 4 p.ts) ++ (bn 4 p.ssrc ++ (csb p ++ tl)) by simp, piece_app (by simp [bn_len]) (bn_len _ _), be_bn _ _ (by omega)]
  have ed12 : b.drop 12 = csb p ++ tl := by
    rw [eb, show b0 p :: b1 p :: (bn 2 p.seq ++ (bn 4 p.ts ++ (bn 4 p.ssrc ++ (csb p ++ tl)))) = ([b0 p, b1 p] ++ bn 2 p.seq ++ bn 4 p.ts ++ bn 4 p.ssrc) ++ (csb p ++ tl) by simp, List.drop_left' (by simp [bn_len])]
  have hcsn : csn b = p.csrc.length := by unfold csn; rw [g0]; exact q02
  have kc : csrcs b = p.csrc := by
    unfold csrcs
    rw [hcsn]
    refine List.ext_getElem (by simp) fun i h1 h2 => ?_
    rw [List.getElem_map, List.getElem_range]
    have e1 : piece b (12 + 4 * i) 4 = bn 4 p.csrc[i] := by
      unfold piece
      rw [← List.drop_drop, ed12, List.drop_append_of_le_length (by omega), List.take_append_of_le_length (by rw [List.length_drop]; omega)]
      have := flat_piece (k := 4) (p.csrc.map (bn 4)) (fun x hx => by obtain ⟨y, _, rfl⟩ := List.mem_map.1 hx; exact bn_len _ _) i (by rw [List.length_map]; exact h2)
      rw [List.getElem_map, Nat.mul_comm] at this
      exact this
    rw [e1, be_bn _ _ (by have := m4 _ (List.getElem_mem h2); omega)]
  have edx : b.drop (12 + 4 * p.csrc.length) = tl := by
    rw [← List.drop_drop, ed12, List.drop_left' hlc]
  have kx : pextOf b = .ok (p.prof, p.exts, (extb p).length) := by
    unfold pextOf
    rw [g0, hcsn, edx]
    by_cases hz : p.prof = 0
    · rw [if_neg (by rw [q03]; omega), hz, hz0 hz]
      unfold extb; rw [if_pos hz]; first | done | rfl
    · rw [if_pos (by rw [q03]; exact hz)]
      have hpf' := hpf.resolve_left hz
      obtain ⟨f, hf, hf2⟩ : ∃ f : Nat, p.prof = (f : Int) ∧ (f = 48862 ∨ f = 4096) := by
        rcases hpf' with e | e
        · exact ⟨48862, e, .inl rfl⟩
        · exact ⟨4096, e, .inr rfl⟩
      have hft : p.prof.toNat = f := by rw [hf]; rfl
      have e4 : (elems p).length % 4 = 0 := by unfold elems padn; rw [List.length_append, List.length_replicate]; omega
      have hxe : extb p = bn 2 f ++ bn 2 ((elems p).length / 4) ++ elems p := by unfold extb; rw [if_neg hz, hft]
      have hxl : (extb p).length = 4 + (elems p).length := by rw [hxe]; simp only [List.length_append, bn_len]
      have et : tl = bn 2 f ++ (bn 2 ((elems p).length / 4) ++ (elems p ++ (p.pay ++ padb c))) := by rw [← htl, hxe]; simp [List.append_assoc]
      have f1 : be (piece tl 0 2) = f := by
        have := @piece_app [] (bn 2 f) (bn 2 ((elems p).length / 4) ++ (elems p ++ (p.pay ++ padb c))) 0 2 rfl (bn_len _ _)
        rw [et]
        rw [List.nil_append] at this
        rw [this, be_bn _ _ (by omega)]
      have f2 : be (piece tl 2 2) = (elems p).length / 4 := by rw [et, piece_app (bn_len _ _) (bn_len _ _), be_bn _ _ (by omega)]
      have f3 : piece tl 4 (elems p).length = elems p := by
        rw [et, ← List.append_assoc, piece_app (by simp [bn_len]) rfl]
      have f4 : 4 * ((elems p).length / 4) = (elems p).length := by omega
      have ftl : tl.length = 4 + (elems p).length + p.pay.length + c := by rw [← htl, List.length_append, List.length_append, padb_len, hxl]
      unfold pext
      rw [f1, f2, f4, f3, if_neg (by omega), if_neg (by omega), if_neg (by omega), ← hf]
      have := pexts_xs hpf' (padn (xsb p).length) p.exts hgx
      have e5 : elems p = (p.exts.map (xb p.prof)).flatten ++ List.replicate (padn (xsb p).length) 0 := rfl
      rw [e5, this, ← e5, hxl]
  unfold parse
  rw [if_neg (by omega), if_neg (by omega), g0, if_neg (by omega), hcsn, if_neg (by omega), kx]
  dsimp only
  have hat : 12 + 4 * p.csrc.length + (extb p).length = (hb p).length := hhl.symm
  rw [hat]
  have hp : piece b (hb p).length p.pay.length = p.pay := by rw [hbe, List.append_assoc, piece_app rfl rfl]
  have hh : headP b = ⟨p.mark, p.typ, p.seq, p.ts, p.ssrc, [], 0, [], 0, []⟩ := by
    unfold headP
    rw [g1, q1.1, q1.2, k1, k2, k3, htd]
  by_cases hc0 : 0 < c
  · have hlast : b.getD (b.length - 1) 0 = c := by
      have e1 : b = (hb p ++ p.pay ++ List.replicate (c - 1) 0) ++ [c] := by
        rw [hbe]; unfold padb; rw [if_neg (by omega)]; simp
      have e2 : b.length - 1 = (hb p ++ p.pay ++ List.replicate (c - 1) 0).length := by
        rw [hbl]; simp only [List.length_append, List.length_replicate]; omega
      have e3 : b[(hb p ++ p.pay ++ List.replicate (c - 1) 0).length]? = some c := by
        generalize hb p ++ p.pay ++ List.replicate (c - 1) 0 = m at *
        rw [e1]
        simp
      rw [e2, List.getD_eq_getElem?_getD, e3]; rfl
    rw [if_pos (q04.2 hc0), hlast, if_neg (by omega), hbl, show (hb p).length + p.pay.length + c - (hb p).length - c = p.pay.length by omega, hp, hh, kc, ← hcd]
  · rw [if_neg (fun e => hc0 (q04.1 e)), hbl, show (hb p).length + p.pay.length + c - (hb p).length = p.pay.length by omega, hp, hh, kc]
    have : p.pad = 0 := by omega
    rw [← this]

end Go.Ax.R7
