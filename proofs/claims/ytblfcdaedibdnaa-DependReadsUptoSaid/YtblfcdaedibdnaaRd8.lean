/-
  Texts of mine, put together by program (wip/slim.py), for law_dependReads: part 8.
-/
import Derived.Test.YtblfcdaedibdnaaRd7
/- DepRh -/
set_option maxRecDepth 100000
set_option linter.unusedVariables false
set_option linter.unusedSimpArgs false
namespace Go.Ax.D9
open Go.Ax B6
theorem tail_err {f : Fr} {s : Sr} {o : Option Tm} {og : S (List Int)} (h : Stb og) {σ : St} {act c : Int} (ea : (if f.has = true then rd s.tar.toNat else sp 0) σ = (act, .error c)) : (tailS f s o og σ).2 = .error c := by
  rw [tailS_eq, sb_eq ea]
  refine stb_bind (x := tmS o) ?_ (fun t => stb_bind (stb_ite (stb_nums _ _) (stb_pure _)) fun d => stb_bind (stb_ite h (stb_pure _)) fun e => stb_bind (stb_ite (stb_nums _ _) (stb_pure _)) fun c => stb_bind stb_zeros fun _ => stb_pure _) c
  cases o with
  | none => exact stb_bind (stb_fail _) fun _ => stb_pure _
  | some t => exact stb_pure _
theorem cut_err {x : Fr × St} {c : Int} (h : x.2 = .error c) : cut x = (Fr0, .error c) := by unfold cut; rw [h]
theorem tail_own {f : Fr} {s : Sr} {t : Tm} {σ σ2 : St} {act : Int} (ea : (if f.has = true then rd s.tar.toNat else sp 0) σ = (act, σ2)) :
    tailS f s (some t) (ogD 17 []) σ = ({ f with act := act.toNat, dti := (ownS f t s.tar.toNat s.cha.toNat σ2).1.1, dif := (ownS f t s.tar.toNat s.cha.toNat σ2).1.2.1, cha := (ownS f t s.tar.toNat s.cha.toNat σ2).1.2.2 }, (zeros (ownS f t s.tar.toNat s.cha.toNat σ2).2).2) := by
  rw [tailS_eq, sb_eq ea]; rfl
theorem tail_none {f : Fr} {s : Sr} {σ : St} {act : Int} {bs : List Bool} (ea : (if f.has = true then rd s.tar.toNat else sp 0) σ = (act, .ok bs)) : (tailS f s none (ogD 17 []) σ).2 = .error 2 := by
  rw [tailS_eq, sb_eq ea]
  have : (sb (tmS none) (fun t => sb (if f.od then nums s.tar.toNat 2 else sp t.dti) fun d => sb (if f.of' then ogD 17 [] else sp t.dif) fun e => sb (if f.oc then nums s.cha.toNat 8 else sp t.cha) fun c => sb zeros fun _ => sp { f with act := act.toNat, dti := d, dif := e, cha := c })) (.ok bs) = (sb (if f.od then nums s.tar.toNat 2 else sp Tm0.dti) fun d => sb (if f.of' then ogD 17 [] else sp Tm0.dif) fun e => sb (if f.oc then nums s.cha.toNat 8 else sp Tm0.cha) fun c => sb zeros fun _ => sp { f with act := act.toNat, dti := d, dif := e, cha := c }) (.error 2) := rfl
  rw [this]
  exact stb_bind (stb_ite (stb_nums _ _) (stb_pure _)) (fun d => stb_bind (stb_ite (stb_ogD _ _) (stb_pure _)) fun e => stb_bind (stb_ite (stb_nums _ _) (stb_pure _)) fun c => stb_bind stb_zeros fun _ => stb_pure _) 2

theorem sr0_o : SrO Sr0 := ⟨by decide, by decide, by decide, fun t h => (by cases h), by decide, ⟨by decide, by decide⟩, by decide, by decide⟩

theorem zeros_ok {σ : St} {bs : List Bool} (h : (zeros σ).2 = .ok bs) : ∃ bs', σ = .ok bs' := by
  cases σ with
  | ok bs' => exact ⟨bs', rfl⟩
  | error e => cases h

theorem strD_fine {σ : St} {bs : List Bool} (h : (strS wayD σ).2 = .ok bs) : Fine (strS wayD σ).1 := by
  obtain ⟨h1, h2⟩ := sim_str σ
  rw [← h2 bs (h1.trans h)]
  exact strS_fine (bs := bs) (by rw [← h, ← h1])

set_option maxHeartbeats 6400000 in
theorem Parse2_ok {H : Heap} {v w : V} {l : List Nat} {k : Sr} (hv : Ar by8 v l) (hlt : ∀ i (h : i < l.length), l[i] < 256) (hl : l.length ≤ 1048576) (hk : SrR 0 H w k) (ko : SrO k) :
    Ok (sem T fn_palanquinref9_Parse [v, w]) H fun r H' => PRes (parseB bodyD (decide (3 < l.length)) (ub l) k) r H' ∧ Grow H H' := by
  obtain ⟨kp, kq, kr, rfl, hk⟩ := hk
  have kts := hk.ts.cel
  have kpr := hk.pro.cel
  have ksi := hk.siz.cel
  have hvl := hv.vlen
  refine ok_palanquinref9_Parse ?_
  unfold f_palanquinref9_Parse
  unfold scells
  simp (maxSteps := 1000000) (disch := first | omega | (simp only [RY] <;> omega) | decide) only [↓RD, RZ, eq_self, Int.reduceToNat, Int.reduceAdd, Int.reduceSub, Int.reduceMul, Nat.reduceAdd, Nat.reduceSub, Nat.reduceMul, Nat.reduceDiv, Nat.reduceMod, Nat.reduceBEq, Nat.reduceLeDiff, kts.1, kts.2, kpr.1, kpr.2, ksi.1, ksi.2, hv.cells1, hv.okc]
  generalize hH3 : Heap.new (Heap.new (Heap.new (Heap.new H _) _) _) _ = H3
  have s13 : Grow H H3 := by rw [← hH3]; exact (((Grow.new _ _).trans (Grow.new _ _)).trans (Grow.new _ _)).trans (Grow.new _ _)
  have n3 : H3.next = H.next + 4 := by rw [← hH3]; rfl
  have k3 : H3.get H.next = some ⟨ty_palanquinref9_Structure, [.int .i64 k.off, .int .i64 k.tar, kp, .int .i64 k.cha, kq, kr], none⟩ := by rw [← hH3]; simp (maxSteps := 1000000) (disch := first | omega | (simp only [RY] <;> omega) | decide) only [↓RD, RZ, eq_self, Int.reduceToNat, Int.reduceAdd, Int.reduceSub, Int.reduceMul, Nat.reduceAdd, Nat.reduceSub, Nat.reduceMul, Nat.reduceDiv, Nat.reduceMod, Nat.reduceBEq, Nat.reduceLeDiff]
  have z3 : H3.get (H.next + 1) = some ⟨ty_palanquinref9_Frame, hcells Fr0, none⟩ := by rw [← hH3]; unfold hcells fcells; simp (maxSteps := 1000000) (disch := first | omega | (simp only [RY] <;> omega) | decide) only [↓RD, RZ, eq_self, Int.reduceToNat, Int.reduceAdd, Int.reduceSub, Int.reduceMul, Nat.reduceAdd, Nat.reduceSub, Nat.reduceMul, Nat.reduceDiv, Nat.reduceMod, Nat.reduceBEq, Nat.reduceLeDiff]; rfl
  have r3 : H3.get (H.next + 2) = some ⟨ty_palanquinref6_Reader, [v, .int .i64 ((0 : Nat) : Int)], none⟩ := by rw [← hH3]; simp (maxSteps := 1000000) (disch := first | omega | (simp only [RY] <;> omega) | decide) only [↓RD, RZ, eq_self, Int.reduceToNat, Int.reduceAdd, Int.reduceSub, Int.reduceMul, Nat.reduceAdd, Nat.reduceSub, Nat.reduceMul, Nat.reduceDiv, Nat.reduceMod, Nat.reduceBEq, Nat.reduceLeDiff]; rfl
  have g3 : H3.get (H.next + 3) = some ⟨ty_palanquinref9_reader, [.ptr (H.next + 2) 0, .int .i64 0], none⟩ := by rw [← hH3]; simp (maxSteps := 1000000) (disch := first | omega | (simp only [RY] <;> omega) | decide) only [↓RD, RZ, eq_self, Int.reduceToNat, Int.reduceAdd, Int.reduceSub, Int.reduceMul, Nat.reduceAdd, Nat.reduceSub, Nat.reduceMul, Nat.reduceDiv, Nat.reduceMod, Nat.reduceBEq, Nat.reduceLeDiff]
  clear hH3
  have p3 : Dr (H.next + 2) (H.next + 4) (H.next + 3) (.ok (ub l)) H3 :=
    ⟨⟨H.next + 2, 0, 0, l, g3, ⟨⟨v, r3, hv⟩, by omega, hlt, by omega, by omega⟩, by omega, by omega, rfl, by rw [List.drop_zero]⟩, by omega, by omega, by omega⟩
  refine ok_bind' (dn_ok p3 1 (by decide)) ?_
  rintro _ H4 ⟨rfl, p4, q4⟩
  obtain ⟨v1, σ1, e1⟩ := pr_ex (rd 1 (.ok (ub l)))
  rw [e1] at p4 ⊢
  dsimp only at p4 ⊢
  simp (maxSteps := 1000000) (disch := first | omega | (simp only [RY] <;> omega) | decide) only [↓RD, RZ, eq_self, Int.reduceToNat, Int.reduceAdd, Int.reduceSub, Int.reduceMul, Nat.reduceAdd, Nat.reduceSub, Nat.reduceMul, Nat.reduceDiv, Nat.reduceMod, Nat.reduceBEq, Nat.reduceLeDiff]
  refine ok_bind' (dn_ok p4 1 (by decide)) ?_
  rintro _ H5 ⟨rfl, p5, q5⟩
  obtain ⟨v2, σ2, e2⟩ := pr_ex (rd 1 σ1)
  rw [e2] at p5 ⊢
  dsimp only at p5 ⊢
  simp (maxSteps := 1000000) (disch := first | omega | (simp only [RY] <;> omega) | decide) only [↓RD, RZ, eq_self, Int.reduceToNat, Int.reduceAdd, Int.reduceSub, Int.reduceMul, Nat.reduceAdd, Nat.reduceSub, Nat.reduceMul, Nat.reduceDiv, Nat.reduceMod, Nat.reduceBEq, Nat.reduceLeDiff]
  refine ok_bind' (dn_ok p5 6 (by decide)) ?_
  rintro _ H6 ⟨rfl, p6, q6⟩
  have r3 := rd_hi (n := 6) (hi := 63) (by decide) σ2
  obtain ⟨v3, σ3, e3⟩ := pr_ex (rd 6 σ2)
  rw [e3] at p6 r3 ⊢
  dsimp only at p6 r3 ⊢
  refine ok_bind' (dn_ok p6 16 (by decide)) ?_
  rintro _ H7 ⟨rfl, p7, q7⟩
  have r4 := rd_hi (n := 16) (hi := 65535) (by decide) σ3
  obtain ⟨v4, σ4, e4⟩ := pr_ex (rd 16 σ3)
  rw [e4] at p7 r4 ⊢
  dsimp only at p7 r4 ⊢
  obtain ⟨v4, rfl⟩ := Int.eq_ofNat_of_zero_le r4.1
  have q37 := ((q4.trans q5).trans q6).trans q7
  have n7 := q37.next
  have k7 : H7.get H.next = _ := (q37.same _ (by omega) (by omega)).trans k3
  have z7 : H7.get (H.next + 1) = _ := (q37.same _ (by omega) (by omega)).trans z3
  have s17 : Grow H H7 := Ko.grow s13 (by omega) q37
  have hw4 : IntKind.u16.wrap (v4 : Int) = (v4 : Nat) := wrapin_u16 (by omega) (by omega)
  have b1 : (v1 == 1) = decide (v1 = 1) := Bool.beq_eq_decide_eq ..
  have b2 : (v2 == 1) = decide (v2 = 1) := Bool.beq_eq_decide_eq ..
  simp (maxSteps := 1000000) (disch := first | omega | (simp only [RY] <;> omega) | decide) only [↓RD, RZ, eq_self, Int.reduceToNat, Int.reduceAdd, Int.reduceSub, Int.reduceMul, Nat.reduceAdd, Nat.reduceSub, Nat.reduceMul, Nat.reduceDiv, Nat.reduceMod, Nat.reduceBEq, Nat.reduceLeDiff, hvl, hw4, b1, b2]
  generalize hH8 : Heap.set (Heap.new H7 _) _ _ = H8
  have s8 : Grow H7 H8 := by rw [← hH8]; exact (Grow.new _ _).set (Nat.le_refl _) _
  have n8 : H8.next = H7.next + 1 := by rw [← hH8]; rfl
  have f8 : H8.get H7.next = some ⟨ty_palanquinref9_Frame, [.bool (decide (v1 = 1)), .bool (decide (v2 = 1)), .int .i64 v3, .int .u16 (v4 : Nat), .bool false, .int .i64 0, .int .i64 0, .nils, .int .i64 0, .nils, .nils, .bool false, .int .u32 0, .bool false, .bool false, .bool false, .nils, .nils, .nils], none⟩ := by rw [← hH8]; simp (maxSteps := 1000000) (disch := first | omega | (simp only [RY] <;> omega) | decide) only [↓RD, RZ, eq_self, Int.reduceToNat, Int.reduceAdd, Int.reduceSub, Int.reduceMul, Nat.reduceAdd, Nat.reduceSub, Nat.reduceMul, Nat.reduceDiv, Nat.reduceMod, Nat.reduceBEq, Nat.reduceLeDiff]
  clear hH8
  have S8 : PS ty_palanquinref9_Structure ty_palanquinref9_Frame (Dr (H.next + 2) (H.next + 4) (H.next + 3)) (H.next + 2) (H.next + 4) H H7.next [.int .i64 k.off, .int .i64 k.tar, kp, .int .i64 k.cha, kq, kr] [.bool (decide (v1 = 1)), .bool (decide (v2 = 1)), .int .i64 v3, .int .u16 (v4 : Nat), .bool false, .int .i64 0, .int .i64 0, .nils, .int .i64 0, .nils, .nils, .bool false, .int .u32 0, .bool false, .bool false, .bool false, .nils, .nils, .nils] σ4 H8 :=
    ⟨p7.grow s8, s17.trans s8, (s8.same _ (by omega)).trans k7, (s8.same _ (by omega)).trans z7, f8, by omega⟩
  have hR := rlD (H.next + 2) (H.next + 4) (H.next + 3)
  obtain ⟨f0, σh, eh⟩ := pr_ex (headS (decide (3 < l.length)) (.ok (ub l)))
  rw [parseB_aft eh]
  refine ok_mono (Q := fun r H' => r = .nrm [] ∧ PS ty_palanquinref9_Structure ty_palanquinref9_Frame (Dr (H.next + 2) (H.next + 4) (H.next + 3)) (H.next + 2) (H.next + 4) H H7.next [.int .i64 k.off, .int .i64 k.tar, kp, .int .i64 k.cha, kq, kr] (hcells f0) σh H' ∧ (0 ≤ f0.id ∧ f0.id ≤ 63 ∧ f0.num < 65536 ∧ f0.s = Sr0 ∧ f0.act = 0 ∧ f0.dti = [] ∧ f0.dif = [] ∧ f0.cha = [])) ?_ ?_
  · unfold headS at eh
    rw [sb_eq e1, sb_eq e2, sb_eq e3, sb_eq e4] at eh
    by_cases hm : 3 < l.length
    · rw [decide_eq_true hm] at eh
      simp only [if_true] at eh
      simp (maxSteps := 1000000) (disch := first | omega | (simp only [RY] <;> omega) | decide) only [↓RD, RZ, eq_self, Int.reduceToNat, Int.reduceAdd, Int.reduceSub, Int.reduceMul, Nat.reduceAdd, Nat.reduceSub, Nat.reduceMul, Nat.reduceDiv, Nat.reduceMod, Nat.reduceBEq, Nat.reduceLeDiff, hvl]
      refine ok_bind' (dn_ok S8.pr 1 (by decide)) ?_
      rintro _ Ha ⟨rfl, pa, qa⟩
      have Sa := S8.ko pa qa
      obtain ⟨w1, τ1, d1⟩ := pr_ex (rd 1 σ4)
      rw [d1] at pa Sa ⊢
      dsimp only at pa Sa ⊢
      simp (maxSteps := 1000000) (disch := first | omega | (simp only [RY] <;> omega) | decide) only [↓RD, RZ, eq_self, Int.reduceToNat, Int.reduceAdd, Int.reduceSub, Int.reduceMul, Nat.reduceAdd, Nat.reduceSub, Nat.reduceMul, Nat.reduceDiv, Nat.reduceMod, Nat.reduceBEq, Nat.reduceLeDiff]
      refine ok_bind' (dn_ok pa 1 (by decide)) ?_
      rintro _ Hb ⟨rfl, pb, qb⟩
      have Sb := Sa.ko pb qb
      obtain ⟨w2, τ2, d2⟩ := pr_ex (rd 1 τ1)
      rw [d2] at pb Sb ⊢
      dsimp only at pb Sb ⊢
      simp (maxSteps := 1000000) (disch := first | omega | (simp only [RY] <;> omega) | decide) only [↓RD, RZ, eq_self, Int.reduceToNat, Int.reduceAdd, Int.reduceSub, Int.reduceMul, Nat.reduceAdd, Nat.reduceSub, Nat.reduceMul, Nat.reduceDiv, Nat.reduceMod, Nat.reduceBEq, Nat.reduceLeDiff]
      refine ok_bind' (dn_ok pb 1 (by decide)) ?_
      rintro _ Hd ⟨rfl, pd, qd⟩
      have Sd := Sb.ko pd qd
      obtain ⟨w3, τ3, d3⟩ := pr_ex (rd 1 τ2)
      rw [d3] at pd Sd ⊢
      dsimp only at pd Sd ⊢
      have bw1 : (w1 == 1) = decide (w1 = 1) := Bool.beq_eq_decide_eq ..
      have bw2 : (w2 == 1) = decide (w2 = 1) := Bool.beq_eq_decide_eq ..
      have bw3 : (w3 == 1) = decide (w3 = 1) := Bool.beq_eq_decide_eq ..
      simp (maxSteps := 1000000) (disch := first | omega | (simp only [RY] <;> omega) | decide) only [↓RD, RZ, eq_self, Int.reduceToNat, Int.reduceAdd, Int.reduceSub, Int.reduceMul, Nat.reduceAdd, Nat.reduceSub, Nat.reduceMul, Nat.reduceDiv, Nat.reduceMod, Nat.reduceBEq, Nat.reduceLeDiff, Sd.gf, bw1, bw2, bw3, heap_set_set]
      generalize hHc : Heap.set Hd H7.next _ = Hc
      have Sc := Sd.setf hR [.bool (decide (v1 = 1)), .bool (decide (v2 = 1)), .int .i64 v3, .int .u16 (v4 : Nat), .bool (decide (w1 = 1)), .int .i64 0, .int .i64 0, .nils, .int .i64 0, .nils, .nils, .bool (decide (w2 = 1)), .int .u32 0, .bool (decide (w3 = 1)), .bool false, .bool false, .nils, .nils, .nils]
      rw [hHc] at Sc
      clear hHc
      refine ok_bind' (dn_ok Sc.pr 1 (by decide)) ?_
      rintro _ He ⟨rfl, pe, qe⟩
      have Se := Sc.ko pe qe
      obtain ⟨w4, τ4, d4⟩ := pr_ex (rd 1 τ3)
      rw [d4] at pe Se ⊢
      dsimp only at pe Se ⊢
      simp (maxSteps := 1000000) (disch := first | omega | (simp only [RY] <;> omega) | decide) only [↓RD, RZ, eq_self, Int.reduceToNat, Int.reduceAdd, Int.reduceSub, Int.reduceMul, Nat.reduceAdd, Nat.reduceSub, Nat.reduceMul, Nat.reduceDiv, Nat.reduceMod, Nat.reduceBEq, Nat.reduceLeDiff]
      refine ok_bind' (dn_ok pe 1 (by decide)) ?_
      rintro _ Hf ⟨rfl, pf, qf⟩
      have Sf := Se.ko pf qf
      obtain ⟨w5, τ5, d5⟩ := pr_ex (rd 1 τ4)
      rw [d5] at pf Sf ⊢
      dsimp only at pf Sf ⊢
      have bw4 : (w4 == 1) = decide (w4 = 1) := Bool.beq_eq_decide_eq ..
      have bw5 : (w5 == 1) = decide (w5 = 1) := Bool.beq_eq_decide_eq ..
      simp (maxSteps := 1000000) (disch := first | omega | (simp only [RY] <;> omega) | decide) only [↓RD, RZ, eq_self, Int.reduceToNat, Int.reduceAdd, Int.reduceSub, Int.reduceMul, Nat.reduceAdd, Nat.reduceSub, Nat.reduceMul, Nat.reduceDiv, Nat.reduceMod, Nat.reduceBEq, Nat.reduceLeDiff, Sf.gf, bw4, bw5, heap_set_set]
      rw [sb_eq d1, sb_eq d2, sb_eq d3, sb_eq d4, sb_eq d5] at eh
      obtain ⟨rfl, rfl⟩ := Prod.mk.inj eh
      have Sg := Sf.setf hR [.bool (decide (v1 = 1)), .bool (decide (v2 = 1)), .int .i64 v3, .int .u16 (v4 : Nat), .bool (decide (w1 = 1)), .int .i64 0, .int .i64 0, .nils, .int .i64 0, .nils, .nils, .bool (decide (w2 = 1)), .int .u32 0, .bool (decide (w3 = 1)), .bool (decide (w4 = 1)), .bool (decide (w5 = 1)), .nils, .nils, .nils]
      exact ⟨Sg, r3.1, r3.2, by show v4 < 65536; omega, rfl, rfl, rfl, rfl, rfl⟩
    · rw [decide_eq_false hm] at eh
      simp only [Bool.false_eq_true, if_false] at eh
      obtain ⟨rfl, rfl⟩ := Prod.mk.inj eh
      simp (maxSteps := 1000000) (disch := first | omega | (simp only [RY] <;> omega) | decide) only [↓RD, RZ, eq_self, Int.reduceToNat, Int.reduceAdd, Int.reduceSub, Int.reduceMul, Nat.reduceAdd, Nat.reduceSub, Nat.reduceMul, Nat.reduceDiv, Nat.reduceMod, Nat.reduceBEq, Nat.reduceLeDiff, hvl]
      exact ⟨S8, r3.1, r3.2, by show v4 < 65536; omega, rfl, rfl, rfl, rfl, rfl⟩
  · rintro _ H9 ⟨rfl, S9, i0, i1, num0, fs0, fa0, fd0, fe0, fc0⟩
    have b9 := S9.bs
    have T9 : PT ty_palanquinref9_Structure ty_palanquinref9_Frame (Dr (H.next + 2) (H.next + 4) (H.next + 3)) (H.next + 2, H.next + 4) H H7.next [.int .i64 k.off, .int .i64 k.tar, kp, .int .i64 k.cha, kq, kr] [] f0 .nils .nils .nils .nils .nils .nils σh H9 :=
      ⟨S9, by refine ⟨by rw [fs0]; exact SrC.zero, by rw [fd0]; exact Lc.nil, by rw [fe0]; exact Lc.nil, by rw [fc0]; exact Lc.nil⟩, fun k hk => by cases hk⟩
    have f9 := S9.gf
    have k9 := S9.g3
    unfold hcells fcells at f9
    simp (maxSteps := 1000000) (disch := first | omega | (simp only [RY] <;> omega) | decide) only [↓RD, RZ, eq_self, Int.reduceToNat, Int.reduceAdd, Int.reduceSub, Int.reduceMul, Nat.reduceAdd, Nat.reduceSub, Nat.reduceMul, Nat.reduceDiv, Nat.reduceMod, Nat.reduceBEq, Nat.reduceLeDiff, k9, f9, kts.1, kts.2, kpr.1, kpr.2, ksi.1, ksi.2]
    generalize hHa : Heap.set (Heap.new H9 _) _ _ = Ha
    have sa : Grow H9 Ha := by rw [← hHa]; exact (Grow.new _ _).set (Nat.le_refl _) _
    have na : Ha.next = H9.next + 1 := by rw [← hHa]; rfl
    have g8 : Ha.get H9.next = some ⟨ty_palanquinref9_Structure, [.int .i64 k.off, .int .i64 k.tar, kp, .int .i64 k.cha, kq, kr], none⟩ := by rw [← hHa]; simp (maxSteps := 1000000) (disch := first | omega | (simp only [RY] <;> omega) | decide) only [↓RD, RZ, eq_self, Int.reduceToNat, Int.reduceAdd, Int.reduceSub, Int.reduceMul, Nat.reduceAdd, Nat.reduceSub, Nat.reduceMul, Nat.reduceDiv, Nat.reduceMod, Nat.reduceBEq, Nat.reduceLeDiff]
    clear hHa
    have Ta := (T9.grow hR sa).add (id := H9.next) (by omega) (by omega) g8
    refine ok_mono (Q := fun r H' => r = .nrm [] ∧ ∃ f1 a b c x y z s σ', PT ty_palanquinref9_Structure ty_palanquinref9_Frame (Dr (H.next + 2) (H.next + 4) (H.next + 3)) (H.next + 2, H.next + 4) H H7.next [.int .i64 k.off, .int .i64 k.tar, kp, .int .i64 k.cha, kq, kr] [(H9.next, ⟨ty_palanquinref9_Structure, [.int .i64 s.off, .int .i64 s.tar, x, .int .i64 s.cha, y, z], none⟩)] f1 a b c .nils .nils .nils σ' H' ∧ f1.act = 0 ∧ f1.id = f0.id ∧ f1.num = f0.num ∧ HoC f1 a b c kp kq kr x y z ∧ s = hold f1 k ∧ (f1.s = Sr0 ∨ f1.s = s) ∧ f1.dti = [] ∧ f1.dif = [] ∧ f1.cha = [] ∧ ((∃ bs, σ' = .ok bs) → Fine s) ∧ aftH bodyD f0 k σh = cut (tailS f1 s (tmOf s f1.id) (ogD 17 []) σ')) ?_ ?_
    · cases hn : f0.new with
      | true =>
        simp (maxSteps := 1000000) (disch := first | omega | (simp only [RY] <;> omega) | decide) only [↓RD, RZ, eq_self, Int.reduceToNat, Int.reduceAdd, Int.reduceSub, Int.reduceMul, Nat.reduceAdd, Nat.reduceSub, Nat.reduceMul, Nat.reduceDiv, Nat.reduceMod, Nat.reduceBEq, Nat.reduceLeDiff]
        refine ok_bind' (dstructure_ok Ta.s.pr) ?_
        rintro _ Hb ⟨s, ⟨x, y, z, rfl, hs⟩, hso, pb, qb⟩
        have Tb := Ta.ko pb qb
        have nb := qb.next
        have fb := Tb.s.gf
        obtain ⟨g8b, -, -⟩ := Tb.get
        have cx := hs.ts.cel
        have cy := hs.pro.cel
        have cz := hs.siz.cel
        unfold fcells at fb
        unfold scells
        rw [hn] at fb
        simp (maxSteps := 1000000) (disch := first | omega | (simp only [RY] <;> omega) | decide) only [↓RD, RZ, eq_self, Int.reduceToNat, Int.reduceAdd, Int.reduceSub, Int.reduceMul, Nat.reduceAdd, Nat.reduceSub, Nat.reduceMul, Nat.reduceDiv, Nat.reduceMod, Nat.reduceBEq, Nat.reduceLeDiff, fb, cx.1, cx.2, cy.1, cy.2, cz.1, cz.2, g8b]
        have hh : hold { f0 with s := s } k = s := by unfold hold; rw [if_pos hn]
        refine ⟨{ f0 with s := s }, x, y, z, x, y, z, s, (strS wayD σh).2, ?_, fa0, rfl, rfl, ?_, hh.symm, .inr rfl, fd0, fe0, fc0, ?_, ?_⟩
        rotate_left
        · unfold HoC; rw [if_pos hn]; exact ⟨rfl, rfl, rfl⟩
        · rintro ⟨bs, hb⟩
          rw [hso ⟨bs, hb⟩]; exact strD_fine hb
        · cases σh with
          | error c =>
            have e : (strS wayD (.error c)).2 = .error c := stb_strD c
            rw [e, cut_err (stb_tail (stb_ogD _ _) c)]; rfl
          | ok bs =>
            show bodyD f0 k (.ok bs) = _
            unfold bodyD
            rw [if_pos hn]
            dsimp only
            cases e : (strS wayD (.ok bs)).2 with
            | error c => rw [cut_err (stb_tail (stb_ogD _ _) c), cut_err (stb_tail (stb_ogD _ _) c)]
            | ok bs' => rw [← hso ⟨bs', e⟩]
        · have P1 := Tb.s.setf hR (fcells { f0 with s := s } x y z .nils .nils .nils)
          have P2 := P1.setw hR (w := H9.next) (by omega) (some ⟨ty_palanquinref9_Structure, [.int .i64 s.off, .int .i64 s.tar, x, .int .i64 s.cha, y, z], none⟩)
          have e : fcells { f0 with s := s } x y z .nils .nils .nils = [.bool f0.st, .bool f0.en, .int .i64 f0.id, .int .u16 f0.num, .bool true, .int .i64 s.off, .int .i64 s.tar, x, .int .i64 s.cha, y, z, .bool f0.has, .int .u32 f0.act, .bool f0.od, .bool f0.of', .bool f0.oc, .nils, .nils, .nils] := by
            unfold fcells; dsimp only; rw [hn]
          have kk : Keep Ha.next Hb ((Hb.set H7.next (some ⟨ty_palanquinref9_Frame, fcells { f0 with s := s } x y z .nils .nils .nils, none⟩)).set H9.next (some ⟨ty_palanquinref9_Structure, [.int .i64 s.off, .int .i64 s.tar, x, .int .i64 s.cha, y, z], none⟩)) := (Keep.set Hb (by omega) _).trans (Keep.set _ (by omega) _)
          have hs2 := (hs.keep kk).low (lo' := H7.next + 1) (by omega)
          rw [e] at hs2
          refine ⟨?_, ⟨hs2, by show Il _ _ _ f0.dti; rw [fd0]; exact Lc.nil, by show Il _ _ _ f0.dif; rw [fe0]; exact Lc.nil, by show Il _ _ _ f0.cha; rw [fc0]; exact Lc.nil⟩, fun q hq => ?_⟩
          · rw [← e]; exact P2
          · simp only [List.mem_singleton] at hq
            subst hq
            refine ⟨by dsimp only; omega, by dsimp only; rw [next_set, next_set]; omega, get_set_self _ _ _⟩
      | false =>
        have ka := Ta.s.g3
        simp (maxSteps := 1000000) (disch := first | omega | (simp only [RY] <;> omega) | decide) only [↓RD, RZ, eq_self, Int.reduceToNat, Int.reduceAdd, Int.reduceSub, Int.reduceMul, Nat.reduceAdd, Nat.reduceSub, Nat.reduceMul, Nat.reduceDiv, Nat.reduceMod, Nat.reduceBEq, Nat.reduceLeDiff, ka]
        refine ok_bind' (Fine2_ok (hk.ext Ta.s.gr).val ko) ?_
        rintro _ Hb ⟨rfl, sb'⟩
        have Tb := Ta.grow hR sb'
        have hh : hold f0 k = k := by unfold hold; rw [if_neg (by rw [hn]; decide)]
        have hoc : HoC f0 .nils .nils .nils kp kq kr kp kq kr := by unfold HoC; rw [if_neg (by rw [hn]; decide)]; exact ⟨rfl, rfl, rfl⟩
        cases hfi : fine k with
        | false =>
          simp (maxSteps := 1000000) (disch := first | omega | (simp only [RY] <;> omega) | decide) only [↓RD, RZ, eq_self, Int.reduceToNat, Int.reduceAdd, Int.reduceSub, Int.reduceMul, Nat.reduceAdd, Nat.reduceSub, Nat.reduceMul, Nat.reduceDiv, Nat.reduceMod, Nat.reduceBEq, Nat.reduceLeDiff]
          refine ok_bind' (dbad_ok Tb.s.pr 2 (by decide)) ?_
          rintro _ Hc ⟨pc, qc⟩
          simp (maxSteps := 1000000) (disch := first | omega | (simp only [RY] <;> omega) | decide) only [↓RD, RZ, eq_self, Int.reduceToNat, Int.reduceAdd, Int.reduceSub, Int.reduceMul, Nat.reduceAdd, Nat.reduceSub, Nat.reduceMul, Nat.reduceDiv, Nat.reduceMod, Nat.reduceBEq, Nat.reduceLeDiff]
          refine ⟨f0, _, _, _, _, _, _, k, _, Tb.ko pc qc, fa0, rfl, rfl, hoc, hh.symm, .inl fs0, fd0, fe0, fc0, fun ⟨bs, hb⟩ => ?_, ?_⟩
          · obtain ⟨c, hc⟩ := fail_err 2 σh; rw [hc] at hb; cases hb
          · obtain ⟨c, hc⟩ := fail_err 2 σh
            rw [hc, cut_err (stb_tail (stb_ogD _ _) c)]
            cases σh with
            | error c' => rw [← hc]; rfl
            | ok bs =>
              show bodyD f0 k (.ok bs) = _
              unfold bodyD
              rw [if_neg (by rw [hn]; decide), if_neg (by rw [hfi]; decide), ← hc]; rfl
        | true =>
          simp (maxSteps := 1000000) (disch := first | omega | (simp only [RY] <;> omega) | decide) only [↓RD, RZ, eq_self, Int.reduceToNat, Int.reduceAdd, Int.reduceSub, Int.reduceMul, Nat.reduceAdd, Nat.reduceSub, Nat.reduceMul, Nat.reduceDiv, Nat.reduceMod, Nat.reduceBEq, Nat.reduceLeDiff]
          refine ⟨f0, _, _, _, _, _, _, k, _, Tb, fa0, rfl, rfl, hoc, hh.symm, .inl fs0, fd0, fe0, fc0, fun _ => fine_iff.1 hfi, ?_⟩
          cases σh with
          | error c => exact (cut_err (stb_tail (stb_ogD _ _) c)).symm
          | ok bs =>
            show bodyD f0 k (.ok bs) = _
            unfold bodyD
            rw [if_neg (by rw [hn]; decide), if_pos hfi]
    · rintro _ Hb ⟨rfl, f1, a, b, c, x, y, z, s, σ', Tb, hact, hid, hnum, hoc, hs', hfs, hd1, hd2, hd3, hF, hE⟩
      rw [hE]
      clear hE S9 T9 Ta
      have bb := Tb.s.bs
      have fb := Tb.s.gf
      unfold fcells at fb
      simp (maxSteps := 1000000) (disch := first | omega | (simp only [RY] <;> omega) | decide) only [↓RD, RZ, eq_self, Int.reduceToNat, Int.reduceAdd, Int.reduceSub, Int.reduceMul, Nat.reduceAdd, Nat.reduceSub, Nat.reduceMul, Nat.reduceDiv, Nat.reduceMod, Nat.reduceBEq, Nat.reduceLeDiff, fb]
      rw [okB_def]
      simp only [bind_join]
      rw [ok_join_iff]
      have hn3 : H.next + 1 + 1 + 1 = H.next + 3 := rfl
      obtain ⟨g8b, b8a, b8b⟩ := Tb.get
      obtain ⟨rkb, gb⟩ := Tb.s.pr.get
      obtain ⟨act, σ2, ea⟩ := pr_ex ((if f1.has = true then rd s.tar.toNat else sp 0) σ')
      obtain ⟨f2, hf2⟩ : ∃ f2 : Fr, f2 = { f1 with act := act.toNat } := ⟨_, rfl⟩
      refine ok_mono (Q := fun r H' => r = .nrm [] ∧ PT ty_palanquinref9_Structure ty_palanquinref9_Frame (Dr (H.next + 2) (H.next + 4) (H.next + 3)) (H.next + 2, H.next + 4) H H7.next [.int .i64 k.off, .int .i64 k.tar, kp, .int .i64 k.cha, kq, kr] [(H9.next, ⟨ty_palanquinref9_Structure, [.int .i64 s.off, .int .i64 s.tar, x, .int .i64 s.cha, y, z], none⟩)] f2 a b c .nils .nils .nils σ2 H' ∧ f2.act < 4294967296) ?_ ?_
      · cases σ' with
        | error e =>
          obtain ⟨-, -, c3⟩ := Tb.s.pr.rng
          have hc : St.err (.error e) ≠ 0 := fun h => by obtain ⟨bs, hb⟩ := c3.1 h; cases hb
          have e1 : act = 0 ∧ σ2 = .error e := by
            split at ea
            · cases ea; exact ⟨rfl, rfl⟩
            · cases ea; exact ⟨rfl, rfl⟩
          rw [e1.1] at hf2
          rw [hf2, act0 hact, e1.2]
          rcases Bool.eq_false_or_eq_true f1.has with hhas | hhas
          · simp (maxSteps := 1000000) (disch := first | omega | (simp only [RY] <;> omega) | decide) only [↓RD, RZ, eq_self, Int.reduceToNat, Int.reduceAdd, Int.reduceSub, Int.reduceMul, Nat.reduceAdd, Nat.reduceSub, Nat.reduceMul, Nat.reduceDiv, Nat.reduceMod, Nat.reduceBEq, Nat.reduceLeDiff, hhas, hn3, gb]
            exact ⟨Tb, by omega⟩
          · simp (maxSteps := 1000000) (disch := first | omega | (simp only [RY] <;> omega) | decide) only [↓RD, RZ, eq_self, Int.reduceToNat, Int.reduceAdd, Int.reduceSub, Int.reduceMul, Nat.reduceAdd, Nat.reduceSub, Nat.reduceMul, Nat.reduceDiv, Nat.reduceMod, Nat.reduceBEq, Nat.reduceLeDiff, hhas]
            exact ⟨Tb, by omega⟩
        | ok bs =>
          have hc : St.err (.ok bs) = 0 := rfl
          rw [hc] at gb
          have tar := (hF ⟨bs, rfl⟩).tar
          obtain ⟨tn, htn⟩ := Int.eq_ofNat_of_zero_le (show 0 ≤ s.tar by omega)
          rcases Bool.eq_false_or_eq_true f1.has with hhas | hhas
          · simp (maxSteps := 1000000) (disch := first | omega | (simp only [RY] <;> omega) | decide) only [↓RD, RZ, eq_self, Int.reduceToNat, Int.reduceAdd, Int.reduceSub, Int.reduceMul, Nat.reduceAdd, Nat.reduceSub, Nat.reduceMul, Nat.reduceDiv, Nat.reduceMod, Nat.reduceBEq, Nat.reduceLeDiff, hhas, hn3, gb, g8b, htn]
            rw [if_pos hhas, htn, Int.toNat_natCast] at ea
            refine ok_bind' (dn_ok Tb.s.pr tn (by omega)) ?_
            rintro _ Hd ⟨rfl, pd, qd⟩
            have Td := Tb.ko pd qd
            have fd := Td.s.gf
            unfold fcells at fd
            obtain ⟨q, q1, q2⟩ := rd_nat tn (.ok bs)
            have q3 : 2 ^ tn ≤ 2 ^ 32 := Nat.pow_le_pow_right (by decide) (by omega)
            rw [ea] at q1 Td ⊢
            dsimp only at q1 Td
            subst q1
            have hw : IntKind.u32.wrap (q : Int) = (q : Nat) := wrapin_u32 (by omega) (by omega)
            simp (maxSteps := 1000000) (disch := first | omega | (simp only [RY] <;> omega) | decide) only [↓RD, RZ, eq_self, Int.reduceToNat, Int.reduceAdd, Int.reduceSub, Int.reduceMul, Nat.reduceAdd, Nat.reduceSub, Nat.reduceMul, Nat.reduceDiv, Nat.reduceMod, Nat.reduceBEq, Nat.reduceLeDiff, fd, hw]
            have := Td.set hR (f' := { f1 with act := (q : Int).toNat }) ⟨Td.f.s, Td.f.dti, Td.f.dif, Td.f.cha⟩
            have fa : f2.act < 4294967296 := by rw [hf2]; show (q : Int).toNat < 4294967296; omega
            rw [← hf2] at this
            unfold fcells at this
            rw [hf2] at this ⊢
            dsimp only at this
            rw [Int.toNat_natCast] at this ⊢
            exact ⟨this, by rw [hf2] at fa; simpa using fa⟩
          · rw [if_neg (by rw [hhas]; decide)] at ea
            cases ea
            simp (maxSteps := 1000000) (disch := first | omega | (simp only [RY] <;> omega) | decide) only [↓RD, RZ, eq_self, Int.reduceToNat, Int.reduceAdd, Int.reduceSub, Int.reduceMul, Nat.reduceAdd, Nat.reduceSub, Nat.reduceMul, Nat.reduceDiv, Nat.reduceMod, Nat.reduceBEq, Nat.reduceLeDiff, hhas]
            rw [hf2, act0 hact]
            exact ⟨Tb, by omega⟩
      · rintro _ Hd ⟨rfl, Td, hact2⟩
        clear Tb gb fb g8b
        obtain ⟨rkd, gd⟩ := Td.s.pr.get
        obtain ⟨c1, c2, c3⟩ := Td.s.pr.rng
        have zd := Td.s.g4
        have kd := Td.s.g3
        have fd := Td.s.gf
        have bd := Td.s.bs
        unfold fcells at zd fd
        cases σ2 with
        | error e =>
          have hc : St.err (.error e) ≠ 0 := fun h => by obtain ⟨bs, hb⟩ := c3.1 h; cases hb
          simp (maxSteps := 1000000) (disch := first | omega | (simp only [RY] <;> omega) | decide) only [↓RD, RZ, eq_self, Int.reduceToNat, Int.reduceAdd, Int.reduceSub, Int.reduceMul, Nat.reduceAdd, Nat.reduceSub, Nat.reduceMul, Nat.reduceDiv, Nat.reduceMod, Nat.reduceBEq, Nat.reduceLeDiff, hn3, gd, zd]
          rw [cut_err (tail_err (stb_ogD _ _) ea)]
          exact ⟨PRes.err rfl, Td.s.gr.set (by omega) _⟩
        | ok bs =>
          have hc : St.err (.ok bs) = 0 := rfl
          rw [hc] at gd
          have hF' : Fine s := by
            cases σ' with
            | ok bs' => exact hF ⟨bs', rfl⟩
            | error e =>
              split at ea
              · cases ea
              · cases ea
          have e1 : f2.id = f1.id := by rw [hf2]
          have eh2 : hold f2 k = s := by rw [hs']; unfold hold; rw [hf2]
          have fo : FrO f2 := by
            have so := hF'.o
            refine ⟨by rw [e1, hid]; exact ⟨by omega, by omega⟩, by rw [hf2]; show f1.num < 65536; omega, ?_, hact2, ?_, ?_, ?_⟩
            · rw [hf2]; show SrO f1.s
              rcases hfs with h | h
              · rw [h]; exact sr0_o
              · rw [h]; exact so
            · rw [hf2]; show I64 f1.dti ∧ _; rw [hd1]; exact i64_nil
            · rw [hf2]; show I64 f1.dif ∧ _; rw [hd2]; exact i64_nil
            · rw [hf2]; show I64 f1.cha ∧ _; rw [hd3]; exact i64_nil
          simp (maxSteps := 1000000) (disch := first | omega | (simp only [RY] <;> omega) | decide) only [↓RD, RZ, eq_self, Int.reduceToNat, Int.reduceAdd, Int.reduceSub, Int.reduceMul, Nat.reduceAdd, Nat.reduceSub, Nat.reduceMul, Nat.reduceDiv, Nat.reduceMod, Nat.reduceBEq, Nat.reduceLeDiff, hn3, gd, fd, kd]
          refine ok_bind' (Of2_ok (f := f2) (k := k) (Td.f.low (Nat.zero_le _)).val (hk.ext Td.s.gr).val fo ko) ?_
          rintro _ He ⟨hq, se⟩
          obtain ⟨u1, u2, u3, rfl, wt⟩ := hq.get
          rw [eh2, e1] at wt ⊢
          have htl : ∀ t, tmOf s f1.id = some t → TmO t := fun t ht => by
            have : t ∈ s.ts := by
              unfold tmOf at ht
              split at ht
              · unfold tmPl at ht
                split at ht
                · exact List.mem_of_getElem? ht
                · cases ht
              · cases ht
            exact hF'.o.tm t this
          generalize htm : tmOf s f1.id = tm at *
          have ne := se.next
          have Te := Td.grow hR se
          have fe := Te.s.gf
          have ze := Te.s.g4
          unfold fcells at fe ze
          cases tm with
          | none =>
            simp (maxSteps := 1000000) (disch := first | omega | (simp only [RY] <;> omega) | decide) only [↓RD, RZ, eq_self, Int.reduceToNat, Int.reduceAdd, Int.reduceSub, Int.reduceMul, Nat.reduceAdd, Nat.reduceSub, Nat.reduceMul, Nat.reduceDiv, Nat.reduceMod, Nat.reduceBEq, Nat.reduceLeDiff, wt.dti.cells1, wt.dti.okc, wt.dif.cells1, wt.dif.okc, wt.cha.cells1, wt.cha.okc, Option.isSome_none, ze]
            rw [cut_err (tail_none ea)]
            exact ⟨PRes.err rfl, ((Te.s.gr.trans (Grow.new _ _)).set (by omega) _).set (by omega) _⟩
          | some t =>
            simp only [Option.getD_some, Option.isSome_some] at wt ⊢
            obtain ⟨g8e, b8c, b8d⟩ := Te.get
            have tar := hF'.tar
            have cha := hF'.cha
            obtain ⟨tn, htn⟩ := Int.eq_ofNat_of_zero_le (show 0 ≤ s.tar by omega)
            obtain ⟨cn, hcn⟩ := Int.eq_ofNat_of_zero_le (show 0 ≤ s.cha by omega)
            have hx : SrC 0 He s x y z := by
              have h1 := Te.f
              rw [hf2] at h1
              have := hoc.src (H := He) (f := f1) (k := k) ⟨h1.s.low (Nat.zero_le _), h1.dti.low (Nat.zero_le _), h1.dif.low (Nat.zero_le _), h1.cha.low (Nat.zero_le _)⟩ (hk.ext Te.s.gr)
              rwa [← hs'] at this
            simp (maxSteps := 1000000) (disch := first | omega | (simp only [RY] <;> omega) | decide) only [↓RD, RZ, eq_self, Int.reduceToNat, Int.reduceAdd, Int.reduceSub, Int.reduceMul, Nat.reduceAdd, Nat.reduceSub, Nat.reduceMul, Nat.reduceDiv, Nat.reduceMod, Nat.reduceBEq, Nat.reduceLeDiff, wt.dti.cells1, wt.dti.okc, wt.dif.cells1, wt.dif.okc, wt.cha.cells1, wt.cha.okc, g8e]
            generalize hHf : Heap.set (Heap.new He _) _ _ = Hf
            have sf : Grow He Hf := by rw [← hHf]; exact (Grow.new _ _).set (Nat.le_refl _) _
            clear hHf
            have Tf := Te.grow hR sf
            have to := htl t rfl
            rw [htn, hcn]
            refine ok_bind' (down_ok (am := (H.next + 2, H.next + 4)) (tn := tn) (cn := cn) Tf (wt.ext sf) hx.ts.cel hx.pro.cel hx.siz.cel to.dti.2 to.dif.2 to.cha.2 (by omega) (by omega)) ?_
            rintro _ Hg ⟨ld, le, lc, d, e, g, Tg, hval⟩
            simp (maxSteps := 1000000) (disch := first | omega | (simp only [RY] <;> omega) | decide) only [↓RD, RZ, eq_self, Int.reduceToNat, Int.reduceAdd, Int.reduceSub, Int.reduceMul, Nat.reduceAdd, Nat.reduceSub, Nat.reduceMul, Nat.reduceDiv, Nat.reduceMod, Nat.reduceBEq, Nat.reduceLeDiff, hn3]
            refine dzeros_ok Tg.s _ _ fun Hh Sh kh => ?_
            have Th := Tg.ko Sh.pr kh
            have eT := tail_own (f := f1) (s := s) (t := t) ea
            rw [htn, hcn, Int.toNat_natCast, Int.toNat_natCast] at eT
            have eown : ownS f2 t tn cn = ownS f1 t tn cn := by rw [hf2]; rfl
            rw [eown] at Th hval
            rw [eT]
            obtain ⟨rkh, gh⟩ := Th.s.pr.get
            obtain ⟨d1, d2, d3⟩ := Th.s.pr.rng
            have fh := Th.s.gf
            have zh := Th.s.g4
            have bh := Th.s.bs
            unfold fcells at fh zh
            cases hz : (zeros (ownS f1 t tn cn (.ok bs)).2).2 with
            | error q =>
              rw [hz] at gh d3
              have hc : St.err (.error q) ≠ 0 := fun h => by obtain ⟨bs, hb⟩ := d3.1 h; cases hb
              simp (maxSteps := 1000000) (disch := first | omega | (simp only [RY] <;> omega) | decide) only [↓RD, RZ, eq_self, Int.reduceToNat, Int.reduceAdd, Int.reduceSub, Int.reduceMul, Nat.reduceAdd, Nat.reduceSub, Nat.reduceMul, Nat.reduceDiv, Nat.reduceMod, Nat.reduceBEq, Nat.reduceLeDiff, hn3, gh, zh]
              exact ⟨PRes.err rfl, Th.s.gr.set (by omega) _⟩
            | ok bs' =>
              rw [hz] at gh
              have hc : St.err (.ok bs') = 0 := rfl
              rw [hc] at gh
              have hv' := hval (zeros_ok hz)
              simp (maxSteps := 1000000) (disch := first | omega | (simp only [RY] <;> omega) | decide) only [↓RD, RZ, eq_self, Int.reduceToNat, Int.reduceAdd, Int.reduceSub, Int.reduceMul, Nat.reduceAdd, Nat.reduceSub, Nat.reduceMul, Nat.reduceDiv, Nat.reduceMod, Nat.reduceBEq, Nat.reduceLeDiff, hn3, gh, fh, zh]
              rw [← hv']
              have ef : ({ f1 with act := act.toNat, dti := ld, dif := le, cha := lc } : Fr) = { f2 with dti := ld, dif := le, cha := lc } := by rw [hf2]
              rw [show cut (({ f1 with act := act.toNat, dti := (ld, le, lc).1, dif := (ld, le, lc).2.1, cha := (ld, le, lc).2.2 } : Fr), .ok bs') = (({ f2 with dti := ld, dif := le, cha := lc } : Fr), .ok bs') from by rw [← ef]; rfl]
              exact ⟨⟨a, b, c, d, e, g, rfl, (Th.f.keep (Keep.set _ (by omega) _)).low (Nat.zero_le _)⟩, Th.s.gr.set (by omega) _⟩

end Go.Ax.D9
/- DepL1 -/
set_option maxRecDepth 100000
set_option linter.unusedVariables false
set_option linter.unusedSimpArgs false
namespace Go.Ax.D9
open Go.Ax B6
/-- What is heavy. -/
theorem heavy9_ok {lo : Nat} {H : Heap} {v : V} {s : Sr} (h : SrR lo H v s) (ho : SrO s) : Ok (sem T fn_palanquinlaw9_heavy [v]) H fun r H' => (∃ b, r = .bool b ∧ (b = false → s.ts.length ≤ 80)) ∧ Grow H H' := by
  obtain ⟨a, b, c, rfl, h⟩ := h
  have nt := ho.ts
  have np := ho.pro.2
  have ns := ho.siz.1
  refine ok_palanquinlaw9_heavy ?_
  unfold f_palanquinlaw9_heavy
  unfold scells
  have e0 : (s.ts.length : Int) + (s.pro.length : Nat) = ((s.ts.length + s.pro.length : Nat) : Int) := rfl
  have e1 : ((s.ts.length + s.pro.length : Nat) : Int) + (s.siz.length : Nat) = ((s.ts.length + s.pro.length + s.siz.length : Nat) : Int) := rfl
  simp (maxSteps := 1000000) (disch := first | omega | (simp only [RY] <;> omega) | decide) only [↓RD, RZ, eq_self, Int.reduceToNat, Int.reduceAdd, Int.reduceSub, Int.reduceMul, Nat.reduceAdd, Nat.reduceSub, Nat.reduceMul, Nat.reduceDiv, Nat.reduceMod, Nat.reduceBEq, Nat.reduceLeDiff, h.ts.cells1, h.ts.okc, h.pro.cells1, h.pro.okc, h.siz.cells1, h.siz.okc, h.ts.vlen, h.pro.vlen, h.siz.vlen, e0, e1]
  generalize hH1 : Heap.new H _ = H1
  have s1 : Grow H H1 := by rw [← hH1]; exact Grow.new _ _
  have n1 : H1.next = H.next + 1 := by rw [← hH1]; rfl
  have g1 : H1.get H.next = some ⟨ty_depend_Structure, [.int .i64 s.off, .int .i64 s.tar, a, .int .i64 s.cha, b, c], none⟩ := by rw [← hH1]; exact get_new_self _ _
  clear hH1
  obtain ⟨n, hn⟩ : ∃ n, n = min s.ts.length 100 := ⟨_, rfl⟩
  refine ok_loop (fun k L H' => ∃ m : Nat, L = [.int .i64 (m : Nat), .int .i64 (k : Nat)] ∧ m ≤ 3145728 + k * 3145728 ∧ Grow H1 H') n ?_ ?_ ?_
  · exact ⟨_, rfl, by omega, Grow.refl _⟩
  · rintro k L H2 hk ⟨m, rfl, hm, s2⟩
    have hk' : k < s.ts.length := by omega
    have g2 : H2.get H.next = _ := (s2.same _ (by omega)).trans g1
    have n2 := s2.next
    obtain ⟨q, d, e, f, i1, l1, w1⟩ := (h.ts.ext (s1.trans s2)).at hk'
    obtain ⟨-, -, -, -, -, l2⟩ := pl5 l1
    have hd := w1.dti.cel
    have he := w1.dif.cel
    have hf := w1.cha.cel
    have o1 := (ho.tm _ (List.getElem_mem hk')).dti.2
    have o2 := (ho.tm _ (List.getElem_mem hk')).dif.2
    have o3 := (ho.tm _ (List.getElem_mem hk')).cha.2
    have f1 : (m : Int) + (s.ts[k].dti.length : Nat) = ((m + s.ts[k].dti.length : Nat) : Int) := rfl
    have f2 : ((m + s.ts[k].dti.length : Nat) : Int) + (s.ts[k].dif.length : Nat) = ((m + s.ts[k].dti.length + s.ts[k].dif.length : Nat) : Int) := rfl
    have f3 : ((m + s.ts[k].dti.length + s.ts[k].dif.length : Nat) : Int) + (s.ts[k].cha.length : Nat) = ((m + s.ts[k].dti.length + s.ts[k].dif.length + s.ts[k].cha.length : Nat) : Int) := rfl
    unfold f_palanquinlaw9_heavy_0
    simp (maxSteps := 1000000) (disch := first | omega | (simp only [RY] <;> omega) | decide) only [↓RD, RZ, eq_self, Int.reduceToNat, Int.reduceAdd, Int.reduceSub, Int.reduceMul, Nat.reduceAdd, Nat.reduceSub, Nat.reduceMul, Nat.reduceDiv, Nat.reduceMod, Nat.reduceBEq, Nat.reduceLeDiff, g2, h.ts.vlen, i1, l2, hd.1, hd.2, he.1, he.2, hf.1, hf.2, w1.dti.vlen, w1.dif.vlen, w1.cha.vlen, f1, f2, f3]
    exact ⟨_, by rfl, by omega, (s2.trans (Grow.new _ _)).set (by omega) _⟩
  · rintro L H2 ⟨m, rfl, hm, s2⟩
    have g2 : H2.get H.next = _ := (s2.same _ (by omega)).trans g1
    unfold f_palanquinlaw9_heavy_0
    have fin := s1.trans s2
    by_cases h6 : 6000 < m
    · by_cases hk : n < s.ts.length
      · simp (maxSteps := 1000000) (disch := first | omega | (simp only [RY] <;> omega) | decide) only [↓RD, RZ, eq_self, Int.reduceToNat, Int.reduceAdd, Int.reduceSub, Int.reduceMul, Nat.reduceAdd, Nat.reduceSub, Nat.reduceMul, Nat.reduceDiv, Nat.reduceMod, Nat.reduceBEq, Nat.reduceLeDiff, g2, h.ts.vlen]
        exact ⟨⟨_, rfl, fun h => by cases h⟩, fin⟩
      · simp (maxSteps := 1000000) (disch := first | omega | (simp only [RY] <;> omega) | decide) only [↓RD, RZ, eq_self, Int.reduceToNat, Int.reduceAdd, Int.reduceSub, Int.reduceMul, Nat.reduceAdd, Nat.reduceSub, Nat.reduceMul, Nat.reduceDiv, Nat.reduceMod, Nat.reduceBEq, Nat.reduceLeDiff, g2, h.ts.vlen]
        exact ⟨⟨_, rfl, fun h => by cases h⟩, fin⟩
    · by_cases hk : n < s.ts.length
      · simp (maxSteps := 1000000) (disch := first | omega | (simp only [RY] <;> omega) | decide) only [↓RD, RZ, eq_self, Int.reduceToNat, Int.reduceAdd, Int.reduceSub, Int.reduceMul, Nat.reduceAdd, Nat.reduceSub, Nat.reduceMul, Nat.reduceDiv, Nat.reduceMod, Nat.reduceBEq, Nat.reduceLeDiff, g2, h.ts.vlen]
        exact ⟨⟨_, rfl, fun h => by first | cases h | (have := of_decide_eq_false h; omega)⟩, fin⟩
      · simp (maxSteps := 1000000) (disch := first | omega | (simp only [RY] <;> omega) | decide) only [↓RD, RZ, eq_self, Int.reduceToNat, Int.reduceAdd, Int.reduceSub, Int.reduceMul, Nat.reduceAdd, Nat.reduceSub, Nat.reduceMul, Nat.reduceDiv, Nat.reduceMod, Nat.reduceBEq, Nat.reduceLeDiff, g2, h.ts.vlen]
        exact ⟨⟨_, rfl, fun h => by first | cases h | (have := of_decide_eq_false h; omega)⟩, fin⟩

theorem lc_blk9 {H : Heap} {id n e : Nat} {ty : TypeId} {cells : List V} (h : H.get id = some ⟨ty, cells, none⟩) (hi : id < H.next) (hl : cells.length = n * e) : Lc e 0 H (.sl id 0 n (.fix n)) cells n := by
  refine ⟨?_, fun i hi' => ?_, Nat.le_refl _⟩
  · simp only [rcells, h, Option.bind_some]
    rw [if_pos (by omega), List.drop_zero, ← hl, List.take_length]
  · simp only [V.pid, Option.some.injEq] at hi'
    subst hi'; exact ⟨Nat.zero_le _, hi⟩

def sp1 : Sr := ⟨0, 1, [⟨0, 0, [2], [], []⟩], 0, [], []⟩
def fp1 : Fr := { Fr0 with st := true, num := 5, dti := [2] }

theorem fine_sp1 : fine sp1 = true := by
  refine fine_yes ⟨by decide, by decide, by decide, by decide, by decide, fun i hi => ?_, by decide, by decide, by decide⟩
  rcases i with _ | i
  · simp [LayAt, sp1]
  · exact absurd hi (by show ¬ (i + 1 < 1); omega)

theorem so_sp1 : SrO sp1 := by
  refine ⟨by decide, by decide, by decide, ?_, by decide, ⟨by decide, by decide⟩, by decide, by decide⟩
  intro t ht
  simp only [sp1, List.mem_cons, List.not_mem_nil, or_false] at ht
  subst ht
  exact ⟨by decide, by decide, ⟨by decide, by decide⟩, ⟨by decide, by decide⟩, ⟨by decide, by decide⟩⟩
theorem so_0 : SrO Sr0 := ⟨by decide, by decide, by decide, fun t h => (by cases h), by decide, ⟨by decide, by decide⟩, by decide, by decide⟩
theorem fo_fp1 : FrO fp1 := ⟨by decide, by decide, so_0, by decide, ⟨by decide, by decide⟩, ⟨by decide, by decide⟩, ⟨by decide, by decide⟩⟩

theorem good_fp1 : good fp1 sp1 = true := by
  refine dec_yes ⟨⟨0, 0, [2], [], []⟩, ?_, ⟨.inr (by decide), .inr (by decide), by decide, by decide, by decide, by decide⟩⟩
  have : hold fp1 sp1 = sp1 := rfl
  rw [this]
  unfold tmOf
  rw [fine_sp1]
  rfl

theorem plain_ok {H : Heap} : Ok (sem T fn_palanquinlaw9_plain []) H fun r H' => SrR 0 H' r sp1 ∧ Grow H H' := by
  refine ok_palanquinlaw9_plain ?_
  unfold f_palanquinlaw9_plain
  simp (maxSteps := 1000000) (disch := first | omega | (simp only [RY] <;> omega) | decide) only [↓RD, RZ, eq_self, Int.reduceToNat, Int.reduceAdd, Int.reduceSub, Int.reduceMul, Nat.reduceAdd, Nat.reduceSub, Nat.reduceMul, Nat.reduceDiv, Nat.reduceMod, Nat.reduceBEq, Nat.reduceLeDiff]
  generalize hH1 : Heap.set _ _ _ = H1
  have s1 : Grow H H1 := by rw [← hH1]; exact (((Grow.new H _).trans (Grow.new _ _)).trans (Grow.new _ _)).set (by omega) _
  have n1 : H1.next = H.next + 3 := by rw [← hH1]; rfl
  have g1 : H1.get (H.next + 1) = some ⟨ty_int, [.int .i64 2], none⟩ := by rw [← hH1]; simp (maxSteps := 1000000) (disch := first | omega | (simp only [RY] <;> omega) | decide) only [↓RD, RZ, eq_self, Int.reduceToNat, Int.reduceAdd, Int.reduceSub, Int.reduceMul, Nat.reduceAdd, Nat.reduceSub, Nat.reduceMul, Nat.reduceDiv, Nat.reduceMod, Nat.reduceBEq, Nat.reduceLeDiff]
  have g4 : H1.get (H.next + 1 + 1) = some ⟨ty_depend_Template, [.int .i64 0, .int .i64 0, .sl (H.next + 1) 0 1 (.fix 1), .nils, .nils], none⟩ := by rw [← hH1]; simp (maxSteps := 1000000) (disch := first | omega | (simp only [RY] <;> omega) | decide) only [↓RD, RZ, eq_self, Int.reduceToNat, Int.reduceAdd, Int.reduceSub, Int.reduceMul, Nat.reduceAdd, Nat.reduceSub, Nat.reduceMul, Nat.reduceDiv, Nat.reduceMod, Nat.reduceBEq, Nat.reduceLeDiff]
  clear hH1
  refine ⟨⟨_, .nils, .nils, rfl, ⟨⟨[(⟨0, 0, [2], [], []⟩, .sl (H.next + 1) 0 1 (.fix 1), .nils, .nils)], rfl, lc_blk9 g4 (by omega) rfl, fun w hw => ?_⟩, Lc.nil, Lc.nil⟩⟩, s1⟩
  simp only [List.mem_cons, List.not_mem_nil, or_false] at hw
  subst hw
  exact ⟨lc_blk9 g1 (by omega) rfl, Lc.nil, Lc.nil⟩

theorem pk_fp1 : Pk (headB fp1).length [128, 0, 5] (headB fp1) := by
  refine ⟨by decide, by decide, ?_⟩
  have : ∀ i < 3, ∀ j < 8, ([128, 0, 5].getD i 0).testBit (7 - j) = (headB fp1).getD (8 * i + j) false := by decide
  intro i j h hj
  rw [← getD_get (d := 0) h]
  exact this i h j hj

theorem awake9_ok {H : Heap} : Ok (sem T fn_palanquinlaw9_awake []) H fun r H' => r = .bool true ∧ Grow H H' := by
  refine ok_palanquinlaw9_awake ?_
  unfold f_palanquinlaw9_awake
  simp (maxSteps := 1000000) (disch := first | omega | (simp only [RY] <;> omega) | decide) only [↓RD, RZ, eq_self, Int.reduceToNat, Int.reduceAdd, Int.reduceSub, Int.reduceMul, Nat.reduceAdd, Nat.reduceSub, Nat.reduceMul, Nat.reduceDiv, Nat.reduceMod, Nat.reduceBEq, Nat.reduceLeDiff]
  generalize hH1 : Heap.new H _ = H1
  have s1 : Grow H H1 := by rw [← hH1]; exact Grow.new _ _
  have n1 : H1.next = H.next + 1 := by rw [← hH1]; rfl
  have g1 : H1.get H.next = some ⟨ty_int, [.int .i64 2], none⟩ := by rw [← hH1]; simp (maxSteps := 1000000) (disch := first | omega | (simp only [RY] <;> omega) | decide) only [↓RD, RZ, eq_self, Int.reduceToNat, Int.reduceAdd, Int.reduceSub, Int.reduceMul, Nat.reduceAdd, Nat.reduceSub, Nat.reduceMul, Nat.reduceDiv, Nat.reduceMod, Nat.reduceBEq, Nat.reduceLeDiff]
  clear hH1
  refine ok_bind' plain_ok ?_
  rintro v H2 ⟨hv, s2⟩
  have n2 := s2.next
  have hf : FrR 0 H2 (.agg (fcells fp1 .nils .nils .nils (.sl H.next 0 1 (.fix 1)) .nils .nils)) fp1 := FrC.val ⟨SrC.zero, lc_blk9 ((s2.same _ (by omega)).trans g1) (by omega) rfl, Lc.nil, Lc.nil⟩
  refine ok_bind' (Bytes_short hf hv fo_fp1 so_sp1 good_fp1 rfl rfl rfl rfl rfl) ?_
  rintro _ H3 ⟨⟨x, l, rfl, hp, hb⟩, s3⟩
  have := Pk.unique hp pk_fp1
  subst this
  obtain ⟨p0, i0, l0⟩ := Lc.at hb (i := 0) (by omega) (by decide)
  obtain ⟨p1, i1, l1⟩ := Lc.at hb (i := 1) (by omega) (by decide)
  obtain ⟨p2, i2, l2⟩ := Lc.at hb (i := 2) (by omega) (by decide)
  have d0 : LdR none H3 p0 (.int .u8 128) := fun f Q => by rw [l0.ld0 (by decide)]; exact b_lift
  have d1 : LdR none H3 p1 (.int .u8 0) := fun f Q => by rw [l1.ld0 (by decide)]; exact b_lift
  have d2 : LdR none H3 p2 (.int .u8 5) := fun f Q => by rw [l2.ld0 (by decide)]; exact b_lift
  have vl : Ax.vlen x = some (.int .i64 3) := hb.vlen
  simp (maxSteps := 1000000) (disch := first | omega | (simp only [RY] <;> omega) | decide) only [↓RD, RZ, eq_self, Int.reduceToNat, Int.reduceAdd, Int.reduceSub, Int.reduceMul, Nat.reduceAdd, Nat.reduceSub, Nat.reduceMul, Nat.reduceDiv, Nat.reduceMod, Nat.reduceBEq, Nat.reduceLeDiff, vl, i0, d0, i1, d1, i2, d2]
  refine ok_bind' plain_ok ?_
  rintro v2 H4 ⟨hv2, s4⟩
  refine ok_bind' (Fine_ok hv2 so_sp1) ?_
  rintro _ H5 ⟨rfl, s5⟩
  rw [fine_sp1]
  simp (maxSteps := 1000000) (disch := first | omega | (simp only [RY] <;> omega) | decide) only [↓RD, RZ, eq_self, Int.reduceToNat, Int.reduceAdd, Int.reduceSub, Int.reduceMul, Nat.reduceAdd, Nat.reduceSub, Nat.reduceMul, Nat.reduceDiv, Nat.reduceMod, Nat.reduceBEq, Nat.reduceLeDiff]
  exact (((s1.trans s2).trans s3).trans s4).trans s5

end Go.Ax.D9
/- DepRi -/
set_option maxRecDepth 100000
set_option linter.unusedVariables false
set_option linter.unusedSimpArgs false
namespace Go.Ax.D9
open Go.Ax B6
theorem b_unch_set {β : Type} {v : V} {h H : Heap} {w : Nat} {b : Option Blk} {f : Unit → M β} {Q : β → Heap → Prop} (hv : v.pid ≠ some w) : @OkB Unit β (M.unch v h (h.set w b)) H ⟨f⟩ ⟨Q⟩ ↔ Ok (f ()) H Q := by
  have : M.unch v h (h.set w b) = M.pure () := by
    funext H; unfold M.unch
    rw [if_pos fun id hi => get_set_ne _ _ (fun e => hv (by rw [hi, e]))]; rfl
  rw [this]; exact b_pure

theorem SameInts_same {lo lo' : Nat} {H : Heap} {v w : V} {a : List Int} (ha : Il lo H v a) (hb : Il lo' H w a) (hl : a.length ≤ 1099511627776) :
    Ok (sem T fn_palanquinref9_SameInts [v, w]) H fun r H' => r = .bool true ∧ H' = H := by
  refine ok_mono (SameInts_ok ha hb hl) ?_
  rintro r H' ⟨rfl, rfl⟩
  exact ⟨by rw [decide_eq_true rfl], rfl⟩

set_option maxHeartbeats 1600000 in
theorem SameStructure_same {H : Heap} {s : Sr} {a b c d e g : V} (h : SrC 0 H s a b c) (k : SrC 0 H s d e g) (ho : SrO s) :
    Ok (sem T fn_palanquinref9_SameStructure [.agg (scells s a b c), .agg (scells s d e g)]) H fun r H' => r = .bool true ∧ Grow H H' := by
  have nt := ho.ts
  have np := ho.pro.2
  have ns := ho.siz.1
  have ca := h.ts.cel
  have cb := h.pro.cel
  have cc := h.siz.cel
  have cd := k.ts.cel
  have ce := k.pro.cel
  have cg := k.siz.cel
  refine ok_palanquinref9_SameStructure ?_
  unfold f_palanquinref9_SameStructure
  unfold scells
  simp (maxSteps := 1000000) (disch := first | omega | (simp only [RY] <;> omega) | decide) only [↓RD, RZ, eq_self, Int.reduceToNat, Int.reduceAdd, Int.reduceSub, Int.reduceMul, Nat.reduceAdd, Nat.reduceSub, Nat.reduceMul, Nat.reduceDiv, Nat.reduceMod, Nat.reduceBEq, Nat.reduceLeDiff, ca.1, ca.2, cb.1, cb.2, cc.1, cc.2, cd.1, cd.2, ce.1, ce.2, cg.1, cg.2, h.ts.vlen, k.ts.vlen, beq_self_eq_true]
  generalize hH1 : Heap.new (Heap.new H _) _ = H1
  have s1 : Grow H H1 := by rw [← hH1]; exact (Grow.new _ _).trans (Grow.new _ _)
  have n1 : H1.next = H.next + 2 := by rw [← hH1]; rfl
  have g1 : H1.get H.next = some ⟨ty_palanquinref9_Structure, [.int .i64 s.off, .int .i64 s.tar, a, .int .i64 s.cha, b, c], none⟩ := by rw [← hH1]; simp (maxSteps := 1000000) (disch := first | omega | (simp only [RY] <;> omega) | decide) only [↓RD, RZ, eq_self, Int.reduceToNat, Int.reduceAdd, Int.reduceSub, Int.reduceMul, Nat.reduceAdd, Nat.reduceSub, Nat.reduceMul, Nat.reduceDiv, Nat.reduceMod, Nat.reduceBEq, Nat.reduceLeDiff]
  have g2 : H1.get (H.next + 1) = some ⟨ty_palanquinref9_Structure, [.int .i64 s.off, .int .i64 s.tar, d, .int .i64 s.cha, e, g], none⟩ := by rw [← hH1]; simp (maxSteps := 1000000) (disch := first | omega | (simp only [RY] <;> omega) | decide) only [↓RD, RZ, eq_self, Int.reduceToNat, Int.reduceAdd, Int.reduceSub, Int.reduceMul, Nat.reduceAdd, Nat.reduceSub, Nat.reduceMul, Nat.reduceDiv, Nat.reduceMod, Nat.reduceBEq, Nat.reduceLeDiff]
  clear hH1
  refine ok_bind' (SameInts_same (h.pro.ext s1) (k.pro.ext s1) (by omega)) ?_
  rintro _ H1 ⟨rfl, rfl⟩
  simp (maxSteps := 1000000) (disch := first | omega | (simp only [RY] <;> omega) | decide) only [↓RD, RZ, eq_self, Int.reduceToNat, Int.reduceAdd, Int.reduceSub, Int.reduceMul, Nat.reduceAdd, Nat.reduceSub, Nat.reduceMul, Nat.reduceDiv, Nat.reduceMod, Nat.reduceBEq, Nat.reduceLeDiff, g1, g2, h.siz.vlen, k.siz.vlen, beq_self_eq_true]
  refine ok_loop (fun j L H' => L = [.int .i64 (j : Nat)] ∧ Grow H1 H') s.ts.length ⟨rfl, Grow.refl _⟩ ?_ ?_
  · rintro j L H2 hj ⟨rfl, s2⟩
    have n2 := s2.next
    have g1' : H2.get H.next = _ := (s2.same _ (by omega)).trans g1
    have g2' : H2.get (H.next + 1) = _ := (s2.same _ (by omega)).trans g2
    have s12 := s1.trans s2
    obtain ⟨q, u1, u2, u3, i1, w1, l1⟩ := (h.ts.ext s12).at2 hj
    obtain ⟨q', v1, v2, v3, i2, w2, l2⟩ := (k.ts.ext s12).at2 hj
    have l1a := (pl5 (l1 _ (Grow.refl H2))).2.2.2.2.2
    have l2a := (pl5 (l2 _ (Grow.refl H2))).2.2.2.2.2
    have o1 := (ho.tm _ (List.getElem_mem hj)).dti.2
    have o2 := (ho.tm _ (List.getElem_mem hj)).dif.2
    have o3 := (ho.tm _ (List.getElem_mem hj)).cha.2
    unfold f_palanquinref9_SameStructure_0
    have qp : ∀ i, q'.pid = some i → i < H2.next := by
      intro i hi
      obtain ⟨p, _, _, _, hp, hpl, _⟩ := (k.ts.ext s12).at hj
      have : q' = p := by
        have := (i2 (k := .i64)).symm.trans (hp (k := .i64))
        simpa using this
      subst this
      obtain ⟨ws, _, hlc, _⟩ := k.ts.ext s12
      rw [hpl.pid.1] at hi
      exact (hlc.own i hi).2
    have c11 := w1.dti.cel
    have c12 := w1.dif.cel
    have c13 := w1.cha.cel
    have c21 := w2.dti.cel
    have c22 := w2.dif.cel
    have c23 := w2.cha.cel
    simp (maxSteps := 1000000) (disch := first | omega | (simp only [RY] <;> omega) | decide) only [↓RD, RZ, eq_self, Int.reduceToNat, Int.reduceAdd, Int.reduceSub, Int.reduceMul, Nat.reduceAdd, Nat.reduceSub, Nat.reduceMul, Nat.reduceDiv, Nat.reduceMod, Nat.reduceBEq, Nat.reduceLeDiff, g1', g2', h.ts.vlen, k.ts.vlen, i1, i2, l1a, l2a, c11.1, c11.2, c12.1, c12.2, c13.1, c13.2, c21.1, c21.2, c22.1, c22.2, c23.1, c23.2, beq_self_eq_true, b_unch_set (w := H2.next) (v := q') (fun e => by have := qp _ e; omega)]
    generalize hH3 : Heap.set (Heap.set _ _ _) _ _ = H3
    have s3 : Grow H2 H3 := by rw [← hH3]; exact (((Grow.new _ _).trans (Grow.new _ _)).set (by omega) _).set (by omega) _
    have t1 : H3.get H2.next = some ⟨ty_palanquinref9_Template, [.int .i64 s.ts[j].sp, .int .i64 s.ts[j].te, u1, u2, u3], none⟩ := by rw [← hH3]; simp (maxSteps := 1000000) (disch := first | omega | (simp only [RY] <;> omega) | decide) only [↓RD, RZ, eq_self, Int.reduceToNat, Int.reduceAdd, Int.reduceSub, Int.reduceMul, Nat.reduceAdd, Nat.reduceSub, Nat.reduceMul, Nat.reduceDiv, Nat.reduceMod, Nat.reduceBEq, Nat.reduceLeDiff]
    have t2 : H3.get (H2.next + 1) = some ⟨ty_palanquinref9_Template, [.int .i64 s.ts[j].sp, .int .i64 s.ts[j].te, v1, v2, v3], none⟩ := by rw [← hH3]; simp (maxSteps := 1000000) (disch := first | omega | (simp only [RY] <;> omega) | decide) only [↓RD, RZ, eq_self, Int.reduceToNat, Int.reduceAdd, Int.reduceSub, Int.reduceMul, Nat.reduceAdd, Nat.reduceSub, Nat.reduceMul, Nat.reduceDiv, Nat.reduceMod, Nat.reduceBEq, Nat.reduceLeDiff]
    clear hH3
    refine ok_bind' (SameInts_same (w1.dti.ext s3) (w2.dti.ext s3) (by omega)) ?_
    rintro _ H3 ⟨rfl, rfl⟩
    simp (maxSteps := 1000000) (disch := first | omega | (simp only [RY] <;> omega) | decide) only [↓RD, RZ, eq_self, Int.reduceToNat, Int.reduceAdd, Int.reduceSub, Int.reduceMul, Nat.reduceAdd, Nat.reduceSub, Nat.reduceMul, Nat.reduceDiv, Nat.reduceMod, Nat.reduceBEq, Nat.reduceLeDiff, t1, t2]
    refine ok_bind' (SameInts_same (w1.dif.ext s3) (w2.dif.ext s3) (by omega)) ?_
    rintro _ H3 ⟨rfl, rfl⟩
    simp (maxSteps := 1000000) (disch := first | omega | (simp only [RY] <;> omega) | decide) only [↓RD, RZ, eq_self, Int.reduceToNat, Int.reduceAdd, Int.reduceSub, Int.reduceMul, Nat.reduceAdd, Nat.reduceSub, Nat.reduceMul, Nat.reduceDiv, Nat.reduceMod, Nat.reduceBEq, Nat.reduceLeDiff, t1, t2]
    refine ok_bind' (SameInts_same (w1.cha.ext s3) (w2.cha.ext s3) (by omega)) ?_
    rintro _ H3 ⟨rfl, rfl⟩
    simp (maxSteps := 1000000) (disch := first | omega | (simp only [RY] <;> omega) | decide) only [↓RD, RZ, eq_self, Int.reduceToNat, Int.reduceAdd, Int.reduceSub, Int.reduceMul, Nat.reduceAdd, Nat.reduceSub, Nat.reduceMul, Nat.reduceDiv, Nat.reduceMod, Nat.reduceBEq, Nat.reduceLeDiff]
    exact ⟨by rfl, s2.trans s3⟩
  · rintro L H2 ⟨rfl, s2⟩
    have g1' : H2.get H.next = _ := (s2.same _ (by omega)).trans g1
    have g2' : H2.get (H.next + 1) = _ := (s2.same _ (by omega)).trans g2
    unfold f_palanquinref9_SameStructure_0
    simp (maxSteps := 1000000) (disch := first | omega | (simp only [RY] <;> omega) | decide) only [↓RD, RZ, eq_self, Int.reduceToNat, Int.reduceAdd, Int.reduceSub, Int.reduceMul, Nat.reduceAdd, Nat.reduceSub, Nat.reduceMul, Nat.reduceDiv, Nat.reduceMod, Nat.reduceBEq, Nat.reduceLeDiff, g1', g2', h.ts.vlen]
    refine ok_loop (fun j L H' => L = [.int .i64 (j : Nat)] ∧ H' = H2) s.siz.length ⟨rfl, rfl⟩ ?_ ?_
    · rintro j L H3 hj ⟨rfl, rfl⟩
      have s12 := s1.trans s2
      obtain ⟨q, i1, l1⟩ := szs_at (h.siz.ext s12) hj
      obtain ⟨q', i2, l2⟩ := szs_at (k.siz.ext s12) hj
      have l1a := (pl2 l1).2.2
      have l2a := (pl2 l2).2.2
      have er : eqr (.arr 2) true (.agg [.int .i64 s.siz[j].1, .int .i64 s.siz[j].2]) (.agg [.int .i64 s.siz[j].1, .int .i64 s.siz[j].2]) = some (.bool false) := by
        simp [eqr, eqv, eqInts]
      unfold f_palanquinref9_SameStructure_1
      simp (maxSteps := 1000000) (disch := first | omega | (simp only [RY] <;> omega) | decide) only [↓RD, RZ, eq_self, Int.reduceToNat, Int.reduceAdd, Int.reduceSub, Int.reduceMul, Nat.reduceAdd, Nat.reduceSub, Nat.reduceMul, Nat.reduceDiv, Nat.reduceMod, Nat.reduceBEq, Nat.reduceLeDiff, g1', g2', h.siz.vlen, k.siz.vlen, i1, i2, l1a, l2a, er]
      rfl
    · rintro L H3 ⟨rfl, rfl⟩
      unfold f_palanquinref9_SameStructure_1
      simp (maxSteps := 1000000) (disch := first | omega | (simp only [RY] <;> omega) | decide) only [↓RD, RZ, eq_self, Int.reduceToNat, Int.reduceAdd, Int.reduceSub, Int.reduceMul, Nat.reduceAdd, Nat.reduceSub, Nat.reduceMul, Nat.reduceDiv, Nat.reduceMod, Nat.reduceBEq, Nat.reduceLeDiff, g1', g2', h.siz.vlen]
      exact s1.trans s2

set_option maxHeartbeats 1600000 in
theorem SameFrame_same {H : Heap} {v w : V} {f : Fr} (h : FrR 0 H v f) (k : FrR 0 H w f) (fo : FrO f) :
    Ok (sem T fn_palanquinref9_SameFrame [v, w]) H fun r H' => r = .bool true := by
  obtain ⟨a, b, c, d, e, g, rfl, h⟩ := h
  obtain ⟨a', b', c', d', e', g', rfl, k⟩ := k
  obtain ⟨ca, cb, cc, cd, ce, cg⟩ := fr_dti h
  obtain ⟨ca', cb', cc', cd', ce', cg'⟩ := fr_dti k
  have l1 := fo.dti.2
  have l2 := fo.dif.2
  have l3 := fo.cha.2
  refine ok_palanquinref9_SameFrame ?_
  unfold f_palanquinref9_SameFrame
  unfold fcells
  simp (maxSteps := 1000000) (disch := first | omega | (simp only [RY] <;> omega) | decide) only [↓RD, RZ, eq_self, Int.reduceToNat, Int.reduceAdd, Int.reduceSub, Int.reduceMul, Nat.reduceAdd, Nat.reduceSub, Nat.reduceMul, Nat.reduceDiv, Nat.reduceMod, Nat.reduceBEq, Nat.reduceLeDiff, ca.1, ca.2, cb.1, cb.2, cc.1, cc.2, cd.1, cd.2, ce.1, ce.2, cg.1, cg.2, ca'.1, ca'.2, cb'.1, cb'.2, cc'.1, cc'.2, cd'.1, cd'.2, ce'.1, ce'.2, cg'.1, cg'.2, beq_self_eq_true]
  generalize hH1 : Heap.new (Heap.new H _) _ = H1
  have s1 : Grow H H1 := by rw [← hH1]; exact (Grow.new _ _).trans (Grow.new _ _)
  have n1 : H1.next = H.next + 2 := by rw [← hH1]; rfl
  have g1 : H1.get H.next = some ⟨ty_palanquinref9_Frame, fcells f a b c d e g, none⟩ := by rw [← hH1]; unfold fcells; simp (maxSteps := 1000000) (disch := first | omega | (simp only [RY] <;> omega) | decide) only [↓RD, RZ, eq_self, Int.reduceToNat, Int.reduceAdd, Int.reduceSub, Int.reduceMul, Nat.reduceAdd, Nat.reduceSub, Nat.reduceMul, Nat.reduceDiv, Nat.reduceMod, Nat.reduceBEq, Nat.reduceLeDiff]
  have g2 : H1.get (H.next + 1) = some ⟨ty_palanquinref9_Frame, fcells f a' b' c' d' e' g', none⟩ := by rw [← hH1]; unfold fcells; simp (maxSteps := 1000000) (disch := first | omega | (simp only [RY] <;> omega) | decide) only [↓RD, RZ, eq_self, Int.reduceToNat, Int.reduceAdd, Int.reduceSub, Int.reduceMul, Nat.reduceAdd, Nat.reduceSub, Nat.reduceMul, Nat.reduceDiv, Nat.reduceMod, Nat.reduceBEq, Nat.reduceLeDiff]
  clear hH1
  unfold fcells at g1 g2
  refine ok_bind' (SameStructure_same (s := f.s) (h.s.ext s1) (k.s.ext s1) fo.s) ?_
  rintro _ H2 ⟨rfl, s2⟩
  have n2 := s2.next
  have g3 : H2.get H.next = _ := (s2.same _ (by omega)).trans g1
  have g4 : H2.get (H.next + 1) = _ := (s2.same _ (by omega)).trans g2
  have s12 := s1.trans s2
  simp (maxSteps := 1000000) (disch := first | omega | (simp only [RY] <;> omega) | decide) only [↓RD, RZ, eq_self, Int.reduceToNat, Int.reduceAdd, Int.reduceSub, Int.reduceMul, Nat.reduceAdd, Nat.reduceSub, Nat.reduceMul, Nat.reduceDiv, Nat.reduceMod, Nat.reduceBEq, Nat.reduceLeDiff, g3, g4, beq_self_eq_true]
  refine ok_bind' (SameInts_same (h.dti.ext s12) (k.dti.ext s12) (by omega)) ?_
  rintro _ H2 ⟨rfl, rfl⟩
  simp (maxSteps := 1000000) (disch := first | omega | (simp only [RY] <;> omega) | decide) only [↓RD, RZ, eq_self, Int.reduceToNat, Int.reduceAdd, Int.reduceSub, Int.reduceMul, Nat.reduceAdd, Nat.reduceSub, Nat.reduceMul, Nat.reduceDiv, Nat.reduceMod, Nat.reduceBEq, Nat.reduceLeDiff, g3, g4]
  refine ok_bind' (SameInts_same (h.dif.ext s12) (k.dif.ext s12) (by omega)) ?_
  rintro _ H2 ⟨rfl, rfl⟩
  simp (maxSteps := 1000000) (disch := first | omega | (simp only [RY] <;> omega) | decide) only [↓RD, RZ, eq_self, Int.reduceToNat, Int.reduceAdd, Int.reduceSub, Int.reduceMul, Nat.reduceAdd, Nat.reduceSub, Nat.reduceMul, Nat.reduceDiv, Nat.reduceMod, Nat.reduceBEq, Nat.reduceLeDiff, g3, g4]
  refine ok_bind' (SameInts_same (h.cha.ext s12) (k.cha.ext s12) (by omega)) ?_
  rintro _ H2 ⟨rfl, rfl⟩
  simp (maxSteps := 1000000) (disch := first | omega | (simp only [RY] <;> omega) | decide) only [↓RD, RZ, eq_self, Int.reduceToNat, Int.reduceAdd, Int.reduceSub, Int.reduceMul, Nat.reduceAdd, Nat.reduceSub, Nat.reduceMul, Nat.reduceDiv, Nat.reduceMod, Nat.reduceBEq, Nat.reduceLeDiff]

/-- A structure as the document's. -/
theorem Structure_ok' {lo : Nat} {H : Heap} {s : Sr} {a b c : V} {ws : List Tw} (h : SrC lo H s a b c) (ho : SrO s) (hws : ws.map (·.1) = s.ts) (hlc : Lc 5 lo H a (ws.map tc).flatten ws.length) (htm : ∀ w ∈ ws, TmR lo H w.1 w.2.1 w.2.2.1 w.2.2.2) :
    Ok (sem T fn_palanquinhelp_Structure [.agg (scells s a b c)]) H fun r H' => (∃ acc, r = .agg (scells s acc b c) ∧ Lc 5 (H.next + 3) H' acc (ws.map tc).flatten ws.length) ∧ Grow H H' := by
  have nt := ho.ts
  refine ok_palanquinhelp_Structure ?_
  unfold f_palanquinhelp_Structure
  unfold scells
  simp (maxSteps := 1000000) (disch := first | omega | (simp only [RY] <;> omega) | decide) only [↓RD, RZ, eq_self, Int.reduceToNat, Int.reduceAdd, Int.reduceSub, Int.reduceMul, Nat.reduceAdd, Nat.reduceSub, Nat.reduceMul, Nat.reduceDiv, Nat.reduceMod, Nat.reduceBEq, Nat.reduceLeDiff, h.ts.cells1, h.ts.okc, h.pro.cells1, h.pro.okc, h.siz.cells1, h.siz.okc]
  generalize hH1 : Heap.set _ _ _ = H1
  have s1 : Grow H H1 := by rw [← hH1]; exact (((Grow.new H _).trans (Grow.new _ _)).trans (Grow.new _ _)).set (by omega) _
  have n1 : H1.next = H.next + 3 := by rw [← hH1]; rfl
  have g1 : H1.get H.next = some ⟨ty_depend_Structure, [.int .i64 s.off, .int .i64 s.tar, a, .int .i64 s.cha, b, c], none⟩ := by rw [← hH1]; simp (maxSteps := 1000000) (disch := first | omega | (simp only [RY] <;> omega) | decide) only [↓RD, RZ, eq_self, Int.reduceToNat, Int.reduceAdd, Int.reduceSub, Int.reduceMul, Nat.reduceAdd, Nat.reduceSub, Nat.reduceMul, Nat.reduceDiv, Nat.reduceMod, Nat.reduceBEq, Nat.reduceLeDiff]
  have g2 : H1.get (H.next + 1) = some ⟨ty_palanquinref9_Structure, [.int .i64 0, .int .i64 0, .nils, .int .i64 0, .nils, .nils], none⟩ := by rw [← hH1]; simp (maxSteps := 1000000) (disch := first | omega | (simp only [RY] <;> omega) | decide) only [↓RD, RZ, eq_self, Int.reduceToNat, Int.reduceAdd, Int.reduceSub, Int.reduceMul, Nat.reduceAdd, Nat.reduceSub, Nat.reduceMul, Nat.reduceDiv, Nat.reduceMod, Nat.reduceBEq, Nat.reduceLeDiff]
  have g3 : H1.get (H.next + 2) = some ⟨ty_palanquinref9_Structure, [.int .i64 s.off, .int .i64 s.tar, .nils, .int .i64 s.cha, b, c], none⟩ := by rw [← hH1]; exact get_set_self _ _ _
  clear hH1
  have hwl : ws.length = s.ts.length := by rw [← hws, List.length_map]
  have hvl := h.ts.vlen
  refine ok_loop (fun k L H' => ∃ acc, L = [.int .i64 (k : Nat)] ∧ At1 (H.next + 2) H1 H' ∧ H'.get (H.next + 2) = some ⟨ty_palanquinref9_Structure, [.int .i64 s.off, .int .i64 s.tar, acc, .int .i64 s.cha, b, c], none⟩ ∧ App ty_palanquinref9_Template 5 H1.next H' acc ((ws.take k).map tc).flatten k) s.ts.length ?_ ?_ ?_
  · exact ⟨.nils, rfl, At1.refl _ _, g3, App.nil⟩
  · rintro k L H2 hk ⟨acc, rfl, t2, q2, ha⟩
    have n2 := t2.next
    have s2 : Grow H H2 := ⟨by omega, fun i hi => by rw [t2.same i (by omega) (by omega), s1.same i hi]⟩
    have u1 : H2.get H.next = _ := (t2.same _ (by omega) (by omega)).trans g1
    obtain ⟨p, hp, hpl⟩ := (hlc.ext s2).at (i := (k : Nat)) (by omega) (by omega)
    have e : ((ws.map tc).flatten.drop (k * 5)).take 5 = tc ws[k] := by
      rw [flat_piece _ (tc_len ws) k (by rw [List.length_map]; omega), List.getElem_map]
    rw [Int.toNat_natCast, e] at hpl
    have l2 := hpl.all
    unfold tc at l2
    dsimp only [List.length_cons, List.length_nil] at l2
    have hw := htm _ (List.getElem_mem (show k < ws.length by omega))
    have hd := hw.dti.cel
    have he := hw.dif.cel
    have hf := hw.cha.cel
    unfold f_palanquinhelp_Structure_0
    simp (maxSteps := 1000000) (disch := first | omega | (simp only [RY] <;> omega) | decide) only [↓RD, RZ, eq_self, Int.reduceToNat, Int.reduceAdd, Int.reduceSub, Int.reduceMul, Nat.reduceAdd, Nat.reduceSub, Nat.reduceMul, Nat.reduceDiv, Nat.reduceMod, Nat.reduceBEq, Nat.reduceLeDiff, u1, q2, hvl, hp, l2, hd.1, hd.2, he.1, he.2, hf.1, hf.2]
    refine okb_app (lo := H1.next) (bytes := 88) (App.keep ha ((Grow.new _ _).keep _)) (by rw [next_new]; omega) (acells_fresh (cs := tc ws[k]) rfl) rfl (by omega) (by omega) fun x' H3 ha3 hs3 => ?_
    have hacc : ∀ id, acc.pid = some id → H1.next ≤ id := fun id e => (ha.lc.own id e).1
    have n3 := hs3.next
    rw [next_new] at n3
    have low : ∀ i, i < H1.next → H3.get i = H2.get i := fun i hi => by
      rw [hs3.same i (by rw [next_new]; omega) (fun e => by have := hacc i (by simpa [mem_pid] using e); omega), get_new_ne _ _ (by omega)]
    have q3 : H3.get (H.next + 2) = _ := (low _ (by omega)).trans q2
    simp (maxSteps := 1000000) (disch := first | omega | (simp only [RY] <;> omega) | decide) only [↓RD, RZ, eq_self, Int.reduceToNat, Int.reduceAdd, Int.reduceSub, Int.reduceMul, Nat.reduceAdd, Nat.reduceSub, Nat.reduceMul, Nat.reduceDiv, Nat.reduceMod, Nat.reduceBEq, Nat.reduceLeDiff, q3, ha3.lc.cells1, ha3.lc.okc]
    refine ⟨x', by rfl, ⟨by rw [next_set]; omega, fun i hi hik => by rw [get_set_ne _ _ hik, low i hi, t2.same i hi hik]⟩, by first | rfl | exact get_set_self _ _ _, ?_⟩
    have e3 : ((ws.take (k + 1)).map tc).flatten = ((ws.take k).map tc).flatten ++ tc ws[k] := by
      rw [List.take_succ_eq_append_getElem (by omega), List.map_append, List.flatten_append, List.map_cons, List.map_nil, List.flatten_cons, List.flatten_nil, List.append_nil]
    rw [e3]
    exact App.keep ha3 (Keep.set _ (by omega) _)
  · rintro L H2 ⟨acc, rfl, t2, q2, ha⟩
    have n2 := t2.next
    have s2 : Grow H H2 := ⟨by omega, fun i hi => by rw [t2.same i (by omega) (by omega), s1.same i hi]⟩
    have u1 : H2.get H.next = _ := (t2.same _ (by omega) (by omega)).trans g1
    have u2 : H2.get (H.next + 1) = _ := (t2.same _ (by omega) (by omega)).trans g2
    have hal := ha.lc
    unfold f_palanquinhelp_Structure_0
    simp (maxSteps := 1000000) (disch := first | omega | (simp only [RY] <;> omega) | decide) only [↓RD, RZ, eq_self, Int.reduceToNat, Int.reduceAdd, Int.reduceSub, Int.reduceMul, Nat.reduceAdd, Nat.reduceSub, Nat.reduceMul, Nat.reduceDiv, Nat.reduceMod, Nat.reduceBEq, Nat.reduceLeDiff, u1, hvl, q2, u2, hal.cells1, hal.okc, h.pro.cells1, h.pro.okc, h.siz.cells1, h.siz.okc]
    have s3 : ∀ Q, Grow H (H2.set (H.next + 1) Q) := fun Q => s2.set (by omega) _
    rw [List.take_of_length_le (by omega), ← hwl] at hal
    exact ⟨⟨acc, rfl, (hal.setn (fun e => by have := (hal.own _ e).1; omega) _).low (by omega)⟩, s3 _⟩

set_option maxHeartbeats 1600000 in
theorem HFrame_ok {H : Heap} {v : V} {f : Fr} (h : FrR 0 H v f) (fo : FrO f) : Ok (sem T fn_palanquinhelp_Frame [v]) H fun r H' => FrR 0 H' r f ∧ Grow H H' := by
  obtain ⟨a, b, c, d, e, g, rfl, h⟩ := h
  obtain ⟨ca, cb, cc, cd, ce, cg⟩ := fr_dti h
  refine ok_palanquinhelp_Frame ?_
  unfold f_palanquinhelp_Frame
  unfold fcells
  simp (maxSteps := 1000000) (disch := first | omega | (simp only [RY] <;> omega) | decide) only [↓RD, RZ, eq_self, Int.reduceToNat, Int.reduceAdd, Int.reduceSub, Int.reduceMul, Nat.reduceAdd, Nat.reduceSub, Nat.reduceMul, Nat.reduceDiv, Nat.reduceMod, Nat.reduceBEq, Nat.reduceLeDiff, ca.1, ca.2, cb.1, cb.2, cc.1, cc.2, cd.1, cd.2, ce.1, ce.2, cg.1, cg.2]
  generalize hH1 : Heap.new (Heap.new H _) _ = H1
  have s1 : Grow H H1 := by rw [← hH1]; exact (Grow.new _ _).trans (Grow.new _ _)
  have n1 : H1.next = H.next + 2 := by rw [← hH1]; rfl
  have g1 : H1.get H.next = some ⟨ty_depend_Frame, fcells f a b c d e g, none⟩ := by rw [← hH1]; unfold fcells; simp (maxSteps := 1000000) (disch := first | omega | (simp only [RY] <;> omega) | decide) only [↓RD, RZ, eq_self, Int.reduceToNat, Int.reduceAdd, Int.reduceSub, Int.reduceMul, Nat.reduceAdd, Nat.reduceSub, Nat.reduceMul, Nat.reduceDiv, Nat.reduceMod, Nat.reduceBEq, Nat.reduceLeDiff]
  have z1 : H1.get (H.next + 1) = some ⟨ty_palanquinref9_Frame, fcells Fr0 .nils .nils .nils .nils .nils .nils, none⟩ := by rw [← hH1]; unfold fcells; simp (maxSteps := 1000000) (disch := first | omega | (simp only [RY] <;> omega) | decide) only [↓RD, RZ, eq_self, Int.reduceToNat, Int.reduceAdd, Int.reduceSub, Int.reduceMul, Nat.reduceAdd, Nat.reduceSub, Nat.reduceMul, Nat.reduceDiv, Nat.reduceMod, Nat.reduceBEq, Nat.reduceLeDiff]; rfl
  clear hH1
  unfold fcells at g1 z1
  obtain ⟨ws, hws, hlc, htm⟩ := h.s.ts
  refine ok_bind' (Structure_ok' (h.s.ext s1) fo.s hws (hlc.ext s1) (fun w hw => (htm w hw).ext s1)) ?_
  rintro _ H2 ⟨⟨x, rfl, hx⟩, s2⟩
  have n2 := s2.next
  have g2 : H2.get H.next = _ := (s2.same _ (by omega)).trans g1
  have z2 : H2.get (H.next + 1) = _ := (s2.same _ (by omega)).trans z1
  have cx := hx.cel
  unfold scells
  simp (maxSteps := 1000000) (disch := first | omega | (simp only [RY] <;> omega) | decide) only [↓RD, RZ, eq_self, Int.reduceToNat, Int.reduceAdd, Int.reduceSub, Int.reduceMul, Nat.reduceAdd, Nat.reduceSub, Nat.reduceMul, Nat.reduceDiv, Nat.reduceMod, Nat.reduceBEq, Nat.reduceLeDiff, g1, g2, z2, cx.1, cx.2, ca.1, ca.2, cb.1, cb.2, cc.1, cc.2, cd.1, cd.2, ce.1, ce.2, cg.1, cg.2]
  generalize hH3 : Heap.set H2 _ _ = H3
  have s3 : Grow H H3 := by rw [← hH3]; exact (s1.trans s2).set (by omega) _
  have hx3 : Lc 5 0 H3 x (ws.map tc).flatten ws.length := by rw [← hH3]; exact (hx.setn (fun e => by have := (hx.own _ e).1; omega) _).low (Nat.zero_le _)
  exact ⟨⟨x, b, c, d, e, g, rfl, ⟨⟨⟨ws, hws, hx3, fun w hw => (htm w hw).ext s3⟩, h.s.pro.ext s3, h.s.siz.ext s3⟩, h.dti.ext s3, h.dif.ext s3, h.cha.ext s3⟩⟩, s3⟩

theorem tail_ok {f f' : Fr} {s : Sr} {o : Option Tm} {σ : St} {bs : List Bool} (ht : 0 ≤ s.tar) (hc : 0 ≤ s.cha) (h : tailS f s o (ogP 17 []) σ = (f', .ok bs)) :
    ∃ t A ld le lc, o = some t ∧ f' = { f with act := A, dti := ld, dif := le, cha := lc } ∧ (f.has = true ∨ A = 0) ∧ A < 2 ^ s.tar.toNat ∧ (if f.od = true then wi ld s.tar 0 3 = true else ld = t.dti) ∧ (if f.of' = true then di le 16 4096 = true else le = t.dif) ∧ (if f.oc = true then wi lc s.cha 0 255 = true else lc = t.cha) := by
  rw [tailS_eq] at h
  have hk : ∀ o : Option Tm, Stb (tmS o) := fun o => by
    cases o with
    | none => exact stb_bind (stb_fail _) fun _ => stb_pure _
    | some t => exact stb_pure _
  obtain ⟨act, b1, e1, h⟩ := sb_ok (fun _ => by
    repeat' (first | exact stb_pure _ | exact stb_rd _ | exact hk _ | exact stb_nums _ _ | exact stb_ogP _ _ | exact stb_zeros | refine stb_bind ?_ fun _ => ?_ | refine stb_ite ?_ ?_)) h
  obtain ⟨t, b2, e2, h⟩ := sb_ok (fun _ => by
    repeat' (first | exact stb_pure _ | exact stb_rd _ | exact hk _ | exact stb_nums _ _ | exact stb_ogP _ _ | exact stb_zeros | refine stb_bind ?_ fun _ => ?_ | refine stb_ite ?_ ?_)) h
  obtain ⟨ld, b3, e3, h⟩ := sb_ok (fun _ => by
    repeat' (first | exact stb_pure _ | exact stb_rd _ | exact hk _ | exact stb_nums _ _ | exact stb_ogP _ _ | exact stb_zeros | refine stb_bind ?_ fun _ => ?_ | refine stb_ite ?_ ?_)) h
  obtain ⟨le, b4, e4, h⟩ := sb_ok (fun _ => by
    repeat' (first | exact stb_pure _ | exact stb_rd _ | exact hk _ | exact stb_nums _ _ | exact stb_ogP _ _ | exact stb_zeros | refine stb_bind ?_ fun _ => ?_ | refine stb_ite ?_ ?_)) h
  obtain ⟨lc, b5, e5, h⟩ := sb_ok (fun _ => by
    repeat' (first | exact stb_pure _ | exact stb_rd _ | exact hk _ | exact stb_nums _ _ | exact stb_ogP _ _ | exact stb_zeros | refine stb_bind ?_ fun _ => ?_ | refine stb_ite ?_ ?_)) h
  obtain ⟨u, b6, e6, h⟩ := sb_ok (fun _ => stb_pure _) h
  cases h
  have f1 := congrArg Prod.fst e1
  have f3 := congrArg Prod.fst e3
  have f4 := congrArg Prod.fst e4
  have f5 := congrArg Prod.fst e5
  dsimp only at f1 f3 f4 f5
  refine ⟨t, act.toNat, ld, le, lc, ?_, rfl, ?_, ?_, ?_, ?_, ?_⟩
  · cases o with
    | none =>
      obtain ⟨c, hc'⟩ := fail_err 2 (.ok b1)
      have : (tmS none (.ok b1)).2 = .error 2 := rfl
      rw [e2] at this; cases this
    | some t' =>
      have := congrArg Prod.fst e2
      exact congrArg some this
  · cases hh : f.has with
    | true => exact .inl rfl
    | false =>
      rw [hh, if_neg (by decide)] at f1
      subst f1
      exact .inr rfl
  · cases hh : f.has with
    | true =>
      rw [hh, if_pos rfl] at f1
      obtain ⟨m, hm, hm'⟩ := rd_nat s.tar.toNat σ
      rw [hm] at f1
      subst f1
      exact hm'
    | false =>
      rw [hh, if_neg (by decide)] at f1
      subst f1
      exact Nat.two_pow_pos _
  · obtain ⟨tn, htn⟩ := Int.eq_ofNat_of_zero_le ht
    split
    · rename_i hh
      rw [if_pos hh, htn, Int.toNat_natCast] at f3
      subst f3
      rw [htn]; exact wi_nums (fun σ => rd_hi (n := 2) (by decide) σ) _
    · rename_i hh
      rw [if_neg hh] at f3
      exact f3.symm
  · split
    · rename_i hh
      rw [if_pos hh] at f4
      subst f4
      exact di_iff.2 (ogP_rng 17 [] (by simp) (fun x hx => by cases hx) _)
    · rename_i hh
      rw [if_neg hh] at f4
      exact f4.symm
  · obtain ⟨cn, hcn⟩ := Int.eq_ofNat_of_zero_le hc
    split
    · rename_i hh
      rw [if_pos hh, hcn, Int.toNat_natCast] at f5
      subst f5
      rw [hcn]; exact wi_nums (fun σ => rd_hi (n := 8) (by decide) σ) _
    · rename_i hh
      rw [if_neg hh] at f5
      exact f5.symm

theorem cut_ok {x : Fr × St} {f : Fr} {bs : List Bool} (h : cut x = (f, .ok bs)) : x = (f, .ok bs) := by
  unfold cut at h
  obtain ⟨y, σ⟩ := x
  cases σ with
  | error c => cases h
  | ok b => exact h

theorem head_ok {more : Bool} {bits bs : List Bool} {f : Fr} (h : headS more (.ok bits) = (f, .ok bs)) : 0 ≤ f.id ∧ f.id ≤ 63 ∧ f.num < 65536 ∧ f.s = Sr0 ∧ f.act = 0 ∧ f.dti = [] ∧ f.dif = [] ∧ f.cha = [] := by
  unfold headS at h
  have hs : ∀ {α : Type} (x : S α), True := fun _ => trivial
  obtain ⟨v1, b1, e1, h⟩ := sb_ok (fun _ => by
    repeat' (first | exact stb_pure _ | exact stb_rd _ | refine stb_bind ?_ fun _ => ?_ | refine stb_ite ?_ ?_)) h
  obtain ⟨v2, b2, e2, h⟩ := sb_ok (fun _ => by
    repeat' (first | exact stb_pure _ | exact stb_rd _ | refine stb_bind ?_ fun _ => ?_ | refine stb_ite ?_ ?_)) h
  obtain ⟨v3, b3, e3, h⟩ := sb_ok (fun _ => by
    repeat' (first | exact stb_pure _ | exact stb_rd _ | refine stb_bind ?_ fun _ => ?_ | refine stb_ite ?_ ?_)) h
  obtain ⟨v4, b4, e4, h⟩ := sb_ok (fun _ => by
    repeat' (first | exact stb_pure _ | exact stb_rd _ | refine stb_bind ?_ fun _ => ?_ | refine stb_ite ?_ ?_)) h
  have r3 := rd_hi (n := 6) (hi := 63) (by decide) (.ok b2)
  have r4 := rd_hi (n := 16) (hi := 65535) (by decide) (.ok b3)
  rw [e3] at r3
  rw [e4] at r4
  have hf := congrArg Prod.fst h
  dsimp only [sb, sp] at hf r3 r4
  subst hf
  exact ⟨r3.1, r3.2, by show v4.toNat < 65536; omega, rfl, rfl, rfl, rfl, rfl⟩

/-- What was read may be. -/
theorem parse_good {more : Bool} {bits : List Bool} {k : Sr} {f : Fr} {bs : List Bool} (h : parseB bodyP more bits k = (f, .ok bs)) : good f k = true ∧ FrO f := by
  obtain ⟨f0, σh, eh⟩ := pr_ex (headS more (.ok bits))
  rw [parseB_aft eh] at h
  cases σh with
  | error c => cases h
  | ok b =>
  obtain ⟨i0, i1, hnum, hs, hact, hd1, hd2, hd3⟩ := head_ok eh
  have h : bodyP f0 k (.ok b) = (f, .ok bs) := h
  have main : ∀ (s : Sr) (g0 : Fr) (σ : St), Fine s → hold g0 k = s → (g0.s = s ∨ g0.s = Sr0) → g0.id = f0.id → g0.num = f0.num → (g0.new = true ∨ g0.s = Sr0) → tailS g0 s (tmPl s g0.id) (ogP 17 []) σ = (f, .ok bs) → good f k = true ∧ FrO f := by
    intro s g0 σ hF hh hgs hid hnm hn ht
    have tar := hF.tar
    have cha := hF.cha
    have so := hF.o
    obtain ⟨t, A, ld, le, lc, ho, rfl, ha, hb, hd, he, hc⟩ := tail_ok (by omega) (by omega) ht
    have hto : tmOf s g0.id = some t := by unfold tmOf; rw [if_pos (fine_yes hF)]; exact ho
    have hmem : t ∈ s.ts := by
      unfold tmPl at ho
      split at ho
      · exact List.mem_of_getElem? ho
      · cases ho
    have to := so.tm t hmem
    have tn32 : 2 ^ s.tar.toNat ≤ 2 ^ 32 := Nat.pow_le_pow_right (by decide) (by omega)
    have hh' : hold { g0 with act := A, dti := ld, dif := le, cha := lc } k = s := hh
    constructor
    · unfold good
      refine dec_yes ?_
      unfold GoodP
      rw [hh']
      refine ⟨t, hto, ⟨?_, ha, hb, hd, he, hc⟩⟩
      rcases hn with hn | hn
      · exact .inl hn
      · refine .inr ?_
        show isZ g0.s = true
        rw [hn]; rfl
    · refine ⟨by show R64 g0.id; rw [hid]; exact ⟨by omega, by omega⟩, by show g0.num < 65536; rw [hnm]; exact hnum, ?_, by show A < 4294967296; omega, ?_, ?_, ?_⟩
      · show SrO g0.s
        rcases hgs with h | h
        · rw [h]; exact so
        · rw [h]; exact sr0_o
      · show I64 ld ∧ _
        split at hd
        · have := wi_iff.1 hd
          exact ⟨fun x hx => by have := this.2 x hx; exact ⟨by omega, by omega⟩, by have := this.1; show ld.length ≤ 1048576; omega⟩
        · rw [hd]; exact to.dti
      · show I64 le ∧ _
        split at he
        · have := di_iff.1 he
          exact ⟨fun x hx => by have := this.2 x hx; exact ⟨by omega, by omega⟩, by have := this.1; show le.length ≤ 1048576; omega⟩
        · rw [he]; exact to.dif
      · show I64 lc ∧ _
        split at hc
        · have := wi_iff.1 hc
          exact ⟨fun x hx => by have := this.2 x hx; exact ⟨by omega, by omega⟩, by have := this.1; show lc.length ≤ 1048576; omega⟩
        · rw [hc]; exact to.cha
  unfold bodyP at h
  cases hn : f0.new with
  | true =>
    rw [if_pos hn] at h
    dsimp only at h
    have h := cut_ok h
    cases e : (strS wayP (.ok b)).2 with
    | error c =>
      rw [e] at h
      have := congrArg Prod.snd h
      rw [stb_tail (stb_ogP _ _)] at this
      cases this
    | ok b' =>
      exact main _ { f0 with s := (strS wayP (.ok b)).1 } _ (strS_fine (bs := b') (by rw [← e])) (by unfold hold; rw [if_pos hn]) (.inl rfl) rfl rfl (.inl hn) h
  | false =>
    rw [if_neg (by rw [hn]; decide)] at h
    by_cases hk : fine k = true
    · rw [if_pos hk] at h
      exact main k f0 _ (fine_iff.1 hk) (by unfold hold; rw [if_neg (by rw [hn]; decide)]) (.inr hs) rfl rfl (.inr hs) (cut_ok h)
    · rw [if_neg hk] at h
      cases h

theorem fr0_o : FrO Fr0 := ⟨by decide, by decide, sr0_o, by decide, ⟨by decide, by decide⟩, ⟨by decide, by decide⟩, ⟨by decide, by decide⟩⟩
theorem parse_err {more : Bool} {bits : List Bool} {k : Sr} {c : Int} (h : (parseB bodyP more bits k).2 = .error c) : (parseB bodyP more bits k).1 = Fr0 := by
  obtain ⟨f0, σh, eh⟩ := pr_ex (headS more (.ok bits))
  rw [parseB_aft eh] at h ⊢
  cases σh with
  | error c => rfl
  | ok b =>
    have h : (bodyP f0 k (.ok b)).2 = .error c := h
    show (bodyP f0 k (.ok b)).1 = Fr0
    unfold bodyP at h ⊢
    have hcut : ∀ x : Fr × St, (cut x).2 = .error c → (cut x).1 = Fr0 := fun x hx => by
      unfold cut at hx ⊢
      cases e : x.2 with
      | error c => rfl
      | ok b => rw [e] at hx; cases hx
    split
    · rename_i hn
      rw [if_pos hn] at h
      exact hcut _ h
    · rename_i hn
      rw [if_neg hn] at h
      split
      · rename_i hk
        rw [if_pos hk] at h
        exact hcut _ h
      · rfl
theorem parse_o (more : Bool) (bits : List Bool) (k : Sr) : FrO (parseB bodyP more bits k).1 := by
  cases e : (parseB bodyP more bits k).2 with
  | error c => rw [parse_err e]; exact fr0_o
  | ok bs => exact (parse_good (bs := bs) (Prod.ext rfl e)).2

end Go.Ax.D9
/- DepRj -/
set_option maxRecDepth 100000
set_option linter.unusedVariables false
set_option linter.unusedSimpArgs false
namespace Go.Ax.D9
open Go.Ax B6
set_option maxHeartbeats 3200000 in
theorem dreads_ok {H : Heap} {v w : V} {l : List Nat} {k : Sr} (hv : Ar by8 v l) (hlt : ∀ i (h : i < l.length), l[i] < 256) (hl : l.length ≤ 1048576) (hw : ∀ lo H, SrR lo H w k) (ko : SrO k) :
    Ok (sem T fn_palanquinlaw9_DependReads [v, w]) H fun r H' => r = .bool true := by
  obtain ⟨kp, kq, kr, rfl, hk⟩ := hw 0 H
  have kts := hk.ts.cel
  have kpr := hk.pro.cel
  have ksi := hk.siz.cel
  refine ok_palanquinlaw9_DependReads ?_
  unfold f_palanquinlaw9_DependReads
  unfold scells
  simp (maxSteps := 1000000) (disch := first | omega | (simp only [RY] <;> omega) | decide) only [↓RD, RZ, eq_self, Int.reduceToNat, Int.reduceAdd, Int.reduceSub, Int.reduceMul, Nat.reduceAdd, Nat.reduceSub, Nat.reduceMul, Nat.reduceDiv, Nat.reduceMod, Nat.reduceBEq, Nat.reduceLeDiff, kts.1, kts.2, kpr.1, kpr.2, ksi.1, ksi.2]
  generalize hH1 : Heap.new H _ = H1
  have s1 : Grow H H1 := by rw [← hH1]; exact Grow.new _ _
  have n1 : H1.next = H.next + 1 := by rw [← hH1]; rfl
  have g1 : H1.get H.next = some ⟨ty_depend_Structure, [.int .i64 k.off, .int .i64 k.tar, kp, .int .i64 k.cha, kq, kr], none⟩ := by rw [← hH1]; exact get_new_self _ _
  clear hH1
  refine ok_bind' awake9_ok ?_
  rintro _ H2 ⟨rfl, s2⟩
  have n2 := s2.next
  have g2 : H2.get H.next = _ := (s2.same _ (by omega)).trans g1
  simp (maxSteps := 1000000) (disch := first | omega | (simp only [RY] <;> omega) | decide) only [↓RD, RZ, eq_self, Int.reduceToNat, Int.reduceAdd, Int.reduceSub, Int.reduceMul, Nat.reduceAdd, Nat.reduceSub, Nat.reduceMul, Nat.reduceDiv, Nat.reduceMod, Nat.reduceBEq, Nat.reduceLeDiff, g2]
  refine ok_bind' (heavy9_ok (hw 0 _) ko) ?_
  rintro _ H3 ⟨⟨b1, rfl, -⟩, s3⟩
  have n3 := s3.next
  have g3 : H3.get H.next = _ := (s3.same _ (by omega)).trans g2
  cases b1 with
  | true => simp (maxSteps := 1000000) (disch := first | omega | (simp only [RY] <;> omega) | decide) only [↓RD, RZ, eq_self, Int.reduceToNat, Int.reduceAdd, Int.reduceSub, Int.reduceMul, Nat.reduceAdd, Nat.reduceSub, Nat.reduceMul, Nat.reduceDiv, Nat.reduceMod, Nat.reduceBEq, Nat.reduceLeDiff]
  | false =>
  simp (maxSteps := 1000000) (disch := first | omega | (simp only [RY] <;> omega) | decide) only [↓RD, RZ, eq_self, Int.reduceToNat, Int.reduceAdd, Int.reduceSub, Int.reduceMul, Nat.reduceAdd, Nat.reduceSub, Nat.reduceMul, Nat.reduceDiv, Nat.reduceMod, Nat.reduceBEq, Nat.reduceLeDiff, hv.vlen]
  by_cases h2000 : 2000 < l.length
  · simp (maxSteps := 1000000) (disch := first | omega | (simp only [RY] <;> omega) | decide) only [↓RD, RZ, eq_self, Int.reduceToNat, Int.reduceAdd, Int.reduceSub, Int.reduceMul, Nat.reduceAdd, Nat.reduceSub, Nat.reduceMul, Nat.reduceDiv, Nat.reduceMod, Nat.reduceBEq, Nat.reduceLeDiff]
  · simp (maxSteps := 1000000) (disch := first | omega | (simp only [RY] <;> omega) | decide) only [↓RD, RZ, eq_self, Int.reduceToNat, Int.reduceAdd, Int.reduceSub, Int.reduceMul, Nat.reduceAdd, Nat.reduceSub, Nat.reduceMul, Nat.reduceDiv, Nat.reduceMod, Nat.reduceBEq, Nat.reduceLeDiff, g3]
    refine ok_bind' (Parse_ok hv.rc hv.vlen (fun i hi => by rw [hv.pid] at hi; cases hi) hlt hl (hw 0 _) ko) ?_
    rintro _ H4 ⟨⟨a, b, c, d, e, g, rfl, hf⟩, s4⟩
    obtain ⟨ca, cb, cc, cd, ce, cg⟩ := fr_dti hf
    have n4 := s4.next
    have g4 : H4.get H.next = _ := (s4.same _ (by omega)).trans g3
    have fo := parse_o (decide (3 < l.length)) (ub l) k
    have hps := parse_same (decide (3 < l.length)) (ub l) k
    generalize parseB bodyP (decide (3 < l.length)) (ub l) k = X at *
    obtain ⟨f, σ⟩ := X
    dsimp only at hf ca fo ⊢
    unfold fcells
    simp (maxSteps := 1000000) (disch := first | omega | (simp only [RY] <;> omega) | decide) only [↓RD, RZ, eq_self, Int.reduceToNat, Int.reduceAdd, Int.reduceSub, Int.reduceMul, Nat.reduceAdd, Nat.reduceSub, Nat.reduceMul, Nat.reduceDiv, Nat.reduceMod, Nat.reduceBEq, Nat.reduceLeDiff, ca.1, ca.2, cb.1, cb.2, cc.1, cc.2, cd.1, cd.2, ce.1, ce.2, cg.1, cg.2, g4]
    generalize hH5 : Heap.set (Heap.new H4 _) _ _ = H5
    have s5 : Grow H4 H5 := by rw [← hH5]; exact (Grow.new _ _).set (Nat.le_refl _) _
    have n5 : H5.next = H4.next + 1 := by rw [← hH5]; rfl
    have g5 : H5.get H4.next = some ⟨ty_depend_Frame, fcells f a b c d e g, none⟩ := by rw [← hH5]; unfold fcells; simp (maxSteps := 1000000) (disch := first | omega | (simp only [RY] <;> omega) | decide) only [↓RD, RZ, eq_self, Int.reduceToNat, Int.reduceAdd, Int.reduceSub, Int.reduceMul, Nat.reduceAdd, Nat.reduceSub, Nat.reduceMul, Nat.reduceDiv, Nat.reduceMod, Nat.reduceBEq, Nat.reduceLeDiff]
    clear hH5
    unfold fcells at g5
    refine ok_bind' (Structure_ok (hw 0 _) ko) ?_
    rintro w' H6 ⟨hw', s6⟩
    refine ok_bind' (Parse2_ok hv hlt hl hw' ko) ?_
    rintro _ H7 ⟨⟨a', b', c', d', e', g', rfl, hf'⟩, s7⟩
    rw [← hps] at hf' ⊢
    obtain ⟨ca', cb', cc', cd', ce', cg'⟩ := fr_dti hf'
    have n7 := (s6.trans s7).next
    have g7 : H7.get H4.next = _ := ((s6.trans s7).same _ (by omega)).trans g5
    have hf7 := ((hf.ext s5).ext s6).ext s7
    dsimp only at hf' ca' ⊢
    unfold fcells
    simp (maxSteps := 1000000) (disch := first | omega | (simp only [RY] <;> omega) | decide) only [↓RD, RZ, eq_self, Int.reduceToNat, Int.reduceAdd, Int.reduceSub, Int.reduceMul, Nat.reduceAdd, Nat.reduceSub, Nat.reduceMul, Nat.reduceDiv, Nat.reduceMod, Nat.reduceBEq, Nat.reduceLeDiff, ca'.1, ca'.2, cb'.1, cb'.2, cc'.1, cc'.2, cd'.1, cd'.2, ce'.1, ce'.2, cg'.1, cg'.2, g7, beq_self_eq_true]
    generalize hH8 : Heap.set (Heap.new H7 _) _ _ = H8
    have s8 : Grow H7 H8 := by rw [← hH8]; exact (Grow.new _ _).set (Nat.le_refl _) _
    have n8 : H8.next = H7.next + 1 := by rw [← hH8]; rfl
    have g8 : H8.get H7.next = some ⟨ty_palanquinref9_Frame, fcells f a' b' c' d' e' g', none⟩ := by rw [← hH8]; unfold fcells; simp (maxSteps := 1000000) (disch := first | omega | (simp only [RY] <;> omega) | decide) only [↓RD, RZ, eq_self, Int.reduceToNat, Int.reduceAdd, Int.reduceSub, Int.reduceMul, Nat.reduceAdd, Nat.reduceSub, Nat.reduceMul, Nat.reduceDiv, Nat.reduceMod, Nat.reduceBEq, Nat.reduceLeDiff]
    clear hH8
    unfold fcells at g8
    have hf8 := (hf7.ext s8).val
    unfold fcells at hf8
    refine ok_bind' (HFrame_ok hf8 fo) ?_
    rintro u H9 ⟨hu, s9⟩
    have g9 : H9.get H7.next = _ := (s9.same _ (by omega)).trans g8
    simp (maxSteps := 1000000) (disch := first | omega | (simp only [RY] <;> omega) | decide) only [↓RD, RZ, eq_self, Int.reduceToNat, Int.reduceAdd, Int.reduceSub, Int.reduceMul, Nat.reduceAdd, Nat.reduceSub, Nat.reduceMul, Nat.reduceDiv, Nat.reduceMod, Nat.reduceBEq, Nat.reduceLeDiff, g8, g9]
    have hf9 := ((hf'.ext s8).ext s9).val
    unfold fcells at hf9
    refine ok_bind' (SameFrame_same hu hf9 fo) ?_
    rintro _ Ha rfl
    simp (maxSteps := 1000000) (disch := first | omega | (simp only [RY] <;> omega) | decide) only [↓RD, RZ, eq_self, Int.reduceToNat, Int.reduceAdd, Int.reduceSub, Int.reduceMul, Nat.reduceAdd, Nat.reduceSub, Nat.reduceMul, Nat.reduceDiv, Nat.reduceMod, Nat.reduceBEq, Nat.reduceLeDiff]

end Go.Ax.D9
namespace Go.Ax
open D9
theorem law_dependReads (us : List V) (h : TyArgs [.sl (.int .u8), .st shSr] us) (hb : V.blks us ≤ 1048576) : ∃ H', sem T fn_palanquinlaw9_DependReads us H0 = some (.bool true, H') := by
  obtain ⟨u0, u1, rfl⟩ : ∃ u0 u1, us = [u0, u1] := by
    rcases us with _ | ⟨u0, _ | ⟨u1, _ | ⟨u2, us⟩⟩⟩
    · cases h
    · cases h.2
    · exact ⟨_, _, rfl⟩
    · cases h.2.2
  simp only [V.blks] at hb
  obtain ⟨v, l, hvs, hv, h8⟩ := sh_u8s h.1
  cases hvs
  obtain ⟨s, hs, ho⟩ := sr_arg h.2.1 (by omega)
  have hlen := hv.blk (fun x => by simp [by8, V.blk])
  obtain ⟨r, H', e1, rfl⟩ := dreads_ok (H := H0) hv (fun i hi => h8 _ (List.getElem_mem hi)) (by omega) hs ho
  exact ⟨H', e1⟩

end Go.Ax
