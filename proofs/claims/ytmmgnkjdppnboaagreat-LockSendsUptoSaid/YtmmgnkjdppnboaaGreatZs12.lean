/-
  Texts of mine, put together by program (wip/slim.py), for law_lockSends: part 12.
-/
import Derived.Test.YtmmgnkjdppnboaaGreatZs11
set_option linter.unusedVariables false
set_option linter.unusedSimpArgs false
set_option linter.defProp false
set_option maxRecDepth 100000
/- Re2 -/
namespace Go.Ax.SU
open Go.Ax
theorem zts {s vb:Nat} {u6:V} {H:Heap} {h ws:List UInt32} (hh:h.length = 8) (hw:ws.length = 8) (hs:H.get s = some ⟨zao,h.map w32,none⟩) (hb:H.get vb = some ⟨zao,ws.map w32,none⟩) (hne:vb ≠ s) (hvl:vb < H.next) :
  Ok (M.iter (zbW (sem T) (.ptr vb 0) (.ptr s 0) u6) [.int .i64 0]) H fun x H'=>x = .ex 6 [] ∧ H'.get s = some ⟨zao,((List.range 8).map fun i=>h.getD i 0 + ws.getD i 0).map w32,none⟩ ∧ At1 s H H':=by
 refine zaF (fun k L H'=>L = [.int .i64 (k:Nat)] ∧ H'.get s = some ⟨zao,(part h ws k).map w32,none⟩ ∧ At1 s H H') 8 ?_ ?_ ?_
 ·exact ⟨rfl,by rw [zov ws hh]; exact hs,At1.refl _ _⟩
 ·rintro k L H1 hk ⟨rfl,g1,s1⟩
  have gb:=(s1.same vb hvl hne).trans hb
  have i1:=wg (ws:=part h ws k) (i:=k) (by rw [zeO]; exact hk)
  have i2:=wg (ws:=ws) (i:=k) (by omega)
  rw [zhS h ws k hk,if_neg (by omega)] at i1
  have hl:((part h ws k).map w32).length = 8:=by rw [List.length_map,zeO]
  have hsp:splice ((part h ws k).map w32) k [w32 (h.getD k 0 + ws.getD k 0)] = (part h ws (k + 1)).map w32:=by
   rw [zkG _ _ _ (by rw [hl]; omega),← List.map_set,zqE hk]
  unfold zbW
  simp (disch:=omega) only [↓RD,RZ,eq_self,seval,g1,gb,i1,i2,zrq,w_ok,zg3,hsp,hl]
  exact ⟨by omega,rfl,s1.trans (At1.set s _ _)⟩
 ·rintro L H1 ⟨rfl,g1,s1⟩
  unfold zbW
  simp (disch:=omega) only [↓RD,RZ,eq_self,seval]
  refine ⟨?_,s1⟩
  rw [g1]
  have:part h ws 8 = (List.range 8).map fun i=>h.getD i 0 + ws.getD i 0:=List.map_congr_left fun i hi=>by rw [if_pos (List.mem_range.1 hi)]
  rw [this]
theorem zkC (l:List UInt32):V.okc (.agg (l.map w32)) = true:=by
 simp only [V.okc,List.all_map,List.all_eq_true]
 try (intro x _; rfl)
theorem ldw {l:List UInt32} {n:Nat} (hl:l.length = n):ldc (some n) (l.map w32) 0 = some (.agg (l.map w32)):=by
 rw [zc0 (by rw [List.length_map]; omega),List.drop_zero,List.take_of_length_le (by rw [List.length_map]; omega)]
theorem spw {l:List UInt32} {n:Nat} (hl:l.length = n) {L:List V} (hL:L.length = n):splice L 0 (l.map w32) = l.map w32:=by
 unfold splice
 rw [List.take_zero,List.nil_append,List.length_map,hl,List.drop_of_length_le (by omega),List.append_nil]
theorem zrP {lo:Nat} {H:Heap} {v:V} {l:List Nat} {h:List UInt32} (hh:h.length = 8) (hv:By lo H v l) (h8:Ok8 l) (hl:l.length = 64) :
  Ok (sem T zcl [.agg (h.map w32),v, .agg (kc.map w32)]) H fun r H'=>r = .agg ((comp kc h l).map w32) ∧ Grow H H':=by
 refine zhF ?_
 unfold ze2
 have hvl:∀ i,v.pid = some i → i < H.next:=fun i hi=>(hv.own i hi).2
 refine zap (zaU (zkC _) ?_)
 rw [zai]
 have s1:=Grow.new H ⟨zao,h.map w32,none⟩
 have g1:(H.new ⟨zao,h.map w32,none⟩).get H.next = some ⟨zao,h.map w32,none⟩:=zad _ _
 have n1:(H.new ⟨zao,h.map w32,none⟩).next = H.next + 1:=zaf _ _
 generalize ha:H.next = a at *
 generalize H.new _ = H1 at *
 refine zap (zaU (zkC _) ?_)
 rw [zai]
 have s2:=Grow.new H1 ⟨zat,kc.map w32,none⟩
 have g2:(H1.new ⟨zat,kc.map w32,none⟩).get H1.next = some ⟨zat,kc.map w32,none⟩:=zad _ _
 have n2:(H1.new ⟨zat,kc.map w32,none⟩).next = H1.next + 1:=zaf _ _
 have ga2:=(s2.same a (by omega)).trans g1
 generalize hb:H1.next = b at *
 generalize H1.new _ = H2 at *
 refine zap (zaU (by rfl) ?_)
 rw [zai]
 have s3:=Grow.new H2 ⟨zao,[.int .u32 0, .int .u32 0, .int .u32 0, .int .u32 0, .int .u32 0, .int .u32 0, .int .u32 0, .int .u32 0],none⟩
 have g3:(H2.new ⟨zao,[.int .u32 0, .int .u32 0, .int .u32 0, .int .u32 0, .int .u32 0, .int .u32 0, .int .u32 0, .int .u32 0],none⟩).get H2.next = some ⟨zao,[.int .u32 0, .int .u32 0, .int .u32 0, .int .u32 0, .int .u32 0, .int .u32 0, .int .u32 0, .int .u32 0],none⟩:=zad _ _
 have n3:(H2.new ⟨zao,[.int .u32 0, .int .u32 0, .int .u32 0, .int .u32 0, .int .u32 0, .int .u32 0, .int .u32 0, .int .u32 0],none⟩).next = H2.next + 1:=zaf _ _
 have ga3:=(s3.same a (by omega)).trans ga2
 have gb3:=(s3.same b (by omega)).trans g2
 generalize hc:H2.next = c at *
 generalize H2.new _ = H3 at *
 refine zap (zaU (by rfl) ?_)
 rw [zai]
 have s4:=Grow.new H3 ⟨zat,[.int .u32 0, .int .u32 0, .int .u32 0, .int .u32 0, .int .u32 0, .int .u32 0, .int .u32 0, .int .u32 0, .int .u32 0, .int .u32 0, .int .u32 0, .int .u32 0, .int .u32 0, .int .u32 0, .int .u32 0, .int .u32 0, .int .u32 0, .int .u32 0, .int .u32 0, .int .u32 0, .int .u32 0, .int .u32 0, .int .u32 0, .int .u32 0, .int .u32 0, .int .u32 0, .int .u32 0, .int .u32 0, .int .u32 0, .int .u32 0, .int .u32 0, .int .u32 0, .int .u32 0, .int .u32 0, .int .u32 0, .int .u32 0, .int .u32 0, .int .u32 0, .int .u32 0, .int .u32 0, .int .u32 0, .int .u32 0, .int .u32 0, .int .u32 0, .int .u32 0, .int .u32 0, .int .u32 0, .int .u32 0, .int .u32 0, .int .u32 0, .int .u32 0, .int .u32 0, .int .u32 0, .int .u32 0, .int .u32 0, .int .u32 0, .int .u32 0, .int .u32 0, .int .u32 0, .int .u32 0, .int .u32 0, .int .u32 0, .int .u32 0, .int .u32 0],none⟩
 have g4:(H3.new ⟨zat,[.int .u32 0, .int .u32 0, .int .u32 0, .int .u32 0, .int .u32 0, .int .u32 0, .int .u32 0, .int .u32 0, .int .u32 0, .int .u32 0, .int .u32 0, .int .u32 0, .int .u32 0, .int .u32 0, .int .u32 0, .int .u32 0, .int .u32 0, .int .u32 0, .int .u32 0, .int .u32 0, .int .u32 0, .int .u32 0, .int .u32 0, .int .u32 0, .int .u32 0, .int .u32 0, .int .u32 0, .int .u32 0, .int .u32 0, .int .u32 0, .int .u32 0, .int .u32 0, .int .u32 0, .int .u32 0, .int .u32 0, .int .u32 0, .int .u32 0, .int .u32 0, .int .u32 0, .int .u32 0, .int .u32 0, .int .u32 0, .int .u32 0, .int .u32 0, .int .u32 0, .int .u32 0, .int .u32 0, .int .u32 0, .int .u32 0, .int .u32 0, .int .u32 0, .int .u32 0, .int .u32 0, .int .u32 0, .int .u32 0, .int .u32 0, .int .u32 0, .int .u32 0, .int .u32 0, .int .u32 0, .int .u32 0, .int .u32 0, .int .u32 0, .int .u32 0],none⟩).get H3.next = some ⟨zat,List.replicate 64 (.int .u32 0),none⟩:=zad _ _
 have n4:(H3.new ⟨zat,[.int .u32 0, .int .u32 0, .int .u32 0, .int .u32 0, .int .u32 0, .int .u32 0, .int .u32 0, .int .u32 0, .int .u32 0, .int .u32 0, .int .u32 0, .int .u32 0, .int .u32 0, .int .u32 0, .int .u32 0, .int .u32 0, .int .u32 0, .int .u32 0, .int .u32 0, .int .u32 0, .int .u32 0, .int .u32 0, .int .u32 0, .int .u32 0, .int .u32 0, .int .u32 0, .int .u32 0, .int .u32 0, .int .u32 0, .int .u32 0, .int .u32 0, .int .u32 0, .int .u32 0, .int .u32 0, .int .u32 0, .int .u32 0, .int .u32 0, .int .u32 0, .int .u32 0, .int .u32 0, .int .u32 0, .int .u32 0, .int .u32 0, .int .u32 0, .int .u32 0, .int .u32 0, .int .u32 0, .int .u32 0, .int .u32 0, .int .u32 0, .int .u32 0, .int .u32 0, .int .u32 0, .int .u32 0, .int .u32 0, .int .u32 0, .int .u32 0, .int .u32 0, .int .u32 0, .int .u32 0, .int .u32 0, .int .u32 0, .int .u32 0, .int .u32 0],none⟩).next = H3.next + 1:=zaf _ _
 have ga4:=(s4.same a (by omega)).trans ga3
 have gb4:=(s4.same b (by omega)).trans gb3
 have gc4:=(s4.same c (by omega)).trans g3
 generalize hd:H3.next = d at *
 generalize H3.new _ = H4 at *
 have s04:Grow H H4:=((s1.trans s2).trans s3).trans s4
 have hv4:=hv.ext s04
 rw [← ha] at *
 simp (disch:=omega) only [↓RD,RZ,eq_self,seval]
 refine zar (ztv hv4 h8 hl g4 (fun e=>by have:=hvl _ e; omega) (by omega)) ?_
 rintro _ H5 ⟨rfl,g5,s5⟩
 have n5:=s5.next
 simp (disch:=omega) only [↓RD,RZ,eq_self,seval]
 refine zar (ztu g5 (by omega)) ?_
 rintro _ H6 ⟨rfl,g6,s6⟩
 have n6:=s6.next
 have s46:=s5.trans s6
 have ga6:=(s46.same _ (by omega) (by omega)).trans ga4
 have gb6:=(s46.same b (by omega) (by omega)).trans gb4
 have gc6:=(s46.same c (by omega) (by omega)).trans gc4
 have l1:=ldw hh
 have l2:=spw hh (L:=[.int .u32 0, .int .u32 0, .int .u32 0, .int .u32 0, .int .u32 0, .int .u32 0, .int .u32 0, .int .u32 0]) rfl
 have l3:(h.map w32).length = 8:=by rw [List.length_map,hh]
 simp (disch:=omega) only [↓RD,RZ,eq_self,seval,ga6,l1,zkC,zai,l2,l3]
 have s7:Grow H6 ((H6.new ⟨zao,[.int .u32 0, .int .u32 0, .int .u32 0, .int .u32 0, .int .u32 0, .int .u32 0, .int .u32 0, .int .u32 0],none⟩).set H6.next (some ⟨zao,h.map w32,none⟩)):=(Grow.new _ _).set (Nat.le_refl _) _
 have g7:((H6.new ⟨zao,[.int .u32 0, .int .u32 0, .int .u32 0, .int .u32 0, .int .u32 0, .int .u32 0, .int .u32 0, .int .u32 0],none⟩).set H6.next (some ⟨zao,h.map w32,none⟩)).get H6.next = _:=zaj _ _ _
 have n7:((H6.new ⟨zao,[.int .u32 0, .int .u32 0, .int .u32 0, .int .u32 0, .int .u32 0, .int .u32 0, .int .u32 0, .int .u32 0],none⟩).set H6.next (some ⟨zao,h.map w32,none⟩)).next = H6.next + 1:=rfl
 generalize he:H6.next = e at *
 generalize Heap.set _ e _ = H7 at *
 have ga7:=(s7.same _ (by omega)).trans ga6
 have gb7:=(s7.same b (by omega)).trans gb6
 have gc7:=(s7.same c (by omega)).trans gc6
 have gd7:=(s7.same d (by omega)).trans g6
 refine zar (ztt hh gb7 gd7 g7 (by omega) (by omega) (by omega) (by omega)) ?_
 rintro _ H8 ⟨rfl,g8,s8⟩
 have n8:=s8.next
 have ga8:=(s8.same _ (by omega) (by omega)).trans ga7
 have gc8:=(s8.same c (by omega) (by omega)).trans gc7
 simp (disch:=omega) only [↓RD,RZ,eq_self,seval]
 refine zar (zts hh (zk9 hh 64) ga8 g8 (by omega) (by omega)) ?_
 rintro _ H9 ⟨rfl,g9,s9⟩
 have n9:=s9.next
 have gc9:=(s9.same c (by omega) (by omega)).trans gc8
 have cl:=zlk kc h l
 have ec:((List.range 8).map fun i=>h.getD i 0 + (rnds kc (wl l 64) h 64).getD i 0) = comp kc h l:=rfl
 rw [ec] at g9
 have m1:=ldw cl
 have m2:=spw cl (L:=[.int .u32 0, .int .u32 0, .int .u32 0, .int .u32 0, .int .u32 0, .int .u32 0, .int .u32 0, .int .u32 0]) rfl
 have m3:((comp kc h l).map w32).length = 8:=by rw [List.length_map,cl]
 simp (disch:=omega) only [↓RD,RZ,eq_self,seval,g9,m1,gc9,zkC,zai,m2,m3]
 exact ⟨by rw [zan]; omega,fun i hi=>by rw [zak _ _ (by omega),s9.same i (by omega) (by omega),s8.same i (by omega) (by omega),s7.same i (by omega),s46.same i (by omega) (by omega),s04.same i hi]⟩
end Go.Ax.SU
/- Re3 -/
namespace Go.Ax.SU
open Go.Ax
theorem zo7 {β:Type} {lo:Nat} {H:Heap} {y:V} {l:List Nat} {f:V → M β} {Q:β → Heap → Prop} (hy:By lo H y l) (hl:l.length ≤ 140737488355328)
  (k:∀ x' H',Ab H.next H' x' l → Grow H H' → Ok (f x') H' Q):Ok ((mappend zac 1 1 (.sl H.next 0 0 (.fix 0)) y).bind f) (H.new ⟨zac,[],none⟩) Q :=
 okb_copy hy.ac (fun i hi=>(hy.own i hi).2) (by rw [List.length_map]; omega) (by omega) (by omega) fun x' H' h g=>k x' H' (.app h) g
theorem U_ok {lo:Nat} {H:Heap} {bv:V} {b:List Nat} (n k:Nat) (hb:By lo H bv b) (hn:n < 18446744073709551616) (hk:k ≤ 16) (hbl:b.length ≤ 1099511627000):Ok (sem T zaQ [bv, .int .u64 (n:Nat), .int .i64 (k:Nat)]) H fun r H'=>Ab H.next H' r (b ++ num n k) ∧ Grow H H':=by
 refine zjB ?_
 unfold zgS
 simp (disch:=omega) only [↓RD,RZ,eq_self,seval]
 rw [zaK]
 refine zo7 hb (by omega) fun x0 H0' hx0 s0=>?_
 simp (disch:=omega) only [↓RD,RZ,eq_self,seval]
 refine zaF (fun m L H'=>∃ w,L = [w, .int .i64 ((k:Int) - 1 - (m:Nat))] ∧ Ab H.next H' w (b ++ (bn k n).take m) ∧ Bel H.next H H') k ?_ ?_ ?_
 ·exact ⟨x0,by simp,by simpa using hx0,s0.bel (Nat.le_refl _)⟩
 ·rintro m L H1 hm ⟨w,rfl,ha,hb'⟩
  have e1:(k:Int) - 1 - (m:Nat) = ((k - 1 - m:Nat):Int):=by omega
  have e2:(8:Int) * ((k - 1 - m:Nat):Int) = ((8 * (k - 1 - m):Nat):Int):=by omega
  have e2':IntKind.u64.wrap ((8 * (k - 1 - m):Nat):Int) = ((8 * (k - 1 - m):Nat):Int):=by rw [wrap_u64]; omega
  have e3:shr n (8 * (k - 1 - m)) = n / 256 ^ (k - 1 - m):=by rw [zfH,Nat.shiftRight_eq_div_pow,Nat.pow_mul]
  have hlo1:=hb'.next
  have hbg:=zuj k n m hm
  rw [e1]
  generalize hw:k - 1 - m = w' at *
  have e8:IntKind.u8.wrap ((n / 256 ^ w':Nat):Int) = ((n / 256 ^ w' % 256:Nat):Int):=by rw [wrap_u8]; rfl
  unfold zd3
  simp (disch:=omega) only [↓RD,RZ,eq_self,seval,e2,e2',e3,e8]
  refine zew (m:=[n / 256 ^ w' % 256]) (Apf.keep ha ((Grow.new _ _).keep _)) (by rw [zaf]; omega) (zb7 rfl) (by rw [List.length_append,List.length_take,zis]; simp; omega) fun w2 H2 h2 hb2=>?_
  simp (disch:=omega) only [↓RD,RZ,eq_self,seval]
  refine ⟨w2,by rw [show ((w':Nat):Int) - 1 = (k:Int) - 1 - ((m + 1:Nat):Int) by omega],?_,hb'.trans (((Grow.new _ _).bel (by omega)).trans hb2)⟩
  rw [zbk (by rw [zis]; exact hm),hbg,← List.append_assoc]
  exact h2
 ·rintro L H1 ⟨w,rfl,ha,hb'⟩
  have e1:(k:Int) - 1 - (k:Nat) = -1:=by omega
  rw [e1]
  unfold zd3
  simp (disch:=omega) only [↓RD,RZ,eq_self,seval]
  rw [List.take_of_length_le (by rw [zis]; exact Nat.le_refl _)] at ha
  exact ⟨ha,hb'.grow⟩
theorem zp2 {H:Heap}:Ok (sem T zbU []) H fun r H'=>r = .agg (kc.map w32) ∧ Grow H H':=by
 refine zg9 ?_
 unfold zez
 simp (disch:=first | omega | (simp only [RY] <;> omega) | decide) only [↓RD,RZ,eq_self,seval]
 exact ⟨by kernel_rfl,(Grow.new _ _).set (Nat.le_refl _) _⟩
theorem zpz (n:Nat):pad n = (0x80 :: List.replicate (padz n) 0) ++ num (n * 8 % 18446744073709551616) 8:=rfl
theorem wb_get:∀ (h:List UInt32) (i:Nat),i < 4 * h.length → (zbA h).getD i 0 = (h.getD (i / 4) 0).toNat / 256 ^ (3 - i % 4) % 256:=by
 intro h
 induction h with
 | nil=>intro i hi; simp at hi
 | cons x h ih =>
  intro i hi
  have e:zbA (x :: h) = [x.toNat / 16777216 % 256,x.toNat / 65536 % 256,x.toNat / 256 % 256,x.toNat % 256] ++ zbA h:=rfl
  rw [e]
  by_cases h4:i < 4
  ·rw [List.getD_eq_getElem?_getD,List.getElem?_append_left (by simpa using h4),← List.getD_eq_getElem?_getD,show i / 4 = 0 by omega]
   have:i = 0 ∨ i = 1 ∨ i = 2 ∨ i = 3:=by omega
   rcases this with rfl | rfl | rfl | rfl
   ·rfl
   ·rfl
   ·rfl
   ·show x.toNat % 256 = x.toNat / 256 ^ 0 % 256
    rw [Nat.pow_zero,Nat.div_one]
  ·simp only [List.length_cons] at hi
   rw [List.getD_eq_getElem?_getD,List.getElem?_append_right (by simp; omega),← List.getD_eq_getElem?_getD]
   show (zbA h).getD (i - 4) 0 = _
   rw [ih (i - 4) (by omega),show (i - 4) % 4 = i % 4 by omega]
   have:i / 4 = (i - 4) / 4 + 1:=by omega
   rw [this]
   rfl
end Go.Ax.SU
/- Re4 -/
namespace Go.Ax.SU
open Go.Ax
theorem pcs_step {ks:List UInt32} {m:List Nat} {h:List UInt32} (j:Nat):pcs ks (j + 1) m h = comp ks (pcs ks j m h) ((m.drop (64 * j)).take 64):=by
 rw [zpx]
 rfl
theorem sha1_ok {lo a b:Nat} {u2 v:V} {H:Heap} {m:List Nat} (hv:By lo H v m) (h8:Ok8 m) (hm:m.length % 64 = 0) (hml:m.length ≤ 1125899906842624) (ha:H.get a = some ⟨zao,h0.map w32,none⟩) (hb:H.get b = some ⟨zat,kc.map w32,none⟩) (hal:a < H.next) (hbl:b < H.next) (hab:a ≠ b) (hva:∀ i,v.pid = some i → i ≠ a) :
  Ok (M.iter (zcH (sem T) v (.ptr b 0) (.ptr a 0) u2) [.int .i64 0]) H fun r H'=>r = .ex 2 [] ∧ H'.get a = some ⟨zao,(hs kc m).map w32,none⟩ ∧ At1 a H H':=by
 refine zaF (fun j L H'=>L = [.int .i64 ((64 * j:Nat):Int)] ∧ H'.get a = some ⟨zao,(pcs kc j m h0).map w32,none⟩ ∧ At1 a H H') (m.length / 64) ?_ ?_ ?_
 ·exact ⟨rfl,ha,At1.refl _ _⟩
 ·rintro j _ H1 hj ⟨rfl,g1,s1⟩
  have n1:=s1.next
  have hv1:=hv.at1 s1 (fun e=>hva _ e rfl)
  have gb1:=(s1.same b hbl (Ne.symm hab)).trans hb
  have pl:(pcs kc j m h0).length = 8:=zsX _ _ _ rfl
  have l1:=ldw pl
  have l2:=ldw zkO
  obtain ⟨x,hx,-,-,hxb,-⟩:=zbM hv1 (x:=((64 * j:Nat):Int)) (y:=((64 * j + 64:Nat):Int)) (by omega) (by omega) (by omega)
  simp only [Int.toNat_natCast] at hxb
  rw [show 64 * j + 64 - 64 * j = 64 by omega] at hxb
  have ea:((64 * j:Nat):Int) + 64 = ((64 * j + 64:Nat):Int):=rfl
  have xl:((m.drop (64 * j)).take 64).length = 64:=by rw [List.length_take,List.length_drop]; omega
  unfold zcH
  simp (disch:=omega) only [↓RD,RZ,eq_self,seval,hv1.vlen,g1,l1,ea,hx,gb1,l2]
  refine zah (zrP pl hxb ((h8.drop _).take _) xl) ?_
  rintro _ H2 ⟨rfl,s2⟩
  have ga2:=(s2.same a (by omega)).trans g1
  have cl:=zlk kc (pcs kc j m h0) ((m.drop (64 * j)).take 64)
  have m2:=spw cl (L:=(pcs kc j m h0).map w32) (by rw [List.length_map,pl])
  have m3:((comp kc (pcs kc j m h0) ((m.drop (64 * j)).take 64)).map w32).length = 8:=by rw [List.length_map,cl]
  have m4:((pcs kc j m h0).map w32).length = 8:=by rw [List.length_map,pl]
  simp (disch:=omega) only [↓RD,RZ,eq_self,seval,ga2,zkC,zai,m2,m3,m4,ea]
  exact ⟨rfl,by rw [pcs_step],(s1.trans (s2.at1 a)).trans (At1.set a _ _)⟩
 ·rintro _ H1 ⟨rfl,g1,s1⟩
  have hv1:=hv.at1 s1 (fun e=>hva _ e rfl)
  unfold zcH
  simp (disch:=omega) only [↓RD,RZ,eq_self,seval,hv1.vlen]
  exact ⟨g1,s1⟩
theorem sha2_ok {a o:Nat} {u2:V} {H:Heap} {h:List UInt32} (hh:h.length = 8) (ha:H.get a = some ⟨zao,h.map w32,none⟩) (ho:H.get o = some ⟨zae,List.replicate 32 (.int .u8 0),none⟩) (hao:a ≠ o) (hal:a < H.next) :
  Ok (M.iter (zcG (sem T) (.ptr a 0) (.ptr o 0) u2) [.int .i64 0]) H fun r H'=>r = .ex 4 [] ∧ H'.get o = some ⟨zae,(zbA h).map by8,none⟩ ∧ At1 o H H':=by
 have wl32:(zbA h).length = 32:=by rw [ziu,hh]
 refine zaF (fun i L H'=>L = [.int .i64 (i:Nat)] ∧ H'.get o = some ⟨zae,((zbA h).take i).map by8 ++ List.replicate (32 - i) (.int .u8 0),none⟩ ∧ At1 o H H') 32 ?_ ?_ ?_
 ·exact ⟨rfl,by simpa using ho,At1.refl _ _⟩
 ·rintro i _ H1 hi ⟨rfl,g1,s1⟩
  have ga1:=(s1.same a hal hao).trans ha
  have hl0:(((zbA h).take i).map by8).length = i:=by rw [List.length_map,List.length_take]; omega
  have x0:=zaW (z:=.int .u8 0) (x:=by8 ((zbA h).getD i 0)) hl0 hi
  have ml:(((zbA h).take i).map by8 ++ List.replicate (32 - i) (V.int .u8 0)).length = 32:=by rw [List.length_append,hl0,List.length_replicate]; omega
  have e1:((i:Nat):Int) / 4 = ((i / 4:Nat):Int):=by omega
  have e2:((i:Nat):Int) % 4 = ((i % 4:Nat):Int):=by omega
  have e3:(8:Int) * ((i % 4:Nat):Int) = ((8 * (i % 4):Nat):Int):=by omega
  have hm4:=Nat.mod_lt i (show 0 < 4 by decide)
  have e4:(24:Int) - ((8 * (i % 4):Nat):Int) = ((8 * (3 - i % 4):Nat):Int):=by omega
  have e5:IntKind.u64.wrap ((8 * (3 - i % 4):Nat):Int) = ((8 * (3 - i % 4):Nat):Int):=by rw [wrap_u64]; omega
  have hx:=wg (ws:=h) (i:=i / 4) (by omega)
  have hsh:=zrp (h.getD (i / 4) 0) (k:=.u64) (n:=((8 * (3 - i % 4):Nat):Int)) (by omega)
  rw [Int.toNat_natCast] at hsh
  have hci:=zsu (zi7 (h.getD (i / 4) 0) (8 * (3 - i % 4)))
  have hby:(zi7 (h.getD (i / 4) 0) (8 * (3 - i % 4))).toNat % 256 = (zbA h).getD i 0:=by
   rw [wb_get h i (by omega),zhP,Nat.shiftRight_eq_div_pow,Nat.pow_mul]
  rw [hby] at hci
  unfold zcG
  simp (disch:=omega) only [↓RD,RZ,eq_self,seval,e1,e2,e3,e4,e5,ga1,hx,hsh,hci,g1,x0,ml,zcP,zaM]
  refine ⟨by omega,rfl,?_,s1.trans (At1.set o _ _)⟩
  rw [zbk (by omega)]; simp
 ·rintro _ H1 ⟨rfl,g1,s1⟩
  unfold zcG
  simp (disch:=omega) only [↓RD,RZ,eq_self,seval]
  refine ⟨?_,s1⟩
  rw [g1,List.take_of_length_le (by omega)]; simp
set_option maxHeartbeats 1000000 in
theorem zuG {lo:Nat} {H:Heap} {v:V} {l:List Nat} (hv:By lo H v l) (h8:Ok8 l) (hl:l.length ≤ 549755813888) :
  Ok (sem T zbu [v]) H fun r H'=>r = .agg ((sha kc l).map by8) ∧ Grow H H':=by
 refine ziG ?_
 unfold zfU
 refine zap (zaU (by rfl) ?_)
 rw [zai]
 have s1:=Grow.new H ⟨zae,[.int .u8 0, .int .u8 0, .int .u8 0, .int .u8 0, .int .u8 0, .int .u8 0, .int .u8 0, .int .u8 0, .int .u8 0, .int .u8 0, .int .u8 0, .int .u8 0, .int .u8 0, .int .u8 0, .int .u8 0, .int .u8 0, .int .u8 0, .int .u8 0, .int .u8 0, .int .u8 0, .int .u8 0, .int .u8 0, .int .u8 0, .int .u8 0, .int .u8 0, .int .u8 0, .int .u8 0, .int .u8 0, .int .u8 0, .int .u8 0, .int .u8 0, .int .u8 0],none⟩
 have g1:(H.new ⟨zae,[.int .u8 0, .int .u8 0, .int .u8 0, .int .u8 0, .int .u8 0, .int .u8 0, .int .u8 0, .int .u8 0, .int .u8 0, .int .u8 0, .int .u8 0, .int .u8 0, .int .u8 0, .int .u8 0, .int .u8 0, .int .u8 0, .int .u8 0, .int .u8 0, .int .u8 0, .int .u8 0, .int .u8 0, .int .u8 0, .int .u8 0, .int .u8 0, .int .u8 0, .int .u8 0, .int .u8 0, .int .u8 0, .int .u8 0, .int .u8 0, .int .u8 0, .int .u8 0],none⟩).get H.next = some ⟨zae,[.int .u8 0, .int .u8 0, .int .u8 0, .int .u8 0, .int .u8 0, .int .u8 0, .int .u8 0, .int .u8 0, .int .u8 0, .int .u8 0, .int .u8 0, .int .u8 0, .int .u8 0, .int .u8 0, .int .u8 0, .int .u8 0, .int .u8 0, .int .u8 0, .int .u8 0, .int .u8 0, .int .u8 0, .int .u8 0, .int .u8 0, .int .u8 0, .int .u8 0, .int .u8 0, .int .u8 0, .int .u8 0, .int .u8 0, .int .u8 0, .int .u8 0, .int .u8 0],none⟩:=zad _ _
 have n1:(H.new ⟨zae,[.int .u8 0, .int .u8 0, .int .u8 0, .int .u8 0, .int .u8 0, .int .u8 0, .int .u8 0, .int .u8 0, .int .u8 0, .int .u8 0, .int .u8 0, .int .u8 0, .int .u8 0, .int .u8 0, .int .u8 0, .int .u8 0, .int .u8 0, .int .u8 0, .int .u8 0, .int .u8 0, .int .u8 0, .int .u8 0, .int .u8 0, .int .u8 0, .int .u8 0, .int .u8 0, .int .u8 0, .int .u8 0, .int .u8 0, .int .u8 0, .int .u8 0, .int .u8 0],none⟩).next = H.next + 1:=zaf _ _
 have hv1:=hv.ext s1
 have hvl:∀ i,v.pid = some i → i < H.next:=fun i hi=>(hv.own i hi).2
 generalize H.new _ = H1 at *
 simp (disch:=omega) only [↓RD,RZ,eq_self,seval]
 rw [zaK]
 refine zo7 hv1 (by omega) fun x2 H2 hx2 s2=>?_
 have n2:=s2.next
 simp (disch:=omega) only [↓RD,RZ,eq_self,seval]
 rw [zaK]
 have s3:=Grow.new H2 ⟨zac,[.int .u8 128],none⟩
 have hx3:=Apf.keep hx2 (s3.keep _)
 refine zew (m:=[128]) hx3 (by rw [zaf]; omega) (zb7 rfl) (by simp; omega) fun x4 H4 hx4 b4=>?_
 have s14:Grow H1 H4:=⟨by have:=b4.next; rw [zaf] at this; omega,fun i hi=>by rw [b4.same i hi,s3.same i (by omega),s2.same i hi]⟩
 simp (disch:=omega) only [↓RD,RZ,eq_self,seval]
 refine zar (Q:=fun r H'=>∃ x,r = .ex 0 [x] ∧ Ab H1.next H' x (l ++ [128] ++ List.replicate (padz l.length) 0) ∧ Grow H1 H') ?_ ?_
 ·refine zaF (fun k L H'=>∃ x,L = [x] ∧ Ab H1.next H' x (l ++ [128] ++ List.replicate k 0) ∧ Grow H1 H') (padz l.length) ?_ ?_ ?_
  ·exact ⟨x4,rfl,by simpa using hx4,s14⟩
  ·rintro k _ H5 hk ⟨x,rfl,hx,s5⟩
   have hk64:padz l.length < 64:=by unfold padz; omega
   have xl:(l ++ [128] ++ List.replicate k 0).length = l.length + 1 + k:=by simp; omega
   have n5:=s5.next
   have hxv:=hx.by.vlen
   rw [xl] at hxv
   have er:((l.length + 1 + k:Nat):Int) % 64 = (((l.length + 1 + k) % 64:Nat):Int):=by omega
   have en:((((l.length + 1 + k) % 64:Nat):Int) == 56) = false:=by
    rw [show (56:Int) = ((56:Nat):Int) from rfl,beqn]
    refine decide_eq_false ?_
    unfold padz at hk
    omega
   unfold zdt
   simp (disch:=omega) only [↓RD,RZ,eq_self,seval,hxv,er,en,Bool.not_false]
   have s6:=Grow.new H5 ⟨zac,[.int .u8 0],none⟩
   refine zew (m:=[0]) (Apf.keep hx (s6.keep _)) (by rw [zaf]; omega) (zb7 rfl) (by rw [xl]; simp; omega) fun x7 H7 hx7 b7=>?_
   simp (disch:=omega) only [↓RD,RZ,eq_self,seval]
   refine ⟨x7,rfl,?_,⟨by have:=b7.next; rw [zaf] at this; omega,fun i hi=>by rw [b7.same i hi,s6.same i (by omega),s5.same i hi]⟩⟩
   rw [List.replicate_succ',← List.append_assoc]
   exact hx7
  ·rintro _ H5 ⟨x,rfl,hx,s5⟩
   have xl:(l ++ [128] ++ List.replicate (padz l.length) 0).length = l.length + 1 + padz l.length:=by simp; omega
   have hxv:=hx.by.vlen
   rw [xl] at hxv
   have er:((l.length + 1 + padz l.length:Nat):Int) % 64 = 56:=by unfold padz; omega
   unfold zdt
   simp (disch:=omega) only [↓RD,RZ,eq_self,seval,hxv,er]
   exact ⟨x,rfl,hx,s5⟩
 rintro _ H5 ⟨x,rfl,hx,s5⟩
 have n5:=s5.next
 have hv5:=hv1.ext s5
 have w1:IntKind.u64.wrap ((l.length:Nat):Int) = ((l.length:Nat):Int):=by rw [wrap_u64]; omega
 have w2:IntKind.u64.wrap (((l.length:Nat):Int) * 8) = ((l.length * 8:Nat):Int):=by rw [wrap_u64]; omega
 have w3:((l.length:Nat):Int) * 8 = ((l.length * 8:Nat):Int):=rfl
 have hk64:padz l.length < 64:=by unfold padz; omega
 simp (disch:=omega) only [↓RD,RZ,eq_self,seval,hv5.vlen,w1,w2,w3]
 refine zah (U_ok (l.length * 8) 8 hx.by (by omega) (by decide) (by simp; omega)) ?_
 rintro mv H6 ⟨hm,s6⟩
 have n6:=s6.next
 have em:l ++ [128] ++ List.replicate (padz l.length) 0 ++ num (l.length * 8) 8 = l ++ pad l.length:=by
  rw [zpz,Nat.mod_eq_of_lt (show l.length * 8 < 18446744073709551616 by omega)]; simp
 rw [em] at hm
 have m8:Ok8 (l ++ pad l.length):=by
  rw [zpz]
  refine h8.app (Ok8.app ?_ (zeU _ _))
  intro y hy
  rcases List.mem_cons.1 hy with rfl | hy
  ·decide
  ·rw [List.eq_of_mem_replicate hy]; decide
 have mm:=pad_len l.length
 have ml:(l ++ pad l.length).length = l.length + (pad l.length).length:=List.length_append
 have pl:(pad l.length).length ≤ 100:=by rw [zpz,List.length_append,zcb,List.length_cons,List.length_replicate]; omega
 generalize hM:l ++ pad l.length = m at *
 simp (disch:=omega) only [↓RD,RZ,eq_self,seval]
 have s7:Grow H6 ((H6.new ⟨zao,[.int .u32 0, .int .u32 0, .int .u32 0, .int .u32 0, .int .u32 0, .int .u32 0, .int .u32 0, .int .u32 0],none⟩).set H6.next (some ⟨zao,[.int .u32 1779033703, .int .u32 3144134277, .int .u32 1013904242, .int .u32 2773480762, .int .u32 1359893119, .int .u32 2600822924, .int .u32 528734635, .int .u32 1541459225],none⟩)):=(Grow.new _ _).set (Nat.le_refl _) _
 have g7:((H6.new ⟨zao,[.int .u32 0, .int .u32 0, .int .u32 0, .int .u32 0, .int .u32 0, .int .u32 0, .int .u32 0, .int .u32 0],none⟩).set H6.next (some ⟨zao,[.int .u32 1779033703, .int .u32 3144134277, .int .u32 1013904242, .int .u32 2773480762, .int .u32 1359893119, .int .u32 2600822924, .int .u32 528734635, .int .u32 1541459225],none⟩)).get H6.next = some ⟨zao,h0.map w32,none⟩:=zaj _ _ _
 have n7:((H6.new ⟨zao,[.int .u32 0, .int .u32 0, .int .u32 0, .int .u32 0, .int .u32 0, .int .u32 0, .int .u32 0, .int .u32 0],none⟩).set H6.next (some ⟨zao,[.int .u32 1779033703, .int .u32 3144134277, .int .u32 1013904242, .int .u32 2773480762, .int .u32 1359893119, .int .u32 2600822924, .int .u32 528734635, .int .u32 1541459225],none⟩)).next = H6.next + 1:=rfl
 have hm7:=hm.by.ext s7
 have hmp:∀ i,mv.pid = some i → i < H6.next:=fun i hi=>(hm.by.own i hi).2
 generalize ha:H6.next = a at *
 generalize Heap.set _ a _ = H7 at *
 refine zah zp2 ?_
 rintro _ H8 ⟨rfl,s8⟩
 have n8:=s8.next
 have ga8:=(s8.same a (by omega)).trans g7
 have hm8:=hm7.ext s8
 have m2:=spw zkO (L:=[.int .u32 0, .int .u32 0, .int .u32 0, .int .u32 0, .int .u32 0, .int .u32 0, .int .u32 0, .int .u32 0, .int .u32 0, .int .u32 0, .int .u32 0, .int .u32 0, .int .u32 0, .int .u32 0, .int .u32 0, .int .u32 0, .int .u32 0, .int .u32 0, .int .u32 0, .int .u32 0, .int .u32 0, .int .u32 0, .int .u32 0, .int .u32 0, .int .u32 0, .int .u32 0, .int .u32 0, .int .u32 0, .int .u32 0, .int .u32 0, .int .u32 0, .int .u32 0, .int .u32 0, .int .u32 0, .int .u32 0, .int .u32 0, .int .u32 0, .int .u32 0, .int .u32 0, .int .u32 0, .int .u32 0, .int .u32 0, .int .u32 0, .int .u32 0, .int .u32 0, .int .u32 0, .int .u32 0, .int .u32 0, .int .u32 0, .int .u32 0, .int .u32 0, .int .u32 0, .int .u32 0, .int .u32 0, .int .u32 0, .int .u32 0, .int .u32 0, .int .u32 0, .int .u32 0, .int .u32 0, .int .u32 0, .int .u32 0, .int .u32 0, .int .u32 0]) rfl
 have m3:(kc.map w32).length = 64:=by rw [List.length_map,zkO]
 simp (disch:=omega) only [↓RD,RZ,eq_self,seval,zkC,zai,m2,m3]
 have s9:Grow H8 ((H8.new ⟨zat,[.int .u32 0, .int .u32 0, .int .u32 0, .int .u32 0, .int .u32 0, .int .u32 0, .int .u32 0, .int .u32 0, .int .u32 0, .int .u32 0, .int .u32 0, .int .u32 0, .int .u32 0, .int .u32 0, .int .u32 0, .int .u32 0, .int .u32 0, .int .u32 0, .int .u32 0, .int .u32 0, .int .u32 0, .int .u32 0, .int .u32 0, .int .u32 0, .int .u32 0, .int .u32 0, .int .u32 0, .int .u32 0, .int .u32 0, .int .u32 0, .int .u32 0, .int .u32 0, .int .u32 0, .int .u32 0, .int .u32 0, .int .u32 0, .int .u32 0, .int .u32 0, .int .u32 0, .int .u32 0, .int .u32 0, .int .u32 0, .int .u32 0, .int .u32 0, .int .u32 0, .int .u32 0, .int .u32 0, .int .u32 0, .int .u32 0, .int .u32 0, .int .u32 0, .int .u32 0, .int .u32 0, .int .u32 0, .int .u32 0, .int .u32 0, .int .u32 0, .int .u32 0, .int .u32 0, .int .u32 0, .int .u32 0, .int .u32 0, .int .u32 0, .int .u32 0],none⟩).set H8.next (some ⟨zat,kc.map w32,none⟩)):=(Grow.new _ _).set (Nat.le_refl _) _
 have g9:((H8.new ⟨zat,[.int .u32 0, .int .u32 0, .int .u32 0, .int .u32 0, .int .u32 0, .int .u32 0, .int .u32 0, .int .u32 0, .int .u32 0, .int .u32 0, .int .u32 0, .int .u32 0, .int .u32 0, .int .u32 0, .int .u32 0, .int .u32 0, .int .u32 0, .int .u32 0, .int .u32 0, .int .u32 0, .int .u32 0, .int .u32 0, .int .u32 0, .int .u32 0, .int .u32 0, .int .u32 0, .int .u32 0, .int .u32 0, .int .u32 0, .int .u32 0, .int .u32 0, .int .u32 0, .int .u32 0, .int .u32 0, .int .u32 0, .int .u32 0, .int .u32 0, .int .u32 0, .int .u32 0, .int .u32 0, .int .u32 0, .int .u32 0, .int .u32 0, .int .u32 0, .int .u32 0, .int .u32 0, .int .u32 0, .int .u32 0, .int .u32 0, .int .u32 0, .int .u32 0, .int .u32 0, .int .u32 0, .int .u32 0, .int .u32 0, .int .u32 0, .int .u32 0, .int .u32 0, .int .u32 0, .int .u32 0, .int .u32 0, .int .u32 0, .int .u32 0, .int .u32 0],none⟩).set H8.next (some ⟨zat,kc.map w32,none⟩)).get H8.next = some ⟨zat,kc.map w32,none⟩:=zaj _ _ _
 have n9:((H8.new ⟨zat,[.int .u32 0, .int .u32 0, .int .u32 0, .int .u32 0, .int .u32 0, .int .u32 0, .int .u32 0, .int .u32 0, .int .u32 0, .int .u32 0, .int .u32 0, .int .u32 0, .int .u32 0, .int .u32 0, .int .u32 0, .int .u32 0, .int .u32 0, .int .u32 0, .int .u32 0, .int .u32 0, .int .u32 0, .int .u32 0, .int .u32 0, .int .u32 0, .int .u32 0, .int .u32 0, .int .u32 0, .int .u32 0, .int .u32 0, .int .u32 0, .int .u32 0, .int .u32 0, .int .u32 0, .int .u32 0, .int .u32 0, .int .u32 0, .int .u32 0, .int .u32 0, .int .u32 0, .int .u32 0, .int .u32 0, .int .u32 0, .int .u32 0, .int .u32 0, .int .u32 0, .int .u32 0, .int .u32 0, .int .u32 0, .int .u32 0, .int .u32 0, .int .u32 0, .int .u32 0, .int .u32 0, .int .u32 0, .int .u32 0, .int .u32 0, .int .u32 0, .int .u32 0, .int .u32 0, .int .u32 0, .int .u32 0, .int .u32 0, .int .u32 0, .int .u32 0],none⟩).set H8.next (some ⟨zat,kc.map w32,none⟩)).next = H8.next + 1:=rfl
 have hm9:=hm8.ext s9
 have ga9:=(s9.same a (by omega)).trans ga8
 generalize hb:H8.next = b at *
 generalize Heap.set _ b _ = H9 at *
 refine zar (sha1_ok hm9 m8 (by rw [ml]; omega) (by rw [ml]; omega) ga9 g9 (by omega) (by omega) (by omega) (fun i hi e=>by have:=hmp i hi; omega)) ?_
 rintro _ H10 ⟨rfl,g10,s10⟩
 have n10:=s10.next
 simp (disch:=omega) only [↓RD,RZ,eq_self,seval]
 have s11:=Grow.new H10 ⟨zae,[.int .u8 0, .int .u8 0, .int .u8 0, .int .u8 0, .int .u8 0, .int .u8 0, .int .u8 0, .int .u8 0, .int .u8 0, .int .u8 0, .int .u8 0, .int .u8 0, .int .u8 0, .int .u8 0, .int .u8 0, .int .u8 0, .int .u8 0, .int .u8 0, .int .u8 0, .int .u8 0, .int .u8 0, .int .u8 0, .int .u8 0, .int .u8 0, .int .u8 0, .int .u8 0, .int .u8 0, .int .u8 0, .int .u8 0, .int .u8 0, .int .u8 0, .int .u8 0],none⟩
 have g11:(H10.new ⟨zae,[.int .u8 0, .int .u8 0, .int .u8 0, .int .u8 0, .int .u8 0, .int .u8 0, .int .u8 0, .int .u8 0, .int .u8 0, .int .u8 0, .int .u8 0, .int .u8 0, .int .u8 0, .int .u8 0, .int .u8 0, .int .u8 0, .int .u8 0, .int .u8 0, .int .u8 0, .int .u8 0, .int .u8 0, .int .u8 0, .int .u8 0, .int .u8 0, .int .u8 0, .int .u8 0, .int .u8 0, .int .u8 0, .int .u8 0, .int .u8 0, .int .u8 0, .int .u8 0],none⟩).get H10.next = some ⟨zae,List.replicate 32 (.int .u8 0),none⟩:=zad _ _
 have n11:(H10.new ⟨zae,[.int .u8 0, .int .u8 0, .int .u8 0, .int .u8 0, .int .u8 0, .int .u8 0, .int .u8 0, .int .u8 0, .int .u8 0, .int .u8 0, .int .u8 0, .int .u8 0, .int .u8 0, .int .u8 0, .int .u8 0, .int .u8 0, .int .u8 0, .int .u8 0, .int .u8 0, .int .u8 0, .int .u8 0, .int .u8 0, .int .u8 0, .int .u8 0, .int .u8 0, .int .u8 0, .int .u8 0, .int .u8 0, .int .u8 0, .int .u8 0, .int .u8 0, .int .u8 0],none⟩).next = H10.next + 1:=zaf _ _
 have ga11:=(s11.same a (by omega)).trans g10
 generalize ho:H10.next = o at *
 generalize H10.new _ = H11 at *
 refine zar (sha2_ok (ztM kc m) ga11 g11 (by omega) (by omega)) ?_
 rintro _ H12 ⟨rfl,g12,s12⟩
 have n12:=s12.next
 have es:zbA (hs kc m) = sha kc l:=by unfold sha; rw [hM]
 rw [es] at g12
 have sl:=zg5 kc l
 have l1:=ld32 sl
 have l2:=sp32 sl
 have l3:((sha kc l).map by8).length = 32:=by rw [List.length_map,sl]
 have gd:H12.get H.next = some ⟨zae,[.int .u8 0, .int .u8 0, .int .u8 0, .int .u8 0, .int .u8 0, .int .u8 0, .int .u8 0, .int .u8 0, .int .u8 0, .int .u8 0, .int .u8 0, .int .u8 0, .int .u8 0, .int .u8 0, .int .u8 0, .int .u8 0, .int .u8 0, .int .u8 0, .int .u8 0, .int .u8 0, .int .u8 0, .int .u8 0, .int .u8 0, .int .u8 0, .int .u8 0, .int .u8 0, .int .u8 0, .int .u8 0, .int .u8 0, .int .u8 0, .int .u8 0, .int .u8 0],none⟩:=by
  rw [s12.same _ (by omega) (by omega),s11.same _ (by omega),s10.same _ (by omega) (by omega),s9.same _ (by omega),s8.same _ (by omega),s7.same _ (by omega),s6.same _ (by omega),s5.same _ (by omega)]
  exact g1
 simp (disch:=omega) only [↓RD,RZ,eq_self,seval,g12,l1,gd,zaV,zai,l2,l3]
 exact ⟨by rw [zan]; omega,fun i hi=>by rw [zak _ _ (by omega),s12.same i (by omega) (by omega),s11.same i (by omega),s10.same i (by omega) (by omega),s9.same i (by omega),s8.same i (by omega),s7.same i (by omega),s6.same i (by omega),s5.same i (by omega),s1.same i hi]⟩
end Go.Ax.SU
/- Re5 -/
namespace Go.Ax.SU
open Go.Ax
theorem kp_get (ks:List UInt32) (key:List Nat) (x i:Nat) (hi:i < 64):(kpad ks key x).getD i 0 = (if i < (zc5 ks key).length then (zc5 ks key).getD i 0 else 0) ^^^ x:=by
 have hl:=ziz ks key
 unfold kpad
 rw [List.getD_eq_getElem?_getD,List.getElem?_map]
 by_cases h:i < (zc5 ks key).length
 ·rw [if_pos h,List.getElem?_append_left h,List.getD_eq_getElem?_getD,List.getElem?_eq_getElem h]; rfl
 ·rw [if_neg h,List.getElem?_append_right (by omega),List.getElem?_replicate,if_pos (by omega)]; rfl
theorem hmac0_ok {a b:Nat} {lo:Nat} {u4 kv:V} {H:Heap} {key:List Nat} (hk:By lo H kv (zc5 kc key)) (k8:Ok8 (zc5 kc key)) (ha:H.get a = some ⟨zac,List.replicate 64 (.int .u8 0),none⟩) (hb:H.get b = some ⟨zac,List.replicate 64 (.int .u8 0),none⟩) (hab:a ≠ b) (hka:∀ i,kv.pid = some i → i ≠ a ∧ i ≠ b) :
  Ok (M.iter (zcp (sem T) kv (.sl a 0 64 (.fix 64)) (.sl b 0 64 (.fix 64)) u4) [.int .i64 0]) H fun r H'=>r = .ex 0 [] ∧ H'.get a = some ⟨zac,(kpad kc key 54).map by8,none⟩ ∧ H'.get b = some ⟨zac,(kpad kc key 92).map by8,none⟩ ∧ H'.next = H.next ∧ ∀ i,i ≠ a → i ≠ b → H'.get i = H.get i:=by
 have hl:=ziz kc key
 have p1:=ziA kc (key:=key) 54
 have p2:=ziA kc (key:=key) 92
 refine zaF (fun i L H'=>L = [.int .i64 (i:Nat)] ∧ H'.get a = some ⟨zac,((kpad kc key 54).take i).map by8 ++ List.replicate (64 - i) (.int .u8 0),none⟩ ∧ H'.get b = some ⟨zac,((kpad kc key 92).take i).map by8 ++ List.replicate (64 - i) (.int .u8 0),none⟩ ∧ H'.next = H.next ∧ ∀ i,i ≠ a → i ≠ b → H'.get i = H.get i) 64 ?_ ?_ ?_
 ·exact ⟨rfl,by simpa using ha,by simpa using hb,rfl,fun _ _ _=>rfl⟩
 ·rintro i _ H1 hi ⟨rfl,ga,gb,n1,s1⟩
  have hk1:By lo H1 kv (zc5 kc key):=hk.same (by omega) fun j hj=>s1 j (hka j hj).1 (hka j hj).2
  have q1:=kp_get kc key 54 i hi
  have q2:=kp_get kc key 92 i hi
  have la:(((kpad kc key 54).take i).map by8).length = i:=by rw [List.length_map,List.length_take]; omega
  have lb:(((kpad kc key 92).take i).map by8).length = i:=by rw [List.length_map,List.length_take]; omega
  have xa:=zaW (z:=.int .u8 0) (x:=by8 ((kpad kc key 54).getD i 0)) la hi
  have xb:=zaW (z:=.int .u8 0) (x:=by8 ((kpad kc key 92).getD i 0)) lb hi
  have ma:(((kpad kc key 54).take i).map by8 ++ List.replicate (64 - i) (V.int .u8 0)).length = 64:=by rw [List.length_append,la,List.length_replicate]; omega
  have mb:(((kpad kc key 92).take i).map by8 ++ List.replicate (64 - i) (V.int .u8 0)).length = 64:=by rw [List.length_append,lb,List.length_replicate]; omega
  have ta:((kpad kc key 54).take i).map by8 ++ [by8 ((kpad kc key 54).getD i 0)] = ((kpad kc key 54).take (i + 1)).map by8:=by rw [zbk (by omega)]; simp
  have tb:((kpad kc key 92).take i).map by8 ++ [by8 ((kpad kc key 92).getD i 0)] = ((kpad kc key 92).take (i + 1)).map by8:=by rw [zbk (by omega)]; simp
  rw [ta] at xa
  rw [tb] at xb
  have rest:∀ x,x < 256 → x ^^^ 54 = (kpad kc key 54).getD i 0 → x ^^^ 92 = (kpad kc key 92).getD i 0 → Ok ((M.lift (Ax.bin .xor (.int .u8 (x:Nat)) (V.int .u8 54))).bind fun t38 =>
    (M.lift (Ax.bin .xor (.int .u8 (x:Nat)) (V.int .u8 92))).bind fun t40 =>
    (M.lift (Ax.iaddr none 1 (.sl a 0 64 (.fix 64)) (.int .i64 (i:Nat)))).bind fun t41 =>
    (mstore 1 t41 t38).bind fun _ =>
    (M.lift (Ax.iaddr none 1 (.sl b 0 64 (.fix 64)) (.int .i64 (i:Nat)))).bind fun t42 =>
    (mstore 1 t42 t40).bind fun _ =>
    M.pure (Res.nrm [])) H1 fun r H'=>r = Res.nrm [] ∧ H' = (H1.set a (some ⟨zac,((kpad kc key 54).take (i + 1)).map by8 ++ List.replicate (64 - (i + 1)) (.int .u8 0),none⟩)).set b (some ⟨zac,((kpad kc key 92).take (i + 1)).map by8 ++ List.replicate (64 - (i + 1)) (.int .u8 0),none⟩):=by
   intro x hx e1 e2
   have x1:=zfi hx (show 54 < 256 by decide)
   have x2:=zfi hx (show 92 < 256 by decide)
   rw [e1] at x1
   rw [e2] at x2
   replace x1:Ax.bin .xor (.int .u8 (x:Nat)) (V.int .u8 54) = _:=x1
   replace x2:Ax.bin .xor (.int .u8 (x:Nat)) (V.int .u8 92) = _:=x2
   simp (disch:=omega) only [↓RD,RZ,eq_self,seval,x1,x2,ga,xa,ma,gb,xb,mb,zcP,zaM]
   omega
  have hkv:=hk1.vlen
  unfold zcp
  simp (disch:=omega) only [↓RD,RZ,eq_self,seval,hkv]
  refine zar (α:=Res) (Q:=fun r H'=>∃ x,r = .nrm [.int .u8 (x:Nat)] ∧ H' = H1 ∧ x < 256 ∧ x ^^^ 54 = (kpad kc key 54).getD i 0 ∧ x ^^^ 92 = (kpad kc key 92).getD i 0) ?_ ?_
  ·refine zbB (fun h=>?_) (fun h=>?_)
   ·obtain ⟨p,hp,hld,-⟩:=zf8 hk1 (i:=(i:Nat)) (by omega) (by omega)
    simp only [Int.toNat_natCast] at hld
    rw [if_pos (by omega)] at q1 q2
    simp (disch:=omega) only [↓RD,RZ,eq_self,seval,hp,hld]
    exact ⟨_,rfl,k8.getD i,q1.symm,q2.symm⟩
   ·rw [if_neg (by omega)] at q1 q2
    simp (disch:=omega) only [↓RD,RZ,eq_self,seval]
    exact ⟨0,rfl,by decide,q1.symm,q2.symm⟩
  ·rintro _ _ ⟨x,rfl,rfl,hx,e1,e2⟩
   refine zar (rest x hx e1 e2) ?_
   rintro _ _ ⟨rfl,rfl⟩
   simp (disch:=omega) only [↓RD,RZ,eq_self,seval]
   exact ⟨rfl,n1,fun j h1 h2=>by rw [zak _ _ h2,zak _ _ h1,s1 j h1 h2]⟩
 ·rintro _ H1 ⟨rfl,ga,gb,n1,s1⟩
  unfold zcp
  simp (disch:=omega) only [↓RD,RZ,eq_self,seval]
  refine ⟨?_,?_,n1,s1⟩
  ·rw [ga,List.take_of_length_le (by omega)]; simp
  ·rw [gb,List.take_of_length_le (by omega)]; simp
theorem zql {lo lo':Nat} {H:Heap} {kv bv:V} {key b:List Nat} (hk:By lo H kv key) (k8:Ok8 key) (hkl:key.length ≤ 549755813888) (hb:By lo' H bv b) (b8:Ok8 b) (hbl:b.length ≤ 549755813000) :
  Ok (sem T zbc [kv,bv]) H fun r H'=>r = .agg ((hmac kc key b).map by8) ∧ Grow H H':=by
 refine zhZ ?_
 unfold zfo
 refine zap (zaU (by rfl) ?_)
 rw [zai]
 have s1:=Grow.new H ⟨zae,[.int .u8 0, .int .u8 0, .int .u8 0, .int .u8 0, .int .u8 0, .int .u8 0, .int .u8 0, .int .u8 0, .int .u8 0, .int .u8 0, .int .u8 0, .int .u8 0, .int .u8 0, .int .u8 0, .int .u8 0, .int .u8 0, .int .u8 0, .int .u8 0, .int .u8 0, .int .u8 0, .int .u8 0, .int .u8 0, .int .u8 0, .int .u8 0, .int .u8 0, .int .u8 0, .int .u8 0, .int .u8 0, .int .u8 0, .int .u8 0, .int .u8 0, .int .u8 0],none⟩
 have g1:(H.new ⟨zae,[.int .u8 0, .int .u8 0, .int .u8 0, .int .u8 0, .int .u8 0, .int .u8 0, .int .u8 0, .int .u8 0, .int .u8 0, .int .u8 0, .int .u8 0, .int .u8 0, .int .u8 0, .int .u8 0, .int .u8 0, .int .u8 0, .int .u8 0, .int .u8 0, .int .u8 0, .int .u8 0, .int .u8 0, .int .u8 0, .int .u8 0, .int .u8 0, .int .u8 0, .int .u8 0, .int .u8 0, .int .u8 0, .int .u8 0, .int .u8 0, .int .u8 0, .int .u8 0],none⟩).get H.next = some ⟨zae,[.int .u8 0, .int .u8 0, .int .u8 0, .int .u8 0, .int .u8 0, .int .u8 0, .int .u8 0, .int .u8 0, .int .u8 0, .int .u8 0, .int .u8 0, .int .u8 0, .int .u8 0, .int .u8 0, .int .u8 0, .int .u8 0, .int .u8 0, .int .u8 0, .int .u8 0, .int .u8 0, .int .u8 0, .int .u8 0, .int .u8 0, .int .u8 0, .int .u8 0, .int .u8 0, .int .u8 0, .int .u8 0, .int .u8 0, .int .u8 0, .int .u8 0, .int .u8 0],none⟩:=zad _ _
 have n1:(H.new ⟨zae,[.int .u8 0, .int .u8 0, .int .u8 0, .int .u8 0, .int .u8 0, .int .u8 0, .int .u8 0, .int .u8 0, .int .u8 0, .int .u8 0, .int .u8 0, .int .u8 0, .int .u8 0, .int .u8 0, .int .u8 0, .int .u8 0, .int .u8 0, .int .u8 0, .int .u8 0, .int .u8 0, .int .u8 0, .int .u8 0, .int .u8 0, .int .u8 0, .int .u8 0, .int .u8 0, .int .u8 0, .int .u8 0, .int .u8 0, .int .u8 0, .int .u8 0, .int .u8 0],none⟩).next = H.next + 1:=zaf _ _
 have hk1:=hk.ext s1
 generalize H.new _ = H1 at *
 simp (disch:=omega) only [↓RD,RZ,eq_self,seval,hk1.vlen]
 refine zar (Q:=fun r H'=>∃ x,r = .nrm [x] ∧ By 0 H' x (zc5 kc key) ∧ Grow H1 H') ?_ ?_
 ·refine zbB (fun h=>?_) (fun h=>?_)
  ·refine zah (zuG hk1 k8 hkl) ?_
   rintro _ H2 ⟨rfl,s2⟩
   have sl:=zg5 kc key
   have l2:=sp32 sl
   have l3:((sha kc key).map by8).length = 32:=by rw [List.length_map,sl]
   have vs:=@zhw 32 H2.next
   have n2:=s2.next
   simp (disch:=omega) only [↓RD,RZ,eq_self,seval,zaV,zai,l2,l3,vs]
   have e:zc5 kc key = sha kc key:=by unfold zc5; rw [if_pos (by omega)]
   rw [e]
   exact ⟨_,rfl,ze8 (zaj _ _ _) sl (Nat.zero_le _) (by rw [zan,zaf]; omega),(s2.trans (Grow.new _ _)).set n2 _⟩
  ·simp (disch:=omega) only [↓RD,RZ,eq_self,seval]
   have e:zc5 kc key = key:=by unfold zc5; rw [if_neg (by omega)]
   rw [e]
   exact ⟨_,rfl,hk1.low (Nat.zero_le _),Grow.refl _⟩
 rintro _ H2 ⟨x,rfl,hx,s2⟩
 have n2:=s2.next
 have k8':=zlf kc k8
 refine zap (zkn (l:=64) (c:=64) ⟨by decide,by decide,by decide,by decide⟩ ?_)
 rw [show (64:Int).toNat = 64 from rfl,zqo]
 have s3:=Grow.new H2 ⟨zac,List.replicate 64 (.int .u8 0),none⟩
 have g3:(H2.new ⟨zac,List.replicate 64 (.int .u8 0),none⟩).get H2.next = _:=zad _ _
 have n3:(H2.new ⟨zac,List.replicate 64 (.int .u8 0),none⟩).next = H2.next + 1:=zaf _ _
 have hxp:∀ i,x.pid = some i → i < H2.next:=fun i hi=>(hx.own i hi).2
 have hx3:=hx.ext s3
 generalize ha:H2.next = a at *
 generalize H2.new _ = H3 at *
 refine zap (zkn (l:=64) (c:=64) ⟨by decide,by decide,by decide,by decide⟩ ?_)
 rw [show (64:Int).toNat = 64 from rfl,zqo]
 have s4:=Grow.new H3 ⟨zac,List.replicate 64 (.int .u8 0),none⟩
 have g4:(H3.new ⟨zac,List.replicate 64 (.int .u8 0),none⟩).get H3.next = _:=zad _ _
 have n4:(H3.new ⟨zac,List.replicate 64 (.int .u8 0),none⟩).next = H3.next + 1:=zaf _ _
 have ga4:=(s4.same a (by omega)).trans g3
 have hx4:=hx3.ext s4
 generalize hb':H3.next = c at *
 generalize H3.new _ = H4 at *
 simp (disch:=omega) only [↓RD,RZ,eq_self,seval]
 refine zar (hmac0_ok hx4 k8' ga4 g4 (by omega) (fun i hi=>by have:=hxp i hi; omega)) ?_
 rintro _ H5 ⟨rfl,ga5,gc5,n5,s5⟩
 have s15:Grow H1 H5:=⟨by omega,fun i hi=>by rw [s5 i (by omega) (by omega),s4.same i (by omega),s3.same i (by omega),s2.same i hi]⟩
 have s05:=s1.trans s15
 have hb5:=hb.ext s05
 have p1:=ziA kc (key:=key) 54
 have p2:=ziA kc (key:=key) 92
 have o1:=zqR kc (x:=54) k8 (by decide)
 have o2:=zqR kc (x:=92) k8 (by decide)
 have f1:Ab a H5 (.sl a 0 64 (.fix 64)) (kpad kc key 54):=by
  show Apf _ _ _ _ _ _ _
  rw [p1]
  exact .full ga5 (by rw [List.length_map,p1]) (Nat.le_refl _) (by omega)
 simp (disch:=omega) only [↓RD,RZ,eq_self,seval]
 rw [zaK]
 refine zkl f1 (by omega) hb5.ac (by omega) fun x6 H6 hx6 b6 st6=>?_
 have n6:=b6.next
 refine zah (zuG hx6.by (o1.app b8) (by rw [List.length_append]; omega)) ?_
 rintro _ H7 ⟨rfl,s7⟩
 have n7:=s7.next
 have gc6:=(st6.same c (by omega) (by simp [V.pid]; omega)).trans gc5
 have gc7:=(s7.same c (by omega)).trans gc6
 have sl:=zg5 kc (kpad kc key 54 ++ b)
 have l2:=sp32 sl
 have l3:((sha kc (kpad kc key 54 ++ b)).map by8).length = 32:=by rw [List.length_map,sl]
 have vs:=@zhw 32 H7.next
 simp (disch:=omega) only [↓RD,RZ,eq_self,seval,zaV,zai,l2,l3,vs]
 have s8:Grow H7 ((H7.new ⟨zae,[.int .u8 0, .int .u8 0, .int .u8 0, .int .u8 0, .int .u8 0, .int .u8 0, .int .u8 0, .int .u8 0, .int .u8 0, .int .u8 0, .int .u8 0, .int .u8 0, .int .u8 0, .int .u8 0, .int .u8 0, .int .u8 0, .int .u8 0, .int .u8 0, .int .u8 0, .int .u8 0, .int .u8 0, .int .u8 0, .int .u8 0, .int .u8 0, .int .u8 0, .int .u8 0, .int .u8 0, .int .u8 0, .int .u8 0, .int .u8 0, .int .u8 0, .int .u8 0],none⟩).set H7.next (some ⟨zae,(sha kc (kpad kc key 54 ++ b)).map by8,none⟩)):=(Grow.new _ _).set (Nat.le_refl _) _
 have g8:((H7.new ⟨zae,[.int .u8 0, .int .u8 0, .int .u8 0, .int .u8 0, .int .u8 0, .int .u8 0, .int .u8 0, .int .u8 0, .int .u8 0, .int .u8 0, .int .u8 0, .int .u8 0, .int .u8 0, .int .u8 0, .int .u8 0, .int .u8 0, .int .u8 0, .int .u8 0, .int .u8 0, .int .u8 0, .int .u8 0, .int .u8 0, .int .u8 0, .int .u8 0, .int .u8 0, .int .u8 0, .int .u8 0, .int .u8 0, .int .u8 0, .int .u8 0, .int .u8 0, .int .u8 0],none⟩).set H7.next (some ⟨zae,(sha kc (kpad kc key 54 ++ b)).map by8,none⟩)).get H7.next = _:=zaj _ _ _
 have n8:((H7.new ⟨zae,[.int .u8 0, .int .u8 0, .int .u8 0, .int .u8 0, .int .u8 0, .int .u8 0, .int .u8 0, .int .u8 0, .int .u8 0, .int .u8 0, .int .u8 0, .int .u8 0, .int .u8 0, .int .u8 0, .int .u8 0, .int .u8 0, .int .u8 0, .int .u8 0, .int .u8 0, .int .u8 0, .int .u8 0, .int .u8 0, .int .u8 0, .int .u8 0, .int .u8 0, .int .u8 0, .int .u8 0, .int .u8 0, .int .u8 0, .int .u8 0, .int .u8 0, .int .u8 0],none⟩).set H7.next (some ⟨zae,(sha kc (kpad kc key 54 ++ b)).map by8,none⟩)).next = H7.next + 1:=rfl
 have gc8:=(s8.same c (by omega)).trans gc7
 generalize hd:H7.next = d at *
 generalize Heap.set _ d _ = H8 at *
 have f2:Ab c H8 (.sl c 0 64 (.fix 64)) (kpad kc key 92):=by
  show Apf _ _ _ _ _ _ _
  rw [p2]
  exact .full gc8 (by rw [List.length_map,p2]) (Nat.le_refl _) (by omega)
 have hy:=ze8 (lo:=0) g8 sl (Nat.zero_le _) (by omega)
 rw [zaK]
 refine zkl f2 (by omega) (by have:=hy.ac; rw [sl] at this ⊢; exact this) (by rw [sl]; omega) fun x9 H9 hx9 b9 st9=>?_
 have n9:=b9.next
 refine zah (zuG hx9.by (o2.app (zqy _ _)) (by rw [List.length_append,sl]; omega)) ?_
 rintro _ H10 ⟨rfl,s10⟩
 have n10:=s10.next
 have ef:sha kc (kpad kc key 92 ++ sha kc (kpad kc key 54 ++ b)) = hmac kc key b:=rfl
 rw [ef]
 have hl:=zc1 kc key b
 have m1:=ld32 hl
 have m2:=sp32 hl
 have m3:((hmac kc key b).map by8).length = 32:=by rw [List.length_map,hl]
 have all:∀ i,i < a → H10.get i = H5.get i:=fun i hi=>by rw [s10.same i (by omega),b9.same i (by omega),s8.same i (by omega),s7.same i (by omega),b6.same i (by omega)]
 have gd:H10.get H.next = some ⟨zae,[.int .u8 0, .int .u8 0, .int .u8 0, .int .u8 0, .int .u8 0, .int .u8 0, .int .u8 0, .int .u8 0, .int .u8 0, .int .u8 0, .int .u8 0, .int .u8 0, .int .u8 0, .int .u8 0, .int .u8 0, .int .u8 0, .int .u8 0, .int .u8 0, .int .u8 0, .int .u8 0, .int .u8 0, .int .u8 0, .int .u8 0, .int .u8 0, .int .u8 0, .int .u8 0, .int .u8 0, .int .u8 0, .int .u8 0, .int .u8 0, .int .u8 0, .int .u8 0],none⟩:=by
  rw [all _ (by omega),s15.same _ (by omega)]
  exact g1
 simp (disch:=omega) only [↓RD,RZ,eq_self,seval,gd,zaV,zai,m1,m2,m3]
 exact ⟨by rw [zan]; omega,fun i hi=>by rw [zak _ _ (by omega),all i (by omega),s15.same i (by omega),s1.same i hi]⟩
end Go.Ax.SU
/- Re6 -/
namespace Go.Ax.SU
open Go.Ax
theorem zph {lo lo':Nat} {H:Heap} {kv bv:V} {key b:List Nat} (hk:By lo H kv key) (k8:Ok8 key) (hkl:key.length ≤ 549755813888) (hb:By lo' H bv b) (b8:Ok8 b) (hbl:b.length ≤ 549755813000) :
  Ok (sem T zbJ [kv,bv]) H fun r H'=>r = .agg ((hmac kc key b).map by8) ∧ Grow H H':=by
 refine zgH ?_
 unfold zeo
 refine zap (zaU (by rfl) ?_)
 rw [zai]
 have s1:=Grow.new H ⟨zae,[.int .u8 0, .int .u8 0, .int .u8 0, .int .u8 0, .int .u8 0, .int .u8 0, .int .u8 0, .int .u8 0, .int .u8 0, .int .u8 0, .int .u8 0, .int .u8 0, .int .u8 0, .int .u8 0, .int .u8 0, .int .u8 0, .int .u8 0, .int .u8 0, .int .u8 0, .int .u8 0, .int .u8 0, .int .u8 0, .int .u8 0, .int .u8 0, .int .u8 0, .int .u8 0, .int .u8 0, .int .u8 0, .int .u8 0, .int .u8 0, .int .u8 0, .int .u8 0],none⟩
 have g1:(H.new ⟨zae,[.int .u8 0, .int .u8 0, .int .u8 0, .int .u8 0, .int .u8 0, .int .u8 0, .int .u8 0, .int .u8 0, .int .u8 0, .int .u8 0, .int .u8 0, .int .u8 0, .int .u8 0, .int .u8 0, .int .u8 0, .int .u8 0, .int .u8 0, .int .u8 0, .int .u8 0, .int .u8 0, .int .u8 0, .int .u8 0, .int .u8 0, .int .u8 0, .int .u8 0, .int .u8 0, .int .u8 0, .int .u8 0, .int .u8 0, .int .u8 0, .int .u8 0, .int .u8 0],none⟩).get H.next = some ⟨zae,[.int .u8 0, .int .u8 0, .int .u8 0, .int .u8 0, .int .u8 0, .int .u8 0, .int .u8 0, .int .u8 0, .int .u8 0, .int .u8 0, .int .u8 0, .int .u8 0, .int .u8 0, .int .u8 0, .int .u8 0, .int .u8 0, .int .u8 0, .int .u8 0, .int .u8 0, .int .u8 0, .int .u8 0, .int .u8 0, .int .u8 0, .int .u8 0, .int .u8 0, .int .u8 0, .int .u8 0, .int .u8 0, .int .u8 0, .int .u8 0, .int .u8 0, .int .u8 0],none⟩:=zad _ _
 have n1:(H.new ⟨zae,[.int .u8 0, .int .u8 0, .int .u8 0, .int .u8 0, .int .u8 0, .int .u8 0, .int .u8 0, .int .u8 0, .int .u8 0, .int .u8 0, .int .u8 0, .int .u8 0, .int .u8 0, .int .u8 0, .int .u8 0, .int .u8 0, .int .u8 0, .int .u8 0, .int .u8 0, .int .u8 0, .int .u8 0, .int .u8 0, .int .u8 0, .int .u8 0, .int .u8 0, .int .u8 0, .int .u8 0, .int .u8 0, .int .u8 0, .int .u8 0, .int .u8 0, .int .u8 0],none⟩).next = H.next + 1:=zaf _ _
 have hk1:=hk.ext s1
 have hb1:=hb.ext s1
 generalize H.new _ = H1 at *
 refine zah (zql hk1 k8 hkl hb1 b8 hbl) ?_
 rintro _ H2 ⟨rfl,s2⟩
 have n2:=s2.next
 have hl:=zc1 kc key b
 have m1:=ld32 hl
 have m2:=sp32 hl
 have m3:((hmac kc key b).map by8).length = 32:=by rw [List.length_map,hl]
 have gd:=(s2.same H.next (by omega)).trans g1
 simp (disch:=omega) only [↓RD,RZ,eq_self,seval,gd,zaV,zai,m1,m2,m3]
 exact ⟨by rw [zan]; omega,fun i hi=>by rw [zak _ _ (by omega),s2.same i (by omega),s1.same i hi]⟩
theorem cut_ok {lo n:Nat} {H:Heap} {v:V} {l:List Nat} (h:Ab lo H v l) (hn:n ≤ l.length):∃ v',zaz .sl 1 v none (some (.int .i64 (n:Nat))) (some (.int .i64 (n:Nat))) = some v' ∧ By lo H v' (l.take n):=by
 have hb:=h.by
 have hlen:=hb.len
 rw [List.length_map,Nat.mul_one] at hlen
 have hcp:=hb.cap
 rcases hb.cases with ⟨rfl,hc,h0⟩ | ⟨id,off,cap,b,rfl,hg,hle,hc⟩ | ⟨cs,rfl,hle,hc⟩
 ·have hn0:n = 0:=by omega
  subst hn0
  exact ⟨.nils,rfl,Lc.nil⟩
 ·have hrc:∀ c,zbb 1 H (.sl id (off + 0) n (.fix c)) = some ((l.take n).map by8,(l.take n).length):=fun c=>by
   simp only [zbb,hg,Option.bind_some]
   rw [if_pos (by omega),List.map_take,hc,List.take_take,Nat.mul_one,Nat.mul_one,Nat.min_eq_left hn,Nat.add_zero,List.length_take,Nat.min_eq_left hn]
  cases cap with
  | fix c =>
   have hcp:l.length ≤ c:=hcp
   refine ⟨.sl id (off + 0) n (.fix n),?_,hrc n,hb.own,Nat.le_refl n⟩
   simp only [zaz,zdp,vint,Option.map_some,Option.bind_some,Option.getD_some,Option.getD_none]
   rw [if_neg (by simp),if_pos (by omega)]
   simp
  | opn e =>
   refine ⟨.sl id (off + 0) n (.fix n),?_,hrc n,hb.own,Nat.le_refl n⟩
   simp only [zaz,zdp,vint,Option.map_some,Option.bind_some,Option.getD_some,Option.getD_none]
   rw [if_neg (by simp),if_pos (by omega)]
   simp
 ·cases h with
  | app h=>cases h with
   | opn h ho=>rcases h with ⟨h,_⟩ | ⟨_,h,_⟩ <;> cases h
  
theorem zmy {lo lo':Nat} {H:Heap} {sv iv:V} {zaH info:List Nat} {n:Nat} (hs:By lo H sv zaH) (hs8:Ok8 zaH) (hsl:zaH.length ≤ 549755813888) (hi:By lo' H iv info) (hi8:Ok8 info) (hil:info.length ≤ 549755800000) (hn:n ≤ 8160) :
  Ok (sem T zbo [sv,iv, .int .i64 (n:Nat)]) H fun r H'=>∃ v,r = .tup [v, .int .i64 0] ∧ By H.next H' v ((hkdf kc zaH info ((n + 31) / 32)).1.take n) ∧ Grow H H':=by
 refine zg8 ?_
 unfold zey
 simp (disch:=omega) only [↓RD,RZ,eq_self,seval]
 have s0:Grow H ((H.new ⟨zac,[],none⟩).new ⟨zac,[],none⟩):=(Grow.new _ _).trans (Grow.new _ _)
 have ga:((H.new ⟨zac,[],none⟩).new ⟨zac,[],none⟩).get H.next = some ⟨zac,[],none⟩:=by rw [zaX _ _ (by rw [zaf]; omega),zad]
 have gb:((H.new ⟨zac,[],none⟩).new ⟨zac,[],none⟩).get (H.next + 1) = some ⟨zac,[],none⟩:=zad _ _
 have n0:((H.new ⟨zac,[],none⟩).new ⟨zac,[],none⟩).next = H.next + 1 + 1:=rfl
 generalize Heap.new _ _ = H1 at *
 refine zar (Q:=fun r H'=>∃ o,r = .ex 0 [o] ∧ Ab H.next H' o (hkdf kc zaH info ((n + 31) / 32)).1 ∧ Grow H H') ?_ ?_
 ·refine zaF (fun k L H'=>∃ o last,L = [o,last, .int .i64 ((k + 1:Nat):Int)] ∧ Ab H.next H' o (hkdf kc zaH info k).1 ∧ By 0 H' last (hkdf kc zaH info k).2 ∧ Grow H H') ((n + 31) / 32) ?_ ?_ ?_
  ·exact ⟨_,_,rfl, .app (.lit ga (Nat.le_refl _) (by omega)),ze8 gb rfl (Nat.zero_le _) (by omega),s0⟩
  ·rintro k _ H2 hk ⟨o,last,rfl,ho,hla,s2⟩
   have n2:=s2.next
   have ol:=zfA kc zaH info k
   have hk8:Ok8 (hkdf kc zaH info k).2:=(zkt kc zaH info k).2
   have ll:(hkdf kc zaH info k).2.length ≤ 32:=by
    cases k with
    | zero=>exact Nat.zero_le _
    | succ k=>exact Nat.le_of_eq (zc1 _ _ _)
   have hov:=ho.by.vlen
   rw [ol] at hov
   have hi2:=hi.ext s2
   unfold zcX
   simp (disch:=omega) only [↓RD,RZ,eq_self,seval,hov]
   rw [zaK]
   refine zo7 hla (by omega) fun x3 H3 hx3 s3=>?_
   have n3:=s3.next
   have hi3:=hi2.ext s3
   refine zew hx3 (by omega) hi3.ac (by omega) fun x4 H4 hx4 b4=>?_
   have n4:=b4.next
   have c8:IntKind.u8.wrap ((k + 1:Nat):Int) = ((k + 1:Nat):Int):=by rw [wrap_u8]; omega
   simp (disch:=omega) only [↓RD,RZ,eq_self,seval,c8]
   have s5:=Grow.new H4 ⟨zac,[.int .u8 ((k + 1:Nat):Int)],none⟩
   rw [zaK]
   refine zew (m:=[k + 1]) (Apf.keep hx4 (s5.keep _)) (by rw [zaf]; omega) (zb7 rfl) (by rw [List.length_append]; simp; omega) fun x6 H6 hx6 b6=>?_
   have n6:=b6.next
   rw [zaf] at n6
   have s26:Grow H2 H6:=⟨by omega,fun i hi=>by rw [b6.same i hi,s5.same i (by omega),b4.same i hi,s3.same i hi]⟩
   have s06:=s2.trans s26
   have m8:Ok8 ((hkdf kc zaH info k).2 ++ info ++ [k + 1]):=(hk8.app hi8 |>.app (fun y hy=>by simp at hy; omega))
   refine zah (zql (hs.ext s06) hs8 hsl hx6.by m8 (by simp; omega)) ?_
   rintro _ H7 ⟨rfl,s7⟩
   have n7:=s7.next
   have eh:(hkdf kc zaH info (k + 1)).2 = hmac kc zaH ((hkdf kc zaH info k).2 ++ info ++ [k + 1]):=rfl
   have eh1:(hkdf kc zaH info (k + 1)).1 = (hkdf kc zaH info k).1 ++ (hkdf kc zaH info (k + 1)).2:=rfl
   rw [← eh]
   have hl:(hkdf kc zaH info (k + 1)).2.length = 32:=zc1 _ _ _
   have m2:=sp32 hl
   have m3:((hkdf kc zaH info (k + 1)).2.map by8).length = 32:=by rw [List.length_map,hl]
   have vs:=@zhw 32 H7.next
   simp (disch:=omega) only [↓RD,RZ,eq_self,seval,zaV,zai,m2,m3,vs]
   have s8:Grow H7 ((H7.new ⟨zae,[.int .u8 0, .int .u8 0, .int .u8 0, .int .u8 0, .int .u8 0, .int .u8 0, .int .u8 0, .int .u8 0, .int .u8 0, .int .u8 0, .int .u8 0, .int .u8 0, .int .u8 0, .int .u8 0, .int .u8 0, .int .u8 0, .int .u8 0, .int .u8 0, .int .u8 0, .int .u8 0, .int .u8 0, .int .u8 0, .int .u8 0, .int .u8 0, .int .u8 0, .int .u8 0, .int .u8 0, .int .u8 0, .int .u8 0, .int .u8 0, .int .u8 0, .int .u8 0],none⟩).set H7.next (some ⟨zae,(hkdf kc zaH info (k + 1)).2.map by8,none⟩)):=(Grow.new _ _).set (Nat.le_refl _) _
   have g8:((H7.new ⟨zae,[.int .u8 0, .int .u8 0, .int .u8 0, .int .u8 0, .int .u8 0, .int .u8 0, .int .u8 0, .int .u8 0, .int .u8 0, .int .u8 0, .int .u8 0, .int .u8 0, .int .u8 0, .int .u8 0, .int .u8 0, .int .u8 0, .int .u8 0, .int .u8 0, .int .u8 0, .int .u8 0, .int .u8 0, .int .u8 0, .int .u8 0, .int .u8 0, .int .u8 0, .int .u8 0, .int .u8 0, .int .u8 0, .int .u8 0, .int .u8 0, .int .u8 0, .int .u8 0],none⟩).set H7.next (some ⟨zae,(hkdf kc zaH info (k + 1)).2.map by8,none⟩)).get H7.next = _:=zaj _ _ _
   have n8:((H7.new ⟨zae,[.int .u8 0, .int .u8 0, .int .u8 0, .int .u8 0, .int .u8 0, .int .u8 0, .int .u8 0, .int .u8 0, .int .u8 0, .int .u8 0, .int .u8 0, .int .u8 0, .int .u8 0, .int .u8 0, .int .u8 0, .int .u8 0, .int .u8 0, .int .u8 0, .int .u8 0, .int .u8 0, .int .u8 0, .int .u8 0, .int .u8 0, .int .u8 0, .int .u8 0, .int .u8 0, .int .u8 0, .int .u8 0, .int .u8 0, .int .u8 0, .int .u8 0, .int .u8 0],none⟩).set H7.next (some ⟨zae,(hkdf kc zaH info (k + 1)).2.map by8,none⟩)).next = H7.next + 1:=rfl
   generalize hd:H7.next = d at *
   generalize Heap.set _ d _ = H8 at *
   have s28:Grow H2 H8:=(s26.trans s7).trans s8
   have hy:=ze8 (lo:=H2.next) g8 hl (by omega) (by omega)
   rw [zaK]
   refine zkl (Apf.keep ho (s28.keep _)) (by omega) (by have:=hy.ac; rw [hl] at this ⊢; exact this) (by rw [ol,hl]; omega) fun x9 H9 hx9 b9 st9=>?_
   have n9:=b9.next
   have hdp:d ∉ o.pid.toList:=fun hc=>by
    have:=(ho.by.own d (by simpa [zhe] using hc)).2
    omega
   have hy9:=hy.same n9 fun i hi=>by
    simp only [V.pid,Option.some.injEq] at hi
    subst hi
    exact st9.same d (by omega) hdp
   have ek:((k + 1:Nat):Int) + 1 = ((k + 1 + 1:Nat):Int):=rfl
   simp (disch:=omega) only [↓RD,RZ,eq_self,seval,ek]
   exact ⟨x9,_,rfl,by rw [eh1]; exact hx9,hy9.low (Nat.zero_le _),⟨by omega,fun i hi=>by rw [b9.same i hi,s28.same i (by omega),s2.same i hi]⟩⟩
  ·rintro _ H2 ⟨o,last,rfl,ho,hla,s2⟩
   have ol:=zfA kc zaH info ((n + 31) / 32)
   have hov:=ho.by.vlen
   rw [ol] at hov
   unfold zcX
   simp (disch:=omega) only [↓RD,RZ,eq_self,seval,hov]
   exact ⟨o,rfl,ho,s2⟩
 ·rintro _ H2 ⟨o,rfl,ho,s2⟩
  obtain ⟨v',hv',hb'⟩:=cut_ok (n:=n) ho (by rw [zfA]; omega)
  simp (disch:=omega) only [↓RD,RZ,eq_self,seval,hv']
  exact ⟨_,rfl,hb',s2⟩
theorem zpg {lo:Nat} {H:Heap} {v:V} {vs:List V} {ps:List (List Nat)} (hv:Lc 1 lo H v vs vs.length) (hp:Pts 0 H vs ps) (hvn:vs.length ≤ 1000) (hlen:ps.flatten.length ≤ 1099511627776) :
  Ok (sem T zbF [v]) H fun r H'=>Ab H.next H' r ps.flatten ∧ Grow H H':=by
 refine zhY ?_
 unfold zfn
 have hpl:=hp.1
 simp (disch:=omega) only [↓RD,RZ,eq_self,seval]
 refine zaF (fun i L H'=>∃ x,L = [x, .int .i64 (i:Nat)] ∧ Ab H.next H' x (ps.take i).flatten ∧ Grow H H') vs.length ?_ ?_ ?_
 ·exact ⟨_,rfl, .app (.lit (zad _ _) (Nat.le_refl _) (by rw [zaf]; omega)),Grow.new _ _⟩
 ·rintro i _ H1 hi ⟨x,rfl,hx,s1⟩
  have n1:=s1.next
  have hvx:vs[i]? = some vs[i]:=List.getElem?_eq_getElem hi
  have hpx:ps[i]? = some ps[i]:=List.getElem?_eq_getElem (by omega)
  obtain ⟨hb,hb8⟩:=(hp.grow s1).2 i _ _ hvx hpx
  obtain ⟨q,hq,hld⟩:=zr4 (hv.ext s1) hi hvx
  have hf:=zgP hpx
  have hl1:=zeb ps (i + 1)
  rw [hf,List.length_append] at hl1
  have hvl:=(hv.ext s1).vlen
  unfold zde
  simp (disch:=omega) only [↓RD,RZ,eq_self,seval,hvl,hq,hld]
  rw [zaK]
  refine zew hx (by omega) hb.ac (by omega) fun x2 H2 hx2 b2=>?_
  simp (disch:=omega) only [↓RD,RZ,eq_self,seval]
  exact ⟨x2,rfl,by rw [hf]; exact hx2,s1.bel' (Nat.le_refl _) b2⟩
 ·rintro _ H1 ⟨x,rfl,hx,s1⟩
  have hvl:=(hv.ext s1).vlen
  rw [List.take_of_length_le (by omega)] at hx
  unfold zde
  simp (disch:=omega) only [↓RD,RZ,eq_self,seval,hvl]
  exact ⟨hx,s1⟩
end Go.Ax.SU
/- Re7 -/
namespace Go.Ax.SU
open Go.Ax
def rchk2 (n:Nat):Bool:=match Cp.cs 3 zav [by8 n, .int .u8 2] with
 | some (.int .u8 v)=>v == (xt n:Int)
 | _=>false
theorem rt2_all:(List.range 256).all rchk2 = true:=by kernel_rfl
theorem rt2 {n:Nat} (h:n < 256):sem T zav [by8 n, .int .u8 2] = M.pure (by8 (xt n)):=by
 have h1:=List.all_eq_true.1 rt2_all n (List.mem_range.2 h)
 unfold rchk2 at h1
 split at h1
 ·rename_i b hb
  rw [zjq hb]
  simp only [beq_iff_eq] at h1
  rw [h1]; rfl
 ·cases h1
def rchk3 (n:Nat):Bool:=match Cp.cs 3 zav [by8 n, .int .u8 3] with
 | some (.int .u8 v)=>v == (t3 n:Int)
 | _=>false
theorem rt3_all:(List.range 256).all rchk3 = true:=by kernel_rfl
theorem rt3 {n:Nat} (h:n < 256):sem T zav [by8 n, .int .u8 3] = M.pure (by8 (t3 n)):=by
 have h1:=List.all_eq_true.1 rt3_all n (List.mem_range.2 h)
 unfold rchk3 at h1
 split at h1
 ·rename_i b hb
  rw [zjq hb]
  simp only [beq_iff_eq] at h1
  rw [h1]; rfl
 ·cases h1
def rchkq (k:Nat):Bool:=match Cp.cs 3 zav [by8 (pwl.getD ((255 - k) % 255) 0), .int .u8 246] with
 | some (.int .u8 v)=>v == (pwl.getD ((255 - (k + 1)) % 255) 0:Int)
 | _=>false
theorem rtq_all:(List.range 255).all rchkq = true:=by kernel_rfl
theorem rtq {k:Nat} (h:k < 255):sem T zav [by8 (pwl.getD ((255 - k) % 255) 0), .int .u8 246] = M.pure (by8 (pwl.getD ((255 - (k + 1)) % 255) 0)):=by
 have h1:=List.all_eq_true.1 rtq_all k (List.mem_range.2 h)
 unfold rchkq at h1
 split at h1
 ·rename_i b hb
  rw [zjq hb]
  simp only [beq_iff_eq] at h1
  rw [h1]; rfl
 ·cases h1
theorem pw_next:((List.range 255).all fun k=>pwl.getD ((k + 1) % 255) 0 == t3 (pwl.getD (k % 255) 0)) = true:=by kernel_rfl
theorem pw_nxt {k:Nat} (h:k < 255):t3 (pwl.getD (k % 255) 0) = pwl.getD ((k + 1) % 255) 0:=by
 have:=List.all_eq_true.1 pw_next k (List.mem_range.2 h)
 simpa using (by simpa using this:pwl.getD ((k + 1) % 255) 0 = t3 (pwl.getD (k % 255) 0)).symm
theorem left1 {n:Nat} (h:n < 256):sem T zaJ [by8 n, .int .u64 1] = M.pure (by8 (rl8 n 1)):=by
 refine zdD fun H=>?_
 refine zcx ?_
 unfold zbR by8
 have e1:n * 2 % 256 < 256:=Nat.mod_lt _ (by decide)
 simp (disch:=omega) only [↓RD,RZ,eq_self,seval]
 unfold rl8
 rfl
theorem left2 {n:Nat} (h:n < 256):sem T zaJ [by8 n, .int .u64 2] = M.pure (by8 (rl8 n 2)):=by
 refine zdD fun H=>?_
 refine zcx ?_
 unfold zbR by8
 have e1:n * 4 % 256 < 256:=Nat.mod_lt _ (by decide)
 simp (disch:=omega) only [↓RD,RZ,eq_self,seval]
 unfold rl8
 rfl
theorem left3 {n:Nat} (h:n < 256):sem T zaJ [by8 n, .int .u64 3] = M.pure (by8 (rl8 n 3)):=by
 refine zdD fun H=>?_
 refine zcx ?_
 unfold zbR by8
 have e1:n * 8 % 256 < 256:=Nat.mod_lt _ (by decide)
 simp (disch:=omega) only [↓RD,RZ,eq_self,seval]
 unfold rl8
 rfl
theorem left4 {n:Nat} (h:n < 256):sem T zaJ [by8 n, .int .u64 4] = M.pure (by8 (rl8 n 4)):=by
 refine zdD fun H=>?_
 refine zcx ?_
 unfold zbR by8
 have e1:n * 16 % 256 < 256:=Nat.mod_lt _ (by decide)
 simp (disch:=omega) only [↓RD,RZ,eq_self,seval]
 unfold rl8
 rfl
theorem zgb {y i:Nat} (h:y < 256):rl8 y i < 256:=by
 unfold rl8
 refine or_lt8 (Nat.mod_lt _ (by decide)) ?_
 have:=Nat.div_le_self y (2 ^ (8 - i))
 omega
def zku:Nat → List Nat
 | 0=>(List.replicate 256 0).set 0 99
 | i + 1=>(zku i).set (pwl.getD ((i + 1) % 255) 0) (bx (pwl.getD ((255 - (i + 1)) % 255) 0))
theorem zt0:zku 255 = sbox:=by kernel_rfl
theorem ztZ (n:Nat):(zku n).length = 256:=by
 induction n with
 | zero=>rfl
 | succ n ih=>simp [zku,ih]
theorem Box_r_ok {H:Heap}:Ok (sem T zbP []) H fun r H'=>r = .agg (sbox.map by8) ∧ Grow H H':=by
 refine ziH ?_
 unfold zfV
 refine zap (zaU (by kernel_rfl) ?_)
 have s1:=Grow.new H ⟨zaR,List.replicate 256 (.int .u8 0),none⟩
 have g1:(H.new ⟨zaR,List.replicate 256 (.int .u8 0),none⟩).get H.next = some ⟨zaR,List.replicate 256 (.int .u8 0),none⟩:=zad _ _
 have n1:(H.new ⟨zaR,List.replicate 256 (.int .u8 0),none⟩).next = H.next + 1:=zaf _ _
 show Ok _ (H.new ⟨zaR,List.replicate 256 (.int .u8 0),none⟩) _
 generalize ha:H.next = a at *
 generalize H.new _ = H1 at *
 refine zap (zaU (by kernel_rfl) ?_)
 have s2:=Grow.new H1 ⟨zaR,List.replicate 256 (.int .u8 0),none⟩
 have g2:(H1.new ⟨zaR,List.replicate 256 (.int .u8 0),none⟩).get H1.next = some ⟨zaR,(List.replicate 256 0).map by8,none⟩:=by rw [zad,List.map_replicate]; rfl
 have n2:(H1.new ⟨zaR,List.replicate 256 (.int .u8 0),none⟩).next = H1.next + 1:=zaf _ _
 have ga2:=(s2.same a (by omega)).trans g1
 show Ok _ (H1.new ⟨zaR,List.replicate 256 (.int .u8 0),none⟩) _
 generalize hb:H1.next = b at *
 generalize H1.new _ = H2 at *
 have z0:splice ((List.replicate 256 0).map by8) 0 [.int .u8 99] = (zku 0).map by8:=zle (l:=List.replicate 256 0) (y:=99) (by rw [List.length_replicate]; decide)
 have zl:((List.replicate 256 0).map by8).length = 256:=by rw [List.length_map,List.length_replicate]
 simp (disch:=first | omega | (simp only [RY] <;> omega) | decide) only [↓RD,RZ,eq_self,Int.reduceToNat,Int.reduceAdd,Nat.reduceAdd,Nat.reduceSub,Nat.reduceMul,Nat.reduceLeDiff,g2,z0,zl]
 have s3:=At1.set b H2 (some ⟨zaR,(zku 0).map by8,none⟩)
 have g3:(H2.set b (some ⟨zaR,(zku 0).map by8,none⟩)).get b = _:=zaj _ _ _
 have n3:(H2.set b (some ⟨zaR,(zku 0).map by8,none⟩)).next = H2.next:=rfl
 generalize Heap.set _ b _ = H3 at *
 have ga3:=(s3.same a (by omega) (by omega)).trans ga2
 refine zar (Q:=fun r H'=>r = .ex 0 [] ∧ H'.get b = some ⟨zaR,sbox.map by8,none⟩ ∧ At1 b H3 H') ?_ ?_
 ·refine zaF (fun i L H'=>L = [by8 (pwl.getD (i % 255) 0),by8 (pwl.getD ((255 - i) % 255) 0), .int .i64 (i:Nat)] ∧ H'.get b = some ⟨zaR,(zku i).map by8,none⟩ ∧ At1 b H3 H') 255 ?_ ?_ ?_
  ·exact ⟨rfl,g3,At1.refl _ _⟩
  ·rintro i _ H4 hi ⟨rfl,g4,s4⟩
   have p8:=zou.getD (i % 255)
   have q8:=zou.getD ((255 - i) % 255)
   have r8:=zou.getD ((i + 1) % 255)
   have u8:=zou.getD ((255 - (i + 1)) % 255)
   have t1:=rt3 p8
   have t2:=rtq hi
   rw [pw_nxt hi] at t1
   have fl:=ztZ i
   have ef:zku (i + 1) = (zku i).set (pwl.getD ((i + 1) % 255) 0) (bx (pwl.getD ((255 - (i + 1)) % 255) 0)):=rfl
   rw [ef]
   generalize pwl.getD (i % 255) 0 = p at *
   generalize pwl.getD ((255 - i) % 255) 0 = q at *
   generalize pwl.getD ((i + 1) % 255) 0 = p' at *
   generalize pwl.getD ((255 - (i + 1)) % 255) 0 = q' at *
   have l1:=left1 u8
   have l2:=left2 u8
   have l3:=left3 u8
   have l4:=left4 u8
   have x1:=zfi u8 (zgb (i:=1) u8)
   have x2:=zfi (za3 u8 (zgb (i:=1) u8)) (zgb (i:=2) u8)
   have x3:=zfi (za3 (za3 u8 (zgb (i:=1) u8)) (zgb (i:=2) u8)) (zgb (i:=3) u8)
   have x4:=zfi (za3 (za3 (za3 u8 (zgb (i:=1) u8)) (zgb (i:=2) u8)) (zgb (i:=3) u8)) (zgb (i:=4) u8)
   have x5:=zfi (za3 (za3 (za3 (za3 u8 (zgb (i:=1) u8)) (zgb (i:=2) u8)) (zgb (i:=3) u8)) (zgb (i:=4) u8)) (show 99 < 256 by decide)
   have eb:q' ^^^ rl8 q' 1 ^^^ rl8 q' 2 ^^^ rl8 q' 3 ^^^ rl8 q' 4 ^^^ 99 = bx q':=rfl
   rw [eb] at x5
   replace x5:Ax.bin .xor (by8 (q' ^^^ rl8 q' 1 ^^^ rl8 q' 2 ^^^ rl8 q' 3 ^^^ rl8 q' 4)) (V.int .u8 99) = _:=x5
   have ia:=zkB (id:=b) (off:=0) (n:=256) r8
   rw [Nat.zero_add] at ia
   have ms:=zle (l:=zku i) (i:=p') (y:=bx q') (by omega)
   have ml:((zku i).map by8).length = 256:=by rw [List.length_map,fl]
   unfold zdu
   simp (disch:=first | omega | (simp only [RY] <;> omega) | decide) only [↓RD,RZ,eq_self,Int.reduceToNat,Int.reduceAdd,Nat.reduceAdd,Nat.reduceSub,Nat.reduceMul,Nat.reduceLeDiff,t1,t2,l1,l2,l3,l4,x1,x2,x3,x4,x5,ia,g4,ms,ml,zcP,zaM]
   exact ⟨by omega,rfl,s4.trans (At1.set b _ _)⟩
  ·rintro _ H4 ⟨rfl,g4,s4⟩
   unfold zdu
   simp (disch:=first | omega | (simp only [RY] <;> omega) | decide) only [↓RD,RZ,eq_self,Int.reduceToNat,Int.reduceAdd,Nat.reduceAdd,Nat.reduceSub,Nat.reduceMul,Nat.reduceLeDiff]
   exact ⟨by rw [g4,zt0],s4⟩
 ·rintro _ H4 ⟨rfl,g4,s4⟩
  have n4:=s4.next
  have ga4:=(s4.same a (by omega) (by omega)).trans ga3
  have l1:ldc (some 256) (sbox.map by8) 0 = some (.agg (sbox.map by8)):=by
   rw [zc0 (by rw [List.length_map,zef]; decide),List.drop_zero,List.take_of_length_le (by rw [List.length_map,zef]; decide)]
  have l2:splice (List.replicate 256 (V.int .u8 0)) 0 (sbox.map by8) = sbox.map by8:=by
   unfold splice
   rw [List.take_zero,List.nil_append,List.length_map,zef,List.drop_of_length_le (by rw [List.length_replicate]; decide),List.append_nil]
  have l3:(sbox.map by8).length = 256:=by rw [List.length_map,zef]
  have l4:(List.replicate 256 (V.int .u8 0)).length = 256:=List.length_replicate ..
  simp (disch:=first | omega | (simp only [RY] <;> omega) | decide) only [↓RD,RZ,eq_self,Int.reduceToNat,Int.reduceAdd,Nat.reduceAdd,Nat.reduceSub,Nat.reduceMul,Nat.reduceLeDiff,g4,l1,ga4,zaV,zai,l2,l3,l4]
  exact ⟨by rw [zan]; omega,fun i hi=>by rw [zak _ _ (by omega),s4.same i (by omega) (by omega),s3.same i (by omega) (by omega),s2.same i (by omega),s1.same i (by omega)]⟩
end Go.Ax.SU
/- Re8 -/
namespace Go.Ax.SU
open Go.Ax
theorem kw_first {l:List Nat} {n:Nat} (hl:l.length = 4 * n):∀ i,i ≤ n → (kw l n i).flatten = l.take (4 * i):=by
 intro i
 induction i with
 | zero=>intro _; simp [kw]
 | succ i ih =>
  intro hi
  rw [znP,if_pos (by omega),List.flatten_append,ih (by omega)]
  simp only [List.flatten_cons,List.flatten_nil,List.append_nil]
  rw [show 4 * (i + 1) = 4 * i + 4 by omega,List.take_add]
theorem zpO {l:List Nat} {n:Nat} (hn:0 < n) (h8:Ok8 l) (hl:l.length = 4 * n) (i:Nat):(kw l n i).flatten.length = 4 * i:=by
 rw [flat4 _ (zjf hn h8 hl i),zgM]
theorem ztD {l:List Nat} {n:Nat} (hn:0 < n) (h8:Ok8 l) (hl:l.length = 4 * n) {i j m:Nat} (hm:m < 4):(kw l n i).flatten.getD (4 * j + m) 0 = ((kw l n i).getD j []).getD m 0:=by
 rw [Nat.mul_comm,znZ _ (zjf hn h8 hl i) j m hm]
theorem sb_at {R:V} {n:Nat} (h:n < 256):(sbox.map by8 ++ [R])[n]? = some (by8 (sb n)):=by
 rw [bga (by rw [zef]; exact h)]
 rfl
theorem zqk {lo q i n:Nat} {u2 u3 u7 x:V} {H:Heap} {l s:List Nat} (hn:0 < n) (h8:Ok8 l) (hl:l.length = 4 * n) (hni:n ≤ i) (hi:i ≤ 1000) (hx:Ab lo H x (kw l n i).flatten) (hlo:lo ≤ H.next) (hs:Word s) (hq:H.get q = some ⟨zas,s.map by8,none⟩) (hql:q < H.next) (hqx:∀ j,x.pid = some j → j ≠ q) :
  Ok (M.iter (zbL (sem T) (.int .i64 (i:Nat)) (.int .i64 (n:Nat)) (.ptr q 0) u2 u3 u7) [x, .int .i64 0]) H fun r H'=>∃ x',r = .ex 2 [x'] ∧ Ab lo H' x' ((kw l n i).flatten ++ xw s ((kw l n i).getD (i - n) [])) ∧ Bel lo H H' ∧ Step H H' x.pid.toList x'.pid.toList:=by
 refine zaF (fun j L H'=>∃ x',L = [x', .int .i64 (j:Nat)] ∧ Ab lo H' x' ((kw l n i).flatten ++ (xw s ((kw l n i).getD (i - n) [])).take j) ∧ Bel lo H H' ∧ Step H H' x.pid.toList x'.pid.toList) 4 ?_ ?_ ?_
 ·exact ⟨x,rfl,by simpa using hx,Bel.refl _ _,Step.refl _ _⟩
 ·rintro j _ H1 hj ⟨x1,rfl,hx1,b1,s1⟩
  have n1:=b1.next
  have fl:=zpO hn h8 hl i
  have xl:=zmX s ((kw l n i).getD (i - n) [])
  have sl:=hs.1
  have gq1:=(s1.same q hql (fun e=>hqx q (by simpa [zhe] using e) rfl)).trans hq
  have e1:((i:Nat):Int) - ((n:Nat):Int) = ((i - n:Nat):Int):=by omega
  have e2:(4:Int) * ((i - n:Nat):Int) = ((4 * (i - n):Nat):Int):=by omega
  have e3:((4 * (i - n):Nat):Int) + ((j:Nat):Int) = ((4 * (i - n) + j:Nat):Int):=rfl
  obtain ⟨p,hp,hld,-⟩:=zf8 hx1.by (i:=((4 * (i - n) + j:Nat):Int)) (by omega) (by rw [List.length_append,fl]; omega)
  have hg:((kw l n i).flatten ++ (xw s ((kw l n i).getD (i - n) [])).take j).getD (4 * (i - n) + j) 0 = ((kw l n i).getD (i - n) []).getD j 0:=by
   rw [List.getD_eq_getElem?_getD,List.getElem?_append_left (by omega),← List.getD_eq_getElem?_getD,ztD hn h8 hl hj]
  simp only [Int.toNat_natCast,hg] at hld
  have hb:=bg (l:=s) (i:=j) (by omega)
  have p8:=zqq (zjf hn h8 hl i) (i - n) j
  have ex:=zfi p8 (hs.2.getD j)
  have ea:((kw l n i).getD (i - n) []).getD j 0 ^^^ s.getD j 0 = (xw s ((kw l n i).getD (i - n) [])).getD j 0:=by unfold xw; rw [zcc hj,Nat.xor_comm]
  rw [ea] at ex
  replace ex:Ax.bin .xor (.int .u8 (((kw l n i).getD (i - n) []).getD j 0:Nat)) (by8 (s.getD j 0)) = _:=ex
  unfold zbL
  simp (disch:=omega) only [↓RD,RZ,eq_self,seval,e1,e2,e3,hp,hld,gq1,hb,ex,zcP,zaM]
  have s2:=Grow.new H1 ⟨zac,[by8 ((xw s ((kw l n i).getD (i - n) [])).getD j 0)],none⟩
  rw [zaK]
  refine zkl (m:=[(xw s ((kw l n i).getD (i - n) [])).getD j 0]) (Apf.keep hx1 (s2.keep _)) (by rw [zaf]; omega) (zb7 rfl) (by rw [List.length_append,List.length_take,fl]; simp; omega) fun x3 H3 hx3 b3 st3=>?_
  simp (disch:=omega) only [↓RD,RZ,eq_self,seval]
  refine ⟨x3,rfl,?_,b1.trans ((s2.bel (by omega)).trans b3),s1.trans ((s2.step _).trans st3)⟩
  rw [zbk (by omega),← List.append_assoc]
  exact hx3
 ·rintro _ H1 ⟨x1,rfl,hx1,b1,s1⟩
  rw [List.take_of_length_le (by rw [zmX]; omega)] at hx1
  unfold zbL
  simp (disch:=omega) only [↓RD,RZ,eq_self,seval]
  exact ⟨x1,rfl,hx1,b1,s1⟩
end Go.Ax.SU
/- Re9 -/
namespace Go.Ax.SU
open Go.Ax
theorem ab_same {lo:Nat} {H H':Heap} {v:V} {l:List Nat} (h:Ab lo H v l) (hn:H.next ≤ H'.next) (hs:∀ i,v.pid = some i → H'.get i = H.get i):Ab lo H' v l:=by
 have h':Apf zac 1 lo H v (l.map by8) l.length:=h
 show Apf zac 1 lo H' v (l.map by8) l.length
 generalize l.map by8 = cs at *
 generalize l.length = n at *
 clear h
 cases h' with
 | app h=>exact .app (App.same h hn hs)
 | full h hl h0 h1=>exact .full (by rw [hs _ rfl]; exact h) hl h0 (Nat.lt_of_lt_of_le h1 hn)
theorem zqj {k n:Nat} {u2 u3 x R:V} {H:Heap} {l:List Nat} (hn:n = 4 ∨ n = 8) (h8:Ok8 l) (hl:l.length = 4 * n) (hx:Ab (k + 1) H x (kw l n n).flatten) (hk:H.get k = some ⟨zag,sbox.map by8 ++ [R],none⟩) (hkl:k < H.next) :
  Ok (M.iter (zbf (sem T) (.ptr k 0) (.int .i64 (n:Nat)) u2 u3) [x, .int .u8 1, .int .i64 (n:Nat)]) H fun r H'=>∃ x',r = .ex 0 [x'] ∧ Ab (k + 1) H' x' (kw l n (4 * (n + 7))).flatten ∧ Bel (k + 1) H H':=by
 have hn0:0 < n:=by omega
 have hwd:∀ i,∀ w ∈ kw l n i,Word w:=fun i=>zjf hn0 h8 hl i
 refine zaF (fun j L H'=>∃ x',L = [x',by8 (rcon ((n + j - 1) / n)), .int .i64 ((n + j:Nat):Int)] ∧ Ab (k + 1) H' x' (kw l n (n + j)).flatten ∧ Bel (k + 1) H H') (4 * (n + 7) - n) ?_ ?_ ?_
 ·refine ⟨x,?_,hx,Bel.refl _ _⟩
  rw [Nat.add_zero,Nat.div_eq_of_lt (by omega)]; rfl
 ·rintro j _ H2 hj ⟨w2,rfl,hw2,b2⟩
  obtain ⟨i,hi⟩:∃ i,n + j = i:=⟨_,rfl⟩
  rw [show n + (j + 1) = i + 1 by omega]
  rw [hi] at hw2 ⊢
  have n2:=b2.next
  have hil:i < 4 * (n + 7):=by omega
  have e1:((n:Nat):Int) + 7 = ((n + 7:Nat):Int):=rfl
  have e1':(4:Int) * ((n + 7:Nat):Int) = ((4 * (n + 7):Nat):Int):=by omega
  have fl:=zpO hn0 h8 hl i
  have q4:(4:Int) * ((i:Nat):Int) = ((4 * i:Nat):Int):=by omega
  have i4:((4 * i:Nat):Int) - 4 = ((4 * (i - 1):Nat):Int):=by omega
  have k0:=ztD hn0 h8 hl (i:=i) (j:=i - 1) (show 0 < 4 by decide)
  rw [Nat.add_zero] at k0
  have i3:((4 * i:Nat):Int) - 3 = ((4 * (i - 1) + 1:Nat):Int):=by omega
  have i2:((4 * i:Nat):Int) - 2 = ((4 * (i - 1) + 2:Nat):Int):=by omega
  have i1:((4 * i:Nat):Int) - 1 = ((4 * (i - 1) + 3:Nat):Int):=by omega
  obtain ⟨p0,hp0,l0,-⟩:=zf8 hw2.by (i:=((4 * (i - 1):Nat):Int)) (by omega) (by rw [fl]; omega)
  obtain ⟨p1,hp1,l1,-⟩:=zf8 hw2.by (i:=((4 * (i - 1) + 1:Nat):Int)) (by omega) (by rw [fl]; omega)
  obtain ⟨p2,hp2,l2,-⟩:=zf8 hw2.by (i:=((4 * (i - 1) + 2:Nat):Int)) (by omega) (by rw [fl]; omega)
  obtain ⟨p3,hp3,l3,-⟩:=zf8 hw2.by (i:=((4 * (i - 1) + 3:Nat):Int)) (by omega) (by rw [fl]; omega)
  simp only [Int.toNat_natCast,k0,ztD hn0 h8 hl (show 1 < 4 by decide),ztD hn0 h8 hl (show 2 < 4 by decide),ztD hn0 h8 hl (show 3 < 4 by decide)] at l0 l1 l2 l3
  obtain ⟨sw,hsw⟩:∃ sw,(kw l n i).getD (i - 1) [] = sw:=⟨_,rfl⟩
  have hkw:=zgM l n i
  have hsm:(kw l n i)[i - 1]? = some sw:=by rw [← hsw,List.getD_eq_getElem?_getD,List.getElem?_eq_getElem (by omega)]; rfl
  have hsW:Word sw:=hwd i sw (List.mem_of_getElem? hsm)
  obtain ⟨a,b,c,d,e4⟩:=four hsW.1
  rw [hsw,e4] at l0 l1 l2 l3
  replace l0:LdR none H2 p0 (by8 a):=l0
  replace l1:LdR none H2 p1 (by8 b):=l1
  replace l2:LdR none H2 p2 (by8 c):=l2
  replace l3:LdR none H2 p3 (by8 d):=l3
  have bld:Ax.build [(V.int .u8 0),(V.int .u8 0),(V.int .u8 0),(V.int .u8 0)] [(0,1,by8 a),(1,1,by8 b),(2,1,by8 c),(3,1,by8 d)] = some (.agg [by8 a,by8 b,by8 c,by8 d]):=rfl
  unfold zbf
  simp (disch:=first | omega | (simp only [RY] <;> omega) | decide) only [↓RD,RZ,eq_self,Int.reduceToNat,Int.reduceAdd,Nat.reduceAdd,Nat.reduceSub,Nat.reduceMul,Nat.reduceLeDiff,e1,e1',q4,i4,i3,i2,i1,hp0,l0,hp1,l1,hp2,l2,hp3,l3,bld,zai,zcP,zaM]
  have s3:Grow H2 ((H2.new ⟨zas,[.int .u8 0, .int .u8 0, .int .u8 0, .int .u8 0],none⟩).set H2.next (some ⟨zas,[by8 a,by8 b,by8 c,by8 d],none⟩)):=(Grow.new _ _).set (Nat.le_refl _) _
  have gq3:((H2.new ⟨zas,[.int .u8 0, .int .u8 0, .int .u8 0, .int .u8 0],none⟩).set H2.next (some ⟨zas,[by8 a,by8 b,by8 c,by8 d],none⟩)).get H2.next = _:=zaj _ _ _
  have n3:((H2.new ⟨zas,[.int .u8 0, .int .u8 0, .int .u8 0, .int .u8 0],none⟩).set H2.next (some ⟨zas,[by8 a,by8 b,by8 c,by8 d],none⟩)).next = H2.next + 1:=rfl
  have hwp:∀ j,w2.pid = some j → j < H2.next:=fun j hj=>(hw2.by.own j hj).2
  have hw3:Ab (k + 1) _ w2 (kw l n i).flatten:=Apf.keep hw2 (s3.keep _)
  have gk3:=(s3.same k (by omega)).trans ((b2.same k (by omega)).trans hk)
  generalize hq:H2.next = q at *
  generalize Heap.set _ q _ = H3 at *
  have eb:(((i:Nat):Int) % ((n:Nat):Int) == 0) = decide (i % n = 0):=beqz (i % n)
  have eb4:(((i:Nat):Int) % ((n:Nat):Int) == 4) = decide (i % n = 4):=beqn (i % n) 4
  have tb:∀ m,m < 256 → (sbox.map by8 ++ [R])[m]? = some (by8 (sb m)):=fun m h=>sb_at h
  have ia:∀ m,m < 256 → Ax.iaddr (some 256) 1 (.ptr k 0) (by8 m) = some (.ptr k m):=fun m h=>by rw [zkB h,Nat.zero_add]
  have s8:Ok8 [a,b,c,d]:=e4 ▸ hsW.2
  have a8:a < 256:=s8 a (by simp)
  have b8:b < 256:=s8 b (by simp)
  have c8:c < 256:=s8 c (by simp)
  have d8:d < 256:=s8 d (by simp)
  have tw:=rt2 (zlC ((i - 1) / n))
  have xr:=zfi (zpp b) (zlC ((i - 1) / n))
  rw [eb,zfa]
  refine zar (Q:=fun r H'=>r = .nrm [by8 (rcon (i / n))] ∧ H'.get q = some ⟨zas,(zjg n i sw).map by8,none⟩ ∧ At1 q H3 H') ?_ ?_
  ·refine zbB (fun h=>?_) (fun h=>?_)
   ·simp (disch:=first | omega | (simp only [RY] <;> omega) | decide) only [↓RD,RZ,eq_self,Int.reduceToNat,Int.reduceAdd,Nat.reduceAdd,Nat.reduceSub,Nat.reduceMul,Nat.reduceLeDiff,gq3,gk3,tb _ a8,tb _ b8,tb _ c8,tb _ d8,ia _ a8,ia _ b8,ia _ c8,ia _ d8,xr,tw,zcP,zaM,zai]
    have er:(i - 1) / n + 1 = i / n:=by rcases hn with rfl | rfl <;> omega
    have er':i / n - 1 = (i - 1) / n:=by rcases hn with rfl | rfl <;> omega
    refine ⟨by rw [← er]; rfl,?_,At1.set q _ _⟩
    unfold zjg
    rw [if_pos h,e4,er']
    rfl
   ·have er:(i - 1) / n = i / n:=by rcases hn with rfl | rfl <;> omega
    have e8:[a,b,c,d].map by8 = [by8 a,by8 b,by8 c,by8 d]:=rfl
    rcases hn with hn4 | hn8
    ·have e6:(((n:Nat):Int) == 8) = false:=by rw [hn4]; rfl
     simp (disch:=first | omega | (simp only [RY] <;> omega) | decide) only [↓RD,RZ,eq_self,Int.reduceToNat,Int.reduceAdd,Nat.reduceAdd,Nat.reduceSub,Nat.reduceMul,Nat.reduceLeDiff,e6]
     refine ⟨by rw [er],?_,At1.refl _ _⟩
     unfold zjg
     rw [if_neg h,if_neg (fun hh=>by have:=hh.1; omega),e4,e8]
     exact gq3
    ·have e6:(((n:Nat):Int) == 8) = true:=by rw [hn8]; rfl
     simp (disch:=first | omega | (simp only [RY] <;> omega) | decide) only [↓RD,RZ,eq_self,Int.reduceToNat,Int.reduceAdd,Nat.reduceAdd,Nat.reduceSub,Nat.reduceMul,Nat.reduceLeDiff,e6,eb4]
     rw [zfa]
     refine zbB (fun h4=>?_) (fun h4=>?_)
     ·simp (disch:=first | omega | (simp only [RY] <;> omega) | decide) only [↓RD,RZ,eq_self,Int.reduceToNat,Int.reduceAdd,Nat.reduceAdd,Nat.reduceSub,Nat.reduceMul,Nat.reduceLeDiff,gq3,gk3,tb _ a8,tb _ b8,tb _ c8,tb _ d8,ia _ a8,ia _ b8,ia _ c8,ia _ d8,zcP,zaM,zai]
      refine ⟨by rw [er],?_,At1.set q _ _⟩
      unfold zjg
      rw [if_neg h,if_pos ⟨by omega,h4⟩,e4]
      rfl
     ·simp (disch:=first | omega | (simp only [RY] <;> omega) | decide) only [↓RD,RZ,eq_self,Int.reduceToNat,Int.reduceAdd,Nat.reduceAdd,Nat.reduceSub,Nat.reduceMul,Nat.reduceLeDiff]
      refine ⟨by rw [er],?_,At1.refl _ _⟩
      unfold zjg
      rw [if_neg h,if_neg (fun hh=>h4 hh.2),e4,e8]
      exact gq3
  ·rintro _ H4 ⟨rfl,gq4,s4⟩
   have n4:=s4.next
   have hw4:Ab (k + 1) H4 w2 (kw l n i).flatten:=by
    refine ?_
    have:Apf zac 1 (k + 1) H3 w2 ((kw l n i).flatten.map by8) (kw l n i).flatten.length:=hw3
    exact ab_same hw3 n4 fun m hm=>s4.same m (by have:=hwp m hm; omega) (by have:=hwp m hm; omega)
   simp (disch:=first | omega | (simp only [RY] <;> omega) | decide) only [↓RD,RZ,eq_self,Int.reduceToNat,Int.reduceAdd,Nat.reduceAdd,Nat.reduceSub,Nat.reduceMul,Nat.reduceLeDiff]
   refine zar (zqk (q:=q) hn0 h8 hl (by omega) (by omega) hw4 (by omega) (zkq hsW) gq4 (by omega) (fun m hm=>by have:=hwp m hm; omega)) ?_
   rintro _ H5 ⟨w',rfl,hw',b5,st5⟩
   have n5:=b5.next
   simp (disch:=first | omega | (simp only [RY] <;> omega) | decide) only [↓RD,RZ,eq_self,Int.reduceToNat,Int.reduceAdd,Nat.reduceAdd,Nat.reduceSub,Nat.reduceMul,Nat.reduceLeDiff]
   refine ⟨w',?_,?_,b2.trans (Bel.trans ⟨by omega,fun m hm=>?_⟩ b5)⟩
   ·rw [show i + 1 - 1 = i by omega]; rfl
   ·rw [znP,if_neg (by omega),hsw,List.flatten_append]
    simpa using hw'
   ·rw [s4.same m (by omega) (by omega),s3.same m (by omega)]
 ·rintro _ H2 ⟨w2,rfl,hw2,b2⟩
  have e1:((n:Nat):Int) + 7 = ((n + 7:Nat):Int):=rfl
  have e1':(4:Int) * ((n + 7:Nat):Int) = ((4 * (n + 7):Nat):Int):=by omega
  rw [show n + (4 * (n + 7) - n) = 4 * (n + 7) by omega] at *
  unfold zbf
  simp (disch:=first | omega | (simp only [RY] <;> omega) | decide) only [↓RD,RZ,eq_self,Int.reduceToNat,Int.reduceAdd,Nat.reduceAdd,Nat.reduceSub,Nat.reduceMul,Nat.reduceLeDiff,e1,e1']
  exact ⟨w2,rfl,hw2,b2⟩
end Go.Ax.SU
/- Re10 -/
namespace Go.Ax.SU
open Go.Ax
theorem sbl:(sbox.map by8).length = 256:=by rw [List.length_map,zef]
theorem key256 (R:V):(sbox.map by8 ++ [R])[256]? = some R:=by
 rw [List.getElem?_append_right (by rw [sbl]; decide),sbl]; rfl
theorem zsC (R x:V):splice (sbox.map by8 ++ [R]) 256 [x] = sbox.map by8 ++ [x]:=by
 unfold splice
 rw [List.take_append_of_le_length (by rw [sbl]; decide),List.take_of_length_le (by rw [sbl]; decide),List.drop_of_length_le (by rw [List.length_append,sbl]; exact Nat.le_refl _),List.append_nil]
theorem zkN (R:V):(sbox.map by8 ++ [R]).length = 257:=by rw [List.length_append,sbl]; rfl
def Rst (H:Heap) (k:Nat) (R:V) (l:List Nat) (n:Nat):Prop:=H.get k = some ⟨zag,sbox.map by8 ++ [R],none⟩ ∧ App zaa 16 (k + 1) H R (l.map by8) n ∧ k < H.next
theorem rpush {H:Heap} {k n:Nat} {R:V} {l x:List Nat} {F:V → M Res} {Q:Res → Heap → Prop} (hk:Rst H k R l n) (hx:x.length = 16) (hn:n ≤ 1000)
  (h:∀ R' H',Rst H' k R' (l ++ x) (n + 1) → Bel k H H' → Step H H' (k :: R.pid.toList) (k :: R'.pid.toList) → Ok (F .undef) H' Q) :
  Ok ((mappend zaa 16 16 R (.sl H.next 0 1 (.fix 1))).bind fun t158 =>
   (M.lift (Ax.faddr 256 (.ptr k 0))).bind fun t159 =>
   (mstore 1 t159 t158).bind F) (H.new ⟨zaa,x.map by8,none⟩) Q:=by
 obtain ⟨h1,h2,h3⟩:=hk
 have s1:=Grow.new H ⟨zaa,x.map by8,none⟩
 have n1:(H.new ⟨zaa,x.map by8,none⟩).next = H.next + 1:=zaf _ _
 have g1:=(s1.same k h3).trans h1
 have ac:zdZ 16 (H.new ⟨zaa,x.map by8,none⟩) (.sl H.next 0 1 (.fix 1)) = some (x.map by8,1):=zb7 (by rw [List.length_map,hx])
 have h2':App zaa 16 (k + 1) (H.new ⟨zaa,x.map by8,none⟩) R (l.map by8) n:=App.keep h2 (s1.keep _)
 generalize hid:H.next = id at *
 generalize H.new _ = H1 at *
 refine znF h2' (by omega) ac (by rw [List.length_map,hx]) (by omega) (by omega) fun w' H2 a2 st=>?_
 have n2:=st.next
 have hpw:∀ i,i ∈ R.pid.toList → k + 1 ≤ i:=fun i hi=>(h2'.lc.own i (by simpa [zhe] using hi)).1
 have b2:Bel (k + 1) H1 H2:=⟨st.next,fun i hi=>by
  by_cases hin:i < H1.next
  ·exact st.same i hin fun e=>by have:=hpw i e; omega
  ·omega⟩
 have g2:H2.get k = _:=(b2.same k (by omega)).trans g1
 have sp:=zsC R w'
 have ln:=zkN R
 simp (disch:=omega) only [↓RD,RZ,eq_self,seval,g2,sp,ln,a2.lc.cells1,a2.lc.okc]
 refine h w' _ ⟨zaj _ _ _,?_,by rw [zan]; omega⟩ ⟨by rw [zan]; omega,fun i hi=>?_⟩ ⟨by rw [zan]; omega,fun i hi hF=>?_,fun i hi=>?_⟩
 ·rw [List.map_append]
  refine App.same a2 (by rw [zan]; exact Nat.le_refl _) fun i hi=>zak _ _ ?_
  have:=(a2.lc.own i hi).1
  omega
 ·rw [zak _ _ (by omega),b2.same i (by omega),s1.same i (by omega)]
 ·rw [List.mem_cons,not_or] at hF
  rw [zak _ _ hF.1,st.same i (by omega) hF.2,s1.same i (by omega)]
 ·rcases List.mem_cons.1 hi with rfl | hi
  ·exact .inl (List.mem_cons_self ..)
  ·rcases st.own i hi with h4 | h4
   ·exact .inl (List.mem_cons_of_mem _ h4)
   ·exact .inr ⟨by omega,by rw [zan]; omega⟩
theorem zqi {k m:Nat} {lo:Nat} {u2 u3 x:V} {H:Heap} {W:List Nat} (hx:By lo H x W) (hW:W.length = 16 * m) (hm:m ≤ 100) (hk:Rst H k .nils [] 0) (hkx:∀ i,x.pid = some i → i < H.next ∧ i ≠ k) :
  Ok (M.iter (zbe (sem T) x (.ptr k 0) u2 u3) [.int .i64 0]) H fun r H'=>∃ R,r = .ex 4 [] ∧ Rst H' k R W m ∧ Bel k H H':=by
 refine zaF (fun j L H'=>L = [.int .i64 ((16 * j:Nat):Int)] ∧ ∃ R,Rst H' k R (W.take (16 * j)) j ∧ By 0 H' x W ∧ Bel k H H' ∧ ∀ i,x.pid = some i → R.pid ≠ some i) m ?_ ?_ ?_
 ·exact ⟨rfl, .nils,by simpa using hk,hx.low (Nat.zero_le _),Bel.refl _ _,fun i _ e=>by cases e⟩
 ·rintro j _ H1 hj ⟨rfl,R,hR,hx1,b1,hd1⟩
  have n1:=b1.next
  have hRl:=hR.2.2
  obtain ⟨y,hy,-,-,hyb,hyp⟩:=zbM hx1 (x:=((16 * j:Nat):Int)) (y:=((16 * j + 16:Nat):Int)) (by omega) (by omega) (by omega)
  simp only [Int.toNat_natCast] at hyb
  rw [show 16 * j + 16 - 16 * j = 16 by omega] at hyb
  have yl:((W.drop (16 * j)).take 16).length = 16:=by rw [List.length_take,List.length_drop]; omega
  have ea:((16 * j:Nat):Int) + 16 = ((16 * j + 16:Nat):Int):=rfl
  have hvl:=hx1.vlen
  have vs:=@zhw 16 H1.next
  have s2:=Grow.new H1 ⟨zaa,[.int .u8 0, .int .u8 0, .int .u8 0, .int .u8 0, .int .u8 0, .int .u8 0, .int .u8 0, .int .u8 0, .int .u8 0, .int .u8 0, .int .u8 0, .int .u8 0, .int .u8 0, .int .u8 0, .int .u8 0, .int .u8 0],none⟩
  have g2:(H1.new ⟨zaa,[.int .u8 0, .int .u8 0, .int .u8 0, .int .u8 0, .int .u8 0, .int .u8 0, .int .u8 0, .int .u8 0, .int .u8 0, .int .u8 0, .int .u8 0, .int .u8 0, .int .u8 0, .int .u8 0, .int .u8 0, .int .u8 0],none⟩).get H1.next = some ⟨zaa,List.replicate 16 (.int .u8 0),none⟩:=zad _ _
  have n2:(H1.new ⟨zaa,[.int .u8 0, .int .u8 0, .int .u8 0, .int .u8 0, .int .u8 0, .int .u8 0, .int .u8 0, .int .u8 0, .int .u8 0, .int .u8 0, .int .u8 0, .int .u8 0, .int .u8 0, .int .u8 0, .int .u8 0, .int .u8 0],none⟩).next = H1.next + 1:=zaf _ _
  have cp:=zky (off:=0) (len:=16) (cap:=.fix 16) g2 (hyb.ext s2) (by rw [List.length_replicate]; decide) (by omega)
  rw [show List.replicate 16 (V.int .u8 0) = (List.replicate 16 0).map by8 by rw [List.map_replicate]; rfl,sp16 yl (by rw [List.length_map,List.length_replicate])] at cp
  unfold zbe
  simp (disch:=omega) only [↓RD,RZ,eq_self,seval,hvl,vs,ea,hy]
  rw [zaK]
  refine zap ⟨_,_,cp,?_⟩
  have s3:Grow H1 ((H1.new ⟨zaa,[.int .u8 0, .int .u8 0, .int .u8 0, .int .u8 0, .int .u8 0, .int .u8 0, .int .u8 0, .int .u8 0, .int .u8 0, .int .u8 0, .int .u8 0, .int .u8 0, .int .u8 0, .int .u8 0, .int .u8 0, .int .u8 0],none⟩).set H1.next (some ⟨zaa,((W.drop (16 * j)).take 16).map by8,none⟩)):=(Grow.new _ _).set (Nat.le_refl _) _
  have g3:((H1.new ⟨zaa,[.int .u8 0, .int .u8 0, .int .u8 0, .int .u8 0, .int .u8 0, .int .u8 0, .int .u8 0, .int .u8 0, .int .u8 0, .int .u8 0, .int .u8 0, .int .u8 0, .int .u8 0, .int .u8 0, .int .u8 0, .int .u8 0],none⟩).set H1.next (some ⟨zaa,((W.drop (16 * j)).take 16).map by8,none⟩)).get H1.next = _:=zaj _ _ _
  have n3:((H1.new ⟨zaa,[.int .u8 0, .int .u8 0, .int .u8 0, .int .u8 0, .int .u8 0, .int .u8 0, .int .u8 0, .int .u8 0, .int .u8 0, .int .u8 0, .int .u8 0, .int .u8 0, .int .u8 0, .int .u8 0, .int .u8 0, .int .u8 0],none⟩).set H1.next (some ⟨zaa,((W.drop (16 * j)).take 16).map by8,none⟩)).next = H1.next + 1:=rfl
  have hxp:∀ i,x.pid = some i → i < H1.next:=fun i hi=>(hx1.own i hi).2
  generalize hq:H1.next = q at *
  generalize Heap.set _ q _ = H3 at *
  have gk3:=(s3.same k (by omega)).trans hR.1
  have ek:=key256 R
  have lx:=ld16 yl
  have hR3:Rst H3 k R (W.take (16 * j)) j:=⟨gk3,App.keep hR.2.1 (s3.keep _),by omega⟩
  have xl:(((W.drop (16 * j)).take 16).map by8).length = 16:=by rw [List.length_map,yl]
  have spx:=sp16 yl (L:=[.int .u8 0, .int .u8 0, .int .u8 0, .int .u8 0, .int .u8 0, .int .u8 0, .int .u8 0, .int .u8 0, .int .u8 0, .int .u8 0, .int .u8 0, .int .u8 0, .int .u8 0, .int .u8 0, .int .u8 0, .int .u8 0]) rfl
  simp (disch:=omega) only [↓RD,RZ,eq_self,seval,gk3,ek,g3,lx,zaV,zai,xl,spx]
  rw [zaK]
  refine rpush hR3 yl (by omega) fun R' H4 hR4 b4 st4=>?_
  have n4:=b4.next
  have hxs:∀ i,x.pid = some i → i ∉ k :: R.pid.toList:=fun i hi e=>by
   rcases List.mem_cons.1 e with rfl | e
   ·exact (hkx _ hi).2 rfl
   ·exact hd1 i hi (by simpa [zhe] using e)
  have x3:=hx1.ext s3
  have x4:By 0 H4 x W:=x3.same n4 fun i hi=>st4.same i (by have:=hxp i hi; omega) (hxs i hi)
  simp (disch:=omega) only [↓RD,RZ,eq_self,seval,ea]
  refine ⟨rfl,R',?_,x4,b1.trans ((s3.bel (by omega)).trans b4),fun i hi e=>?_⟩
  ·rw [show 16 * (j + 1) = 16 * j + 16 by omega,List.take_add]
   exact hR4
  ·exact st4.ne (by have:=hxp i hi; omega) (hxs i hi) (List.mem_cons_of_mem _ (by simpa [zhe] using e))
 ·rintro _ H1 ⟨rfl,R,hR,hx1,b1,-⟩
  have hvl:=hx1.vlen
  rw [List.take_of_length_le (by omega)] at hR
  unfold zbe
  simp (disch:=omega) only [↓RD,RZ,eq_self,seval,hvl]
  exact ⟨R,hR,b1⟩
end Go.Ax.SU
/- Re11 -/
namespace Go.Ax.SU
open Go.Ax
def RK (H:Heap) (r:V) (ws:List (List Nat)):Prop:=∃ R,r = .agg (sbox.map by8 ++ [R]) ∧ Lc 16 0 H R (ws.flatten.map by8) (ws.length / 4) ∧ (∀ w ∈ ws,Word w) ∧ ws.length % 4 = 0
theorem RK.grow {H H':Heap} {r:V} {ws:List (List Nat)} (h:RK H r ws) (g:Grow H H'):RK H' r ws:=by
 obtain ⟨R,h1,h2,h3⟩:=h
 exact ⟨R,h1,h2.ext g,h3⟩
def Z257:List V:=List.replicate 256 (.int .u8 0) ++ [.nils]
theorem zqf:V.okc (.agg Z257) = true:=by kernel_rfl
theorem zhu:Z257.length = 257:=by kernel_rfl
theorem zpS {R:V} (h:R.okc = true) (h1:R.cells = [R]):V.okc (.agg (sbox.map by8 ++ [R])) = true:=by
 rfl
theorem kbuild:Ax.build Z257 [(0,256, .agg (sbox.map by8))] = some (.agg (sbox.map by8 ++ [.nils])):=by
 have e1:(V.agg (sbox.map by8)).cells.length = 256:=by rw [zai,sbl]
 unfold Ax.build
 simp only [fill]
 rw [if_pos ⟨e1,by rw [zhu]; decide,zaV _⟩,zai]
 have:splice Z257 0 (sbox.map by8) = sbox.map by8 ++ [.nils]:=by
  unfold splice Z257
  rw [List.take_zero,List.nil_append,sbl,Nat.zero_add,List.drop_left' (by rw [List.length_replicate])]
 rw [this]; rfl
theorem ld257 (R:V):ldc (some 257) (sbox.map by8 ++ [R]) 0 = some (.agg (sbox.map by8 ++ [R])):=by
 rw [zc0 (by rw [zkN]; decide),List.drop_zero,List.take_of_length_le (by rw [zkN]; decide)]
theorem sp257 (R:V) {L:List V} (h:L.length = 257):splice L 0 (sbox.map by8 ++ [R]) = sbox.map by8 ++ [R]:=by
 unfold splice
 rw [List.take_zero,List.nil_append,zkN,List.drop_of_length_le (by omega),List.append_nil]
theorem ab_low {lo lo':Nat} {H:Heap} {v:V} {l:List Nat} (h:Ab lo H v l) (hl:lo' ≤ lo):Ab lo' H v l:=by
 have h':Apf zac 1 lo H v (l.map by8) l.length:=h
 show Apf zac 1 lo' H v (l.map by8) l.length
 generalize l.map by8 = cs at *
 generalize l.length = n at *
 clear h
 cases h' with
 | app h=>exact .app (by
   cases h with
   | opn h ho=>exact .opn h fun i hi=>⟨Nat.le_trans hl (ho i hi).1,(ho i hi).2⟩
   | lit h h0 h1=>exact .lit h (Nat.le_trans hl h0) h1)
 | full h hl' h0 h1=>exact .full h hl' (Nat.le_trans hl h0) h1
theorem zqg {lo a n:Nat} {H:Heap} {v:V} {l:List Nat} {Q:V → Heap → Prop} (hv:By lo H v l) (h8:Ok8 l) (hn:n = 4 ∨ n = 8) (hl:l.length = 4 * n) (ha:H.get a = some ⟨zag,Z257,none⟩) (hal:a < H.next)
  (hQ:∀ r H',RK H' r (kw l n (4 * (n + 7))) → Bel a H H' → (∀ R,r = .agg (sbox.map by8 ++ [R]) → ∀ i,R.pid = some i → H.next ≤ i) → Q (.tup [r, .int .i64 0]) H') :
  Ok ((sem T zbP []).bind fun t22 =>
  (M.lift (Ax.build Z257 [(0,256,t22)])).bind fun t23 =>
  (mbox zag (V.agg Z257)).bind fun t4 =>
  (mstore 257 t4 t23).bind fun _ =>
  (M.lift (Ax.vlen v)).bind fun t25 =>
  (M.lift (Ax.bin .quo t25 (V.int .i64 4))).bind fun t26 =>
  (mslit zac 0 [(V.int .u8 0)] []).bind fun t27 =>
  (mappend zac 1 1 t27 v).bind fun t29 =>
  M.blk 0 (
   M.iter (zbf (sem T) t4 t26 (.ptr a 0) (V.int .i64 0)) [t29,(V.int .u8 1),t26]) fun L5 =>
  M.blk 4 (
   M.iter (zbe (sem T) (L5.getD 0 .undef) t4 (.ptr a 0) (V.int .i64 0)) [(V.int .i64 0)]) fun _ =>
  (mload (some 257) t4).bind fun t160 =>
  (mstore 257 (.ptr a 0) t160).bind fun _ =>
  (mload (some 257) (.ptr a 0)).bind fun r0 =>
  M.pure (.ret [r0,(V.int .i64 0)])) H fun r H'=>∃ L,r = .ret L ∧ Q (zf9 L) H':=by
 have hn0:0 < n:=by omega
 refine zah Box_r_ok ?_
 rintro _ H1 ⟨rfl,s1⟩
 have n1:=s1.next
 refine zaP kbuild ?_
 refine zap (zaU zqf ?_)
 rw [zai]
 have s2:=Grow.new H1 ⟨zag,Z257,none⟩
 have g2:(H1.new ⟨zag,Z257,none⟩).get H1.next = _:=zad _ _
 have n2:(H1.new ⟨zag,Z257,none⟩).next = H1.next + 1:=zaf _ _
 have hv2:=(hv.ext s1).ext s2
 have ga2:=((s2.same a (by omega)).trans (s1.same a hal)).trans ha
 generalize hk:H1.next = k at *
 generalize H1.new _ = H2 at *
 have spz:=sp257 .nils zhu
 have kok:V.okc (.agg (sbox.map by8 ++ [V.nils])) = true:=zpS rfl rfl
 have kln:=zkN .nils
 have e1:((l.length:Nat):Int) / 4 = ((n:Nat):Int):=by omega
 simp (disch:=omega) only [↓RD,RZ,eq_self,seval,g2,spz,kok,zai,kln,zhu,hv2.vlen,e1]
 have n3:(H2.set k (some ⟨zag,sbox.map by8 ++ [.nils],none⟩)).next = H2.next:=rfl
 have g3:(H2.set k (some ⟨zag,sbox.map by8 ++ [.nils],none⟩)).get k = _:=zaj _ _ _
 have s3:=At1.set k H2 (some ⟨zag,sbox.map by8 ++ [.nils],none⟩)
 rw [← n3]
 generalize Heap.set _ k _ = H3 at *
 have ga3:=(s3.same a (by omega) (by omega)).trans ga2
 have hvp:∀ i,v.pid = some i → i < k:=fun i hi=>by have:=(hv.own i hi).2; omega
 have hv3:=hv2.at1 s3 (fun e=>by have:=hvp _ e; omega)
 rw [zaK]
 refine zo7 hv3 (by omega) fun x4 H4 hx4 s4=>?_
 have n4:=s4.next
 have ga4:=(s4.same a (by omega)).trans ga3
 have gk4:=(s4.same k (by omega)).trans g3
 have ekw:(kw l n n).flatten = l:=by rw [kw_first hl n (Nat.le_refl _),List.take_of_length_le (by omega)]
 have hx4':Ab (k + 1) H4 x4 (kw l n n).flatten:=by rw [ekw]; exact ab_low hx4 (by omega)
 simp (disch:=omega) only [↓RD,RZ,eq_self,seval]
 refine zar (zqj hn h8 hl hx4' gk4 (by omega)) ?_
 rintro _ H5 ⟨x5,rfl,hx5,b5⟩
 have n5:=b5.next
 have gk5:=(b5.same k (by omega)).trans gk4
 have ga5:=(b5.same a (by omega)).trans ga4
 have fl:=zpO hn0 h8 hl (4 * (n + 7))
 simp (disch:=omega) only [↓RD,RZ,eq_self,seval]
 refine zar (zqi (m:=n + 7) hx5.by (by rw [fl]; omega) (by omega) ⟨gk5,App.nil,by omega⟩ (fun i hi=>by have:=hx5.by.own i hi; omega)) ?_
 rintro _ H6 ⟨R,rfl,⟨gk6,aR,nk6⟩,b6⟩
 have n6:=b6.next
 have ga6:=(b6.same a (by omega)).trans ga5
 have l1:=ld257 R
 have rok:V.okc (.agg (sbox.map by8 ++ [R])) = true:=zpS aR.lc.okc aR.lc.cells1
 have l2:=sp257 R zhu
 have l3:=zkN R
 simp (disch:=omega) only [↓RD,RZ,eq_self,seval,gk6,l1,ga6,rok,zai,l2,l3,zhu]
 refine hQ _ _ ⟨R,rfl,?_,zjf hn0 h8 hl _,by rw [zgM]; omega⟩ ⟨by rw [zan]; omega,fun i hi=>?_⟩ (fun R' e i hi=>?_)
 ·rw [zgM,show 4 * (n + 7) / 4 = n + 7 by omega]
  exact (aR.lc.low (Nat.zero_le _)).same (by rw [zan]; exact Nat.le_refl _) fun i hi=>zak _ _ (by have:=(aR.lc.own i hi).1; omega)
 ·rw [zak _ _ (by omega),b6.same i (by omega),b5.same i (by omega),s4.same i (by omega),s3.same i (by omega) (by omega),s2.same i (by omega),s1.same i (by omega)]
 ·have e2:sbox.map by8 ++ [R] = sbox.map by8 ++ [R']:=by injection e
  have e3:=List.append_cancel_left e2
  injection e3 with e4
  subst e4
  have:=(aR.lc.own i hi).1
  omega
theorem zqh {lo n:Nat} {H:Heap} {v:V} {l:List Nat} (hv:By lo H v l) (h8:Ok8 l) (hn:n = 4 ∨ n = 8) (hl:l.length = 4 * n) :
  Ok (sem T zbT [v]) H fun r H'=>∃ x,r = .tup [x, .int .i64 0] ∧ RK H' x (kw l n (4 * (n + 7))) ∧ Grow H H' ∧ ∀ R,x = .agg (sbox.map by8 ++ [R]) → ∀ i,R.pid = some i → H.next ≤ i:=by
 refine zg7 ?_
 unfold zex
 refine zap (zaU zqf ?_)
 have s1:=Grow.new H ⟨zag,Z257,none⟩
 have g1:(H.new ⟨zag,Z257,none⟩).get H.next = _:=zad _ _
 have n1:(H.new ⟨zag,Z257,none⟩).next = H.next + 1:=zaf _ _
 have hv1:=hv.ext s1
 have main:=zqg (Q:=fun r H'=>∃ x,r = .tup [x, .int .i64 0] ∧ RK H' x (kw l n (4 * (n + 7))) ∧ Grow H H' ∧ ∀ R,x = .agg (sbox.map by8 ++ [R]) → ∀ i,R.pid = some i → H.next ≤ i) hv1 h8 hn hl g1 (by omega) (fun r H' h b c=>⟨r,rfl,h,s1.bel' (Nat.le_refl _) b,fun R e i hi=>by have:=c R e i hi; omega⟩)
 show Ok _ (H.new ⟨zag,Z257,none⟩) _
 generalize H.new _ = H1 at *
 rcases hn with hn4 | hn8
 ·have hvl:Ax.vlen v = some (.int .i64 16):=by rw [hv.vlen,hl,hn4]; rfl
  simp (disch:=omega) only [↓RD,RZ,eq_self,seval,hvl]
  exact main
 ·have hvl:Ax.vlen v = some (.int .i64 32):=by rw [hv.vlen,hl,hn8]; rfl
  simp (disch:=omega) only [↓RD,RZ,eq_self,seval,hvl]
  exact main
end Go.Ax.SU
/- Re12 -/
namespace Go.Ax.SU
open Go.Ax
def zk0 (x y:List Nat):List Nat:=(List.range 16).map fun i=>x.getD i 0 ^^^ y.getD i 0
theorem zsq (x y:List Nat):(zk0 x y).length = 16:=by simp [zk0]
def rkey (ws:List (List Nat)) (r:Nat):List Nat:=(ws.flatten.drop (16 * r)).take 16
theorem znC {ws:List (List Nat)} (hw:∀ w ∈ ws,Word w) {r:Nat} (h:4 * r + 3 < ws.length):(rkey ws r).length = 16:=by
 unfold rkey
 rw [List.length_take,List.length_drop,flat4 ws hw]; omega
theorem rkey_8 {ws:List (List Nat)} (hw:∀ w ∈ ws,Word w) (r:Nat):Ok8 (rkey ws r):=by
 refine Ok8.take (Ok8.drop ?_ _) _
 intro x hx
 obtain ⟨w,h1,h2⟩:=List.mem_flatten.1 hx
 exact (hw w h1).2 x h2
theorem zqp {ws:List (List Nat)} (hw:∀ w ∈ ws,Word w) {r:Nat} (x:List Nat):zk0 x (rkey ws r) = addk ws r x:=by
 unfold zk0 addk
 refine List.map_congr_left fun i hi=>?_
 rw [List.mem_range] at hi
 congr 1
 unfold rkey
 rw [getD_take hi,getD_drop]
 have:=znZ ws hw (4 * r + i / 4) (i % 4) (Nat.mod_lt _ (by decide))
 rw [show (4 * r + i / 4) * 4 + i % 4 = 16 * r + i by omega] at this
 exact this
theorem zss {H:Heap} {x y:List Nat} (hx:x.length = 16) (x8:Ok8 x) (hy:y.length = 16) (y8:Ok8 y) :
  Ok (sem T zbD [.agg (x.map by8), .agg (y.map by8)]) H fun r H'=>r = .agg ((zk0 x y).map by8) ∧ Grow H H':=by
 refine zhV ?_
 unfold zfk
 refine zap (zaU (zaV _) ?_)
 rw [zai]
 have s1:=Grow.new H ⟨zaa,x.map by8,none⟩
 have g1:(H.new ⟨zaa,x.map by8,none⟩).get H.next = some ⟨zaa,x.map by8,none⟩:=zad _ _
 have n1:(H.new ⟨zaa,x.map by8,none⟩).next = H.next + 1:=zaf _ _
 generalize ha:H.next = a at *
 generalize H.new _ = H1 at *
 refine zap (zaU (zaV _) ?_)
 rw [zai]
 have s2:=Grow.new H1 ⟨zaa,y.map by8,none⟩
 have g2:(H1.new ⟨zaa,y.map by8,none⟩).get H1.next = some ⟨zaa,y.map by8,none⟩:=zad _ _
 have n2:(H1.new ⟨zaa,y.map by8,none⟩).next = H1.next + 1:=zaf _ _
 have ga2:=(s2.same a (by omega)).trans g1
 generalize hb:H1.next = b at *
 generalize H1.new _ = H2 at *
 refine zap (zaU (by rfl) ?_)
 rw [zai]
 have s3:=Grow.new H2 ⟨zaa,[.int .u8 0, .int .u8 0, .int .u8 0, .int .u8 0, .int .u8 0, .int .u8 0, .int .u8 0, .int .u8 0, .int .u8 0, .int .u8 0, .int .u8 0, .int .u8 0, .int .u8 0, .int .u8 0, .int .u8 0, .int .u8 0],none⟩
 have g3:(H2.new ⟨zaa,[.int .u8 0, .int .u8 0, .int .u8 0, .int .u8 0, .int .u8 0, .int .u8 0, .int .u8 0, .int .u8 0, .int .u8 0, .int .u8 0, .int .u8 0, .int .u8 0, .int .u8 0, .int .u8 0, .int .u8 0, .int .u8 0],none⟩).get H2.next = some ⟨zaa,[.int .u8 0, .int .u8 0, .int .u8 0, .int .u8 0, .int .u8 0, .int .u8 0, .int .u8 0, .int .u8 0, .int .u8 0, .int .u8 0, .int .u8 0, .int .u8 0, .int .u8 0, .int .u8 0, .int .u8 0, .int .u8 0],none⟩:=zad _ _
 have n3:(H2.new ⟨zaa,[.int .u8 0, .int .u8 0, .int .u8 0, .int .u8 0, .int .u8 0, .int .u8 0, .int .u8 0, .int .u8 0, .int .u8 0, .int .u8 0, .int .u8 0, .int .u8 0, .int .u8 0, .int .u8 0, .int .u8 0, .int .u8 0],none⟩).next = H2.next + 1:=zaf _ _
 have ga3:=(s3.same a (by omega)).trans ga2
 have gb3:=(s3.same b (by omega)).trans g2
 generalize hc:H2.next = c at *
 generalize H2.new _ = H3 at *
 have xl:=zsq x y
 simp (disch:=omega) only [↓RD,RZ,eq_self,seval]
 refine zar (Q:=fun z H'=>z = .ex 0 [] ∧ H'.get a = some ⟨zaa,(zk0 x y).map by8,none⟩ ∧ At1 a H3 H') ?_ ?_
 ·refine zaF (fun i L H'=>L = [.int .i64 (i:Nat)] ∧ H'.get a = some ⟨zaa,((zk0 x y).take i ++ x.drop i).map by8,none⟩ ∧ At1 a H3 H') 16 ?_ ?_ ?_
  ·exact ⟨rfl,by simpa using ga3,At1.refl _ _⟩
  ·rintro i L H4 hi ⟨rfl,g4,s4⟩
   have gb4:=(s4.same b (by omega) (by omega)).trans gb3
   have hA':(((zk0 x y).take i).map by8).length = i:=by rw [List.length_map,List.length_take]; omega
   rw [zmY (by omega)] at g4
   have m1:=zh5 (b:=by8 (x.getD i 0)) (C:=(x.drop (i + 1)).map by8) hA'
   have m2:=zh4 (b:=by8 (x.getD i 0)) (y:=by8 ((zk0 x y).getD i 0)) (C:=(x.drop (i + 1)).map by8) hA'
   have ml:(((zk0 x y).take i).map by8 ++ by8 (x.getD i 0) :: (x.drop (i + 1)).map by8).length = 16:=by rw [List.length_append,hA',List.length_cons,List.length_map,List.length_drop]; omega
   have by':=bg (l:=y) (i:=i) (by omega)
   have ex:=zfi (x8.getD i) (y8.getD i)
   have ea:x.getD i 0 ^^^ y.getD i 0 = (zk0 x y).getD i 0:=by unfold zk0; rw [zcc hi]
   rw [ea] at ex
   unfold zdc
   simp (disch:=omega) only [↓RD,RZ,eq_self,seval,g4,m1,gb4,by',ex,m2,ml,zcP,zaM]
   refine ⟨by omega,rfl,?_,s4.trans (At1.set a _ _)⟩
   rw [zke (by omega)]
  ·rintro L H4 ⟨rfl,g4,s4⟩
   unfold zdc
   simp (disch:=omega) only [↓RD,RZ,eq_self,seval]
   refine ⟨?_,s4⟩
   rw [g4,List.take_of_length_le (by omega),List.drop_of_length_le (by omega),List.append_nil]
 ·rintro _ H4 ⟨rfl,g4,s4⟩
  have n4:=s4.next
  have gc4:=(s4.same c (by omega) (by omega)).trans g3
  have l1:=ld16 xl
  have l2:=sp16 xl (L:=[.int .u8 0, .int .u8 0, .int .u8 0, .int .u8 0, .int .u8 0, .int .u8 0, .int .u8 0, .int .u8 0, .int .u8 0, .int .u8 0, .int .u8 0, .int .u8 0, .int .u8 0, .int .u8 0, .int .u8 0, .int .u8 0]) rfl
  have l3:=zeN xl
  simp (disch:=omega) only [↓RD,RZ,eq_self,seval,g4,l1,gc4,zaV,zai,l2,l3]
  exact ⟨by rw [zan]; omega,fun i hi=>by rw [zak _ _ (by omega),s4.same i (by omega) (by omega),s3.same i (by omega),s2.same i (by omega),s1.same i (by omega)]⟩
theorem zr6 {H:Heap} {x:List Nat} (hx:x.length = 16) (h8:Ok8 x) :
  Ok (sem T zbI [.agg (x.map by8)]) H fun res H'=>res = .agg ((mixd x).map by8) ∧ Grow H H':=by
 refine zgG ?_
 unfold zen
 refine zap (zaU (zaV _) ?_)
 rw [zai]
 have s1:=Grow.new H ⟨zaa,x.map by8,none⟩
 have g1:(H.new ⟨zaa,x.map by8,none⟩).get H.next = some ⟨zaa,x.map by8,none⟩:=zad _ _
 have n1:(H.new ⟨zaa,x.map by8,none⟩).next = H.next + 1:=zaf _ _
 generalize ha:H.next = a at *
 generalize H.new _ = H1 at *
 refine zap (zaU (by rfl) ?_)
 have s2:=Grow.new H1 ⟨zaa,[.int .u8 0, .int .u8 0, .int .u8 0, .int .u8 0, .int .u8 0, .int .u8 0, .int .u8 0, .int .u8 0, .int .u8 0, .int .u8 0, .int .u8 0, .int .u8 0, .int .u8 0, .int .u8 0, .int .u8 0, .int .u8 0],none⟩
 have g2:(H1.new ⟨zaa,[.int .u8 0, .int .u8 0, .int .u8 0, .int .u8 0, .int .u8 0, .int .u8 0, .int .u8 0, .int .u8 0, .int .u8 0, .int .u8 0, .int .u8 0, .int .u8 0, .int .u8 0, .int .u8 0, .int .u8 0, .int .u8 0],none⟩).get H1.next = some ⟨zaa,[.int .u8 0, .int .u8 0, .int .u8 0, .int .u8 0, .int .u8 0, .int .u8 0, .int .u8 0, .int .u8 0, .int .u8 0, .int .u8 0, .int .u8 0, .int .u8 0, .int .u8 0, .int .u8 0, .int .u8 0, .int .u8 0],none⟩:=zad _ _
 have n2:(H1.new ⟨zaa,[.int .u8 0, .int .u8 0, .int .u8 0, .int .u8 0, .int .u8 0, .int .u8 0, .int .u8 0, .int .u8 0, .int .u8 0, .int .u8 0, .int .u8 0, .int .u8 0, .int .u8 0, .int .u8 0, .int .u8 0, .int .u8 0],none⟩).next = H1.next + 1:=zaf _ _
 have ga2:=(s2.same a (by omega)).trans g1
 rw [zai]
 generalize hb:H1.next = b at *
 generalize H1.new _ = H2 at *
 refine zap (zaU (by rfl) ?_)
 have s4:=Grow.new H2 ⟨zaa,[.int .u8 0, .int .u8 0, .int .u8 0, .int .u8 0, .int .u8 0, .int .u8 0, .int .u8 0, .int .u8 0, .int .u8 0, .int .u8 0, .int .u8 0, .int .u8 0, .int .u8 0, .int .u8 0, .int .u8 0, .int .u8 0],none⟩
 have g4:(H2.new ⟨zaa,[.int .u8 0, .int .u8 0, .int .u8 0, .int .u8 0, .int .u8 0, .int .u8 0, .int .u8 0, .int .u8 0, .int .u8 0, .int .u8 0, .int .u8 0, .int .u8 0, .int .u8 0, .int .u8 0, .int .u8 0, .int .u8 0],none⟩).get H2.next = some ⟨zaa,List.replicate 16 (.int .u8 0),none⟩:=zad _ _
 have n4:(H2.new ⟨zaa,[.int .u8 0, .int .u8 0, .int .u8 0, .int .u8 0, .int .u8 0, .int .u8 0, .int .u8 0, .int .u8 0, .int .u8 0, .int .u8 0, .int .u8 0, .int .u8 0, .int .u8 0, .int .u8 0, .int .u8 0, .int .u8 0],none⟩).next = H2.next + 1:=zaf _ _
 have ga4:=(s4.same a (by omega)).trans ga2
 have gb4:=(s4.same b (by omega)).trans g2
 rw [zai]
 generalize hc:H2.next = c at *
 generalize H2.new _ = H4 at *
 have hml:=zgd x
 simp (disch:=first | omega | (simp only [RY] <;> omega) | decide) only [↓RD,RZ,eq_self,Int.reduceToNat,Int.reduceAdd,Nat.reduceAdd,Nat.reduceSub,Nat.reduceMul,Nat.reduceLeDiff]
 refine zar (Q:=fun z H'=>z = .ex 0 [] ∧ H'.get c = some ⟨zaa,(mixd x).map by8,none⟩ ∧ At1 c H4 H') ?_ ?_
 ·refine zaF (fun C L H'=>L = [.int .i64 ((4 * C:Nat):Int)] ∧ H'.get c = some ⟨zaa,((mixd x).take (4 * C)).map by8 ++ List.replicate (16 - 4 * C) (.int .u8 0),none⟩ ∧ At1 c H4 H') 4 ?_ ?_ ?_
  ·exact ⟨rfl,by simpa using g4,At1.refl _ _⟩
  ·rintro C L H5 hC ⟨rfl,g5,s5⟩
   unfold zcN
   simp (disch:=first | omega | (simp only [RY] <;> omega) | decide) only [↓RD,RZ,eq_self,Int.reduceToNat,Int.reduceAdd,Nat.reduceAdd,Nat.reduceSub,Nat.reduceMul,Nat.reduceLeDiff]
   refine zar (Q:=fun z H'=>z = .ex 2 [] ∧ H'.get c = some ⟨zaa,((mixd x).take (4 * C + 4)).map by8 ++ List.replicate (16 - (4 * C + 4)) (.int .u8 0),none⟩ ∧ At1 c H4 H') ?_ ?_
   ·refine zaF (fun j L H'=>L = [.int .i64 (j:Nat)] ∧ H'.get c = some ⟨zaa,((mixd x).take (4 * C + j)).map by8 ++ List.replicate (16 - (4 * C + j)) (.int .u8 0),none⟩ ∧ At1 c H4 H') 4 ?_ ?_ ?_
    ·exact ⟨rfl,g5,s5⟩
    ·rintro j L H6 hj ⟨rfl,g6,s6⟩
     have ga6:=(s6.same a (by omega) (by omega)).trans ga4
     obtain ⟨i,hi⟩:∃ i,4 * C + j = i:=⟨_,rfl⟩
     rw [show 4 * C + (j + 1) = i + 1 by omega]
     rw [hi] at g6
     have hi16:i < 16:=by omega
     have hl0:(((mixd x).take i).map by8).length = i:=by rw [List.length_map,List.length_take]; omega
     have x0:=zaW (z:=.int .u8 0) (x:=by8 ((mixd x).getD i 0)) hl0 hi16
     have ml:(((mixd x).take i).map by8 ++ List.replicate (16 - i) (V.int .u8 0)).length = 16:=by rw [List.length_append,hl0,List.length_replicate]; omega
     have e0:((4 * C:Nat):Int) + ((j:Nat):Int) = ((i:Nat):Int):=by omega
     have f1:(((j:Nat):Int) + 1) % 4 = (((j + 1) % 4:Nat):Int):=by omega
     have f2:(((j:Nat):Int) + 2) % 4 = (((j + 2) % 4:Nat):Int):=by omega
     have f3:(((j:Nat):Int) + 3) % 4 = (((j + 3) % 4:Nat):Int):=by omega
     have k1:((4 * C:Nat):Int) + (((j + 1) % 4:Nat):Int) = ((i - i % 4 + (i + 1) % 4:Nat):Int):=by omega
     have k2:((4 * C:Nat):Int) + (((j + 2) % 4:Nat):Int) = ((i - i % 4 + (i + 2) % 4:Nat):Int):=by omega
     have k3:((4 * C:Nat):Int) + (((j + 3) % 4:Nat):Int) = ((i - i % 4 + (i + 3) % 4:Nat):Int):=by omega
     have m0:i - i % 4 ≤ 12:=by omega
     have m1:=Nat.mod_lt (i + 1) (show 0 < 4 by decide)
     have m2:=Nat.mod_lt (i + 2) (show 0 < 4 by decide)
     have m3:=Nat.mod_lt (i + 3) (show 0 < 4 by decide)
     have b0:=bg (l:=x) (i:=i) (by omega)
     have b1:=bg (l:=x) (i:=i - i % 4 + (i + 1) % 4) (by omega)
     have b2:=bg (l:=x) (i:=i - i % 4 + (i + 2) % 4) (by omega)
     have b3:=bg (l:=x) (i:=i - i % 4 + (i + 3) % 4) (by omega)
     have q0:=h8.getD i
     have q1:=h8.getD (i - i % 4 + (i + 1) % 4)
     have q2:=h8.getD (i - i % 4 + (i + 2) % 4)
     have q3:=h8.getD (i - i % 4 + (i + 3) % 4)
     have w0:=rt2 q0
     have w1:=rt3 q1
     have t8:t3 (x.getD (i - i % 4 + (i + 1) % 4) 0) < 256:=za3 (zi2 q1) q1
     have x1:=zfi (zi2 q0) t8
     have x2:=zfi (za3 (zi2 q0) t8) q2
     have x3:=zfi (za3 (za3 (zi2 q0) t8) q2) q3
     have em:xt (x.getD i 0) ^^^ t3 (x.getD (i - i % 4 + (i + 1) % 4) 0) ^^^ x.getD (i - i % 4 + (i + 2) % 4) 0 ^^^ x.getD (i - i % 4 + (i + 3) % 4) 0 = (mixd x).getD i 0:=by
      unfold mixd t3
      rw [zcc hi16,← Nat.xor_assoc]
     rw [em] at x3
     unfold zcO
     simp (disch:=first | omega | (simp only [RY] <;> omega) | decide) only [↓RD,RZ,eq_self,Int.reduceToNat,Int.reduceAdd,Nat.reduceAdd,Nat.reduceSub,Nat.reduceMul,Nat.reduceLeDiff,e0,f1,f2,f3,k1,k2,k3,ga6,b0,b1,b2,b3,w0,w1,x1,x2,x3,g6,x0,ml,zcP,zaM]
     refine ⟨by omega,rfl,?_,s6.trans (At1.set c _ _)⟩
     rw [zbk (by omega)]; simp
    ·rintro L H6 ⟨rfl,g6,s6⟩
     unfold zcO
     simp (disch:=first | omega | (simp only [RY] <;> omega) | decide) only [↓RD,RZ,eq_self,Int.reduceToNat,Int.reduceAdd,Nat.reduceAdd,Nat.reduceSub,Nat.reduceMul,Nat.reduceLeDiff]
     exact ⟨g6,s6⟩
   ·rintro _ H6 ⟨rfl,g6,s6⟩
    simp (disch:=first | omega | (simp only [RY] <;> omega) | decide) only [↓RD,RZ,eq_self,Int.reduceToNat,Int.reduceAdd,Nat.reduceAdd,Nat.reduceSub,Nat.reduceMul,Nat.reduceLeDiff]
    exact ⟨rfl,g6,s6⟩
  ·rintro L H5 ⟨rfl,g5,s5⟩
   unfold zcN
   simp (disch:=first | omega | (simp only [RY] <;> omega) | decide) only [↓RD,RZ,eq_self,Int.reduceToNat,Int.reduceAdd,Nat.reduceAdd,Nat.reduceSub,Nat.reduceMul,Nat.reduceLeDiff]
   refine ⟨?_,s5⟩
   rw [g5,List.take_of_length_le (by omega)]; simp
 ·rintro _ H5 ⟨rfl,g5,s5⟩
  have n5:=s5.next
  have gb5:=(s5.same b (by omega) (by omega)).trans gb4
  have l1:=ld16 hml
  have l2:=sp16 hml (L:=[.int .u8 0, .int .u8 0, .int .u8 0, .int .u8 0, .int .u8 0, .int .u8 0, .int .u8 0, .int .u8 0, .int .u8 0, .int .u8 0, .int .u8 0, .int .u8 0, .int .u8 0, .int .u8 0, .int .u8 0, .int .u8 0]) rfl
  have l3:=zeN hml
  simp (disch:=first | omega | (simp only [RY] <;> omega) | decide) only [↓RD,RZ,eq_self,Int.reduceToNat,Int.reduceAdd,Nat.reduceAdd,Nat.reduceSub,Nat.reduceMul,Nat.reduceLeDiff,g5,l1,gb5,zaV,zai,l2,l3]
  exact ⟨by rw [zan]; omega,fun i hi=>by rw [zak _ _ (by omega),s5.same i (by omega) (by omega),s4.same i (by omega),s2.same i (by omega),s1.same i (by omega)]⟩
end Go.Ax.SU
/- Re13 -/
namespace Go.Ax.SU
open Go.Ax
theorem rk_at {H:Heap} {R:V} {ws:List (List Nat)} (hR:Lc 16 0 H R (ws.flatten.map by8) (ws.length / 4)) (hw:∀ w ∈ ws,Word w) (h4:ws.length % 4 = 0) {i:Nat} (hi:i < ws.length / 4):∃ p,(∀ {k:IntKind},Ax.iaddr none 16 R (.int k ((i:Nat):Int)) = some p) ∧ LdR (some 16) H p (.agg ((rkey ws i).map by8)):=by
 obtain ⟨p,hp,pl⟩:=hR.at (i:=(i:Nat)) (by omega) (by omega)
 refine ⟨p,hp,?_⟩
 have ha:=pl.all
 have e:((ws.flatten.map by8).drop ((i:Int).toNat * 16)).take 16 = (rkey ws i).map by8:=by
  unfold rkey
  rw [Int.toNat_natCast,← List.map_drop,← List.map_take,Nat.mul_comm]
 rw [e,List.length_map,znC hw (by omega)] at ha
 exact ha
theorem moved_r {t2 q c:Nat} {H:Heap} {R u4:V} {x:List Nat} (hx:x.length = 16) (h8:Ok8 x) (g2:H.get t2 = some ⟨zag,sbox.map by8 ++ [R],none⟩) (gq:H.get q = some ⟨zaa,x.map by8,none⟩) (gc:H.get c = some ⟨zaa,List.replicate 16 (.int .u8 0),none⟩) (h2:t2 < H.next) (hq:q < H.next) (hc2:c ≠ t2) (hcq:c ≠ q) :
  Ok (M.iter (zbt (sem T) (.ptr q 0) (.ptr t2 0) (.ptr c 0) u4) [.int .i64 0]) H fun r H'=>r = .ex 2 [] ∧ H'.get c = some ⟨zaa,(movd x).map by8,none⟩ ∧ At1 c H H':=by
 have hml:=zeg x
 refine zaF (fun i L H'=>L = [.int .i64 (i:Nat)] ∧ H'.get c = some ⟨zaa,((movd x).take i).map by8 ++ List.replicate (16 - i) (.int .u8 0),none⟩ ∧ At1 c H H') 16 ?_ ?_ ?_
 ·exact ⟨rfl,by simpa using gc,At1.refl _ _⟩
 ·rintro i L H5 hi ⟨rfl,g5,s5⟩
  have gk5:=(s5.same t2 h2 (by omega)).trans g2
  have ga5:=(s5.same q hq (by omega)).trans gq
  have hl0:(((movd x).take i).map by8).length = i:=by rw [List.length_map,List.length_take]; omega
  have x0:=zaW (z:=.int .u8 0) (x:=by8 ((movd x).getD i 0)) hl0 hi
  have ml:(((movd x).take i).map by8 ++ List.replicate (16 - i) (V.int .u8 0)).length = 16:=by rw [List.length_append,hl0,List.length_replicate]; omega
  have e1:((i:Nat):Int) % 4 = ((i % 4:Nat):Int):=by omega
  have e2:(4:Int) * ((i % 4:Nat):Int) = ((4 * (i % 4):Nat):Int):=by omega
  have e3:((i:Nat):Int) + ((4 * (i % 4):Nat):Int) = ((i + 4 * (i % 4):Nat):Int):=by omega
  have e4:((i + 4 * (i % 4):Nat):Int) % 16 = (((i + 4 * (i % 4)) % 16:Nat):Int):=by omega
  have hm:=Nat.mod_lt (i + 4 * (i % 4)) (show 0 < 16 by decide)
  have hm4:=Nat.mod_lt i (show 0 < 4 by decide)
  have eg:=bg (l:=x) (i:=(i + 4 * (i % 4)) % 16) (by omega)
  have hb8:=h8.getD ((i + 4 * (i % 4)) % 16)
  have ia:=zkB (id:=t2) (off:=0) (n:=256) hb8
  rw [Nat.zero_add] at ia
  have et:=sb_at (R:=R) hb8
  have em:sb (x.getD ((i + 4 * (i % 4)) % 16) 0) = (movd x).getD i 0:=by unfold movd; rw [zcc hi]
  rw [em] at et
  unfold zbt
  simp (disch:=omega) only [↓RD,RZ,e1,e2,e3,e4,ga5,eg,ia,gk5,et,g5,x0,ml,zcP,zaM]
  refine ⟨by omega,rfl,?_,s5.trans (At1.set c _ _)⟩
  rw [zbk (by omega)]; simp
 ·rintro L H5 ⟨rfl,g5,s5⟩
  unfold zbt
  simp (disch:=omega) only [↓RD,RZ]
  refine ⟨?_,s5⟩
  rw [g5,List.take_of_length_le (by omega)]; simp
theorem zuL {H:Heap} {r:V} {ws:List (List Nat)} {x:List Nat} (hK:RK H r ws) (hx:x.length = 16) (h8:Ok8 x) (hwl:ws.length ≤ 1000) (hw8:8 ≤ ws.length) :
  Ok (sem T za2 [r, .agg (x.map by8)]) H fun res H'=>res = .agg ((aes ws x).map by8) ∧ Grow H H':=by
 obtain ⟨R,rfl,hR,hw,hw4⟩:=hK
 refine zf5 ?_
 unfold zdW
 refine zap (zaU (zpS hR.okc hR.cells1) ?_)
 rw [zai]
 have s1:=Grow.new H ⟨zag,sbox.map by8 ++ [R],none⟩
 have g1:(H.new ⟨zag,sbox.map by8 ++ [R],none⟩).get H.next = some ⟨zag,sbox.map by8 ++ [R],none⟩:=zad _ _
 have n1:(H.new ⟨zag,sbox.map by8 ++ [R],none⟩).next = H.next + 1:=zaf _ _
 generalize ha:H.next = a at *
 generalize H.new _ = H1 at *
 refine zap (zaU (zaV _) ?_)
 rw [zai]
 have s2:=Grow.new H1 ⟨zaa,x.map by8,none⟩
 have g2:(H1.new ⟨zaa,x.map by8,none⟩).get H1.next = some ⟨zaa,x.map by8,none⟩:=zad _ _
 have n2:(H1.new ⟨zaa,x.map by8,none⟩).next = H1.next + 1:=zaf _ _
 have ga2:=(s2.same a (by omega)).trans g1
 generalize hb:H1.next = b at *
 generalize H1.new _ = H2 at *
 refine zap (zaU (by rfl) ?_)
 rw [zai]
 have s3:=Grow.new H2 ⟨zaa,[.int .u8 0, .int .u8 0, .int .u8 0, .int .u8 0, .int .u8 0, .int .u8 0, .int .u8 0, .int .u8 0, .int .u8 0, .int .u8 0, .int .u8 0, .int .u8 0, .int .u8 0, .int .u8 0, .int .u8 0, .int .u8 0],none⟩
 have g3:(H2.new ⟨zaa,[.int .u8 0, .int .u8 0, .int .u8 0, .int .u8 0, .int .u8 0, .int .u8 0, .int .u8 0, .int .u8 0, .int .u8 0, .int .u8 0, .int .u8 0, .int .u8 0, .int .u8 0, .int .u8 0, .int .u8 0, .int .u8 0],none⟩).get H2.next = some ⟨zaa,[.int .u8 0, .int .u8 0, .int .u8 0, .int .u8 0, .int .u8 0, .int .u8 0, .int .u8 0, .int .u8 0, .int .u8 0, .int .u8 0, .int .u8 0, .int .u8 0, .int .u8 0, .int .u8 0, .int .u8 0, .int .u8 0],none⟩:=zad _ _
 have n3:(H2.new ⟨zaa,[.int .u8 0, .int .u8 0, .int .u8 0, .int .u8 0, .int .u8 0, .int .u8 0, .int .u8 0, .int .u8 0, .int .u8 0, .int .u8 0, .int .u8 0, .int .u8 0, .int .u8 0, .int .u8 0, .int .u8 0, .int .u8 0],none⟩).next = H2.next + 1:=zaf _ _
 have ga3:=(s3.same a (by omega)).trans ga2
 have gb3:=(s3.same b (by omega)).trans g2
 generalize hc:H2.next = c at *
 generalize H2.new _ = H3 at *
 have s03:Grow H H3:=(s1.trans s2).trans s3
 have hR3:=hR.ext s03
 have ek:=key256 R
 have l1:=ld16 hx
 have hRv:=hR.vlen
 obtain ⟨p,hp,hld⟩:=rk_at hR3 hw hw4 (i:=0) (by omega)
 replace hp:∀ {k:IntKind},Ax.iaddr none 16 R (.int k 0) = some p:=hp
 simp (disch:=omega) only [↓RD,RZ,eq_self,seval,gb3,l1,ga3,ek,hp,hld]
 refine zah (zss hx h8 (znC hw (by omega)) (rkey_8 hw 0)) ?_
 rintro _ H4 ⟨rfl,s4⟩
 have n4:=s4.next
 rw [zqp hw]
 have al:=zcL ws 0 x
 have m2:=sp16 al (L:=[.int .u8 0, .int .u8 0, .int .u8 0, .int .u8 0, .int .u8 0, .int .u8 0, .int .u8 0, .int .u8 0, .int .u8 0, .int .u8 0, .int .u8 0, .int .u8 0, .int .u8 0, .int .u8 0, .int .u8 0, .int .u8 0]) rfl
 have m3:=zeN al
 simp (disch:=omega) only [↓RD,RZ,eq_self,seval,zaV,zai,m2,m3]
 have s5:Grow H4 ((H4.new ⟨zaa,[.int .u8 0, .int .u8 0, .int .u8 0, .int .u8 0, .int .u8 0, .int .u8 0, .int .u8 0, .int .u8 0, .int .u8 0, .int .u8 0, .int .u8 0, .int .u8 0, .int .u8 0, .int .u8 0, .int .u8 0, .int .u8 0],none⟩).set H4.next (some ⟨zaa,(addk ws 0 x).map by8,none⟩)):=(Grow.new _ _).set (Nat.le_refl _) _
 have g5:((H4.new ⟨zaa,[.int .u8 0, .int .u8 0, .int .u8 0, .int .u8 0, .int .u8 0, .int .u8 0, .int .u8 0, .int .u8 0, .int .u8 0, .int .u8 0, .int .u8 0, .int .u8 0, .int .u8 0, .int .u8 0, .int .u8 0, .int .u8 0],none⟩).set H4.next (some ⟨zaa,(addk ws 0 x).map by8,none⟩)).get H4.next = some ⟨zaa,(addk ws 0 x).map by8,none⟩:=zaj _ _ _
 have n5:((H4.new ⟨zaa,[.int .u8 0, .int .u8 0, .int .u8 0, .int .u8 0, .int .u8 0, .int .u8 0, .int .u8 0, .int .u8 0, .int .u8 0, .int .u8 0, .int .u8 0, .int .u8 0, .int .u8 0, .int .u8 0, .int .u8 0, .int .u8 0],none⟩).set H4.next (some ⟨zaa,(addk ws 0 x).map by8,none⟩)).next = H4.next + 1:=rfl
 generalize hq:H4.next = q at *
 generalize Heap.set _ q _ = H5 at *
 have s05:Grow H H5:=(s03.trans s4).trans s5
 have ga5:=(s5.same a (by omega)).trans ((s4.same a (by omega)).trans ga3)
 have gc5:=(s5.same c (by omega)).trans ((s4.same c (by omega)).trans g3)
 have gA:∀ H',At1 q H5 H' → Grow H H':=fun H' g=>⟨Nat.le_trans s05.next g.next,fun i hi=>by rw [g.same i (by omega) (by omega),s05.same i hi]⟩
 have bl:∀ i,(bst ws x i).length = 16:=fun i=>by unfold bst; split; exact zre _; exact zcL _ _ _
 have b8:∀ i,Ok8 (bst ws x i):=fun i=>by unfold bst; split; exact arnd_8 hw h8 _; exact zpf hw (ziQ _)
 refine zar (Q:=fun z H'=>z = .ex 0 [] ∧ H'.get q = some ⟨zaa,(aes ws x).map by8,none⟩ ∧ At1 q H5 H') ?_ ?_
 ·refine zaF (fun i L H'=>L = [.int .i64 ((i + 1:Nat):Int)] ∧ H'.get q = some ⟨zaa,(bst ws x i).map by8,none⟩ ∧ At1 q H5 H') (ws.length / 4 - 1) ?_ ?_ ?_
  ·refine ⟨rfl,?_,At1.refl _ _⟩
   unfold bst
   rw [if_pos (by omega)]
   exact g5
  ·rintro i L H6 hi ⟨rfl,g6,s6⟩
   have n6:=s6.next
   have e5:((i + 1:Nat):Int) + 1 = ((i + 1 + 1:Nat):Int):=rfl
   have eL:((ws.length / 4:Nat):Int) - 1 = ((ws.length / 4 - 1:Nat):Int):=by omega
   have ga6:=(s6.same a (by omega) (by omega)).trans ga5
   unfold zci
   simp (disch:=omega) only [↓RD,RZ,eq_self,seval,ga6,ek,hRv]
   have s7:=Grow.new H6 ⟨zaa,[.int .u8 0, .int .u8 0, .int .u8 0, .int .u8 0, .int .u8 0, .int .u8 0, .int .u8 0, .int .u8 0, .int .u8 0, .int .u8 0, .int .u8 0, .int .u8 0, .int .u8 0, .int .u8 0, .int .u8 0, .int .u8 0],none⟩
   have g7:(H6.new ⟨zaa,[.int .u8 0, .int .u8 0, .int .u8 0, .int .u8 0, .int .u8 0, .int .u8 0, .int .u8 0, .int .u8 0, .int .u8 0, .int .u8 0, .int .u8 0, .int .u8 0, .int .u8 0, .int .u8 0, .int .u8 0, .int .u8 0],none⟩).get H6.next = some ⟨zaa,List.replicate 16 (.int .u8 0),none⟩:=zad _ _
   have n7:(H6.new ⟨zaa,[.int .u8 0, .int .u8 0, .int .u8 0, .int .u8 0, .int .u8 0, .int .u8 0, .int .u8 0, .int .u8 0, .int .u8 0, .int .u8 0, .int .u8 0, .int .u8 0, .int .u8 0, .int .u8 0, .int .u8 0, .int .u8 0],none⟩).next = H6.next + 1:=zaf _ _
   have gq7:=(s7.same q (by omega)).trans g6
   have ga7:=(s7.same a (by omega)).trans ga6
   generalize hd:H6.next = d at *
   generalize H6.new _ = H7 at *
   refine zar (moved_r (bl i) (b8 i) ga7 gq7 g7 (by omega) (by omega) (by omega) (by omega)) ?_
   rintro _ H8 ⟨rfl,g8,s8⟩
   have n8:=s8.next
   have ga8:=(s8.same a (by omega) (by omega)).trans ga7
   have gq8:=(s8.same q (by omega) (by omega)).trans gq7
   have l5:=ld16 (zeg (bst ws x i))
   have l3:=zeN (zeg (bst ws x i))
   simp (disch:=omega) only [↓RD,RZ,eq_self,seval,ga8,ek,hRv,eL]
   refine zar (Q:=fun z H'=>z = .nrm [] ∧ H'.get d = some ⟨zaa,(if i + 1 < ws.length / 4 - 1 then mixd (movd (bst ws x i)) else movd (bst ws x i)).map by8,none⟩ ∧ At1 d H8 H') ?_ ?_
   ·refine zbB (fun h=>?_) (fun h=>?_)
    ·simp (disch:=omega) only [↓RD,RZ,eq_self,seval,g8,l5]
     refine zah (zr6 (zeg _) (ziQ _)) ?_
     rintro _ H9 ⟨rfl,s9⟩
     have n9:=s9.next
     have g9:=(s9.same d (by omega)).trans g8
     have m2:=sp16 (zgd (movd (bst ws x i))) (L:=(movd (bst ws x i)).map by8) l3
     have m3:=zeN (zgd (movd (bst ws x i)))
     simp (disch:=omega) only [↓RD,RZ,eq_self,seval,g9,zaV,zai,m2,m3,l3]
     exact ⟨by rw [if_pos (by omega)],(s9.at1 d).trans (At1.set d _ _)⟩
    ·simp (disch:=omega) only [↓RD,RZ,eq_self,seval]
     rw [if_neg (by omega)]
     exact ⟨g8,At1.refl _ _⟩
   ·rintro _ H9 ⟨rfl,g9,s9⟩
    have n9:=s9.next
    have ga9:=(s9.same a (by omega) (by omega)).trans ga8
    have gq9:=(s9.same q (by omega) (by omega)).trans gq8
    generalize hy:(if i + 1 < ws.length / 4 - 1 then mixd (movd (bst ws x i)) else movd (bst ws x i)) = y at *
    have yl:y.length = 16:=by rw [← hy]; split; exact zgd _; exact zeg _
    have y8:Ok8 y:=by rw [← hy]; split; exact ztw (ziQ _); exact ziQ _
    have s69:At1 q H6 H9:=⟨by omega,fun j hj hjq=>by rw [s9.same j (by omega) (by omega),s8.same j (by omega) (by omega),s7.same j (by omega)]⟩
    have hR9:=hR.ext (gA _ (s6.trans s69))
    obtain ⟨p9,hp9,hld9⟩:=rk_at hR9 hw hw4 (i:=i + 1) (by omega)
    have k1:=ld16 yl
    simp (disch:=omega) only [↓RD,RZ,eq_self,seval,g9,k1,ga9,ek,hp9,hld9]
    refine zah (zss yl y8 (znC hw (by omega)) (rkey_8 hw (i + 1))) ?_
    rintro _ H10 ⟨rfl,s10⟩
    have n10:=s10.next
    rw [zqp hw]
    have gq10:=(s10.same q (by omega)).trans gq9
    have u2:=sp16 (zcL ws (i + 1) y) (L:=(bst ws x i).map by8) (zeN (bl i))
    have u3:=zeN (zcL ws (i + 1) y)
    have u4:=zeN (bl i)
    simp (disch:=omega) only [↓RD,RZ,eq_self,seval,gq10,zaV,zai,u2,u3,u4,e5]
    refine ⟨?_,(s6.trans s69).trans ((s10.at1 q).trans (At1.set q _ _))⟩
    congr 3
    rw [← hy]
    unfold bst
    rw [if_pos hi]
    by_cases h:i + 1 < ws.length / 4 - 1
    ·rw [if_pos h,if_pos h]; rfl
    ·rw [if_neg h,if_neg h]
     unfold aes
     rw [show ws.length / 4 - 2 = i by omega,show ws.length / 4 - 1 = i + 1 by omega]
  ·rintro L H6 ⟨rfl,g6,s6⟩
   have ga6:=(s6.same a (by omega) (by omega)).trans ga5
   unfold zci
   simp (disch:=omega) only [↓RD,RZ,eq_self,seval,ga6,ek,hRv]
   refine ⟨?_,s6⟩
   rw [g6]
   unfold bst
   rw [if_neg (by omega)]
 ·rintro _ H6 ⟨rfl,g6,s6⟩
  have n6:=s6.next
  have al:=zcL ws (ws.length / 4 - 1) (movd (arnd ws x (ws.length / 4 - 2)))
  have k1:=ld16 (l:=aes ws x) al
  have k2:=sp16 (l:=aes ws x) al (L:=[.int .u8 0, .int .u8 0, .int .u8 0, .int .u8 0, .int .u8 0, .int .u8 0, .int .u8 0, .int .u8 0, .int .u8 0, .int .u8 0, .int .u8 0, .int .u8 0, .int .u8 0, .int .u8 0, .int .u8 0, .int .u8 0]) rfl
  have k3:=zeN (x:=aes ws x) al
  have gc6:=(s6.same c (by omega) (by omega)).trans gc5
  simp (disch:=omega) only [↓RD,RZ,eq_self,seval,g6,k1,gc6,zaV,zai,k2,k3]
  exact (gA _ s6).set (by omega) _
end Go.Ax.SU
/- Re14 -/
namespace Go.Ax.SU
open Go.Ax
theorem zpH (k:Nat):∀ (a y:Nat),num (a * 256 ^ k + y) k = num y k:=by
 induction k with
 | zero=>intro a y; rfl
 | succ k ih =>
  intro a y
  rw [znL,znL]
  have e1:(a * 256 ^ (k + 1) + y) / 256 = a * 256 ^ k + y / 256:=by
   rw [Nat.pow_succ,← Nat.mul_assoc,Nat.add_comm,Nat.add_mul_div_right _ _ (by decide),Nat.add_comm]
  have e2:(a * 256 ^ (k + 1) + y) % 256 = y % 256:=by
   rw [Nat.pow_succ,← Nat.mul_assoc,Nat.add_comm,Nat.add_mul_mod_self_right]
  rw [e1,e2,ih]
theorem zti (k y:Nat):num (y % 256 ^ k) k = num y k:=by
 have h:=zpH k (y / 256 ^ k) (y % 256 ^ k)
 rw [Nat.mul_comm,Nat.div_add_mod] at h
 exact h.symm
theorem zoI (j:Nat):∀ (k y:Nat),num y (k + j) = num (y / 256 ^ j) k ++ num y j:=by
 intro k
 induction k with
 | zero=>intro y; simp [num]
 | succ k ih =>
  intro y
  rw [show k + 1 + j = (k + j) + 1 by omega,zld,zld,ih,List.cons_append]
  congr 2
  rw [Nat.div_div_eq_div_mul,← Nat.pow_add,Nat.add_comm]
theorem zqa (a:Nat) (l:List Nat):be (a :: l) = a * 256 ^ l.length + be l:=by
 have key:∀ (l:List Nat) (a:Nat),l.foldl (fun a b=>a * 256 + b) a = a * 256 ^ l.length + l.foldl (fun a b=>a * 256 + b) 0:=by
  intro l
  induction l with
  | nil=>intro a; simp
  | cons b l ih =>
   intro a
   rw [List.foldl_cons,ih,List.foldl_cons,ih (0 * 256 + b),List.length_cons,Nat.pow_succ]
   generalize 256 ^ l.length = P
   generalize l.foldl (fun a b=>a * 256 + b) 0 = s
   rw [Nat.add_mul,Nat.zero_mul,Nat.zero_add,Nat.mul_comm P 256,← Nat.mul_assoc,Nat.add_assoc]
 show l.foldl (fun a b=>a * 256 + b) (0 * 256 + a) = _
 rw [key]
 simp [be]
theorem be_app (a b:List Nat):be (a ++ b) = be a * 256 ^ b.length + be b:=by
 induction a with
 | nil=>simp [be]
 | cons x a ih =>
  rw [List.cons_append,zqa,ih,zqa,List.length_append,Nat.pow_add,Nat.add_mul,Nat.mul_assoc,Nat.add_assoc]
theorem ztl {x:List Nat} {n:Nat} (hx:x.length = 16) (h8:Ok8 x) (hn:n < 18446744073709551616):zdn x n = num (be x + n) 16:=by
 have l1:be (x.drop 8) < 18446744073709551616:=by
  have:=zuo _ (h8.drop 8)
  rw [List.length_drop,hx] at this
  exact this
 have e:be x = be (x.take 8) * 18446744073709551616 + be (x.drop 8):=by
  have:=be_app (x.take 8) (x.drop 8)
  rw [List.take_append_drop,List.length_drop,hx] at this
  exact this
 rw [zoI 8 8]
 have e2:(be x + n) / 256 ^ 8 = be (x.take 8) + (if 18446744073709551616 ≤ be (x.drop 8) + n then 1 else 0):=by
  show (be x + n) / 18446744073709551616 = _
  split <;> omega
 have e3:num ((be (x.drop 8) + n) % 256 ^ 8) 8 = num (be x + n) 8:=by
  rw [zti,e,Nat.add_assoc]
  exact (zpH 8 (be (x.take 8)) (be (x.drop 8) + n)).symm
 rw [e2,← e3,← zti 8 (be (x.take 8) + _)]
 rfl
def cy (x:List Nat) (n k:Nat):Nat:=be (x.drop (16 - k)) + n % 256 ^ k
theorem cy_zero {x:List Nat} (hx:x.length = 16) (n:Nat):cy x n 0 = 0:=by
 unfold cy
 rw [List.drop_of_length_le (by omega),Nat.pow_zero,Nat.mod_one]; rfl
theorem cy_succ {x:List Nat} (hx:x.length = 16) (n:Nat) {k:Nat} (hk:k < 16):cy x n (k + 1) = (x.getD (15 - k) 0 + n / 256 ^ k % 256) * 256 ^ k + cy x n k:=by
 unfold cy
 have e1:x.drop (16 - (k + 1)) = x.getD (15 - k) 0 :: x.drop (16 - k):=by
  rw [show 16 - (k + 1) = 15 - k by omega,List.drop_eq_getElem_cons (by omega),show 15 - k + 1 = 16 - k by omega,List.getD_eq_getElem?_getD,List.getElem?_eq_getElem (by omega)]; rfl
 rw [e1,zqa,List.length_drop,hx,show 16 - (16 - k) = k by omega,Nat.mod_pow_succ,Nat.add_mul]
 generalize 256 ^ k = P
 rw [Nat.mul_comm P]
 omega
theorem cy_lt {x:List Nat} (hx:x.length = 16) (h8:Ok8 x) (n:Nat) {k:Nat} (hk:k ≤ 16):cy x n k < 2 * 256 ^ k:=by
 unfold cy
 have h1:=zuo _ (h8.drop (16 - k))
 rw [List.length_drop,hx,show 16 - (16 - k) = k by omega] at h1
 have h2:=Nat.mod_lt n (show 0 < 256 ^ k from Nat.pow_pos (by decide))
 omega
theorem zuJ {H:Heap} {x:List Nat} {n:Nat} (hx:x.length = 16) (h8:Ok8 x) (hn:n < 18446744073709551616) :
  Ok (sem T zbE [.agg (x.map by8), .int .u64 (n:Nat)]) H fun res H'=>res = .agg ((zdn x n).map by8) ∧ Grow H H':=by
 refine zhX ?_
 unfold zfm
 refine zap (zaU (zaV _) ?_)
 rw [zai]
 have s1:=Grow.new H ⟨zaa,x.map by8,none⟩
 have g1:(H.new ⟨zaa,x.map by8,none⟩).get H.next = some ⟨zaa,x.map by8,none⟩:=zad _ _
 have n1:(H.new ⟨zaa,x.map by8,none⟩).next = H.next + 1:=zaf _ _
 generalize ha:H.next = a at *
 generalize H.new _ = H1 at *
 refine zap (zaU (by rfl) ?_)
 have s2:=Grow.new H1 ⟨zaa,[.int .u8 0, .int .u8 0, .int .u8 0, .int .u8 0, .int .u8 0, .int .u8 0, .int .u8 0, .int .u8 0, .int .u8 0, .int .u8 0, .int .u8 0, .int .u8 0, .int .u8 0, .int .u8 0, .int .u8 0, .int .u8 0],none⟩
 have g2:(H1.new ⟨zaa,[.int .u8 0, .int .u8 0, .int .u8 0, .int .u8 0, .int .u8 0, .int .u8 0, .int .u8 0, .int .u8 0, .int .u8 0, .int .u8 0, .int .u8 0, .int .u8 0, .int .u8 0, .int .u8 0, .int .u8 0, .int .u8 0],none⟩).get H1.next = some ⟨zaa,[.int .u8 0, .int .u8 0, .int .u8 0, .int .u8 0, .int .u8 0, .int .u8 0, .int .u8 0, .int .u8 0, .int .u8 0, .int .u8 0, .int .u8 0, .int .u8 0, .int .u8 0, .int .u8 0, .int .u8 0, .int .u8 0],none⟩:=zad _ _
 have n2:(H1.new ⟨zaa,[.int .u8 0, .int .u8 0, .int .u8 0, .int .u8 0, .int .u8 0, .int .u8 0, .int .u8 0, .int .u8 0, .int .u8 0, .int .u8 0, .int .u8 0, .int .u8 0, .int .u8 0, .int .u8 0, .int .u8 0, .int .u8 0],none⟩).next = H1.next + 1:=zaf _ _
 have ga2:=(s2.same a (by omega)).trans g1
 rw [zai]
 generalize hb:H1.next = b at *
 generalize H1.new _ = H2 at *
 simp (disch:=omega) only [↓RD,RZ,eq_self,seval]
 refine zar (Q:=fun z H'=>z = .ex 0 [] ∧ H'.get a = some ⟨zaa,(zdn x n).map by8,none⟩ ∧ At1 a H2 H') ?_ ?_
 ·refine zaF (fun k L H'=>L = [.int .u64 (n / 256 ^ k:Nat), .int .u64 (cy x n k / 256 ^ k:Nat), .int .i64 ((15:Int) - (k:Nat))] ∧ H'.get a = some ⟨zaa,(x.take (16 - k) ++ num (cy x n k) k).map by8,none⟩ ∧ At1 a H2 H') 16 ?_ ?_ ?_
  ·refine ⟨by rw [cy_zero hx]; simp,?_,At1.refl _ _⟩
   rw [Nat.sub_zero,List.take_of_length_le (by omega)]
   simpa [num] using ga2
  ·rintro k _ H3 hk ⟨rfl,g3,s3⟩
   have hP:0 < 256 ^ k:=Nat.pow_pos (by decide)
   have c1:=cy_succ hx n hk
   have cl:=cy_lt hx h8 n (show k ≤ 16 by omega)
   have x8:=h8.getD (15 - k)
   have e15:(15:Int) - ((k:Nat):Int) = ((15 - k:Nat):Int):=by omega
   have e14:((15 - k:Nat):Int) - 1 = (15:Int) - ((k + 1:Nat):Int):=by omega
   have hcar:cy x n k / 256 ^ k < 2:=by rw [Nat.div_lt_iff_lt_mul hP]; exact cl
   have hnk:n / 256 ^ k < 18446744073709551616:=Nat.lt_of_le_of_lt (Nat.div_le_self _ _) hn
   have hand:n / 256 ^ k &&& 255 = n / 256 ^ k % 256:=Nat.and_two_pow_sub_one_eq_mod _ 8
   -- the byte
   have hv:cy x n (k + 1) / 256 ^ k = x.getD (15 - k) 0 + n / 256 ^ k % 256 + cy x n k / 256 ^ k:=by
    rw [c1,Nat.add_comm,Nat.add_mul_div_right _ _ hP,Nat.add_comm]
   have hv2:cy x n (k + 1) / 256 ^ (k + 1) = (x.getD (15 - k) 0 + n / 256 ^ k % 256 + cy x n k / 256 ^ k) / 256:=by
    rw [Nat.pow_succ,← Nat.div_div_eq_div_mul,hv]
   have hn2:n / 256 ^ (k + 1) = n / 256 ^ k / 256:=by rw [Nat.pow_succ,← Nat.div_div_eq_div_mul]
   have hnum:num (cy x n (k + 1)) (k + 1) = (x.getD (15 - k) 0 + n / 256 ^ k % 256 + cy x n k / 256 ^ k) % 256 :: num (cy x n k) k:=by
    rw [zld,hv,c1,zpH]
   have hA:((x.take (15 - k)).map by8).length = 15 - k:=by rw [List.length_map,List.length_take]; omega
   have hsp:(x.take (16 - k) ++ num (cy x n k) k).map by8 = (x.take (15 - k)).map by8 ++ by8 (x.getD (15 - k) 0) :: (num (cy x n k) k).map by8:=by
    rw [show 16 - k = 15 - k + 1 by omega,zbk (by omega)]; simp
   rw [hsp] at g3
   have m1:=zh5 (b:=by8 (x.getD (15 - k) 0)) (C:=(num (cy x n k) k).map by8) hA
   have m2:=zh4 (b:=by8 (x.getD (15 - k) 0)) (y:=by8 ((x.getD (15 - k) 0 + n / 256 ^ k % 256 + cy x n k / 256 ^ k) % 256)) (C:=(num (cy x n k) k).map by8) hA
   have ml:((x.take (15 - k)).map by8 ++ by8 (x.getD (15 - k) 0) :: (num (cy x n k) k).map by8).length = 16:=by rw [List.length_append,hA,List.length_cons,List.length_map,zcb]; omega
   rw [hv2,hn2,hnum,show 16 - (k + 1) = 15 - k by omega]
   generalize x.getD (15 - k) 0 = xb at *
   generalize cy x n k / 256 ^ k = cb at *
   generalize n / 256 ^ k = nk at *
   have cu:Ax.cint .u64 (by8 xb) = some (.int .u64 (xb:Nat)):=by
    show some (V.int .u64 (IntKind.u64.wrap ((xb:Nat):Int))) = _
    rw [wrap_u64]; congr 2; omega
   have a1:((xb:Nat):Int) + ((nk % 256:Nat):Int) = ((xb + nk % 256:Nat):Int):=rfl
   have a2:((xb + nk % 256:Nat):Int) + ((cb:Nat):Int) = ((xb + nk % 256 + cb:Nat):Int):=rfl
   have c8:=cint8 (xb + nk % 256 + cb)
   have hlt:nk % 256 < 256:=Nat.mod_lt _ (by decide)
   have w1:IntKind.u64.wrap ((xb + nk % 256:Nat):Int) = ((xb + nk % 256:Nat):Int):=by rw [wrap_u64]; omega
   have w2:IntKind.u64.wrap ((xb + nk % 256 + cb:Nat):Int) = ((xb + nk % 256 + cb:Nat):Int):=by rw [wrap_u64]; omega
   rw [e15]
   unfold zdd
   simp (disch:=omega) only [↓RD,RZ,eq_self,seval,g3,m1,cu,hand,a1,a2,w1,w2,c8,m2,ml,zcP,zaM]
   replace m2:splice ((x.take (15 - k)).map by8 ++ by8 xb :: (num (cy x n k) k).map by8) (15 - k) [.int .u8 ((xb + nk % 256 + cb) % 256:Nat)] = _:=m2
   refine ⟨by omega,by rw [e14],?_,s3.trans (At1.set a _ _)⟩
   rw [m2]
   simp
  ·rintro _ H3 ⟨rfl,g3,s3⟩
   unfold zdd
   simp (disch:=omega) only [↓RD,RZ,eq_self,seval]
   refine ⟨?_,s3⟩
   rw [g3,ztl hx h8 hn]
   have:cy x n 16 = be x + n:=by
    unfold cy
    rw [Nat.sub_self,List.drop_zero,Nat.mod_eq_of_lt (by omega)]
   rw [this]
   simp
 ·rintro _ H3 ⟨rfl,g3,s3⟩
  have n3:=s3.next
  have gb3:=(s3.same b (by omega) (by omega)).trans g2
  have hl:=zlV x n
  have l1:=ld16 hl
  have l2:=sp16 hl (L:=[.int .u8 0, .int .u8 0, .int .u8 0, .int .u8 0, .int .u8 0, .int .u8 0, .int .u8 0, .int .u8 0, .int .u8 0, .int .u8 0, .int .u8 0, .int .u8 0, .int .u8 0, .int .u8 0, .int .u8 0, .int .u8 0]) rfl
  have l3:=zeN hl
  simp (disch:=omega) only [↓RD,RZ,eq_self,seval,g3,l1,gb3,zaV,zai,l2,l3]
  exact ⟨by rw [zan]; omega,fun i hi=>by rw [zak _ _ (by omega),s3.same i (by omega) (by omega),s2.same i (by omega),s1.same i (by omega)]⟩
end Go.Ax.SU
/- Re15 -/
namespace Go.Ax.SU
open Go.Ax
theorem RK.agg {H:Heap} {r:V} {ws:List (List Nat)} (h:RK H r ws):∃ R,r = .agg (sbox.map by8 ++ [R]) ∧ V.okc r = true ∧ r.cells = sbox.map by8 ++ [R]:=by
 obtain ⟨R,rfl,h2,h3⟩:=h
 exact ⟨R,rfl,rfl,rfl⟩
theorem zmk {H:Heap} {n k:Nat} {R:V} {ws:List (List Nat)} {f:List Nat} {F:V → M Res} {Q:Res → Heap → Prop} (hK:RK H (.agg (sbox.map by8 ++ [R])) ws) (hk:k < H.next) (hf:f.length = 16) (f8:Ok8 f) (hwl:ws.length ≤ 1000) (hw8:8 ≤ ws.length) (hn:n < 18446744073709551616)
  (h:∀ H',Grow H H' → Ok (F (.agg ((aes ws (zdn f n)).map by8))) H' Q):Ok ((sem T zbE [.agg (f.map by8), .int .u64 (n:Nat)]).bind fun t46 =>
   M.getH.bind fun h0' =>
   (M.unch (.ptr k 0) H h0').bind fun _ =>
   (sem T za2 [.agg (sbox.map by8 ++ [R]),t46]).bind F) H Q:=by
 refine zah (zuJ hf f8 hn) ?_
 rintro _ H1 ⟨rfl,s1⟩
 refine zap (ok_getH ?_)
 refine zap (ok_unch (fun i hi=>?_) ?_)
 ·simp only [V.pid,Option.some.injEq] at hi
  subst hi
  exact s1.same _ hk
 refine zah (zuL (hK.grow s1) (zlV _ _) (ztm _ _) hwl hw8) ?_
 rintro _ H2 ⟨rfl,s2⟩
 exact h _ (s1.trans s2)
theorem zsk {lo:Nat} {H:Heap} {r:V} {ws:List (List Nat)} {bv:V} {f l:List Nat} (hK:RK H r ws) (hf:f.length = 16) (f8:Ok8 f) (hv:By lo H bv l) (h8:Ok8 l) (hwl:ws.length ≤ 1000) (hw8:8 ≤ ws.length) (hl:l.length ≤ 1099511627776) :
  Ok (sem T zcm [r, .agg (f.map by8), .int .i64 0,bv]) H fun res H'=>∃ x,res = .tup [x, .int .i64 0] ∧ By H.next H' x (ctr ws f l) ∧ Grow H H':=by
 have hw:∀ w ∈ ws,Word w:=by obtain ⟨_,_,_,hw,_⟩:=hK; exact hw
 have cl:=zfh ws f l
 obtain ⟨R,er,rok,rce⟩:=hK.agg
 refine zhG ?_
 unfold ze4
 refine zap (zaU rok ?_)
 rw [rce]
 have s1:=Grow.new H ⟨zag,sbox.map by8 ++ [R],none⟩
 have g1:(H.new ⟨zag,sbox.map by8 ++ [R],none⟩).get H.next = some ⟨zag,sbox.map by8 ++ [R],none⟩:=zad _ _
 have n1:(H.new ⟨zag,sbox.map by8 ++ [R],none⟩).next = H.next + 1:=zaf _ _
 generalize ha:H.next = a at *
 generalize H.new _ = H1 at *
 refine zap (zaU (zaV _) ?_)
 rw [zai]
 have s2:=Grow.new H1 ⟨zaa,f.map by8,none⟩
 have g2:(H1.new ⟨zaa,f.map by8,none⟩).get H1.next = some ⟨zaa,f.map by8,none⟩:=zad _ _
 have n2:(H1.new ⟨zaa,f.map by8,none⟩).next = H1.next + 1:=zaf _ _
 have ga2:=(s2.same a (by omega)).trans g1
 generalize hb:H1.next = b at *
 generalize H1.new _ = H2 at *
 have hv2:=(hv.ext s1).ext s2
 simp (disch:=first | omega | (simp only [RY] <;> omega) | decide) only [↓RD,RZ,eq_self,Int.reduceToNat,Int.reduceAdd,Nat.reduceAdd,Nat.reduceSub,Nat.reduceMul,Nat.reduceLeDiff]
 rw [zaK]
 refine zo7 hv2 (by omega) fun w H3 hw3 s3=>?_
 have n3:=s3.next
 have ga3:=(s3.same a (by omega)).trans ga2
 have gb3:=(s3.same b (by omega)).trans g2
 refine zap (zaU (by rfl) ?_)
 rw [zai]
 have s4:=Grow.new H3 ⟨zaa,[.int .u8 0, .int .u8 0, .int .u8 0, .int .u8 0, .int .u8 0, .int .u8 0, .int .u8 0, .int .u8 0, .int .u8 0, .int .u8 0, .int .u8 0, .int .u8 0, .int .u8 0, .int .u8 0, .int .u8 0, .int .u8 0],none⟩
 have g4:(H3.new ⟨zaa,[.int .u8 0, .int .u8 0, .int .u8 0, .int .u8 0, .int .u8 0, .int .u8 0, .int .u8 0, .int .u8 0, .int .u8 0, .int .u8 0, .int .u8 0, .int .u8 0, .int .u8 0, .int .u8 0, .int .u8 0, .int .u8 0],none⟩).get H3.next = some ⟨zaa,(List.replicate 16 0).map by8,none⟩:=zad _ _
 have n4:(H3.new ⟨zaa,[.int .u8 0, .int .u8 0, .int .u8 0, .int .u8 0, .int .u8 0, .int .u8 0, .int .u8 0, .int .u8 0, .int .u8 0, .int .u8 0, .int .u8 0, .int .u8 0, .int .u8 0, .int .u8 0, .int .u8 0, .int .u8 0],none⟩).next = H3.next + 1:=zaf _ _
 have ga4:=(s4.same a (by omega)).trans ga3
 have gb4:=(s4.same b (by omega)).trans gb3
 have hw4:=hw3.by.ext s4
 have hwp:∀ i,w.pid = some i → H2.next ≤ i ∧ i < H3.next:=fun i hi=>hw3.by.own i hi
 generalize hc:H3.next = c at *
 generalize H3.new _ = H4 at *
 have s04:Grow H H4:=((s1.trans s2).trans s3).trans s4
 by_cases h0:l.length = 0
 ·have e0:l = []:=List.eq_nil_of_length_eq_zero h0
  subst e0
  simp (disch:=first | omega | (simp only [RY] <;> omega) | decide) only [↓RD,RZ,eq_self,Int.reduceToNat,Int.reduceAdd,Nat.reduceAdd,Nat.reduceSub,Nat.reduceMul,Nat.reduceLeDiff]
  refine zaF (fun i L H'=>L = [.int .i64 0] ∧ H' = H4) 0 ⟨rfl,rfl⟩ (fun k L H k0=>absurd k0 (by omega)) ?_
  rintro _ H' ⟨rfl,rfl⟩
  have hvl:=hw4.vlen
  unfold zb0
  simp (disch:=first | omega | (simp only [RY] <;> omega) | decide) only [↓RD,RZ,eq_self,Int.reduceToNat,Int.reduceAdd,Nat.reduceAdd,Nat.reduceSub,Nat.reduceMul,Nat.reduceLeDiff,hvl]
  exact ⟨_,rfl,hw4.low (by omega),s04⟩
 obtain ⟨id,cap,o,ew,gw4,hid,hid2,hcap⟩:∃ id cap o,w = .sl id 0 l.length cap ∧ H4.get id = some ⟨zac,l.map by8,o⟩ ∧ H2.next ≤ id ∧ id < c ∧ V.capOk 1 (.sl id 0 l.length cap):=by
  obtain ⟨id,cap,o,e,g,h1,h2,h3⟩:=Ab.blk hw3 (by omega)
  exact ⟨id,cap,o,e,(s4.same id (by omega)).trans g,h1,by omega,h3⟩
 subst ew
 have vlw:Ax.vlen (.sl id 0 l.length cap) = some (.int .i64 (l.length:Nat)):=rfl
 have ek:=ld257 R
 subst er
 simp (disch:=first | omega | (simp only [RY] <;> omega) | decide) only [↓RD,RZ,eq_self,Int.reduceToNat,Int.reduceAdd,Nat.reduceAdd,Nat.reduceSub,Nat.reduceMul,Nat.reduceLeDiff]
 refine zar (Q:=fun z H'=>z = .ex 0 [] ∧ H'.get id = some ⟨zac,(ctr ws f l).map by8,o⟩ ∧ Grow H H' ∧ c < H'.next) ?_ ?_
 ·refine zaF (fun i L H'=>L = [.int .i64 (i:Nat)] ∧ H'.get a = some ⟨zag,sbox.map by8 ++ [R],none⟩ ∧ H'.get b = some ⟨zaa,f.map by8,none⟩ ∧ H'.get id = some ⟨zac,((ctr ws f l).take i ++ l.drop i).map by8,o⟩ ∧ H'.get c = some ⟨zaa,(if i = 0 then List.replicate 16 0 else aes ws (zdn f ((i - 1) / 16))).map by8,none⟩ ∧ Grow H H' ∧ c < H'.next) l.length ?_ ?_ ?_
  ·exact ⟨rfl,ga4,gb4,by simpa using gw4,g4,s04,by omega⟩
  ·rintro i _ H5 hi ⟨rfl,ga5,gb5,gi5,gc5,s5,n5⟩
   generalize hy:(if i = 0 then List.replicate 16 0 else aes ws (zdn f ((i - 1) / 16))) = y at *
   have yl:y.length = 16:=by rw [← hy]; split; exact List.length_replicate ..; exact zkD _ _
   have e1:(((i:Nat):Int) % 16 == 0) = decide (i % 16 = 0):=beqz (i % 16)
   have e2:(((i:Nat):Int) == 0) = decide (i = 0):=beqz i
   have l1:=ld16 hf
   unfold zb0
   have ei:((i:Nat):Int) % 16 = ((i % 16:Nat):Int):=by omega
   have em:=Nat.mod_lt i (show 0 < 16 by decide)
   simp (disch:=first | omega | (simp only [RY] <;> omega) | decide) only [↓RD,RZ,eq_self,Int.reduceToNat,Int.reduceAdd,Nat.reduceAdd,Nat.reduceSub,Nat.reduceMul,Nat.reduceLeDiff,vlw,ei,beqz,Int.zero_add]
   rw [zaK]
   refine zar (α:=Res) (Q:=fun r H'=>r = .nrm [] ∧ ∃ H6,Grow H H6 ∧ c < H6.next ∧ H6.get a = H5.get a ∧ H6.get b = H5.get b ∧ H6.get id = H5.get id ∧ H6.get c = some ⟨zaa,(aes ws (zdn f (i / 16))).map by8,none⟩ ∧ H' = H6.set id (some ⟨zac,((ctr ws f l).take (i + 1) ++ l.drop (i + 1)).map by8,o⟩)) ?_ ?_
   ·have hA':(((ctr ws f l).take i).map by8).length = i:=by rw [List.length_map,List.length_take]; omega
    have gi5':=gi5
    rw [zmY (by omega)] at gi5'
    have m1:=zh5 (b:=by8 (l.getD i 0)) (C:=(l.drop (i + 1)).map by8) hA'
    have m2:=zh4 (b:=by8 (l.getD i 0)) (y:=by8 ((ctr ws f l).getD i 0)) (C:=(l.drop (i + 1)).map by8) hA'
    have ml:(((ctr ws f l).take i).map by8 ++ by8 (l.getD i 0) :: (l.drop (i + 1)).map by8).length = l.length:=by rw [List.length_append,hA',List.length_cons,List.length_map,List.length_drop]; omega
    have hk:=aes_8 hw (zdn f (i / 16))
    have hkl:=zkD ws (zdn f (i / 16))
    have q2:=bg (l:=aes ws (zdn f (i / 16))) (i:=i % 16) (by omega)
    have q3:=zfi (getD_lt h8 i) (hk.getD (i % 16))
    have q4:l.getD i 0 ^^^ (aes ws (zdn f (i / 16))).getD (i % 16) 0 = (ctr ws f l).getD i 0:=(zlg hi).symm
    rw [q4] at q3
    have q5:((ctr ws f l).take i).map by8 ++ by8 ((ctr ws f l).getD i 0) :: (l.drop (i + 1)).map by8 = ((ctr ws f l).take (i + 1) ++ l.drop (i + 1)).map by8:=zke (by omega)
    have ln:=zkD ws (zdn f (i / 16))
    have l3:=sp16 ln (L:=y.map by8) (by rw [List.length_map,yl])
    have l4:=zeN ln
    have e4:((i:Nat):Int) / 16 = ((i / 16:Nat):Int):=by omega
    have l5:(y.map by8).length = 16:=by rw [List.length_map,yl]
    have w64:IntKind.u64.wrap ((i / 16:Nat):Int) = ((i / 16:Nat):Int):=by rw [wrap_u64]; omega
    by_cases hi0:i = 0
    ·have e3:decide (i = 0) = true:=decide_eq_true hi0
     simp (disch:=first | omega | (simp only [RY] <;> omega) | decide) only [↓RD,RZ,eq_self,Int.reduceToNat,Int.reduceAdd,Nat.reduceAdd,Nat.reduceSub,Nat.reduceMul,Nat.reduceLeDiff,ei,beqz,e3,Int.zero_add,ga5,ek,gb5,l1,e4,w64]
     rw [zaK]
     refine zmk (hK.grow s5) (by omega) hf f8 hwl hw8 (by omega) fun H6 s6=>?_
     have n6:=s6.next
     have ga6:=s6.same a (by omega)
     have gb6:=s6.same b (by omega)
     have gi6:=s6.same id (by omega)
     have gc6:=(s6.same c (by omega)).trans gc5
     have gi6':=gi6.trans gi5'
     simp (disch:=first | omega | (simp only [RY] <;> omega) | decide) only [↓RD,RZ,eq_self,Int.reduceToNat,Int.reduceAdd,Nat.reduceAdd,Nat.reduceSub,Nat.reduceMul,Nat.reduceLeDiff,gc6,zaV,zai,l3,l4,l5,gi6',m1,ei,q2,q3,m2,ml,q5,zcP,zaM]
     exact ⟨by omega,_,(s5.trans s6).set (by omega) _,by rw [zan]; omega,by rw [zak _ _ (by omega)]; exact ga6,by rw [zak _ _ (by omega)]; exact gb6,by rw [zak _ _ (by omega)]; exact gi6,zaj _ _ _,rfl⟩
    ·have e3:decide (i = 0) = false:=decide_eq_false hi0
     simp (disch:=first | omega | (simp only [RY] <;> omega) | decide) only [↓RD,RZ,eq_self,Int.reduceToNat,Int.reduceAdd,Nat.reduceAdd,Nat.reduceSub,Nat.reduceMul,Nat.reduceLeDiff,ei,beqz,e3,Int.zero_add]
     rw [zfa]
     refine zbB (fun h=>?_) (fun h=>?_)
     ·simp (disch:=first | omega | (simp only [RY] <;> omega) | decide) only [↓RD,RZ,eq_self,Int.reduceToNat,Int.reduceAdd,Nat.reduceAdd,Nat.reduceSub,Nat.reduceMul,Nat.reduceLeDiff,Int.zero_add,ga5,ek,gb5,l1,e4,w64]
      rw [zaK]
      refine zmk (hK.grow s5) (by omega) hf f8 hwl hw8 (by omega) fun H6 s6=>?_
      have n6:=s6.next
      have ga6:=s6.same a (by omega)
      have gb6:=s6.same b (by omega)
      have gi6:=s6.same id (by omega)
      have gc6:=(s6.same c (by omega)).trans gc5
      have gi6':=gi6.trans gi5'
      simp (disch:=first | omega | (simp only [RY] <;> omega) | decide) only [↓RD,RZ,eq_self,Int.reduceToNat,Int.reduceAdd,Nat.reduceAdd,Nat.reduceSub,Nat.reduceMul,Nat.reduceLeDiff,gc6,zaV,zai,l3,l4,l5,gi6',m1,ei,q2,q3,m2,ml,q5,zcP,zaM]
      exact ⟨by omega,_,(s5.trans s6).set (by omega) _,by rw [zan]; omega,by rw [zak _ _ (by omega)]; exact ga6,by rw [zak _ _ (by omega)]; exact gb6,by rw [zak _ _ (by omega)]; exact gi6,zaj _ _ _,rfl⟩
     ·have ey:y = aes ws (zdn f (i / 16)):=by rw [← hy,if_neg hi0,show (i - 1) / 16 = i / 16 by omega]
      rw [ey] at gc5
      simp (disch:=first | omega | (simp only [RY] <;> omega) | decide) only [↓RD,RZ,eq_self,Int.reduceToNat,Int.reduceAdd,Nat.reduceAdd,Nat.reduceSub,Nat.reduceMul,Nat.reduceLeDiff,gi5',m1,ei,gc5,q2,q3,m2,ml,q5,zcP,zaM]
      exact ⟨by omega,_,s5,n5,rfl,rfl,gi5',gc5,rfl⟩
   ·rintro _ _ ⟨rfl,H6,s6,n6,ga6,gb6,gi6,gc6,rfl⟩
    simp (disch:=first | omega | (simp only [RY] <;> omega) | decide) only [↓RD,RZ,eq_self,Int.reduceToNat,Int.reduceAdd,Nat.reduceAdd,Nat.reduceSub,Nat.reduceMul,Nat.reduceLeDiff]
    exact ⟨rfl,ga6.trans ga5,gb6.trans gb5,by rw [gc6,if_neg (by omega),show i + 1 - 1 = i by omega],s6.set (by omega) _,n6⟩
  ·rintro _ H5 ⟨rfl,ga5,gb5,gi5,gc5,s5,n5⟩
   unfold zb0
   simp (disch:=first | omega | (simp only [RY] <;> omega) | decide) only [↓RD,RZ,eq_self,Int.reduceToNat,Int.reduceAdd,Nat.reduceAdd,Nat.reduceSub,Nat.reduceMul,Nat.reduceLeDiff,vlw]
   refine ⟨?_,s5,n5⟩
   rw [gi5,List.take_of_length_le (by omega),List.drop_of_length_le (by omega),List.append_nil]
 ·rintro _ H5 ⟨rfl,gi5,s5,n5⟩
  simp (disch:=first | omega | (simp only [RY] <;> omega) | decide) only [↓RD,RZ,eq_self,Int.reduceToNat,Int.reduceAdd,Nat.reduceAdd,Nat.reduceSub,Nat.reduceMul,Nat.reduceLeDiff]
  refine ⟨_,rfl,?_,s5⟩
  exact by_sl gi5 cl (by omega) (by omega) hcap
end Go.Ax.SU
/- Re16 -/
namespace Go.Ax.SU
open Go.Ax
theorem zra {H:Heap}:By 0 H .nils ([]:List Nat):=Lc.nil
theorem zm9 {H:Heap} {x:Nat} (hx:x < 18446744073709551616):Ok (sem T zbp [.int .u64 (x:Nat)]) H fun r H'=>∃ v,r = .tup [.int .u8 ((fld x).1:Nat),v] ∧ By H.next H' v (fld x).2 ∧ Grow H H':=by
 refine zha ?_
 unfold zeA
 have np:=zeE x
 by_cases h8:x < 8
 ·have e:fld x = (x,[]):=by unfold fld; rw [if_pos h8]
  have c8:IntKind.u8.wrap ((x:Nat):Int) = ((x:Nat):Int):=by rw [wrap_u8]; omega
  simp (disch:=omega) only [↓RD,RZ,c8,e]
  exact ⟨_,rfl,Lc.nil,Grow.refl _⟩
 ·have e:fld x = (8 + zbm x - 1,num x (zbm x)):=by unfold fld; rw [if_neg h8]
  simp (disch:=omega) only [↓RD,RZ]
  refine zar (Q:=fun r H'=>r = .ex 0 [.int .i64 (zbm x:Nat)] ∧ H' = H) ?_ ?_
  ·refine zaF (fun k L H'=>L = [.int .i64 ((k + 1:Nat):Int)] ∧ H' = H) (zbm x - 1) ?_ ?_ ?_
   ·exact ⟨rfl,rfl⟩
   ·rintro k _ H1 hk ⟨rfl,rfl⟩
    have hpos:0 < x / 256 ^ (k + 1):=by
     refine Nat.div_pos (Nat.le_trans (Nat.pow_le_pow_right (by decide) (show k + 1 ≤ zbm x - 1 by omega)) (zkp (by omega))) (Nat.pow_pos (by decide))
    have e1:(8:Int) * ((k + 1:Nat):Int) = ((8 * (k + 1):Nat):Int):=by omega
    have e2:IntKind.u64.wrap ((8 * (k + 1):Nat):Int) = ((8 * (k + 1):Nat):Int):=by rw [wrap_u64]; omega
    have e3:shr x (8 * (k + 1)) = x / 256 ^ (k + 1):=by rw [zfH,Nat.shiftRight_eq_div_pow,Nat.pow_mul]
    have e4:(((x / 256 ^ (k + 1):Nat):Int) == 0) = false:=by rw [beqz]; exact decide_eq_false (by omega)
    unfold zcY
    simp (disch:=omega) only [↓RD,RZ,e1,e2,e3,e4,Bool.not_false]
    rfl
   ·rintro _ H1 ⟨rfl,rfl⟩
    rw [show zbm x - 1 + 1 = zbm x by omega]
    have hz:x / 256 ^ zbm x = 0:=Nat.div_eq_of_lt (zjH hx)
    unfold zcY
    by_cases h:zbm x < 8
    ·have e1:(8:Int) * ((zbm x:Nat):Int) = ((8 * zbm x:Nat):Int):=by omega
     have e2:IntKind.u64.wrap ((8 * zbm x:Nat):Int) = ((8 * zbm x:Nat):Int):=by rw [wrap_u64]; omega
     have e3:shr x (8 * zbm x) = 0:=by rw [zfH,Nat.shiftRight_eq_div_pow,Nat.pow_mul]; exact hz
     simp (disch:=omega) only [↓RD,RZ,e1,e2,e3]
    ·simp (disch:=omega) only [↓RD,RZ]
  ·rintro _ H1 ⟨rfl,rfl⟩
   have c8:IntKind.u8.wrap ((8:Int) + ((zbm x:Nat):Int) - 1) = ((8 + zbm x - 1:Nat):Int):=by rw [wrap_u8]; omega
   simp (disch:=omega) only [↓RD,RZ,c8]
   refine zah (U_ok (b:=[]) x (zbm x) zra hx (by omega) (by decide)) ?_
   rintro b H2 ⟨hb,s2⟩
   simp (disch:=omega) only [↓RD,RZ,e]
   exact ⟨_,rfl,hb.by,s2⟩
theorem zuM {H:Heap} {kid ctr:Nat} (h1:kid < 18446744073709551616) (h2:ctr < 18446744073709551616):Ok (sem T zbK [.int .u64 (kid:Nat), .int .u64 (ctr:Nat)]) H fun r H'=>By H.next H' r (hdr kid ctr) ∧ Grow H H':=by
 refine zgI ?_
 unfold zep
 refine zah (zm9 h1) ?_
 rintro _ H1 ⟨a,rfl,ha,s1⟩
 simp (disch:=omega) only [↓RD,RZ,eq_self,seval]
 refine zah (zm9 h2) ?_
 rintro _ H2 ⟨b,rfl,hb,s2⟩
 have n1:=s1.next
 have n2:=s2.next
 have k1:=(zii kid).1
 have k2:=(zii ctr).1
 have m1:∀ x:Nat,(fld x).2.length ≤ 8:=fun x=>by
  unfold fld
  split
  ·simp
  ·dsimp only; rw [zcb]; exact (zeE x).2
 have e1:(fld kid).1 * 16 % 256 ||| (fld ctr).1 = (fld kid).1 * 16 + (fld ctr).1:=by
  rw [Nat.mod_eq_of_lt (by omega),show (16:Nat) = 2 ^ 4 from rfl,ziO _ _ 4 k2]
 have e2:shl (fld kid).1 4 % 256 ||| (fld ctr).1 = (fld kid).1 * 16 + (fld ctr).1:=by rw [znv,Nat.shiftLeft_eq]; exact e1
 simp (disch:=omega) only [↓RD,RZ,eq_self,seval,e1,e2]
 have s3:=Grow.new H2 ⟨zac,[.int .u8 ((fld kid).1 * 16 + (fld ctr).1:Nat)],none⟩
 have g3:(H2.new ⟨zac,[.int .u8 ((fld kid).1 * 16 + (fld ctr).1:Nat)],none⟩).get H2.next = _:=zad _ _
 have n3:(H2.new ⟨zac,[.int .u8 ((fld kid).1 * 16 + (fld ctr).1:Nat)],none⟩).next = H2.next + 1:=zaf _ _
 have ha3:=((ha.ext s2).ext s3)
 have hb3:=hb.ext s3
 have l1:=m1 kid
 have l2:=m1 ctr
 refine zew (lo:=H2.next) (l:=[(fld kid).1 * 16 + (fld ctr).1]) (m:=(fld kid).2) (.full g3 rfl (Nat.le_refl _) (by omega)) (by omega) ha3.ac (by simp; omega) fun w H4 hw b4=>?_
 have hb4:By H1.next H4 b (fld ctr).2:=hb3.same b4.next fun i hi=>b4.same i (hb.own i hi).2
 have n4:=b4.next
 refine zew (m:=(fld ctr).2) hw (by omega) hb4.ac (by simp; omega) fun w' H5 hw' b5=>?_
 simp (disch:=omega) only [↓RD,RZ,eq_self,seval]
 refine ⟨?_,(s1.trans s2).trans (s3.bel' (Nat.le_refl _) (b4.trans b5))⟩
 have:=hw'.by.low (show H.next ≤ H2.next by omega)
 have e:hdr kid ctr = [(fld kid).1 * 16 + (fld ctr).1] ++ (fld kid).2 ++ (fld ctr).2:=by unfold hdr; simp
 rw [e]
 exact this
end Go.Ax.SU
/- Re17 -/
namespace Go.Ax.SU
open Go.Ax
def zcq (R tv sv:V) (kid t:Nat):List V:=sbox.map by8 ++ [R,tv,sv, .int .u64 (kid:Nat), .int .i64 (t:Nat)]
structure RKs (H:Heap) (R tv sv:V) (K:Ky):Prop where
 good:KyG K
 key:Lc 16 0 H R (K.ws.flatten.map by8) (K.ws.length / 4)
 tag:By 0 H tv K.auth
 salt:By 0 H sv K.salt
theorem RKs.grow {H H':Heap} {R tv sv:V} {K:Ky} (h:RKs H R tv sv K) (g:Grow H H'):RKs H' R tv sv K:=⟨h.good,h.key.ext g,h.tag.ext g,h.salt.ext g⟩
theorem RKs.rk {H:Heap} {R tv sv:V} {K:Ky} (h:RKs H R tv sv K):RK H (.agg (sbox.map by8 ++ [R])) K.ws:=⟨R,rfl,h.key,h.good.ws,h.good.w4⟩
theorem znU {l:List V} {i:Nat}:(sbox.map by8 ++ l)[256 + i]? = l[i]?:=by
 rw [List.getElem?_append_right (by rw [sbl]; omega),sbl,Nat.add_sub_cancel_left]
theorem kc257 (R tv sv:V) (kid t:Nat):(zcq R tv sv kid t)[257]? = some tv:=znU (i:=1)
theorem kc258 (R tv sv:V) (kid t:Nat):(zcq R tv sv kid t)[258]? = some sv:=znU (i:=2)
theorem kc259 (R tv sv:V) (kid t:Nat):(zcq R tv sv kid t)[259]? = some (.int .u64 (kid:Nat)):=znU (i:=3)
theorem kc260 (R tv sv:V) (kid t:Nat):(zcq R tv sv kid t)[260]? = some (.int .i64 (t:Nat)):=znU (i:=4)
theorem zdP (R tv sv:V) (kid t:Nat):(zcq R tv sv kid t).length = 261:=by unfold zcq; rw [List.length_append,sbl]; rfl
theorem kc_key (R tv sv:V) (kid t:Nat):ldc (some 257) (zcq R tv sv kid t) 0 = some (.agg (sbox.map by8 ++ [R])):=by
 rw [zc0 (by rw [zdP]; decide),List.drop_zero]
 unfold zcq
 rw [show sbox.map by8 ++ [R,tv,sv,V.int .u64 (kid:Nat),V.int .i64 (t:Nat)] = (sbox.map by8 ++ [R]) ++ [tv,sv,V.int .u64 (kid:Nat),V.int .i64 (t:Nat)] by simp,List.take_left' (by rw [List.length_append,sbl]; rfl)]
theorem kc_all (R tv sv:V) (kid t:Nat):ldc (some 261) (zcq R tv sv kid t) 0 = some (.agg (zcq R tv sv kid t)):=by
 rw [zc0 (by rw [zdP]; decide),List.drop_zero,List.take_of_length_le (by rw [zdP]; decide)]
theorem num12 {c:Nat} (hc:c < 18446744073709551616):num c 12 = [0,0,0,0] ++ num c 8:=by
 rw [zoI 8 4,show c / 256 ^ 8 = 0 from Nat.div_eq_of_lt (by simpa using hc)]
 rfl
theorem zoJ {s:List Nat} {c i:Nat} (hc:c < 18446744073709551616) (hi:i < 12):(za9 s c).getD i 0 = if i < 4 then s.getD i 0 else s.getD i 0 ^^^ (c / 256 ^ (7 - (i - 4)) % 256):=by
 unfold za9
 rw [zcc hi,num12 hc]
 split
 ·rename_i h
  have:i = 0 ∨ i = 1 ∨ i = 2 ∨ i = 3:=by omega
  rcases this with rfl | rfl | rfl | rfl <;> exact Nat.zero_xor _
 ·rw [List.getD_eq_getElem?_getD,List.getElem?_append_right (by simp; omega),← List.getD_eq_getElem?_getD]
  show (num c 8).getD (i - 4) 0 ^^^ _ = _
  unfold num
  rw [zcc (by omega),Nat.xor_comm]
theorem zrL {H:Heap} {c:Nat} {R tv sv:V} {K:Ky} (hk:RKs H R tv sv K) (hc:c < 18446744073709551616):Ok (sem T zbh [.agg (zcq R tv sv K.kid K.t), .int .u64 (c:Nat)]) H fun r H'=>By H.next H' r (za9 K.salt c) ∧ Grow H H':=by
 refine zfw ?_
 unfold zdw
 refine zap (zaU rfl ?_)
 rw [zai]
 have s1:=Grow.new H ⟨zal,zcq R tv sv K.kid K.t,none⟩
 have g1:(H.new ⟨zal,zcq R tv sv K.kid K.t,none⟩).get H.next = some ⟨zal,zcq R tv sv K.kid K.t,none⟩:=zad _ _
 have n1:(H.new ⟨zal,zcq R tv sv K.kid K.t,none⟩).next = H.next + 1:=zaf _ _
 have hs1:=hk.salt.ext s1
 generalize ha:H.next = a at *
 generalize H.new _ = H1 at *
 have e258:=kc258 R tv sv K.kid K.t
 have sl:=hk.good.salt
 have nl:=zeV K.salt c
 simp (disch:=omega) only [↓RD,RZ,g1,e258]
 rw [zaK]
 refine zo7 hs1 (by omega) fun w H2 hw2 s2=>?_
 have n2:=s2.next
 obtain ⟨id,cap,o,ew,gw,hid,hid2,hcap⟩:=Ab.blk hw2 (by omega)
 rw [sl] at ew hcap
 subst ew
 simp (disch:=omega) only [↓RD,RZ]
 refine zar (α:=Res) (Q:=fun z H'=>z = .ex 0 [] ∧ H'.get id = some ⟨zac,(za9 K.salt c).map by8,o⟩ ∧ At1 id H2 H') ?_ ?_
 ·refine zaF (fun i L H'=>L = [.int .i64 (i:Nat)] ∧ H'.get id = some ⟨zac,((za9 K.salt c).take (4 + i) ++ K.salt.drop (4 + i)).map by8,o⟩ ∧ At1 id H2 H') 8 ?_ ?_ ?_
  ·refine ⟨rfl,?_,At1.refl _ _⟩
   have e:(za9 K.salt c).take (4 + 0) ++ K.salt.drop (4 + 0) = K.salt:=by
    refine zli (by rw [List.length_append,List.length_take,List.length_drop]; omega) fun j hj=>?_
    rw [List.getD_eq_getElem?_getD,List.getD_eq_getElem?_getD]
    by_cases h:j < 4
    ·rw [List.getElem?_append_left (by rw [List.length_take]; omega),List.getElem?_take_of_lt (by omega),← List.getD_eq_getElem?_getD,← List.getD_eq_getElem?_getD,zoJ hc (by omega),if_pos h]
    ·rw [List.getElem?_append_right (by rw [List.length_take]; omega),List.getElem?_drop,List.length_take,show 4 + 0 + (j - min (4 + 0) (za9 K.salt c).length) = j by omega]
   rw [e]
   exact gw
  ·rintro i _ H3 hi ⟨rfl,g3,s3⟩
   have e0:(4:Int) + ((i:Nat):Int) = ((4 + i:Nat):Int):=rfl
   have e1:(8:Int) * ((i:Nat):Int) = ((8 * i:Nat):Int):=by omega
   have e2:(56:Int) - ((8 * i:Nat):Int) = ((8 * (7 - i):Nat):Int):=by omega
   have e2':IntKind.u64.wrap ((8 * (7 - i):Nat):Int) = ((8 * (7 - i):Nat):Int):=by rw [wrap_u64]; omega
   have e3:shr c (8 * (7 - i)) = c / 256 ^ (7 - i):=by rw [zfH,Nat.shiftRight_eq_div_pow,Nat.pow_mul]
   have e8:=cint8 (c / 256 ^ (7 - i))
   have hA:(((za9 K.salt c).take (4 + i)).map by8).length = 4 + i:=by rw [List.length_map,List.length_take]; omega
   rw [zmY (by omega)] at g3
   have m1:=zh5 (b:=by8 (K.salt.getD (4 + i) 0)) (C:=(K.salt.drop (4 + i + 1)).map by8) hA
   have m2:=zh4 (b:=by8 (K.salt.getD (4 + i) 0)) (y:=by8 ((za9 K.salt c).getD (4 + i) 0)) (C:=(K.salt.drop (4 + i + 1)).map by8) hA
   have ml:(((za9 K.salt c).take (4 + i)).map by8 ++ by8 (K.salt.getD (4 + i) 0) :: (K.salt.drop (4 + i + 1)).map by8).length = 12:=by rw [List.length_append,hA,List.length_cons,List.length_map,List.length_drop]; omega
   have ex:=zfi (hk.good.salt8.getD (4 + i)) (show c / 256 ^ (7 - i) % 256 < 256 from Nat.mod_lt _ (by decide))
   have ea:K.salt.getD (4 + i) 0 ^^^ (c / 256 ^ (7 - i) % 256) = (za9 K.salt c).getD (4 + i) 0:=by
    rw [zoJ hc (by omega),if_neg (by omega),Nat.add_sub_cancel_left]
   rw [ea] at ex
   replace ex:Ax.bin .xor (by8 (K.salt.getD (4 + i) 0)) (.int .u8 (c / 256 ^ (7 - i) % 256:Nat)) = _:=ex
   unfold zbN
   simp (disch:=omega) only [↓RD,RZ,e0,e1,e2,e2',e3,e8,g3,m1,ex,m2,ml,zcP,zaM]
   refine ⟨by omega,rfl,?_,s3.trans (At1.set id _ _)⟩
   rw [zke (by omega),← Nat.add_assoc]
  ·rintro _ H3 ⟨rfl,g3,s3⟩
   unfold zbN
   simp (disch:=omega) only [↓RD,RZ]
   refine ⟨?_,s3⟩
   rw [g3,List.take_of_length_le (by omega),List.drop_of_length_le (by omega),List.append_nil]
 ·rintro _ H3 ⟨rfl,g3,s3⟩
  have n3:=s3.next
  simp (disch:=omega) only [↓RD,RZ]
  exact ⟨by_sl g3 nl (by omega) (by omega) hcap,⟨by omega,fun i hi=>by rw [s3.same i (by omega) (by omega),s2.same i (by omega),s1.same i (by omega)]⟩⟩
theorem cover_ok {lo lo':Nat} {H:Heap} {c:Nat} {R tv sv:V} {K:Ky} {nv bv:V} {l:List Nat} (hk:RKs H R tv sv K) (hn:By lo H nv (za9 K.salt c)) (hb:By lo' H bv l) (h8:Ok8 l) (hl:l.length ≤ 1099511627776) :
  Ok (sem T zbi [.agg (zcq R tv sv K.kid K.t),nv,bv]) H fun r H'=>By H.next H' r (ctr K.ws (first (za9 K.salt c)) l) ∧ Grow H H':=by
 refine zfx ?_
 unfold zdx
 refine zap (zaU rfl ?_)
 rw [zai]
 have s0:=Grow.new H ⟨zal,zcq R tv sv K.kid K.t,none⟩
 have g0:(H.new ⟨zal,zcq R tv sv K.kid K.t,none⟩).get H.next = some ⟨zal,zcq R tv sv K.kid K.t,none⟩:=zad _ _
 have n0:(H.new ⟨zal,zcq R tv sv K.kid K.t,none⟩).next = H.next + 1:=zaf _ _
 have hk0:=hk.grow s0
 have hn0:=hn.ext s0
 have hb0:=hb.ext s0
 generalize hq:H.next = q at *
 generalize H.new _ = H0' at *
 refine zap (zaU (by rfl) ?_)
 rw [zai]
 have s1:=Grow.new H0' ⟨zaa,[.int .u8 0, .int .u8 0, .int .u8 0, .int .u8 0, .int .u8 0, .int .u8 0, .int .u8 0, .int .u8 0, .int .u8 0, .int .u8 0, .int .u8 0, .int .u8 0, .int .u8 0, .int .u8 0, .int .u8 0, .int .u8 0],none⟩
 have g1:(H0'.new ⟨zaa,[.int .u8 0, .int .u8 0, .int .u8 0, .int .u8 0, .int .u8 0, .int .u8 0, .int .u8 0, .int .u8 0, .int .u8 0, .int .u8 0, .int .u8 0, .int .u8 0, .int .u8 0, .int .u8 0, .int .u8 0, .int .u8 0],none⟩).get H0'.next = some ⟨zaa,List.replicate 16 (.int .u8 0),none⟩:=zad _ _
 have n1:(H0'.new ⟨zaa,[.int .u8 0, .int .u8 0, .int .u8 0, .int .u8 0, .int .u8 0, .int .u8 0, .int .u8 0, .int .u8 0, .int .u8 0, .int .u8 0, .int .u8 0, .int .u8 0, .int .u8 0, .int .u8 0, .int .u8 0, .int .u8 0],none⟩).next = H0'.next + 1:=zaf _ _
 have hk1:=hk0.grow s1
 have hn1:=hn0.ext s1
 have hb1:=hb0.ext s1
 have gq1:=(s1.same q (by omega)).trans g0
 generalize ha:H0'.next = a at *
 generalize H0'.new _ = H1 at *
 have nl:=zeV K.salt c
 have cp:=zky (off:=0) (len:=16) (cap:=.fix 16) g1 hn1 (by rw [List.length_replicate]; decide) (by omega)
 have sp:splice (List.replicate 16 (V.int .u8 0)) 0 ((za9 K.salt c).map by8) = (first (za9 K.salt c)).map by8:=by
  unfold splice first
  rw [List.take_zero,List.nil_append,List.length_map,nl,List.map_append,List.drop_replicate]
  rfl
 rw [sp] at cp
 have vs:=zhw (n:=16) (id:=a)
 simp (disch:=omega) only [↓RD,RZ,vs]
 rw [zaK]
 refine zap ⟨_,_,cp,?_⟩
 have fl:=zoX K.salt c
 have f8:=ztX hk.good.salt8 c
 have g2:(H1.set a (some ⟨zaa,(first (za9 K.salt c)).map by8,none⟩)).get a = _:=zaj _ _ _
 have s2:At1 a H1 (H1.set a (some ⟨zaa,(first (za9 K.salt c)).map by8,none⟩)):=At1.set a _ _
 have s02:Grow H (H1.set a (some ⟨zaa,(first (za9 K.salt c)).map by8,none⟩)):=(s0.trans s1).set (by omega) _
 have hk2:=hk.grow s02
 have hb2:=hb.ext s02
 have gq2:=(s2.same q (by omega) (by omega)).trans gq1
 generalize Heap.set _ a _ = H2 at *
 have l1:=ld16 fl
 have ek:=kc_key R tv sv K.kid K.t
 simp (disch:=omega) only [↓RD,RZ,gq2,ek,g2,l1]
 have hg:=hk.good
 refine zah (zsk hk2.rk fl f8 hb2 h8 hg.wl hg.w8 hl) ?_
 rintro _ H3 ⟨r,rfl,hr,s3⟩
 have n2:=s02.next
 simp (disch:=omega) only [↓RD,RZ]
 exact ⟨hr.low (by omega),s02.trans s3⟩
end Go.Ax.SU
/- Re18 -/
namespace Go.Ax.SU
open Go.Ax
theorem tag_r_ok {lo1 lo2 lo3 lo4:Nat} {H:Heap} {R tv sv:V} {K:Ky} {nv hv mv bv:V} {n h m b:List Nat} (hk:RKs H R tv sv K) (hn:By lo1 H nv n) (n8:Ok8 n) (hh:By lo2 H hv h) (h8:Ok8 h) (hm:By lo3 H mv m) (m8:Ok8 m) (hb:By lo4 H bv b) (b8:Ok8 b)
  (hl:n.length + h.length + m.length + b.length ≤ 274877906944) :
  Ok (sem T zby [.agg (zcq R tv sv K.kid K.t),nv,hv,mv,bv]) H fun r H'=>By H.next H' r (zhO K n h m b) ∧ Grow H H':=by
 refine zf6 ?_
 unfold zdX
 refine zap (zaU rfl ?_)
 rw [zai]
 have s0:=Grow.new H ⟨zal,zcq R tv sv K.kid K.t,none⟩
 have g0:(H.new ⟨zal,zcq R tv sv K.kid K.t,none⟩).get H.next = some ⟨zal,zcq R tv sv K.kid K.t,none⟩:=zad _ _
 have n0:(H.new ⟨zal,zcq R tv sv K.kid K.t,none⟩).next = H.next + 1:=zaf _ _
 generalize hq:H.next = q at *
 generalize H.new _ = H0' at *
 have e1:((h.length:Nat):Int) + ((m.length:Nat):Int) = ((h.length + m.length:Nat):Int):=by omega
 have w1:IntKind.u64.wrap ((h.length + m.length:Nat):Int) = ((h.length + m.length:Nat):Int):=by rw [wrap_u64]; omega
 have w2:IntKind.u64.wrap ((b.length:Nat):Int) = ((b.length:Nat):Int):=by rw [wrap_u64]; omega
 have ht:=hk.good.t
 have w3:IntKind.u64.wrap ((K.t:Nat):Int) = ((K.t:Nat):Int):=by rw [wrap_u64]; omega
 have e260:=kc260 R tv sv K.kid K.t
 have e257:=kc257 R tv sv K.kid K.t
 simp (disch:=omega) only [↓RD,RZ,eq_self,seval,hh.vlen,hm.vlen,e1,w1]
 refine zah (U_ok (b:=[]) (h.length + m.length) 8 zra (by omega) (by decide) (by decide)) ?_
 rintro x1 H1 ⟨hx1,s1⟩
 rw [List.nil_append] at hx1
 have n1:=s1.next
 simp (disch:=omega) only [↓RD,RZ,eq_self,seval,hb.vlen,w2]
 refine zah (U_ok b.length 8 hx1.by (by omega) (by decide) (by rw [zcb]; decide)) ?_
 rintro x2 H2 ⟨hx2,s2⟩
 have n2:=s2.next
 have gq2:=(s2.same q (by omega)).trans ((s1.same q (by omega)).trans g0)
 simp (disch:=omega) only [↓RD,RZ,eq_self,seval,gq2,e260,w3]
 refine zah (U_ok K.t 8 hx2.by (by omega) (by decide) (by rw [List.length_append,zcb,zcb]; decide)) ?_
 rintro x3 H3 ⟨hx3,s3⟩
 have n3:=s3.next
 have gq3:=(s3.same q (by omega)).trans gq2
 have s03:Grow H H3:=((s0.trans s1).trans s2).trans s3
 have hn3:=hn.ext s03
 have hh3:=hh.ext s03
 have hm3:=hm.ext s03
 have hb3:=hb.ext s03
 have ht3:=hk.tag.ext s03
 simp (disch:=omega) only [↓RD,RZ,eq_self,seval,gq3,e257,hx3.by.cells1,hx3.by.okc,hn3.cells1,hn3.okc,hh3.cells1,hh3.okc,hm3.cells1,hm3.okc,hb3.cells1,hb3.okc]
 have s5:=Grow.new H3 ⟨zax,[x3,nv,hv,mv,bv],none⟩
 have g5:(H3.new ⟨zax,[x3,nv,hv,mv,bv],none⟩).get H3.next = _:=zad _ _
 have n5:(H3.new ⟨zax,[x3,nv,hv,mv,bv],none⟩).next = H3.next + 1:=zaf _ _
 have hlv:Lc 1 0 (H3.new ⟨zax,[x3,nv,hv,mv,bv],none⟩) (.sl H3.next 0 5 (.fix 5)) [x3,nv,hv,mv,bv] [x3,nv,hv,mv,bv].length:=zh9 g5 rfl (by omega)
 have hps:Pts 0 H3 [x3,nv,hv,mv,bv] [num (h.length + m.length) 8 ++ num b.length 8 ++ num K.t 8,n,h,m,b] :=
  .cons (hx3.by.low (Nat.zero_le _)) (((zeU _ _).app (zeU _ _)).app (zeU _ _)) (.cons (hn3.low (Nat.zero_le _)) n8 (.cons (hh3.low (Nat.zero_le _)) h8 (.cons (hm3.low (Nat.zero_le _)) m8 (.cons (hb3.low (Nat.zero_le _)) b8 .nil))))
 have efl:[num (h.length + m.length) 8 ++ num b.length 8 ++ num K.t 8,n,h,m,b].flatten = tagm K n h m b:=by
  unfold tagm; simp
 have lfl:(tagm K n h m b).length ≤ 549755813000:=by
  unfold tagm
  simp only [List.length_append,zcb]
  omega
 have m8':Ok8 (tagm K n h m b):=by
  unfold tagm
  exact ((((((zeU _ _).app (zeU _ _)).app (zeU _ _)).app n8).app h8).app m8).app b8
 have gq5:=(s5.same q (by omega)).trans gq3
 have ht5:=ht3.ext s5
 refine zah (zpg hlv (hps.grow s5) (show 5 ≤ 1000 by decide) (by rw [efl]; omega)) ?_
 rintro jv H6 ⟨hj,s6⟩
 rw [efl] at hj
 have n6:=s6.next
 have gq6:=(s6.same q (by omega)).trans gq5
 have sm:=s6.same q (by omega)
 simp (disch:=omega) only [↓RD,RZ,eq_self,seval,sm]
 refine zah (zql (ht5.ext s6) hk.good.auth8 (by rw [hk.good.auth]; decide) hj.by m8' (by omega)) ?_
 rintro _ H7 ⟨rfl,s7⟩
 have n7:=s7.next
 have hl32:=zc1 kc K.auth (tagm K n h m b)
 have sp:=sp32 hl32
 have l32:(((hmac kc K.auth (tagm K n h m b))).map by8).length = 32:=by rw [List.length_map,hl32]
 have s07:=((s03.trans s5).trans s6).trans s7
 have gq7:=(s7.same q (by omega)).trans gq6
 have vsl:∀ id,zaz (.arr 32) 1 (.ptr id 0) none (some (.int .i64 (K.t:Nat))) none = some (.sl id 0 K.t (.fix 32)):=fun id=>by
  simp only [zaz,zdp,vint,Option.map_some,Option.bind_some,Option.getD_some,Option.getD_none]
  rw [if_neg (by simp),if_pos ⟨by simp,by omega,by omega,by omega⟩]
  simp
 simp (disch:=omega) only [↓RD,RZ,eq_self,seval,zaV,zai,sp,l32,gq7,e260,vsl]
 refine ⟨⟨?_,fun i hi=>?_,?_⟩,⟨by rw [zan,zaf]; omega,fun i hi=>by rw [zak _ _ (by omega),zaX _ _ (by omega),s07.same i (by omega)]⟩⟩
 ·simp only [zbb,zaj,Option.bind_some]
  rw [if_pos (by rw [l32]; omega),List.drop_zero,Nat.mul_one]
  unfold zhO
  rw [List.map_take,List.length_take,hl32,Nat.min_eq_left ht]
 ·simp only [V.pid,Option.some.injEq] at hi
  rw [zan,zaf]
  omega
 ·show K.t ≤ 32
  exact ht
theorem zuH {lo1 lo2:Nat} {H:Heap} {c:Nat} {R tv sv:V} {K:Ky} {mv pv:V} {m p:List Nat} (hk:RKs H R tv sv K) (hc:c < 18446744073709551616) (hm:By lo1 H mv m) (m8:Ok8 m) (hp:By lo2 H pv p) (p8:Ok8 p) (hml:m.length ≤ 137438953472) :
  Ok (sem T zbq [.agg (zcq R tv sv K.kid K.t), .int .u64 (c:Nat),mv,pv]) H fun r H'=>Grow H H' ∧ if 1000 < p.length then r = .tup [.nils, .int .i64 4] else ∃ v,r = .tup [v, .int .i64 0] ∧ By H.next H' v (zdN K c m p):=by
 refine zfK ?_
 unfold zdJ
 have hg:=hk.good
 refine zap (zaU rfl ?_)
 rw [zai]
 have s0:=Grow.new H ⟨zal,zcq R tv sv K.kid K.t,none⟩
 have g0:(H.new ⟨zal,zcq R tv sv K.kid K.t,none⟩).get H.next = some ⟨zal,zcq R tv sv K.kid K.t,none⟩:=zad _ _
 have n0:(H.new ⟨zal,zcq R tv sv K.kid K.t,none⟩).next = H.next + 1:=zaf _ _
 generalize hq:H.next = q at *
 generalize H.new _ = H0' at *
 have e259:=kc259 R tv sv K.kid K.t
 have eall:=kc_all R tv sv K.kid K.t
 simp (disch:=omega) only [↓RD,RZ,hp.vlen]
 rw [zfa]
 refine zbB (fun h=>?_) (fun h=>?_)
 ·simp (disch:=omega) only [↓RD,RZ]
  rw [if_pos (by omega)]
  exact ⟨s0,trivial⟩
 ·simp (disch:=omega) only [↓RD,RZ,g0,e259,eall]
  refine zah (zuM hg.kid hc) ?_
  rintro hv H1 ⟨hh,s1⟩
  have n1:=s1.next
  have sm:=s1.same q (by omega)
  have gq1:=sm.trans g0
  have s01:=s0.trans s1
  simp (disch:=omega) only [↓RD,RZ,sm]
  refine zah (zrL (hk.grow s01) hc) ?_
  rintro nv H2 ⟨hn,s2⟩
  have n2:=s2.next
  have s02:=s01.trans s2
  have gq2:=(s2.same q (by omega)).trans gq1
  simp (disch:=omega) only [↓RD,RZ,gq2,eall]
  refine zah (cover_ok (hk.grow s02) hn (hp.ext s02) p8 (by omega)) ?_
  rintro bv H3 ⟨hb,s3⟩
  have n3:=s3.next
  have s03:=s02.trans s3
  have gq3:=(s3.same q (by omega)).trans gq2
  have cl:=zfh K.ws (first (za9 K.salt c)) p
  have hx:=zpT K.kid c
  have nl:=zeV K.salt c
  simp (disch:=omega) only [↓RD,RZ,gq3,eall]
  refine zah (tag_r_ok (hk.grow s03) (hn.ext s3) (znM hg.salt8 c) ((hh.ext s2).ext s3) (ztO _ _) (hm.ext s03) m8 hb (zua hg.ws p8) (by rw [cl]; omega)) ?_
  rintro tv' H4 ⟨ht,s4⟩
  have s04:=s03.trans s4
  have hh4:=((hh.ext s2).ext s3).ext s4
  have hb4:=hb.ext s4
  have n4:=s4.next
  simp (disch:=omega) only [↓RD,RZ,hh4.cells1,hh4.okc,hb4.cells1,hb4.okc,ht.cells1,ht.okc]
  have s5:=Grow.new H4 ⟨zax,[hv,bv,tv'],none⟩
  have g5:(H4.new ⟨zax,[hv,bv,tv'],none⟩).get H4.next = _:=zad _ _
  have n5:(H4.new ⟨zax,[hv,bv,tv'],none⟩).next = H4.next + 1:=zaf _ _
  have hlv:Lc 1 0 (H4.new ⟨zax,[hv,bv,tv'],none⟩) (.sl H4.next 0 3 (.fix 3)) [hv,bv,tv'] [hv,bv,tv'].length:=zh9 g5 rfl (by omega)
  have hps:Pts 0 H4 [hv,bv,tv'] [hdr K.kid c,ctr K.ws (first (za9 K.salt c)) p,zhO K (za9 K.salt c) (hdr K.kid c) m (ctr K.ws (first (za9 K.salt c)) p)] :=
   .cons (hh4.low (Nat.zero_le _)) (ztO _ _) (.cons (hb4.low (Nat.zero_le _)) (zua hg.ws p8) (.cons (ht.low (Nat.zero_le _)) (znq _ _ _ _ _) .nil))
  have efl:[hdr K.kid c,ctr K.ws (first (za9 K.salt c)) p,zhO K (za9 K.salt c) (hdr K.kid c) m (ctr K.ws (first (za9 K.salt c)) p)].flatten = zdN K c m p:=by
   unfold zdN; simp
  refine zah (zpg hlv (hps.grow s5) (show 3 ≤ 1000 by decide) (by rw [efl,zk8 hg.t]; have:=hg.t; omega)) ?_
  rintro v H6 ⟨hv6,s6⟩
  rw [efl] at hv6
  simp (disch:=omega) only [↓RD,RZ]
  rw [if_neg (by omega)]
  exact ⟨(s04.trans s5).trans s6,_,rfl,hv6.by.low (by omega)⟩
end Go.Ax.SU
/- Re19 -/
namespace Go.Ax.SU
open Go.Ax
theorem zmZ {H:Heap} (id:Int) (h0:-9223372036854775808 ≤ id):Ok (sem T za0 [.int .i64 id]) H fun r H'=>r = (match szs id.toNat with | some (n,t)=>if 0 ≤ id then V.tup [.int .i64 (n:Nat), .int .i64 (t:Nat), .bool true] else .tup [.int .i64 0, .int .i64 0, .bool false] | none=>.tup [.int .i64 0, .int .i64 0, .bool false]) ∧ H' = H:=by
 refine zhb ?_
 unfold zeB
 by_cases h1:id = 1
 ·subst h1; simp (disch:=omega) only [↓RD,RZ,eq_self,seval]; rfl
 by_cases h2:id = 2
 ·subst h2; simp (disch:=omega) only [↓RD,RZ,eq_self,seval]; rfl
 by_cases h3:id = 3
 ·subst h3; simp (disch:=omega) only [↓RD,RZ,eq_self,seval]; rfl
 by_cases h4:id = 16
 ·subst h4; simp (disch:=omega) only [↓RD,RZ,eq_self,seval]; rfl
 have e1:(id == 1) = false:=by simpa using h1
 have e2:(id == 2) = false:=by simpa using h2
 have e3:(id == 3) = false:=by simpa using h3
 have e4:(id == 16) = false:=by simpa using h4
 simp (disch:=omega) only [↓RD,RZ,eq_self,seval,e1,e2,e3,e4]
 unfold szs
 split
 ·rename_i n t heq
  split at heq
  ·rw [if_neg (by omega)]
  ·rw [if_neg (by omega)]
  ·rw [if_neg (by omega)]
  ·rw [if_neg (by omega)]
  ·cases heq
 ·rfl
end Go.Ax.SU
/- Re20 -/
namespace Go.Ax.SU
open Go.Ax
def Z261:List V:=List.replicate 256 (.int .u8 0) ++ [.nils, .nils, .nils, .int .u64 0, .int .i64 0]
theorem zgo:Z261.length = 261:=by kernel_rfl
theorem kb_form {R a b:V} {kid t:Nat} (ha:a.cells = [a]) (oa:a.okc = true) (hb:b.cells = [b]) (ob:b.okc = true) :
  (Option.map V.agg (if (V.agg (sbox.map by8 ++ [R])).cells.length = 257 ∧ (V.agg (sbox.map by8 ++ [R])).okc = true then
   if a.cells.length = 1 ∧ 258 ≤ (splice Z261 0 (V.agg (sbox.map by8 ++ [R])).cells).length ∧ a.okc = true then
    if b.cells.length = 1 ∧ 259 ≤ (splice (splice Z261 0 (V.agg (sbox.map by8 ++ [R])).cells) 257 a.cells).length ∧ b.okc = true then
     if 260 ≤ (splice (splice (splice Z261 0 (V.agg (sbox.map by8 ++ [R])).cells) 257 a.cells) 258 b.cells).length then
      if 261 ≤ (splice (splice (splice (splice Z261 0 (V.agg (sbox.map by8 ++ [R])).cells) 257 a.cells) 258 b.cells) 259 [V.int .u64 (kid:Nat)]).length then
       some (splice (splice (splice (splice (splice Z261 0 (V.agg (sbox.map by8 ++ [R])).cells) 257 a.cells) 258 b.cells) 259 [V.int .u64 (kid:Nat)]) 260 [V.int .i64 (t:Nat)])
      else none
     else none
    else none
   else none
  else none)) = some (.agg (zcq R a b kid t)):=by
 have l1:=zkN R
 have S:∀ (x:List V) (y:V) (z:List V) (k:Nat) (w:V),x.length = k → splice (x ++ y :: z) k [w] = x ++ w :: z:=fun x y z k w h=>by
  unfold splice
  rw [List.take_left' h,List.drop_append,List.drop_of_length_le (by simp; omega),h]
  simp
 have e0:splice Z261 0 (sbox.map by8 ++ [R]) = (sbox.map by8 ++ [R]) ++ [.nils, .nils, .int .u64 0, .int .i64 0]:=by
  unfold splice Z261
  rw [List.take_zero,List.nil_append,l1,show List.replicate 256 (V.int .u8 0) ++ [.nils, .nils, .nils, .int .u64 0, .int .i64 0] = (List.replicate 256 (V.int .u8 0) ++ [.nils]) ++ [.nils, .nils, .int .u64 0, .int .i64 0] by simp,Nat.zero_add,List.drop_left' (by rw [List.length_append,List.length_replicate]; rfl)]
 have e1:splice ((sbox.map by8 ++ [R]) ++ [V.nils, .nils, .int .u64 0, .int .i64 0]) 257 [a] = ((sbox.map by8 ++ [R]) ++ [a]) ++ [.nils, .int .u64 0, .int .i64 0]:=by
  rw [S _ _ _ _ _ l1]; simp
 have l2:((sbox.map by8 ++ [R]) ++ [a]).length = 258:=by rw [List.length_append,l1]; rfl
 have e2:splice (((sbox.map by8 ++ [R]) ++ [a]) ++ [V.nils, .int .u64 0, .int .i64 0]) 258 [b] = (((sbox.map by8 ++ [R]) ++ [a]) ++ [b]) ++ [.int .u64 0, .int .i64 0]:=by
  rw [S _ _ _ _ _ l2]; simp
 have l3:(((sbox.map by8 ++ [R]) ++ [a]) ++ [b]).length = 259:=by rw [List.length_append,l2]; rfl
 have e3:splice ((((sbox.map by8 ++ [R]) ++ [a]) ++ [b]) ++ [V.int .u64 0, .int .i64 0]) 259 [.int .u64 (kid:Nat)] = ((((sbox.map by8 ++ [R]) ++ [a]) ++ [b]) ++ [.int .u64 (kid:Nat)]) ++ [.int .i64 0]:=by
  rw [S _ _ _ _ _ l3]; simp
 have l4:((((sbox.map by8 ++ [R]) ++ [a]) ++ [b]) ++ [V.int .u64 (kid:Nat)]).length = 260:=by rw [List.length_append,l3]; rfl
 have e4:splice (((((sbox.map by8 ++ [R]) ++ [a]) ++ [b]) ++ [V.int .u64 (kid:Nat)]) ++ [.int .i64 0]) 260 [.int .i64 (t:Nat)] = (((((sbox.map by8 ++ [R]) ++ [a]) ++ [b]) ++ [V.int .u64 (kid:Nat)]) ++ [.int .i64 (t:Nat)]):=by
  rw [S _ _ _ _ _ l4]
 rw [zai,ha,hb,e0,e1,e2,e3,e4]
 rw [if_pos ⟨l1,rfl⟩,if_pos ⟨rfl,by rw [List.length_append,l1]; decide,oa⟩,if_pos ⟨rfl,by rw [List.length_append,l2]; decide,ob⟩,if_pos (by rw [List.length_append,l3]; decide),if_pos (by rw [List.length_append,l4]; decide)]
 unfold zcq
 simp
theorem ld261 (R a b:V) (kid t:Nat):ldc (some 261) (zcq R a b kid t) 0 = some (.agg (zcq R a b kid t)):=kc_all _ _ _ _ _
theorem sp261 (R a b:V) (kid t:Nat) {L:List V} (h:L.length = 261):splice L 0 (zcq R a b kid t) = zcq R a b kid t:=by
 unfold splice
 rw [List.take_zero,List.nil_append,zdP,List.drop_of_length_le (by omega),List.append_nil]
theorem eZ261:([(V.int .u8 0),(V.int .u8 0),(V.int .u8 0),(V.int .u8 0),(V.int .u8 0),(V.int .u8 0),(V.int .u8 0),(V.int .u8 0),(V.int .u8 0),(V.int .u8 0),(V.int .u8 0),(V.int .u8 0),(V.int .u8 0),(V.int .u8 0),(V.int .u8 0),(V.int .u8 0),(V.int .u8 0),(V.int .u8 0),(V.int .u8 0),(V.int .u8 0),(V.int .u8 0),(V.int .u8 0),(V.int .u8 0),(V.int .u8 0),(V.int .u8 0),(V.int .u8 0),(V.int .u8 0),(V.int .u8 0),(V.int .u8 0),(V.int .u8 0),(V.int .u8 0),(V.int .u8 0),(V.int .u8 0),(V.int .u8 0),(V.int .u8 0),(V.int .u8 0),(V.int .u8 0),(V.int .u8 0),(V.int .u8 0),(V.int .u8 0),(V.int .u8 0),(V.int .u8 0),(V.int .u8 0),(V.int .u8 0),(V.int .u8 0),(V.int .u8 0),(V.int .u8 0),(V.int .u8 0),(V.int .u8 0),(V.int .u8 0),(V.int .u8 0),(V.int .u8 0),(V.int .u8 0),(V.int .u8 0),(V.int .u8 0),(V.int .u8 0),(V.int .u8 0),(V.int .u8 0),(V.int .u8 0),(V.int .u8 0),(V.int .u8 0),(V.int .u8 0),(V.int .u8 0),(V.int .u8 0),(V.int .u8 0),(V.int .u8 0),(V.int .u8 0),(V.int .u8 0),(V.int .u8 0),(V.int .u8 0),(V.int .u8 0),(V.int .u8 0),(V.int .u8 0),(V.int .u8 0),(V.int .u8 0),(V.int .u8 0),(V.int .u8 0),(V.int .u8 0),(V.int .u8 0),(V.int .u8 0),(V.int .u8 0),(V.int .u8 0),(V.int .u8 0),(V.int .u8 0),(V.int .u8 0),(V.int .u8 0),(V.int .u8 0),(V.int .u8 0),(V.int .u8 0),(V.int .u8 0),(V.int .u8 0),(V.int .u8 0),(V.int .u8 0),(V.int .u8 0),(V.int .u8 0),(V.int .u8 0),(V.int .u8 0),(V.int .u8 0),(V.int .u8 0),(V.int .u8 0),(V.int .u8 0),(V.int .u8 0),(V.int .u8 0),(V.int .u8 0),(V.int .u8 0),(V.int .u8 0),(V.int .u8 0),(V.int .u8 0),(V.int .u8 0),(V.int .u8 0),(V.int .u8 0),(V.int .u8 0),(V.int .u8 0),(V.int .u8 0),(V.int .u8 0),(V.int .u8 0),(V.int .u8 0),(V.int .u8 0),(V.int .u8 0),(V.int .u8 0),(V.int .u8 0),(V.int .u8 0),(V.int .u8 0),(V.int .u8 0),(V.int .u8 0),(V.int .u8 0),(V.int .u8 0),(V.int .u8 0),(V.int .u8 0),(V.int .u8 0),(V.int .u8 0),(V.int .u8 0),(V.int .u8 0),(V.int .u8 0),(V.int .u8 0),(V.int .u8 0),(V.int .u8 0),(V.int .u8 0),(V.int .u8 0),(V.int .u8 0),(V.int .u8 0),(V.int .u8 0),(V.int .u8 0),(V.int .u8 0),(V.int .u8 0),(V.int .u8 0),(V.int .u8 0),(V.int .u8 0),(V.int .u8 0),(V.int .u8 0),(V.int .u8 0),(V.int .u8 0),(V.int .u8 0),(V.int .u8 0),(V.int .u8 0),(V.int .u8 0),(V.int .u8 0),(V.int .u8 0),(V.int .u8 0),(V.int .u8 0),(V.int .u8 0),(V.int .u8 0),(V.int .u8 0),(V.int .u8 0),(V.int .u8 0),(V.int .u8 0),(V.int .u8 0),(V.int .u8 0),(V.int .u8 0),(V.int .u8 0),(V.int .u8 0),(V.int .u8 0),(V.int .u8 0),(V.int .u8 0),(V.int .u8 0),(V.int .u8 0),(V.int .u8 0),(V.int .u8 0),(V.int .u8 0),(V.int .u8 0),(V.int .u8 0),(V.int .u8 0),(V.int .u8 0),(V.int .u8 0),(V.int .u8 0),(V.int .u8 0),(V.int .u8 0),(V.int .u8 0),(V.int .u8 0),(V.int .u8 0),(V.int .u8 0),(V.int .u8 0),(V.int .u8 0),(V.int .u8 0),(V.int .u8 0),(V.int .u8 0),(V.int .u8 0),(V.int .u8 0),(V.int .u8 0),(V.int .u8 0),(V.int .u8 0),(V.int .u8 0),(V.int .u8 0),(V.int .u8 0),(V.int .u8 0),(V.int .u8 0),(V.int .u8 0),(V.int .u8 0),(V.int .u8 0),(V.int .u8 0),(V.int .u8 0),(V.int .u8 0),(V.int .u8 0),(V.int .u8 0),(V.int .u8 0),(V.int .u8 0),(V.int .u8 0),(V.int .u8 0),(V.int .u8 0),(V.int .u8 0),(V.int .u8 0),(V.int .u8 0),(V.int .u8 0),(V.int .u8 0),(V.int .u8 0),(V.int .u8 0),(V.int .u8 0),(V.int .u8 0),(V.int .u8 0),(V.int .u8 0),(V.int .u8 0),(V.int .u8 0),(V.int .u8 0),(V.int .u8 0),(V.int .u8 0),(V.int .u8 0),(V.int .u8 0),(V.int .u8 0),(V.int .u8 0),(V.int .u8 0),(V.int .u8 0),(V.int .u8 0),(V.int .u8 0),(V.int .u8 0),(V.int .u8 0),(V.int .u8 0),(V.int .u8 0),(V.int .u8 0),(V.int .u8 0),(V.int .u8 0),(V.int .u8 0),(V.int .u8 0),(V.int .u8 0),(V.int .u8 0),(V.int .u8 0),(V.int .u8 0),V.nils,V.nils,V.nils,(V.int .u64 0),(V.int .i64 0)]:List V) = Z261:=by kernel_rfl
theorem spz261:splice Z261 0 (V.agg Z261).cells = Z261:=by kernel_rfl
theorem zne {q:Nat} {H:Heap} {Q:Res → Heap → Prop} (g:H.get q = some ⟨zal,Z261,none⟩) (h:Q (.ret [.agg Z261, .int .i64 1]) (H.set q (some ⟨zal,Z261,none⟩))) :
  Ok ((M.lift (Ax.build Z261 [])).bind fun t27 =>
  (mstore 261 (.ptr q 0) t27).bind fun _ =>
  (mload (some 261) (.ptr q 0)).bind fun r0 =>
  M.pure (.ret [r0,(V.int .i64 1)])) H Q:=by
 refine zaP (v:=.agg Z261) rfl ?_
 refine zap (zfu g (by rw [zai,zgo]) (by rw [zgo]; decide) rfl ?_)
 dsimp only
 rw [spz261]
 refine zap (zpD (v:=.agg Z261) (zaj _ _ _) ?_ ?_)
 ·dsimp only
  rw [zc0 (by rw [zgo]; decide),List.drop_zero,List.take_of_length_le (by rw [zgo]; decide)]
 ·exact zfJ h
theorem zpZ {q6 kid t n lo1 lo2 w:Nat} {H:Heap} {R key vb salt:V} {cs:List V} {au sa:List Nat} {Q:Res → Heap → Prop} (g6:H.get q6 = some ⟨zal,Z261,none⟩) (hq:q6 < H.next) (hR:Lc 16 0 H R cs w) (hb:By lo1 H vb au) (hs:By lo2 H salt sa)
  (hv:∀ {k:IntKind},zaz .sl 1 key (some (.int k (n:Nat))) none none = some vb) (hbq:∀ i,vb.pid = some i → i ≠ q6) (hsq:∀ i,salt.pid = some i → i ≠ q6) (hRq:∀ i,R.pid = some i → i ≠ q6) {B:V → V → Option V} (hB:B (.agg (sbox.map by8 ++ [R])) vb = some (.agg (zcq R vb salt kid t)))
  (h:∀ H',At1 q6 H H' → Lc 16 0 H' R cs w → By 0 H' vb au → By 0 H' salt sa → Q (.ret [.agg (zcq R vb salt kid t), .int .i64 0]) H') :
  Ok ((mbox zag (V.agg Z257)).bind fun t17 =>
  (mstore 257 t17 (.agg (sbox.map by8 ++ [R]))).bind fun _ =>
  (mload (some 257) t17).bind fun t62 =>
  (M.lift (zaz .sl 1 key (some (.int .i64 (n:Nat))) none none)).bind fun t65 =>
  (M.lift (B t62 t65)).bind fun t69 =>
  (mstore 261 (.ptr q6 0) t69).bind fun _ =>
  (mload (some 261) (.ptr q6 0)).bind fun r0 =>
  M.pure (.ret [r0,(V.int .i64 0)])) H Q:=by
 refine zap (zaU zqf ?_)
 rw [zai]
 have s11:=Grow.new H ⟨zag,Z257,none⟩
 have g11:(H.new ⟨zag,Z257,none⟩).get H.next = some ⟨zag,Z257,none⟩:=zad _ _
 have n11:(H.new ⟨zag,Z257,none⟩).next = H.next + 1:=zaf _ _
 generalize hq17:H.next = q17 at *
 generalize H.new _ = H11 at *
 have l1:=ld257 R
 have l2:=sp257 R zhu
 have l3:=zkN R
 refine zap (zfu g11 (by rw [zai,l3]) (by rw [zhu]; decide) rfl ?_)
 rw [zai,l2]
 have s12:Grow H (H11.set q17 (some ⟨zag,sbox.map by8 ++ [R],none⟩)):=s11.set (by omega) _
 have g12:(H11.set q17 (some ⟨zag,sbox.map by8 ++ [R],none⟩)).get q17 = _:=zaj _ _ _
 have n12:(H11.set q17 (some ⟨zag,sbox.map by8 ++ [R],none⟩)).next = H11.next:=rfl
 generalize Heap.set _ q17 _ = H12 at *
 refine zap (zpD g12 l1 ?_)
 refine zaP hv ?_
 have hvb12:=hb.ext s12
 have hs12:=hs.ext s12
 have hR12:=hR.ext s12
 refine zaP hB ?_
 have g6':=(s12.same q6 (by omega)).trans g6
 refine zap (zfu g6' (by rw [zai,zdP]) (by rw [zgo]; decide) rfl ?_)
 rw [zai,sp261 _ _ _ _ _ zgo]
 refine zap (zpD (zaj _ _ _) (ld261 _ _ _ _ _) ?_)
 refine zfJ (h _ ⟨by rw [zan]; omega,fun i hi hne=>by rw [zak _ _ hne,s12.same i (by omega)]⟩ ?_ ?_ ?_)
 ·exact hR12.same (by rw [zan]; exact Nat.le_refl _) fun j hj=>zak _ _ (hRq j hj)
 ·exact (hvb12.low (Nat.zero_le _)).same (by rw [zan]; exact Nat.le_refl _) fun j hj=>zak _ _ (hbq j hj)
 ·exact (hs12.low (Nat.zero_le _)).same (by rw [zan]; exact Nat.le_refl _) fun j hj=>zak _ _ (hsq j hj)
set_option maxHeartbeats 1000000 in
theorem zqm {lo:Nat} {H:Heap} {kid:Nat} {id:Int} {bv:V} {base:List Nat} (h0:-9223372036854775808 ≤ id) (hk:kid < 18446744073709551616) (hb:By lo H bv base) (b8:Ok8 base) (hbl:base.length ≤ 549755813000) :
  Ok (sem T zbd [.int .i64 id, .int .u64 (kid:Nat),bv]) H fun r H'=>Grow H H' ∧ ((id < 0 ∨ szs id.toNat = none) ∧ r = .tup [.agg Z261, .int .i64 1] ∨ ∃ n t R tv sv,0 ≤ id ∧ szs id.toNat = some (n,t) ∧ r = .tup [.agg (zcq R tv sv kid t), .int .i64 0] ∧ RKs H' R tv sv (drv id.toNat kid n t base) ∧ ∀ j,R.pid = some j ∨ tv.pid = some j ∨ sv.pid = some j → H.next ≤ j):=by
 refine zgJ ?_
 unfold zeq
 refine zap (zaU rfl ?_)
 have s0:=Grow.new H ⟨zal,Z261,none⟩
 have g0:(H.new ⟨zal,Z261,none⟩).get H.next = some ⟨zal,Z261,none⟩:=zad _ _
 have n0:(H.new ⟨zal,Z261,none⟩).next = H.next + 1:=zaf _ _
 have hb0:=hb.ext s0
 show Ok _ (H.new ⟨zal,Z261,none⟩) _
 generalize hq6:H.next = q6 at *
 generalize H.new _ = H0' at *
 refine zah (zmZ id h0) ?_
 rintro _ H0' ⟨rfl,rfl⟩
 cases hs:szs id.toNat with
 | none =>
  refine zaP rfl ?_
  refine zaP rfl ?_
  refine zaP rfl ?_
  refine zaP rfl ?_
  refine ztb ?_
  exact zne g0 ⟨_,rfl,s0.set (by omega) _, .inl ⟨.inr rfl,rfl⟩⟩
 | some qq =>
  obtain ⟨n,t⟩:=qq
  dsimp only
  by_cases hi:0 ≤ id
  ·rw [if_pos hi]
   obtain ⟨hn,ht,hid⟩:=szs_n hs
   obtain ⟨i,hii⟩:∃ i:Nat,id = (i:Nat):=⟨id.toNat,by omega⟩
   subst hii
   rw [Int.toNat_natCast] at *
   have w0:IntKind.u64.wrap ((i:Nat):Int) = ((i:Nat):Int):=by rw [wrap_u64]; omega
   simp (maxSteps:=1000000) (disch:=first | omega | (simp only [RY] <;> omega) | decide) only [↓RD,RZ,eq_self,Int.reduceToNat,Int.reduceAdd,Int.reduceSub,Int.reduceMul,Nat.reduceAdd,Nat.reduceSub,Nat.reduceMul,Nat.reduceDiv,Nat.reduceMod,Nat.reduceBEq,Nat.reduceLeDiff]
   refine zah (zph (key:=[]) zra Ok8.nil (by decide) hb0 b8 hbl) ?_
   rintro _ H1 ⟨rfl,s1⟩
   have n1:=s1.next
   have sl:(zaH base).length = 32:=zc1 _ _ _
   have s8:Ok8 (zaH base):=zks _ _ _
   have eS:hmac kc [] base = zaH base:=rfl
   rw [eS]
   have sp:=sp32 sl
   have l32:((zaH base).map by8).length = 32:=by rw [List.length_map,sl]
   simp (maxSteps:=1000000) (disch:=first | omega | (simp only [RY] <;> omega) | decide) only [↓RD,RZ,eq_self,Int.reduceToNat,Int.reduceAdd,Int.reduceSub,Int.reduceMul,Nat.reduceAdd,Nat.reduceSub,Nat.reduceMul,Nat.reduceDiv,Nat.reduceMod,Nat.reduceBEq,Nat.reduceLeDiff,zaV,zai,sp,l32]
   have s2:Grow H1 ((H1.new ⟨zae,[.int .u8 0, .int .u8 0, .int .u8 0, .int .u8 0, .int .u8 0, .int .u8 0, .int .u8 0, .int .u8 0, .int .u8 0, .int .u8 0, .int .u8 0, .int .u8 0, .int .u8 0, .int .u8 0, .int .u8 0, .int .u8 0, .int .u8 0, .int .u8 0, .int .u8 0, .int .u8 0, .int .u8 0, .int .u8 0, .int .u8 0, .int .u8 0, .int .u8 0, .int .u8 0, .int .u8 0, .int .u8 0, .int .u8 0, .int .u8 0, .int .u8 0, .int .u8 0],none⟩).set H1.next (some ⟨zae,(zaH base).map by8,none⟩)):=(Grow.new _ _).set (Nat.le_refl _) _
   have g2:((H1.new ⟨zae,[.int .u8 0, .int .u8 0, .int .u8 0, .int .u8 0, .int .u8 0, .int .u8 0, .int .u8 0, .int .u8 0, .int .u8 0, .int .u8 0, .int .u8 0, .int .u8 0, .int .u8 0, .int .u8 0, .int .u8 0, .int .u8 0, .int .u8 0, .int .u8 0, .int .u8 0, .int .u8 0, .int .u8 0, .int .u8 0, .int .u8 0, .int .u8 0, .int .u8 0, .int .u8 0, .int .u8 0, .int .u8 0, .int .u8 0, .int .u8 0, .int .u8 0, .int .u8 0],none⟩).set H1.next (some ⟨zae,(zaH base).map by8,none⟩)).get H1.next = _:=zaj _ _ _
   have n2:((H1.new ⟨zae,[.int .u8 0, .int .u8 0, .int .u8 0, .int .u8 0, .int .u8 0, .int .u8 0, .int .u8 0, .int .u8 0, .int .u8 0, .int .u8 0, .int .u8 0, .int .u8 0, .int .u8 0, .int .u8 0, .int .u8 0, .int .u8 0, .int .u8 0, .int .u8 0, .int .u8 0, .int .u8 0, .int .u8 0, .int .u8 0, .int .u8 0, .int .u8 0, .int .u8 0, .int .u8 0, .int .u8 0, .int .u8 0, .int .u8 0, .int .u8 0, .int .u8 0, .int .u8 0],none⟩).set H1.next (some ⟨zae,(zaH base).map by8,none⟩)).next = H1.next + 1:=rfl
   generalize hq:H1.next = q at *
   generalize Heap.set _ q _ = H2 at *
   refine zah (U_ok (b:=[]) kid 8 zra hk (by decide) (by decide)) ?_
   rintro x1 H3 ⟨hx1,s3⟩
   rw [List.nil_append] at hx1
   have n3:=s3.next
   simp (maxSteps:=1000000) (disch:=first | omega | (simp only [RY] <;> omega) | decide) only [↓RD,RZ,eq_self,Int.reduceToNat,Int.reduceAdd,Int.reduceSub,Int.reduceMul,Nat.reduceAdd,Nat.reduceSub,Nat.reduceMul,Nat.reduceDiv,Nat.reduceMod,Nat.reduceBEq,Nat.reduceLeDiff,w0]
   refine zah (U_ok i 2 hx1.by (by omega) (by decide) (by rw [zcb]; decide)) ?_
   rintro x3 H5 ⟨hx3,s4⟩
   have n5:=s4.next
   have s25:Grow H2 H5:=s3.trans s4
   have g5:=(s25.same q (by omega)).trans g2
   have vs:=zhw (n:=32) (id:=q)
   have ad:((n:Nat):Int) + 32 = ((n + 32:Nat):Int):=rfl
   have hx3b:=hx3.by
   have il:(num kid 8 ++ num i 2).length = 10:=by rw [List.length_append,zcb,zcb]
   have i8:Ok8 (num kid 8 ++ num i 2):=(zeU _ _).app (zeU _ _)
   simp (maxSteps:=1000000) (disch:=first | omega | (simp only [RY] <;> omega) | decide) only [↓RD,RZ,eq_self,Int.reduceToNat,Int.reduceAdd,Int.reduceSub,Int.reduceMul,Nat.reduceAdd,Nat.reduceSub,Nat.reduceMul,Nat.reduceDiv,Nat.reduceMod,Nat.reduceBEq,Nat.reduceLeDiff,vs,ad]
   rw [zaK]
   refine ziv (l:=sKey) rfl (by decide) hx3b (by omega) fun x6 H6 hx6 s6=>?_
   have n6:=s6.next
   have g6:=(s6.same q (by omega)).trans g5
   have skl:(sKey ++ (num kid 8 ++ num i 2)).length = 32:=by rw [List.length_append,il]; rfl
   have sk8:Ok8 (sKey ++ (num kid 8 ++ num i 2)):=(all8 rfl).app i8
   refine zah (zmy (ze8 (lo:=0) g6 sl (by omega) (by omega)) s8 (by omega) hx6.by sk8 (by omega) (show n + 32 ≤ 8160 by omega)) ?_
   rintro _ H7 ⟨key,rfl,hkey,s7⟩
   have n7:=s7.next
   have ek:((hkdf kc (zaH base) (sKey ++ (num kid 8 ++ num i 2)) ((n + 32 + 31) / 32)).1.take (n + 32)) = keyb i kid n base:=by
    unfold keyb
    rw [show (n + 32 + 31) / 32 = 2 by omega]
   rw [ek] at hkey
   have kl:=znS i kid n base (by omega)
   have k8:=ztF i kid n base
   have g7:=(s7.same q (by omega)).trans g6
   have hx7:=(hx3b.ext s6).ext s7
   simp (maxSteps:=1000000) (disch:=first | omega | (simp only [RY] <;> omega) | decide) only [↓RD,RZ,eq_self,Int.reduceToNat,Int.reduceAdd,Int.reduceSub,Int.reduceMul,Nat.reduceAdd,Nat.reduceSub,Nat.reduceMul,Nat.reduceDiv,Nat.reduceMod,Nat.reduceBEq,Nat.reduceLeDiff,vs]
   rw [zaK]
   refine ziv (l:=zpt) rfl (by decide) hx7 (by omega) fun x8 H8 hx8 s8'=>?_
   have n8:=s8'.next
   have g8:=(s8'.same q (by omega)).trans g7
   have ssl:(zpt ++ (num kid 8 ++ num i 2)).length = 33:=by rw [List.length_append,il]; rfl
   have ss8:Ok8 (zpt ++ (num kid 8 ++ num i 2)):=(all8 rfl).app i8
   refine zah (zmy (ze8 (lo:=0) g8 sl (by omega) (by omega)) s8 (by omega) hx8.by ss8 (by omega) (show 12 ≤ 8160 by omega)) ?_
   rintro _ H9 ⟨salt,rfl,hsalt,s9⟩
   have n9:=s9.next
   have hkey9:=(hkey.ext s8').ext s9
   obtain ⟨va,-,ha,-,hva,-⟩:=zbM hkey9 (x:=0) (y:=(n:Nat)) (by omega) (by omega) (by omega)
   obtain ⟨vb,-,-,hvb',hvb,-⟩:=zbM hkey9 (x:=(n:Nat)) (y:=((keyb i kid n base).length:Nat)) (by omega) (by omega) (by omega)
   have ha:=ha rfl (k':=.i64)
   have hvb':=hvb' rfl (k:=.i64)
   simp only [Int.toNat_natCast,Int.toNat_zero,List.drop_zero,Nat.sub_zero] at hva hvb
   rw [List.take_of_length_le (by rw [List.length_drop]; omega)] at hvb
   simp (maxSteps:=1000000) (disch:=first | omega | (simp only [RY] <;> omega) | decide) only [↓RD,RZ,eq_self,Int.reduceToNat,Int.reduceAdd,Int.reduceSub,Int.reduceMul,Nat.reduceAdd,Nat.reduceSub,Nat.reduceMul,Nat.reduceDiv,Nat.reduceMod,Nat.reduceBEq,Nat.reduceLeDiff,ha]
   refine zah (zqh (n:=n / 4) hva (k8.take n) (by omega) (by rw [List.length_take]; omega)) ?_
   rintro _ H10 ⟨x,rfl,⟨R,rfl,hR,hRw,hR4⟩,s10,hRp⟩
   have n10:=s10.next
   have s010:Grow H0' H10:=((((((s1.trans s2).trans s25).trans s6).trans s7).trans s8').trans s9).trans s10
   have g6':=(s010.same q6 (by omega)).trans g0
   refine zaP rfl ?_
   refine zaP rfl ?_
   rw [eZ261]
   have hvb10:=hvb.ext s10
   have hs10:=hsalt.ext s10
   refine zpZ g6' (by omega) hR hvb10 hs10 hvb' (fun j hj=>by have:=(hvb.own j hj).1; omega) (fun j hj=>by have:=(hsalt.own j hj).1; omega) ?_ (kb_form hvb10.cells1 hvb10.okc hs10.cells1 hs10.okc) (fun H' s hR' hb' hs'=>?_)
   ·intro j hj
    have:=hRp R rfl j hj
    omega
   ·refine ⟨_,rfl,?_, .inr ⟨n,t,R,vb,salt,by omega,rfl,rfl,⟨zlj hs hk,hR',hb',hs'⟩,fun j hj=>?_⟩⟩
    rotate_left
    ·rcases hj with hj | hj | hj
     ·have:=hRp R rfl j hj; omega
     ·have:=(hvb.own j hj).1; omega
     ·have:=(hsalt.own j hj).1; omega
    exact ⟨by have:=s.next; omega,fun j hj=>by rw [s.same j (by omega) (by omega),s010.same j (by omega),s0.same j (by omega)]⟩
  ·rw [if_neg hi]
   refine zaP rfl ?_
   refine zaP rfl ?_
   refine zaP rfl ?_
   refine zaP rfl ?_
   refine ztb ?_
   exact zne g0 ⟨_,rfl,s0.set (by omega) _, .inl ⟨.inl (by omega),rfl⟩⟩
end Go.Ax.SU
/- Lk1 -/
namespace Go.Ax.SU
open Go.Ax
structure AtS (S:List Nat) (H H':Heap):Prop where
 next:H.next ≤ H'.next
 same:∀ i,i < H.next → i ∉ S → H'.get i = H.get i
theorem AtS.refl (S:List Nat) (H:Heap):AtS S H H:=⟨Nat.le_refl _,fun _ _ _=>rfl⟩
theorem AtS.trans {S:List Nat} {H H1 H2:Heap} (h:AtS S H H1) (g:AtS S H1 H2):AtS S H H2:=⟨Nat.le_trans h.next g.next,fun i hi hk=>by rw [g.same i (Nat.lt_of_lt_of_le hi h.next) hk,h.same i hi hk]⟩
theorem Grow.atS {H H':Heap} (h:Grow H H') (S:List Nat):AtS S H H':=⟨h.next,fun i hi _=>h.same i hi⟩
theorem AtS.set {S:List Nat} (H:Heap) {k:Nat} (h:k ∈ S) (b:Option Blk):AtS S H (H.set k b):=⟨Nat.le_refl _,fun i _ hk=>zak _ _ (fun e=>hk (e ▸ h))⟩
theorem AtS.mono {S S':List Nat} {H H':Heap} (h:AtS S H H') (g:∀ i ∈ S,i ∈ S'):AtS S' H H':=⟨h.next,fun i hi hk=>h.same i hi fun e=>hk (g i e)⟩
theorem AtS.grow {H H':Heap} (h:AtS [] H H'):Grow H H':=⟨h.next,fun i hi=>h.same i hi (by simp)⟩
theorem AtS.new {S:List Nat} {H0 H H':Heap} (g:Grow H0 H) (h:AtS S H H') (hS:∀ i ∈ S,H0.next ≤ i):Grow H0 H' :=
 ⟨Nat.le_trans g.next h.next,fun i hi=>by rw [h.same i (Nat.lt_of_lt_of_le hi g.next) (fun e=>by have:=hS i e; omega),g.same i hi]⟩
theorem Lc.atS {e lo n:Nat} {S:List Nat} {H H':Heap} {v:V} {cells:List V} (h:Lc e lo H v cells n) (s:AtS S H H') (hk:∀ i,v.pid = some i → i ∉ S):Lc e lo H' v cells n :=
 ⟨by rw [zgD fun i hi=>s.same i (h.own i hi).2 (hk i hi)]; exact h.rc,fun i hi=>⟨(h.own i hi).1,Nat.lt_of_lt_of_le (h.own i hi).2 s.next⟩,h.cap⟩
def Odd (b:Blk):Prop:=b.ty ≠ zaL ∧ b.ty ≠ zaN ∧ b.ty ≠ zas ∧ ∀ v ∈ b.cells,∀ n,v ≠ .int .u8 n
theorem By.odd {lo i:Nat} {H:Heap} {v:V} {l:List Nat} {b:Blk} (h:By lo H v l) (hl:0 < l.length) (hp:v.pid = some i) (hg:H.get i = some b):¬ ∀ v ∈ b.cells,∀ n,v ≠ .int .u8 n:=by
 rcases Lc.cases h with ⟨rfl,_⟩ | ⟨id,off,cap,b',rfl,hb,hle,hc⟩ | ⟨cs,rfl,_⟩
 ·cases hp
 ·simp only [V.pid,Option.some.injEq] at hp
  subst hp
  rw [hb] at hg
  injection hg with hg
  subst hg
  intro hno
  cases l with
  | nil=>simp at hl
  | cons x l =>
   rw [List.map_cons] at hc
   have:by8 x ∈ b'.cells:=List.mem_of_mem_drop (List.mem_of_mem_take (by rw [← hc]; exact List.mem_cons_self))
   exact hno _ this _ rfl
 ·cases hp
theorem KeyM.atS {S:List Nat} {H H':Heap} {k:Nat} {K:Ky} (h:KeyM H k K) (s:AtS S H H') (hS:∀ i ∈ S,∃ b,H.get i = some b ∧ Odd b):KeyM H' k K:=by
 obtain ⟨a,av,sv,h1,h2,h3,h4⟩:=h.mem
 obtain ⟨id,g1,g2,l1,l2,hw⟩:=h2
 have hne:∀ {i b},H.get i = some b → ¬ Odd b → i ∉ S:=fun hb ho e=>by
  obtain ⟨b',hb',ho'⟩:=hS _ e
  rw [hb] at hb'
  injection hb' with hb'
  exact ho (hb' ▸ ho')
 have by':∀ {v:V} {l:List Nat},By 0 H v l → 0 < l.length → By 0 H' v l:=fun hv hl=>Lc.atS hv s fun i hi e=>by
  obtain ⟨b',hb',ho'⟩:=hS _ e
  exact By.odd hv hl hi hb' ho'.2.2.2
 refine ⟨h.good,⟨a,av,sv,?_,⟨id,?_,?_,Nat.lt_of_lt_of_le l1 s.next,Nat.lt_of_lt_of_le l2 s.next,hw⟩,by' h3 (by rw [h.good.auth]; decide),by' h4 (by rw [h.good.salt]; decide)⟩,Nat.lt_of_lt_of_le h.low s.next⟩
 ·rw [s.same k h.low (hne h1 fun o=>o.1 rfl)]; exact h1
 ·rw [s.same a l1 (hne g1 fun o=>o.2.1 rfl)]; exact g1
 ·rw [s.same id l2 (hne g2 fun o=>o.2.2.1 rfl)]; exact g2
/-! Maps as lists of keys and values. -/
def encM {α:Type} (ek:α → V) (l:List (α × V)):List V:=l.flatMap fun p=>[ek p.1,p.2]
def look {α β:Type} [DecidableEq α] (a:α):List (α × β) → Option β
 | []=>none
 | (k,v) :: l=>if a = k then some v else look a l
def putl {α β:Type} [DecidableEq α] (a:α) (b:β):List (α × β) → List (α × β)
 | []=>[(a,b)]
 | (k,v) :: l=>if a = k then (a,b) :: l else (k,v) :: putl a b l
theorem zmg {α:Type} {ek:α → V} (p:α × V) (l:List (α × V)):encM ek (p :: l) = ek p.1 :: p.2 :: encM ek l:=rfl
theorem encM_len {α:Type} {ek:α → V} (l:List (α × V)):(encM ek l).length = 2 * l.length:=by
 induction l with
 | nil=>rfl
 | cons p l ih=>rw [zmg,List.length_cons,List.length_cons,List.length_cons,ih]; omega
section
variable {α:Type} [DecidableEq α] {ek:α → V} {mk:MK}
theorem mget_enc (hk:∀ a b,keq mk (ek a) (ek b) = some (decide (a = b))) (a:α) (l:List (α × V)):mget mk (ek a) (encM ek l) = some (look a l):=by
 induction l with
 | nil=>rfl
 | cons p l ih =>
  obtain ⟨k,v⟩:=p
  rw [zmg]
  simp only [mget,hk,Option.bind_some,decide_eq_true_eq,look]
  split
  ·rfl
  ·exact ih
theorem mset_enc (hk:∀ a b,keq mk (ek a) (ek b) = some (decide (a = b))) (a:α) (v:V) (l:List (α × V)):mset mk (ek a) v (encM ek l) = some (encM ek (putl a v l)):=by
 induction l with
 | nil=>rfl
 | cons p l ih =>
  obtain ⟨k,u⟩:=p
  rw [zmg]
  simp only [mset,hk,Option.bind_some,decide_eq_true_eq,putl]
  split
  ·rfl
  ·rw [ih]; rfl
theorem zix {β:Type} {H:Heap} {c:Nat} {ty:TypeId} {o:Option Nat} {z:V} {a:α} {l:List (α × V)} {f:V → M β} {Q:β → Heap → Prop} (hk:∀ a b,keq mk (ek a) (ek b) = some (decide (a = b))) (ho:kok mk (ek a) = true)
  (hg:H.get c = some ⟨ty,encM ek l,o⟩) (k:Ok (f ((look a l).getD z)) H Q):Ok ((mlookup mk z false (.mp c) (ek a)).bind f) H Q:=by
 refine zap ⟨_,_,(show mlookup mk z false (.mp c) (ek a) H = some ((look a l).getD z,H) from ?_),k⟩
 simp only [mlookup,hg,Option.bind_some,if_pos ho,mget_enc hk,Option.map_some,Bool.false_eq_true,if_false]
theorem zkk {β:Type} {H:Heap} {c:Nat} {ty:TypeId} {o:Option Nat} {v:V} {a:α} {l:List (α × V)} {f:V → M β} {Q:β → Heap → Prop} (hk:∀ a b,keq mk (ek a) (ek b) = some (decide (a = b))) (ho:kok mk (ek a) = true)
  (hg:H.get c = some ⟨ty,encM ek l,o⟩) (k:Ok (f .undef) (H.set c (some ⟨ty,encM ek (putl a v l),o⟩)) Q):Ok ((mmapset mk (.mp c) (ek a) v).bind f) H Q:=by
 refine zap ⟨_,_,(show mmapset mk (.mp c) (ek a) v H = some (.undef,H.set c (some ⟨ty,encM ek (putl a v l),o⟩)) from ?_),k⟩
 simp only [mmapset,hg,Option.bind_some,if_pos ho,mset_enc hk,Option.map_some]
end
theorem zrG {α β:Type} {ek:α → V} {H:Heap} {c:Nat} {ty:TypeId} {o:Option Nat} {l:List (α × V)} {f:V → M β} {Q:β → Heap → Prop}
  (hg:H.get c = some ⟨ty,encM ek l,o⟩) (k:Ok (f (.int .i64 (l.length:Nat))) H Q):Ok ((mmaplen (.mp c)).bind f) H Q:=by
 refine zap ⟨_,_,(show mmaplen (.mp c) H = some (.int .i64 (l.length:Nat),H) from ?_),k⟩
 simp only [mmaplen,hg,Option.map_some,encM_len,Nat.mul_div_cancel_left _ (show 0 < 2 by decide)]
def ekid (n:Nat):V:=.int .u64 (n:Nat)
def eplc (p:Int × Int):V:=.agg [.int .i64 p.1, .int .i64 p.2]
theorem znT (a b:Nat):keq .int (ekid a) (ekid b) = some (decide (a = b)):=by
 simp only [keq,ekid,if_true,Option.some.injEq]
 by_cases h:a = b
 ·subst h; simp
 ·rw [decide_eq_false h]
  have:¬ ((a:Nat):Int) = ((b:Nat):Int):=by omega
  simpa using this
theorem zpR (a b:Int × Int):keq (.st [.int, .int]) (eplc a) (eplc b) = some (decide (a = b)):=by
 obtain ⟨a1,a2⟩:=a
 obtain ⟨b1,b2⟩:=b
 simp only [keq,eplc,zdA,if_true,Option.map_some,Option.some.injEq,Prod.mk.injEq,Bool.and_true]
 by_cases h1:a1 = b1 <;> by_cases h2:a2 = b2 <;> simp [h1,h2]
/-! Numbers of keys. -/
def zcy (e st sl:Int):Prop:=(0 ≤ e ∧ e ≤ 65535) ∧ (0 ≤ st ∧ st ≤ 31) ∧ 0 ≤ sl ∧ sl < 8
instance (e st sl:Int):Decidable (zcy e st sl):=by unfold zcy; infer_instance
def kidN (e st sl:Int):Nat:=(256 * e + 8 * st + sl).toNat
def kidv (e st sl:Int):V:=if zcy e st sl then .tup [.int .u64 (kidN e st sl:Nat), .int .i64 0] else .tup [.int .u64 0, .int .i64 1]
theorem zoP {H:Heap} (e st sl:Int):Ok (sem T zih [.int .i64 e, .int .i64 st, .int .i64 sl]) H fun r H'=>r = kidv e st sl ∧ H' = H:=by
 refine zta ?_
 unfold zqZ
 by_cases h1:e < 0
 ·have b1:decide (e < 0) = true:=decide_eq_true h1
  have hn:¬ zcy e st sl:=by unfold zcy; omega
  simp (disch:=omega) only [↓RD,RZ,b1,kidv,hn]
 have b1:decide (e < 0) = false:=decide_eq_false h1
 by_cases h2:65535 < e
 ·have b2:decide (65535 < e) = true:=decide_eq_true h2
  have hn:¬ zcy e st sl:=by unfold zcy; omega
  simp (disch:=omega) only [↓RD,RZ,b1,b2,kidv,hn]
 have b2:decide (65535 < e) = false:=decide_eq_false h2
 by_cases h3:st < 0
 ·have b3:decide (st < 0) = true:=decide_eq_true h3
  have hn:¬ zcy e st sl:=by unfold zcy; omega
  simp (disch:=omega) only [↓RD,RZ,b1,b2,b3,kidv,hn]
 have b3:decide (st < 0) = false:=decide_eq_false h3
 by_cases h4:31 < st
 ·have b4:decide (31 < st) = true:=decide_eq_true h4
  have hn:¬ zcy e st sl:=by unfold zcy; omega
  simp (disch:=omega) only [↓RD,RZ,b1,b2,b3,b4,kidv,hn]
 have b4:decide (31 < st) = false:=decide_eq_false h4
 by_cases h5:sl < 0
 ·have b5:decide (sl < 0) = true:=decide_eq_true h5
  have hn:¬ zcy e st sl:=by unfold zcy; omega
  simp (disch:=omega) only [↓RD,RZ,b1,b2,b3,b4,b5,kidv,hn]
 have b5:decide (sl < 0) = false:=decide_eq_false h5
 by_cases h6:8 ≤ sl
 ·have b6:decide (8 ≤ sl) = true:=decide_eq_true h6
  have hn:¬ zcy e st sl:=by unfold zcy; omega
  simp (disch:=omega) only [↓RD,RZ,b1,b2,b3,b4,b5,b6,kidv,hn]
 have b6:decide (8 ≤ sl) = false:=decide_eq_false h6
 have hy:zcy e st sl:=by unfold zcy; omega
 have w1:IntKind.i64.wrap (256 * e) = 256 * e:=wrap_i64 (by omega) (by omega)
 have w2:IntKind.i64.wrap (8 * st) = 8 * st:=wrap_i64 (by omega) (by omega)
 have w3:IntKind.i64.wrap (256 * e + 8 * st) = 256 * e + 8 * st:=wrap_i64 (by omega) (by omega)
 have w4:IntKind.i64.wrap (256 * e + 8 * st + sl) = 256 * e + 8 * st + sl:=wrap_i64 (by omega) (by omega)
 have w5:IntKind.u64.wrap (256 * e + 8 * st + sl) = ((kidN e st sl:Nat):Int):=by rw [wrap_u64]; unfold kidN; omega
 simp (disch:=omega) only [↓RD,RZ,b1,b2,b3,b4,b5,b6,kidv,hy,w1,w2,w3,w4,w5]
end Go.Ax.SU
/- Lk2 -/
namespace Go.Ax.SU
open Go.Ax
def zfI (k:Nat):V:=if 16777216 ≤ k then .tup [.int .i64 0, .int .i64 0, .int .i64 0, .bool false] else .tup [.int .i64 (k / 256:Nat), .int .i64 (k % 256 / 8:Nat), .int .i64 (k % 8:Nat), .bool true]
theorem zlo {a m:Nat} (ha:a < 18446744073709551616) (hm:0 < m):Ax.bin .quo (.int .u64 (a:Nat)) (.int .u64 (m:Nat)) = some (.int .u64 (a / m:Nat)):=by
 have h0:¬ ((m:Nat):Int) = 0:=by omega
 have h1:((a:Nat):Int).tdiv ((m:Nat):Int) = ((a / m:Nat):Int):=by rw [Int.tdiv_eq_ediv_of_nonneg (by omega)]; rfl
 have h2:a / m ≤ a:=Nat.div_le_self _ _
 simp only [Ax.bin,if_true,zdR,if_neg h0,h1,wrap_u64]
 generalize a / m = d at h2
 rw [Int.emod_eq_of_lt (by omega) (by omega)]
theorem zrd {a m:Nat} (hm:0 < m):Ax.bin .rem (.int .u64 (a:Nat)) (.int .u64 (m:Nat)) = some (.int .u64 (a % m:Nat)):=by
 have h0:¬ ((m:Nat):Int) = 0:=by omega
 have h1:((a:Nat):Int).tmod ((m:Nat):Int) = ((a % m:Nat):Int):=by rw [Int.tmod_eq_emod_of_nonneg (by omega)]; rfl
 simp only [Ax.bin,if_true,zdR,if_neg h0,h1]
theorem zoO {H:Heap} {k:Nat} (hk:k < 18446744073709551616):Ok (sem T zgf [.int .u64 (k:Nat)]) H fun r H'=>r = zfI k ∧ H' = H:=by
 refine zoD ?_
 unfold zl5
 by_cases h1:16777216 ≤ k
 ·have b1:decide ((16777216:Int) ≤ ((k:Nat):Int)) = true:=decide_eq_true (by omega)
  have b1':decide (16777216 ≤ k) = true:=decide_eq_true h1
  simp (disch:=omega) only [↓RD,RZ,b1,b1',zfI,h1]
 ·have b1:decide ((16777216:Int) ≤ ((k:Nat):Int)) = false:=decide_eq_false (by omega)
  have b1':decide (16777216 ≤ k) = false:=decide_eq_false h1
  have w1:IntKind.i64.wrap ((k / 256:Nat):Int) = ((k / 256:Nat):Int):=wrap_i64 (by omega) (by omega)
  have w2:IntKind.i64.wrap ((k % 256 / 8:Nat):Int) = ((k % 256 / 8:Nat):Int):=wrap_i64 (by omega) (by omega)
  have w3:IntKind.i64.wrap ((k % 8:Nat):Int) = ((k % 8:Nat):Int):=wrap_i64 (by omega) (by omega)
  have q1:Ax.bin .quo (.int .u64 (k:Nat)) (.int .u64 256) = some (.int .u64 (k / 256:Nat)):=zlo (m:=256) hk (by decide)
  have q2:Ax.bin .rem (.int .u64 (k:Nat)) (.int .u64 256) = some (.int .u64 (k % 256:Nat)):=zrd (m:=256) (by decide)
  have q3:Ax.bin .rem (.int .u64 (k:Nat)) (.int .u64 8) = some (.int .u64 (k % 8:Nat)):=zrd (m:=8) (by decide)
  have q4:Ax.bin .quo (.int .u64 (k % 256:Nat)) (.int .u64 8) = some (.int .u64 (k % 256 / 8:Nat)):=zlo (m:=8) (by omega) (by decide)
  simp (disch:=omega) only [↓RD,RZ,b1,b1',zfI,h1,q1,q2,q3,q4,w1,w2,w3]
def zlZ (a b:Nat):Bool:=decide (a < 16777216) && (decide (b < 16777216) && decide (a / 8 < b / 8))
theorem zpQ {H:Heap} {a b:Nat} (ha:a < 18446744073709551616) (hb:b < 18446744073709551616):Ok (sem T zhm [.int .u64 (a:Nat), .int .u64 (b:Nat)]) H fun r H'=>r = .bool (zlZ a b) ∧ H' = H:=by
 refine zpE ?_
 unfold znc
 by_cases h1:a < 16777216
 ·have b1:decide ((a:Nat) < 16777216) = true:=decide_eq_true h1
  by_cases h2:b < 16777216
  ·have b2:decide ((b:Nat) < 16777216) = true:=decide_eq_true h2
   have q1:Ax.bin .quo (.int .u64 (a:Nat)) (.int .u64 8) = some (.int .u64 (a / 8:Nat)):=zlo (m:=8) ha (by decide)
   have q2:Ax.bin .quo (.int .u64 (b:Nat)) (.int .u64 8) = some (.int .u64 (b / 8:Nat)):=zlo (m:=8) hb (by decide)
   have dd:decide (((a / 8:Nat):Int) < ((b / 8:Nat):Int)) = decide (a / 8 < b / 8):=decide_eq_decide.2 (by omega)
   simp (disch:=omega) only [↓RD,RZ,q1,q2,dd,b1,b2,zlZ,Bool.true_and]
  ·have b2:decide ((b:Nat) < 16777216) = false:=decide_eq_false h2
   simp (disch:=omega) only [↓RD,RZ,b1,b2,zlZ,Bool.true_and,Bool.false_and]
 ·have b1:decide ((a:Nat) < 16777216) = false:=decide_eq_false h1
  simp (disch:=omega) only [↓RD,RZ,b1,zlZ,Bool.false_and]
/-! ratchet -/
def sRat:List Nat:=[83,70,114,97,109,101,32,49,46,48,32,82,97,116,99,104,101,116]
def ztp (b:List Nat):List Nat:=(hkdf kc (hmac kc [] b) sRat 1).1.take 32
def zf4 (b:List Nat):Nat → List Nat
 | 0=>b
 | n + 1=>ztp (zf4 b n)
theorem zto (b:List Nat):(ztp b).length = 32:=by unfold ztp; rw [List.length_take,zfA]; omega
theorem nextB_8 (b:List Nat):Ok8 (ztp b):=Ok8.take (zkt kc _ _ _).1 _
theorem zrf {b:List Nat} (h:Ok8 b):∀ n,Ok8 (zf4 b n)
 | 0=>h
 | n + 1=>nextB_8 _
theorem znf {b:List Nat} {m:Nat} (h:b.length ≤ m) (h32:32 ≤ m):∀ n,(zf4 b n).length ≤ m
 | 0=>h
 | n + 1=>by unfold zf4; rw [zto]; exact h32
theorem ztn {lo:Nat} {H:Heap} {bv:V} {b:List Nat} (hb:By lo H bv b) (b8:Ok8 b) (hbl:b.length ≤ 1099511627776):Ok (sem T zek [bv]) H fun r H'=>By H.next H' r (ztp b) ∧ Grow H H':=by
 refine zlM ?_
 unfold ziW
 refine zah (zni (Lc.nil:By 0 H .nils []) Ok8.nil (by decide) hb b8 hbl) ?_
 rintro _ H1 ⟨rfl,s1⟩
 have n1:=s1.next
 have sl:(hmac kc [] b).length = 32:=zc1 _ _ _
 have s8:Ok8 (hmac kc [] b):=zks _ _ _
 have sp:=sp32 sl
 have l32:((hmac kc [] b).map by8).length = 32:=by rw [List.length_map,sl]
 have vs:=zhw (n:=32) (id:=H1.next)
 simp (disch:=omega) only [↓RD,RZ,eq_self,seval,l32,sp,vs]
 have s2:Grow H ((H1.new ⟨zae,[.int .u8 0, .int .u8 0, .int .u8 0, .int .u8 0, .int .u8 0, .int .u8 0, .int .u8 0, .int .u8 0, .int .u8 0, .int .u8 0, .int .u8 0, .int .u8 0, .int .u8 0, .int .u8 0, .int .u8 0, .int .u8 0, .int .u8 0, .int .u8 0, .int .u8 0, .int .u8 0, .int .u8 0, .int .u8 0, .int .u8 0, .int .u8 0, .int .u8 0, .int .u8 0, .int .u8 0, .int .u8 0, .int .u8 0, .int .u8 0, .int .u8 0, .int .u8 0],none⟩).set H1.next (some ⟨zae,(hmac kc [] b).map by8,none⟩)):=(s1.trans (Grow.new _ _)).set (by omega) _
 have g2:((H1.new ⟨zae,[.int .u8 0, .int .u8 0, .int .u8 0, .int .u8 0, .int .u8 0, .int .u8 0, .int .u8 0, .int .u8 0, .int .u8 0, .int .u8 0, .int .u8 0, .int .u8 0, .int .u8 0, .int .u8 0, .int .u8 0, .int .u8 0, .int .u8 0, .int .u8 0, .int .u8 0, .int .u8 0, .int .u8 0, .int .u8 0, .int .u8 0, .int .u8 0, .int .u8 0, .int .u8 0, .int .u8 0, .int .u8 0, .int .u8 0, .int .u8 0, .int .u8 0, .int .u8 0],none⟩).set H1.next (some ⟨zae,(hmac kc [] b).map by8,none⟩)).get H1.next = _:=zaj _ _ _
 have n2:((H1.new ⟨zae,[.int .u8 0, .int .u8 0, .int .u8 0, .int .u8 0, .int .u8 0, .int .u8 0, .int .u8 0, .int .u8 0, .int .u8 0, .int .u8 0, .int .u8 0, .int .u8 0, .int .u8 0, .int .u8 0, .int .u8 0, .int .u8 0, .int .u8 0, .int .u8 0, .int .u8 0, .int .u8 0, .int .u8 0, .int .u8 0, .int .u8 0, .int .u8 0, .int .u8 0, .int .u8 0, .int .u8 0, .int .u8 0, .int .u8 0, .int .u8 0, .int .u8 0, .int .u8 0],none⟩).set H1.next (some ⟨zae,(hmac kc [] b).map by8,none⟩)).next = H1.next + 1:=rfl
 generalize hq:H1.next = q at *
 generalize Heap.set _ q _ = H2 at *
 rw [zaK,← n2]
 refine zjw (l:=sRat) rfl (by decide) fun x6 H6 hx6 s6=>?_
 have g6:=(s6.same q (by omega)).trans g2
 have n6:=s6.next
 refine zah (zmz (n:=32) (ze8 (lo:=0) g6 sl (by omega) (by omega)) s8 (by omega) hx6 (all8 rfl) (by decide) (by decide)) ?_
 rintro _ H7 ⟨key,rfl,hkey,s7⟩
 simp (disch:=omega) only [↓RD,RZ,eq_self,seval]
 exact ⟨hkey.low (by have:=(s2.trans s6).next; omega),(s2.trans s6).trans s7⟩
theorem zlp {H:Heap} (n:Int):Ok (sem T zb8 [.int .i64 n]) H fun r H'=>r = .bool (decide (0 ≤ n ∧ n ≤ 31)) ∧ H' = H:=by
 refine zkm ?_
 unfold zhA
 by_cases h1:0 ≤ n
 ·have b1:decide (0 ≤ n) = true:=decide_eq_true h1
  by_cases h2:n ≤ 31
  ·have b2:decide (n ≤ 31) = true:=decide_eq_true h2
   have b3:decide (0 ≤ n ∧ n ≤ 31) = true:=decide_eq_true ⟨h1,h2⟩
   simp (disch:=omega) only [↓RD,RZ,b1,b2,b3]
  ·have b2:decide (n ≤ 31) = false:=decide_eq_false h2
   have b3:decide (0 ≤ n ∧ n ≤ 31) = false:=decide_eq_false fun h=>h2 h.2
   simp (disch:=omega) only [↓RD,RZ,b1,b2,b3]
 ·have b1:decide (0 ≤ n) = false:=decide_eq_false h1
  have b3:decide (0 ≤ n ∧ n ≤ 31) = false:=decide_eq_false fun h=>h1 h.1
  simp (disch:=omega) only [↓RD,RZ,b1,b3]
theorem zt6 {lo:Nat} {H:Heap} {v:V} {l:List Nat} (h:By lo H v l):(v = .nils ∧ l = []) ∨ Ax.eqr .sl false v .nils = some (.bool false):=by
 rcases Lc.cases h with ⟨rfl,h1,h2⟩ | ⟨id,off,cap,b',rfl,hb,hle,hc⟩ | ⟨cs,rfl,_⟩
 ·exact .inl ⟨rfl,List.eq_nil_of_length_eq_zero h2⟩
 ·exact .inr rfl
 ·exact .inr rfl
theorem clone_ok {lo:Nat} {H:Heap} {v:V} {l:List Nat} (hv:By lo H v l) (hl:l.length ≤ 140737488355328):Ok (sem T zda [v]) H fun r H'=>By H.next H' r l ∧ Grow H H':=by
 refine ziP ?_
 unfold zhp
 rcases zt6 hv with ⟨rfl,rfl⟩ | e
 ·have e:Ax.eqr .sl false .nils .nils = some (.bool true):=rfl
  simp (disch:=omega) only [↓RD,RZ,e]
  exact ⟨Lc.nil,Grow.refl _⟩
 ·simp (disch:=omega) only [↓RD,RZ,e]
  rw [zaK]
  refine zo7 hv hl fun x0 H0' hx0 s0=>?_
  simp (disch:=omega) only [↓RD,RZ]
  exact ⟨hx0.by,s0⟩
theorem zsj {lo:Nat} {H:Heap} {bv:V} {b:List Nat} {n:Nat} (hb:By lo H bv b) (b8:Ok8 b) (hbl:b.length ≤ 1099511627) (hn:n ≤ 31) :
  Ok (sem T zd1 [bv, .int .i64 (n:Nat)]) H fun r H'=>∃ v,r = .tup [v, .int .i64 0] ∧ By H.next H' v (zf4 b n) ∧ Grow H H':=by
 refine zk2 ?_
 unfold zik
 have hw:=@zca _ _ _ _ (@zlp H ((n:Nat):Int))
 have b3:decide (0 ≤ ((n:Nat):Int) ∧ ((n:Nat):Int) ≤ 31) = true:=decide_eq_true (by omega)
 rw [b3] at hw
 simp (disch:=omega) only [↓RD,RZ,hw]
 refine zah (clone_ok hb (by omega)) ?_
 rintro v0 H1 ⟨hv0,s1⟩
 simp (disch:=omega) only [↓RD,RZ]
 refine zar (Q:=fun r H'=>∃ v,r = .ex 0 [v] ∧ By H.next H' v (zf4 b n) ∧ Grow H H') ?_ ?_
 ·refine zaF (fun j L H'=>∃ v,L = [v, .int .i64 (j:Nat)] ∧ By H.next H' v (zf4 b j) ∧ Grow H H') n ?_ ?_ ?_
  ·exact ⟨v0,rfl,hv0,s1⟩
  ·rintro j L H2 hj ⟨v,rfl,hv,s2⟩
   have al:=znf (b:=b) (m:=1099511627) hbl (by decide) j
   have d1:decide (((j:Nat):Int) < ((n:Nat):Int)) = true:=decide_eq_true (by omega)
   unfold zeI
   simp (disch:=omega) only [↓RD,RZ,d1]
   refine zah (ztn hv (zrf b8 j) (by omega)) ?_
   rintro v2 H3 ⟨hv2,s3⟩
   simp (disch:=omega) only [↓RD,RZ]
   exact ⟨v2,rfl,hv2.low s2.next,s2.trans s3⟩
  ·rintro L H2 ⟨v,rfl,hv,s2⟩
   have d1:decide (((n:Nat):Int) < ((n:Nat):Int)) = false:=decide_eq_false (by omega)
   unfold zeI
   simp (disch:=omega) only [↓RD,RZ,d1]
   exact ⟨v,rfl,hv,s2⟩
 ·rintro _ H2 ⟨v,rfl,hv,s2⟩
  simp (disch:=omega) only [↓RD,RZ]
  exact ⟨v,rfl,hv,s2⟩
end Go.Ax.SU
/- Lk3 -/
namespace Go.Ax.SU
open Go.Ax
def bl (n:Nat):Nat:=if n = 0 then 0 else n.log2 + 1
theorem bl_div (n:Nat) (h:0 < n):bl n = bl (n / 2) + 1:=by
 unfold bl
 rw [if_neg (by omega)]
 by_cases e:n / 2 = 0
 ·rw [if_pos e]
  have:n = 1:=by omega
  subst this; rfl
 ·rw [if_neg e,Nat.log2_def,if_pos (by omega)]
theorem lt_bl (n:Nat):n < 2 ^ bl n:=by
 unfold bl
 split
 ·omega
 ·exact Nat.lt_log2_self
theorem bl_le (n:Nat) (h:0 < n):2 ^ (bl n - 1) ≤ n:=by
 unfold bl
 rw [if_neg (by omega)]
 exact Nat.log2_self_le (by omega)
theorem zdY (n k:Nat):bl n ≤ k ↔ n < 2 ^ k:=by
 constructor
 ·intro h; exact Nat.lt_of_lt_of_le (lt_bl n) (Nat.pow_le_pow_right (by decide) h)
 ·intro h
  by_cases h0:n = 0
  ·subst h0; simp [bl]
  ·by_cases hk:bl n ≤ k
   ·exact hk
   ·have h1:=bl_le n (by omega)
    have:2 ^ k ≤ 2 ^ (bl n - 1):=Nat.pow_le_pow_right (by decide) (by omega)
    omega
theorem zkF (x:Nat) (h:x < 256):Ax.sindex (.str zcv) (.int .u8 (x:Int)) = some (.int .u8 (bl x:Nat)):=by
 have key:∀ y:Fin 256,(zcv[y.val]?).map UInt8.toNat = some (bl y.val):=by decide +kernel
 have:=key ⟨x,h⟩
 simp only [Ax.sindex]
 rw [if_pos (by omega)]
 simp only [Int.toNat_natCast]
 cases ht:zcv[x]? with
 | none=>rw [ht] at this; cases this
 | some b=>rw [ht] at this; simp only [Option.map_some,Option.some.injEq] at this ⊢; rw [this]
theorem zp7 (n k m:Nat) (hm:m = 2 ^ k) (h:0 < n / m):bl n = bl (n / m) + k:=by
 subst hm
 induction k with
 | zero=>simp
 | succ k ih =>
  have e:n / 2 ^ (k + 1) = (n / 2 ^ k) / 2:=by rw [Nat.pow_succ,Nat.div_div_eq_div_mul]
  rw [e] at h ⊢
  have h':0 < n / 2 ^ k:=by omega
  rw [ih h',bl_div _ h']; omega
theorem len64 (n:Nat) (h:n < 18446744073709551616):sem T zdj [.int .u64 n] = M.pure (.int .i64 (bl n:Nat)):=by
 refine zdD fun H=>?_
 refine zjC ?_
 unfold zgU
 simp (disch:=omega) only [↓RD,RZ,eq_self,seval]
 refine zbB (fun h1=>?_) (fun h1=>?_)
 ·have b1:=zp7 n 32 4294967296 rfl (by omega)
  simp (disch:=omega) only [↓RD,RZ,eq_self,seval]
  refine zbB (fun h2=>?_) (fun h2=>?_)
  ·have b2:=zp7 (n / 4294967296) 16 65536 rfl (by omega)
   simp (disch:=omega) only [↓RD,RZ,eq_self,seval]
   refine zbB (fun h3=>?_) (fun h3=>?_)
   ·have b3:=zp7 (n / 4294967296 / 65536) 8 256 rfl (by omega)
    have b8:bl (n / 4294967296 / 65536 / 256) ≤ 8:=(zdY _ 8).2 (by omega)
    simp (disch:=omega) only [↓RD,RZ,eq_self,seval,zkF]
    congr 1; omega
   ·have b8:bl (n / 4294967296 / 65536) ≤ 8:=(zdY _ 8).2 (by omega)
    simp (disch:=omega) only [↓RD,RZ,eq_self,seval,zkF]
    congr 1; omega
  ·simp (disch:=omega) only [↓RD,RZ,eq_self,seval]
   refine zbB (fun h3=>?_) (fun h3=>?_)
   ·have b3:=zp7 (n / 4294967296) 8 256 rfl (by omega)
    have b8:bl (n / 4294967296 / 256) ≤ 8:=(zdY _ 8).2 (by omega)
    simp (disch:=omega) only [↓RD,RZ,eq_self,seval,zkF]
    congr 1; omega
   ·have b8:bl (n / 4294967296) ≤ 8:=(zdY _ 8).2 (by omega)
    simp (disch:=omega) only [↓RD,RZ,eq_self,seval,zkF]
    congr 1; omega
 ·simp (disch:=omega) only [↓RD,RZ,eq_self,seval]
  refine zbB (fun h2=>?_) (fun h2=>?_)
  ·have b2:=zp7 n 16 65536 rfl (by omega)
   simp (disch:=omega) only [↓RD,RZ,eq_self,seval]
   refine zbB (fun h3=>?_) (fun h3=>?_)
   ·have b3:=zp7 (n / 65536) 8 256 rfl (by omega)
    have b8:bl (n / 65536 / 256) ≤ 8:=(zdY _ 8).2 (by omega)
    simp (disch:=omega) only [↓RD,RZ,eq_self,seval,zkF]
    congr 1; omega
   ·have b8:bl (n / 65536) ≤ 8:=(zdY _ 8).2 (by omega)
    simp (disch:=omega) only [↓RD,RZ,eq_self,seval,zkF]
    congr 1; omega
  ·simp (disch:=omega) only [↓RD,RZ,eq_self,seval]
   refine zbB (fun h3=>?_) (fun h3=>?_)
   ·have b3:=zp7 n 8 256 rfl (by omega)
    have b8:bl (n / 256) ≤ 8:=(zdY _ 8).2 (by omega)
    simp (disch:=omega) only [↓RD,RZ,eq_self,seval,zkF]
    congr 1; omega
   ·have b8:bl (n) ≤ 8:=(zdY _ 8).2 (by omega)
    simp (disch:=omega) only [↓RD,RZ,eq_self,seval,zkF]
    congr 1; omega
abbrev WS:=Bool × Nat × Nat
def wsv (w:WS):V:=.agg [.bool w.1, .int .u64 (w.2.1:Nat), .int .u64 (w.2.2:Nat)]
def wsR (w:WS):Prop:=w.2.1 < 18446744073709551616 ∧ w.2.2 < 18446744073709551616
def znY (w:WS):Bool:=if w.1 then decide (w.2.2 % 2 = 1) && decide (bl w.2.2 ≤ w.2.1 + 1) else decide (w.2.1 = 0) && decide (w.2.2 = 0)
def mayW (w:WS) (n:Nat):Nat:=if znY w = false then 1 else if w.1 = false ∨ w.2.1 < n then 0 else if 64 ≤ w.2.1 - n ∨ shr w.2.2 (w.2.1 - n) % 2 = 1 then 9 else 0
def zh6 (w:WS) (n:Nat):WS:=if w.1 = false then (true,n,1) else if w.2.1 < n then (true,n,w.2.2 * 2 ^ min (n - w.2.1) 64 % 18446744073709551616 ||| 1) else (true,w.2.1,w.2.2 ||| 2 ^ (w.2.1 - n))
theorem ztR {H:Heap} {w:WS} (hw:wsR w):Ok (sem T zeQ [wsv w]) H fun r H'=>r = .bool (znY w) ∧ Grow H H':=by
 refine zmH ?_
 unfold zjT
 obtain ⟨a,hi,se⟩:=w
 obtain ⟨h1,h2⟩:=hw
 dsimp only at h1 h2
 have s1:=Grow.new H ⟨zaq,[.bool a, .int .u64 (hi:Nat), .int .u64 (se:Nat)],none⟩
 unfold wsv
 cases a with
 | false =>
  have e:Ax.eqr (.st [.bool, .int, .int]) false (.agg [.bool false, .int .u64 (hi:Nat), .int .u64 (se:Nat)]) (.agg [.bool false, .int .u64 0, .int .u64 0]) = some (.bool (znY (false,hi,se))):=by
   have d1:(((hi:Nat):Int) == 0) = decide (hi = 0):=by
    by_cases h:hi = 0
    ·subst h; rfl
    ·rw [decide_eq_false h]; have:¬ ((hi:Nat):Int) = 0:=by omega
     simpa using this
   have d2:(((se:Nat):Int) == 0) = decide (se = 0):=by
    by_cases h:se = 0
    ·subst h; rfl
    ·rw [decide_eq_false h]; have:¬ ((se:Nat):Int) = 0:=by omega
     simpa using this
   simp only [Ax.eqr,eqv,zdA,if_true,Option.map_some,znY,Bool.false_eq_true,if_false,beq_self_eq_true,Bool.true_and,Bool.and_true,d1,d2]
  simp (disch:=first | omega | (simp only [RY] <;> omega) | decide) only [↓RD,RZ,eq_self,seval,e]
  exact s1
 | true =>
  have hb:=len64 se h2
  have l1:bl se ≤ 64:=(zdY _ _).2 (by omega)
  by_cases h:se % 2 = 1
  ·have c1:(((se &&& 1:Nat):Int) == 1) = true:=by rw [Nat.and_one_is_mod,h]; rfl
   have b1:1 ≤ bl se:=by
    have:=(zdY se 0)
    omega
   have w1:IntKind.u64.wrap ((bl se:Nat):Int) = ((bl se:Nat):Int):=by rw [wrap_u64]; omega
   have w2:IntKind.u64.wrap (((bl se:Nat):Int) - 1) = ((bl se - 1:Nat):Int):=by rw [wrap_u64]; omega
   have g:znY (true,hi,se) = decide (bl se - 1 ≤ hi):=by
    simp only [znY,if_true,h,decide_true,Bool.true_and]
    exact decide_eq_decide.2 (by omega)
   have d:decide (((bl se - 1:Nat):Int) ≤ ((hi:Nat):Int)) = decide (bl se - 1 ≤ hi):=decide_eq_decide.2 (by omega)
   simp (disch:=first | omega | (simp only [RY] <;> omega) | decide) only [↓RD,RZ,eq_self,seval,c1,hb,w1,w2,g,d]
   exact s1
  ·have c1:(((se &&& 1:Nat):Int) == 1) = false:=by rw [Nat.and_one_is_mod,show se % 2 = 0 by omega]; rfl
   have g:znY (true,hi,se) = false:=by simp only [znY,if_true,decide_eq_false h,Bool.false_and]
   simp (disch:=first | omega | (simp only [RY] <;> omega) | decide) only [↓RD,RZ,eq_self,seval,c1,g]
   exact s1
end Go.Ax.SU
/- Lk4 -/
namespace Go.Ax.SU
open Go.Ax
theorem zqM {H:Heap} {w:WS} {n:Nat} (hw:wsR w) (hn:n < 18446744073709551616):Ok (sem T zei [wsv w, .int .u64 (n:Nat)]) H fun r H'=>r = .int .i64 (mayW w n:Nat) ∧ Grow H H':=by
 refine znG ?_
 unfold zkQ
 have hgw:=fun H=>@ztR H w hw
 obtain ⟨a,hi,se⟩:=w
 obtain ⟨h1,h2⟩:=hw
 dsimp only at h1 h2
 have s1:=Grow.new H ⟨zaq,[.bool a, .int .u64 (hi:Nat), .int .u64 (se:Nat)],none⟩
 have g1:(H.new ⟨zaq,[.bool a, .int .u64 (hi:Nat), .int .u64 (se:Nat)],none⟩).get H.next = some ⟨zaq,[.bool a, .int .u64 (hi:Nat), .int .u64 (se:Nat)],none⟩:=zad _ _
 have n1:(H.new ⟨zaq,[.bool a, .int .u64 (hi:Nat), .int .u64 (se:Nat)],none⟩).next = H.next + 1:=zaf _ _
 unfold wsv
 dsimp only
 simp (maxSteps:=1000000) (disch:=first | omega | (simp only [RY] <;> omega) | decide) only [↓RD,RZ,eq_self,Int.reduceToNat,Int.reduceAdd,Int.reduceSub,Int.reduceMul,Nat.reduceAdd,Nat.reduceSub,Nat.reduceMul,Nat.reduceDiv,Nat.reduceMod,Nat.reduceBEq,Nat.reduceLeDiff]
 generalize hq:H.next = q at *
 generalize H.new _ = H1 at *
 refine zah (hgw H1) ?_
 rintro _ H2 ⟨rfl,s2⟩
 have g2:=(s2.same q (by omega)).trans g1
 have s12:=s1.trans s2
 cases hg:znY (a,hi,se) with
 | false =>
  have e:mayW (a,hi,se) n = 1:=by simp only [mayW,hg,if_true]
  simp (maxSteps:=1000000) (disch:=first | omega | (simp only [RY] <;> omega) | decide) only [↓RD,RZ,eq_self,Int.reduceToNat,Int.reduceAdd,Int.reduceSub,Int.reduceMul,Nat.reduceAdd,Nat.reduceSub,Nat.reduceMul,Nat.reduceDiv,Nat.reduceMod,Nat.reduceBEq,Nat.reduceLeDiff,e]
  exact ⟨rfl,s12⟩
 | true =>
  cases a with
  | false =>
   have e:mayW (false,hi,se) n = 0:=by simp [mayW,hg]
   simp (maxSteps:=1000000) (disch:=first | omega | (simp only [RY] <;> omega) | decide) only [↓RD,RZ,eq_self,Int.reduceToNat,Int.reduceAdd,Int.reduceSub,Int.reduceMul,Nat.reduceAdd,Nat.reduceSub,Nat.reduceMul,Nat.reduceDiv,Nat.reduceMod,Nat.reduceBEq,Nat.reduceLeDiff,g2,e]
   exact ⟨rfl,s12⟩
  | true =>
   by_cases h3:hi < n
   ·have e:mayW (true,hi,se) n = 0:=by simp [mayW,hg,h3]
    have d:decide (hi < n) = true:=decide_eq_true h3
    simp (maxSteps:=1000000) (disch:=first | omega | (simp only [RY] <;> omega) | decide) only [↓RD,RZ,eq_self,Int.reduceToNat,Int.reduceAdd,Int.reduceSub,Int.reduceMul,Nat.reduceAdd,Nat.reduceSub,Nat.reduceMul,Nat.reduceDiv,Nat.reduceMod,Nat.reduceBEq,Nat.reduceLeDiff,g2,d,e]
    exact ⟨rfl,s12⟩
   ·have d:decide (hi < n) = false:=decide_eq_false h3
    have w1:IntKind.u64.wrap (((hi:Nat):Int) - ((n:Nat):Int)) = ((hi - n:Nat):Int):=by rw [wrap_u64]; omega
    by_cases h4:64 ≤ hi - n
    ·have e:mayW (true,hi,se) n = 9:=by simp [mayW,hg,h3,h4]
     have d4:decide (64 ≤ hi - n) = true:=decide_eq_true h4
     have d4':decide ((64:Int) ≤ ((hi - n:Nat):Int)) = true:=decide_eq_true (by omega)
     simp (maxSteps:=1000000) (disch:=first | omega | (simp only [RY] <;> omega) | decide) only [↓RD,RZ,eq_self,Int.reduceToNat,Int.reduceAdd,Int.reduceSub,Int.reduceMul,Nat.reduceAdd,Nat.reduceSub,Nat.reduceMul,Nat.reduceDiv,Nat.reduceMod,Nat.reduceBEq,Nat.reduceLeDiff,g2,d,w1,d4,d4',e]
     exact ⟨rfl,s12⟩
    ·have hb:shr se (hi - n) < 18446744073709551616:=Nat.lt_of_le_of_lt (zsH _ _) h2
     have d4:decide (64 ≤ hi - n) = false:=decide_eq_false h4
     have d4':decide ((64:Int) ≤ ((hi - n:Nat):Int)) = false:=decide_eq_false (by omega)
     by_cases h5:shr se (hi - n) % 2 = 1
     ·have e:mayW (true,hi,se) n = 9:=by simp [mayW,hg,h3,h5]
      have c1:(((shr se (hi - n) &&& 1:Nat):Int) == 1) = true:=by rw [Nat.and_one_is_mod,h5]; rfl
      simp (maxSteps:=1000000) (disch:=first | omega | (simp only [RY] <;> omega) | decide) only [↓RD,RZ,eq_self,Int.reduceToNat,Int.reduceAdd,Int.reduceSub,Int.reduceMul,Nat.reduceAdd,Nat.reduceSub,Nat.reduceMul,Nat.reduceDiv,Nat.reduceMod,Nat.reduceBEq,Nat.reduceLeDiff,g2,d,w1,d4,d4',c1,e]
      exact ⟨rfl,s12⟩
     ·have e:mayW (true,hi,se) n = 0:=by simp [mayW,hg,h3,h4,h5]
      have c1:(((shr se (hi - n) &&& 1:Nat):Int) == 1) = false:=by rw [Nat.and_one_is_mod,show shr se (hi - n) % 2 = 0 by omega]; rfl
      simp (maxSteps:=1000000) (disch:=first | omega | (simp only [RY] <;> omega) | decide) only [↓RD,RZ,eq_self,Int.reduceToNat,Int.reduceAdd,Int.reduceSub,Int.reduceMul,Nat.reduceAdd,Nat.reduceSub,Nat.reduceMul,Nat.reduceDiv,Nat.reduceMod,Nat.reduceBEq,Nat.reduceLeDiff,g2,d,w1,d4,d4',c1,e]
      exact ⟨rfl,s12⟩
theorem zqN {w:WS} {n:Nat} (h:mayW w n = 0) (ha:w.1 = true) (hn:¬ w.2.1 < n):¬ 64 ≤ w.2.1 - n:=by
 intro h4
 unfold mayW at h
 split at h
 ·cases h
 ·rw [if_neg (by simp [ha,hn]),if_pos (.inl h4)] at h
  cases h
theorem shl_u64 {a k:Nat}:Ax.bin .shl (.int .u64 (a:Nat)) (.int .u64 (k:Nat)) = some (.int .u64 (a * 2 ^ min k 64 % 18446744073709551616:Nat)):=by
 have h0:¬ ((k:Nat):Int) < 0:=by omega
 simp only [Ax.bin,if_neg h0,wrap_u64,Int.toNat_natCast]
 have:((a:Nat):Int) * 2 ^ min k 64 = ((a * 2 ^ min k 64:Nat):Int):=by push_cast; rfl
 show some (V.int .u64 (((a:Nat):Int) * 2 ^ min k 64 % 18446744073709551616)) = _
 rw [this]
 rfl
theorem ztx {H:Heap} {w:WS} {n:Nat} (hw:wsR w) (hn:n < 18446744073709551616):Ok (sem T zeP [wsv w, .int .u64 (n:Nat)]) H fun r H'=>Grow H H' ∧ (mayW w n = 0 → r = .tup [wsv (zh6 w n), .int .i64 0]) ∧ (mayW w n ≠ 0 → r = .tup [wsv (false,0,0), .int .i64 (mayW w n:Nat)]):=by
 refine zmG ?_
 unfold zjS
 have hgw:=fun H=>@zqM H w n hw hn
 obtain ⟨a,hi,se⟩:=w
 obtain ⟨h1,h2⟩:=hw
 dsimp only at h1 h2
 have s0:=Grow.new H ⟨zaq,[.bool a, .int .u64 (hi:Nat), .int .u64 (se:Nat)],none⟩
 have g0:(H.new ⟨zaq,[.bool a, .int .u64 (hi:Nat), .int .u64 (se:Nat)],none⟩).get H.next = some ⟨zaq,[.bool a, .int .u64 (hi:Nat), .int .u64 (se:Nat)],none⟩:=zad _ _
 have n0:(H.new ⟨zaq,[.bool a, .int .u64 (hi:Nat), .int .u64 (se:Nat)],none⟩).next = H.next + 1:=zaf _ _
 unfold wsv
 dsimp only
 refine zap (zaU rfl ?_)
 rw [zai]
 generalize hq:H.next = q at *
 generalize H.new _ = H0 at *
 refine zap (zaU rfl ?_)
 rw [zai]
 have s1:=s0.trans (Grow.new H0 ⟨zaq,[.bool false, .int .u64 0, .int .u64 0],none⟩)
 have g1:=(zaX H0 ⟨zaq,[.bool false, .int .u64 0, .int .u64 0],none⟩ (i:=q) (by omega)).trans g0
 have p1:(H0.new ⟨zaq,[.bool false, .int .u64 0, .int .u64 0],none⟩).get H0.next = some ⟨zaq,[.bool false, .int .u64 0, .int .u64 0],none⟩:=zad _ _
 have n1:(H0.new ⟨zaq,[.bool false, .int .u64 0, .int .u64 0],none⟩).next = q + 2:=by rw [zaf,n0]
 rw [n0] at *
 generalize H0.new _ = H1 at *
 simp (maxSteps:=1000000) (disch:=first | omega | (simp only [RY] <;> omega) | decide) only [↓RD,RZ,eq_self,Int.reduceToNat,Int.reduceAdd,Int.reduceSub,Int.reduceMul,Nat.reduceAdd,Nat.reduceSub,Nat.reduceMul,Nat.reduceDiv,Nat.reduceMod,Nat.reduceBEq,Nat.reduceLeDiff,g1]
 refine zah (hgw H1) ?_
 rintro _ H2 ⟨rfl,s2⟩
 have g2:=(s2.same q (by omega)).trans g1
 have p2:=(s2.same (q + 1) (by omega)).trans p1
 have s12:=s1.trans s2
 have n2:=s2.next
 have fin:∀ b,Grow H (H2.set (q + 1) b):=fun b=>s12.set (by omega) b
 have fin2:∀ b b',Grow H ((H2.set q b).set (q + 1) b'):=fun b b'=>(s12.set (by omega) b).set (by omega) b'
 by_cases hm:mayW (a,hi,se) n = 0
 ·have e0:(((mayW (a,hi,se) n:Nat):Int) != 0) = false:=by rw [hm]; rfl
  cases a with
  | false =>
   have em:zh6 (false,hi,se) n = (true,n,1):=rfl
   simp (maxSteps:=1000000) (disch:=first | omega | (simp only [RY] <;> omega) | decide) only [↓RD,RZ,eq_self,Int.reduceToNat,Int.reduceAdd,Int.reduceSub,Int.reduceMul,Nat.reduceAdd,Nat.reduceSub,Nat.reduceMul,Nat.reduceDiv,Nat.reduceMod,Nat.reduceBEq,Nat.reduceLeDiff,e0,g2,p2]
   exact ⟨fin _,fun _=>by rw [em]; rfl,fun h=>absurd hm h⟩
  | true =>
   by_cases h3:hi < n
   ·have em:zh6 (true,hi,se) n = (true,n,se * 2 ^ min (n - hi) 64 % 18446744073709551616 ||| 1):=by simp [zh6,h3]
    have d:decide (hi < n) = true:=decide_eq_true h3
    have w1:IntKind.u64.wrap (((n:Nat):Int) - ((hi:Nat):Int)) = ((n - hi:Nat):Int):=by rw [wrap_u64]; omega
    have sh:=@shl_u64 se (n - hi)
    have hb:se * 2 ^ min (n - hi) 64 % 18446744073709551616 < 18446744073709551616:=Nat.mod_lt _ (by decide)
    generalize se * 2 ^ min (n - hi) 64 % 18446744073709551616 = z at *
    simp (maxSteps:=1000000) (disch:=first | omega | (simp only [RY] <;> omega) | decide) only [↓RD,RZ,eq_self,Int.reduceToNat,Int.reduceAdd,Int.reduceSub,Int.reduceMul,Nat.reduceAdd,Nat.reduceSub,Nat.reduceMul,Nat.reduceDiv,Nat.reduceMod,Nat.reduceBEq,Nat.reduceLeDiff,e0,g2,p2,d,w1,sh]
    exact ⟨fin _,fun _=>by rw [em],fun h=>absurd hm h⟩
   ·have d:decide (hi < n) = false:=decide_eq_false h3
    have h4:¬ 64 ≤ hi - n:=zqN hm rfl h3
    have em:zh6 (true,hi,se) n = (true,hi,se ||| 2 ^ (hi - n)):=by simp [zh6,h3]
    have w1:IntKind.u64.wrap (((hi:Nat):Int) - ((n:Nat):Int)) = ((hi - n:Nat):Int):=by rw [wrap_u64]; omega
    have sh:Ax.bin .shl (.int .u64 1) (.int .u64 (hi - n:Nat)) = some (.int .u64 (2 ^ (hi - n):Nat)):=by
     have:=@shl_u64 1 (hi - n)
     rw [Nat.one_mul,Nat.min_eq_left (by omega),Nat.mod_eq_of_lt (Nat.lt_of_lt_of_le (Nat.pow_lt_pow_right (by decide) (show hi - n < 64 by omega)) (by decide))] at this
     exact this
    have hb:2 ^ (hi - n) < 18446744073709551616:=Nat.lt_of_lt_of_le (Nat.pow_lt_pow_right (by decide) (show hi - n < 64 by omega)) (by decide)
    generalize 2 ^ (hi - n) = z at *
    simp (maxSteps:=1000000) (disch:=first | omega | (simp only [RY] <;> omega) | decide) only [↓RD,RZ,eq_self,Int.reduceToNat,Int.reduceAdd,Int.reduceSub,Int.reduceMul,Nat.reduceAdd,Nat.reduceSub,Nat.reduceMul,Nat.reduceDiv,Nat.reduceMod,Nat.reduceBEq,Nat.reduceLeDiff,e0,g2,p2,d,w1,sh]
    exact ⟨fin2 _ _,fun _=>by rw [em],fun h=>absurd hm h⟩
 ·have e0:(((mayW (a,hi,se) n:Nat):Int) != 0) = true:=by
   have:¬ ((mayW (a,hi,se) n:Nat):Int) = 0:=by omega
   simpa using this
  simp (maxSteps:=1000000) (disch:=first | omega | (simp only [RY] <;> omega) | decide) only [↓RD,RZ,eq_self,Int.reduceToNat,Int.reduceAdd,Int.reduceSub,Int.reduceMul,Nat.reduceAdd,Nat.reduceSub,Nat.reduceMul,Nat.reduceDiv,Nat.reduceMod,Nat.reduceBEq,Nat.reduceLeDiff,e0,p2]
  exact ⟨fin _,fun h=>absurd h hm,fun _=>rfl⟩
end Go.Ax.SU
/- Re21 -/
namespace Go.Ax.SU
open Go.Ax
def szv (id:Int):V:=match szs id.toNat with | some (n,t)=>if 0 ≤ id then V.tup [.int .i64 (n:Nat), .int .i64 (t:Nat), .bool true] else .tup [.int .i64 0, .int .i64 0, .bool false] | none=>.tup [.int .i64 0, .int .i64 0, .bool false]
theorem znr {id:Int} (h:id < 0 ∨ szs id.toNat = none):szv id = .tup [.int .i64 0, .int .i64 0, .bool false]:=by
 unfold szv
 rcases h with h | h
 ·cases szs id.toNat with
  | none=>rfl
  | some q=>dsimp only; rw [if_neg (by omega)]
 ·rw [h]
theorem zjv {id:Int} {n t:Nat} (h0:0 ≤ id) (h:szs id.toNat = some (n,t)):szv id = .tup [.int .i64 (n:Nat), .int .i64 (t:Nat), .bool true]:=by
 unfold szv
 rw [h]
 dsimp only
 rw [if_pos h0]
theorem zok {H:Heap} (id:Int) (h0:-9223372036854775808 ≤ id):Ok (sem T zcM [.int .i64 id]) H fun r H'=>r = szv id ∧ H' = H:=zqs id h0
theorem zpm {H:Heap} (id:Int) (h0:-9223372036854775808 ≤ id):Ok (sem T za0 [.int .i64 id]) H fun r H'=>r = szv id ∧ H' = H:=zmZ id h0
end Go.Ax.SU
namespace Go.Ax
open SU
end Go.Ax
/- Lk5 -/
namespace Go.Ax.SU
open Go.Ax
abbrev SS:=Option (Ky × Int × Int × Nat)
def sndC (id slot:Int) (kv:V) (e st:Int) (kid c:Nat):List V:=[.int .i64 id, .int .i64 slot,kv, .int .i64 e, .int .i64 st, .int .u64 (kid:Nat), .int .u64 (c:Nat)]
def SndM (lo:Nat) (H:Heap) (s:Nat) (id slot:Int) (x:SS):Prop:=s < H.next ∧
 match x with
 | none=>H.get s = some ⟨zaD,sndC id slot .nilp 0 0 0 0,none⟩
 | some (K,e,st,c)=>c < 18446744073709551616 ∧ ∃ k,H.get s = some ⟨zaD,sndC id slot (.ptr k 0) e st K.kid c,none⟩ ∧ KeyM H k K ∧ zmx lo H k
theorem zmx.to {lo k:Nat} {H H':Heap} (h:zmx lo H k) (e:H'.get k = H.get k):zmx lo H' k:=fun x y a av sv g=>h x y a av sv (e ▸ g)
theorem zmx.zero {k:Nat} {H:Heap}:zmx 0 H k:=fun _ _ _ _ _ _ _ _=>Nat.zero_le _
theorem zmx.low {lo lo' k:Nat} {H:Heap} (h:zmx lo H k) (hl:lo' ≤ lo):zmx lo' H k:=fun x y a av sv g j hj=>Nat.le_trans hl (h x y a av sv g j hj)
theorem KeyM.atL {lo:Nat} {S:List Nat} {H H':Heap} {k:Nat} {K:Ky} (h:KeyM H k K) (hl:zmx lo H k) (s:AtS S H H') (hS:∀ i ∈ S,i < lo ∧ ∃ b,H.get i = some b ∧ b.ty ≠ zaL ∧ b.ty ≠ zaN ∧ b.ty ≠ zas):KeyM H' k K ∧ H'.get k = H.get k:=by
 obtain ⟨a,av,sv,h1,h2,h3,h4⟩:=h.mem
 obtain ⟨id,g1,g2,l1,l2,hw⟩:=h2
 have hne:∀ {i b},H.get i = some b → (b.ty = zaL ∨ b.ty = zaN ∨ b.ty = zas) → i ∉ S:=fun hb ho e=>by
  obtain ⟨_,b',hb',o1,o2,o3⟩:=hS _ e
  rw [hb] at hb'
  injection hb' with hb'
  subst hb'
  rcases ho with o | o | o
  ·exact o1 o
  ·exact o2 o
  ·exact o3 o
 have by':∀ {v:V} {l:List Nat},By 0 H v l → (∀ j,v.pid = some j → lo ≤ j) → By 0 H' v l:=fun hv hj=>Lc.atS hv s fun i hi e=>by
  have:=(hS _ e).1
  have:=hj i hi
  omega
 have hlo:=hl _ _ _ _ _ h1
 have ek:=s.same k h.low (hne h1 (.inl rfl))
 refine ⟨⟨h.good,⟨a,av,sv,ek.trans h1,⟨id,?_,?_,Nat.lt_of_lt_of_le l1 s.next,Nat.lt_of_lt_of_le l2 s.next,hw⟩,by' h3 fun j hj=>hlo j (.inl hj),by' h4 fun j hj=>hlo j (.inr hj)⟩,Nat.lt_of_lt_of_le h.low s.next⟩,ek⟩
 ·rw [s.same a l1 (hne g1 (.inr (.inl rfl)))]; exact g1
 ·rw [s.same id l2 (hne g2 (.inr (.inr rfl)))]; exact g2
theorem zeX (H:Heap) (k:Nat) (a b:Option Blk):(H.set k a).set k b = H.set k b:=by
 unfold Heap.set
 congr 1
 funext i
 dsimp only
 split <;> rfl
theorem znK (id slot:Int) {kv:V} (e st:Int) (kid c:Nat) (hk:kv = .nilp ∨ ∃ k,kv = .ptr k 0):Odd ⟨zaD,sndC id slot kv e st kid c,none⟩:=by
 refine ⟨show zaD ≠ zaL by decide,show zaD ≠ zaN by decide,show zaD ≠ zas by decide,fun v hv n e=>?_⟩
 subst e
 unfold sndC at hv
 rcases hk with rfl | ⟨k,rfl⟩ <;> simp at hv
theorem SndM.grow {lo:Nat} {H H':Heap} {s:Nat} {id slot:Int} {x:SS} (h:SndM lo H s id slot x) (g:Grow H H'):SndM lo H' s id slot x:=by
 obtain ⟨h0,h1⟩:=h
 refine ⟨Nat.lt_of_lt_of_le h0 g.next,?_⟩
 cases x with
 | none=>exact (g.same s h0).trans h1
 | some q =>
  obtain ⟨K,e,st,c⟩:=q
  obtain ⟨h2,k,h3,h4,h5⟩:=h1
  exact ⟨h2,k,(g.same s h0).trans h3,h4.grow g,h5.to (g.same k h4.low)⟩
theorem SndM.atS {lo:Nat} {S:List Nat} {H H':Heap} {s:Nat} {id slot:Int} {x:SS} (h:SndM lo H s id slot x) (g:AtS S H H') (hs:s ∉ S) (hS:∀ i ∈ S,∃ b,H.get i = some b ∧ Odd b):SndM lo H' s id slot x:=by
 obtain ⟨h0,h1⟩:=h
 refine ⟨Nat.lt_of_lt_of_le h0 g.next,?_⟩
 cases x with
 | none=>exact (g.same s h0 hs).trans h1
 | some q =>
  obtain ⟨K,e,st,c⟩:=q
  obtain ⟨h2,k,h3,h4,h5⟩:=h1
  have hk:k ∉ S:=fun e=>by
   obtain ⟨a,av,sv,m1,_⟩:=h4.mem
   obtain ⟨b,hb,ho⟩:=hS k e
   rw [m1] at hb; injection hb with hb; subst hb; exact ho.1 rfl
  exact ⟨h2,k,(g.same s h0 hs).trans h3,h4.atS g hS,h5.to (g.same k h4.low hk)⟩
theorem SndM.atL {lo:Nat} {S:List Nat} {H H':Heap} {s:Nat} {id slot:Int} {x:SS} (h:SndM lo H s id slot x) (g:AtS S H H') (hs:s ∉ S) (hS:∀ i ∈ S,i < lo ∧ ∃ b,H.get i = some b ∧ b.ty ≠ zaL ∧ b.ty ≠ zaN ∧ b.ty ≠ zas):SndM lo H' s id slot x:=by
 obtain ⟨h0,h1⟩:=h
 refine ⟨Nat.lt_of_lt_of_le h0 g.next,?_⟩
 cases x with
 | none=>exact (g.same s h0 hs).trans h1
 | some q =>
  obtain ⟨K,e,st,c⟩:=q
  obtain ⟨h2,k,h3,h4,h5⟩:=h1
  obtain ⟨h6,h7⟩:=h4.atL h5 g hS
  exact ⟨h2,k,(g.same s h0 hs).trans h3,h6,h5.to h7⟩
theorem zkZ {H:Heap} (id slot:Int) (h0:-9223372036854775808 ≤ id):Ok (sem T zb9 [.int .i64 id, .int .i64 slot]) H fun r H'=>Grow H H' ∧
  ((szv id = .tup [.int .i64 0, .int .i64 0, .bool false] ∨ slot < 0 ∨ 8 ≤ slot) ∧ r = .tup [.nilp, .int .i64 1] ∨
   ∃ n t s,0 ≤ id ∧ szs id.toNat = some (n,t) ∧ 0 ≤ slot ∧ slot < 8 ∧ r = .tup [.ptr s 0, .int .i64 0] ∧ (∀ lo,SndM lo H' s id slot none) ∧ H.next ≤ s):=by
 refine zko ?_
 unfold zhB
 refine zah (zok id h0) ?_
 rintro _ H ⟨rfl,rfl⟩
 by_cases hz:id < 0 ∨ szs id.toNat = none
 ·rw [znr hz]
  simp (disch:=omega) only [↓RD,RZ,eq_self,seval]
  exact ⟨Grow.refl _, .inl (.inl trivial)⟩
 ·obtain ⟨⟨n,t⟩,hs⟩:∃ q,szs id.toNat = some q:=by
   cases h:szs id.toNat with
   | none=>exact absurd (.inr h) hz
   | some q=>exact ⟨q,rfl⟩
  have h0':0 ≤ id:=by
   rcases Int.lt_or_le id 0 with h | h
   ·exact absurd (.inl h) hz
   ·exact h
  rw [zjv h0' hs]
  by_cases h1:slot < 0
  ·have d1:decide (slot < 0) = true:=decide_eq_true h1
   simp (disch:=omega) only [↓RD,RZ,eq_self,seval,d1]
   exact ⟨Grow.refl _, .inl (.inr (.inl h1))⟩
  ·have d1:decide (slot < 0) = false:=decide_eq_false h1
   by_cases h2:8 ≤ slot
   ·have d2:decide (8 ≤ slot) = true:=decide_eq_true h2
    simp (disch:=omega) only [↓RD,RZ,eq_self,seval,d1,d2]
    exact ⟨Grow.refl _, .inl (.inr (.inr h2))⟩
   ·have d2:decide (8 ≤ slot) = false:=decide_eq_false h2
    simp (disch:=omega) only [↓RD,RZ,eq_self,seval,d1,d2]
    refine ⟨Grow.new _ _, .inr ⟨n,t,H.next,h0',hs,by omega,by omega,rfl,fun _=>⟨by rw [zaf]; omega,zad _ _⟩,Nat.le_refl _⟩⟩
def useS (id slot:Int) (n t:Nat) (x:SS) (e st:Int) (base:List Nat):SS × Nat :=
 if ¬ zcy e st slot then (x,1) else
 match x with
 | none=>(some (drv id.toNat (kidN e st slot) n t base,e,st,0),0)
 | some (K,e0,st0,c0)=>if zlZ K.kid (kidN e st slot) = false then (some (K,e0,st0,c0),9) else (some (drv id.toNat (kidN e st slot) n t base,e,st,0),0)
theorem zkr {e st sl:Int} (h:zcy e st sl):kidN e st sl < 16777216:=by unfold zcy at h; unfold kidN; omega
theorem Use_ok {ll lo s n t:Nat} {H:Heap} {id slot:Int} {x:SS} {bv:V} {base:List Nat} (hx:SndM ll H s id slot x) (h0:0 ≤ id) (hsz:szs id.toNat = some (n,t)) (e st:Int) (hb:By lo H bv base) (b8:Ok8 base) (bl:base.length ≤ 1099511627776) (hll:ll ≤ H.next:=by omega) :
  Ok (sem T zcC [.ptr s 0, .int .i64 e, .int .i64 st,bv]) H fun r H'=>r = .int .i64 ((useS id slot n t x e st base).2:Nat) ∧ SndM ll H' s id slot (useS id slot n t x e st base).1 ∧ AtS [s] H H':=by
 refine zjD ?_
 unfold zgV
 have s0:=hx.1
 have key:∀ (kv:V) (e0 st0:Int) (kid0 c0:Nat),(kv = .nilp ∨ ∃ k,kv = .ptr k 0) → H.get s = some ⟨zaD,sndC id slot kv e0 st0 kid0 c0,none⟩ → zcy e st slot →
   Ok (sem T zbC [.int .i64 id, .int .u64 (kidN e st slot:Nat),bv]) H fun r H1=>∃ k,r = .tup [.ptr k 0, .int .i64 0] ∧ H1.get s = some ⟨zaD,sndC id slot kv e0 st0 kid0 c0,none⟩ ∧ Grow H H1 ∧
    SndM ll (H1.set s (some ⟨zaD,sndC id slot (.ptr k 0) e st (kidN e st slot) 0,none⟩)) s id slot (some (drv id.toNat (kidN e st slot) n t base,e,st,0)):=by
  intro kv e0 st0 kid0 c0 hkv hg hy
  have kl:=zkr hy
  refine zar (zpi (by omega) (by omega) hb b8 bl) ?_
  rintro r H1 ⟨g,⟨h1 | h1,_⟩ | ⟨n',t',k,h1,h2,rfl,h4,h5,h6⟩⟩
  ·omega
  ·rw [hsz] at h1; cases h1
  ·rw [hsz] at h2
   injection h2 with h2
   injection h2 with e1 e2
   subst e1 e2
   have g1:=(g.same s s0).trans hg
   have:=g.next
   refine ⟨k,rfl,g1,g,by rw [zan]; omega,by decide,k,zaj _ _ _,?_,(h6.low hll).to (zak _ _ (by omega))⟩
   exact h4.atS (AtS.set (S:=[s]) H1 (by simp) _) fun i hi=>by
    simp only [List.mem_singleton] at hi
    subst hi
    exact ⟨_,g1,znK _ _ _ _ _ _ hkv⟩
 obtain ⟨x0,hx1⟩:=hx
 have hko:=fun H=>@zca _ _ _ _ (@zoP H e st slot)
 by_cases hy:zcy e st slot
 ·have kv:kidv e st slot = .tup [.int .u64 (kidN e st slot:Nat), .int .i64 0]:=by unfold kidv; rw [if_pos hy]
  rw [kv] at hko
  have kl:=zkr hy
  cases x with
  | none =>
   have eu:useS id slot n t none e st base = (some (drv id.toNat (kidN e st slot) n t base,e,st,0),0):=by simp [useS,hy]
   have hx1:H.get s = some ⟨zaD,sndC id slot .nilp 0 0 0 0,none⟩:=hx1
   rw [eu]
   have hk:=key _ _ _ _ _ (.inl rfl) hx1 hy
   unfold sndC at hx1
   simp (disch:=first | omega | (simp only [RY] <;> omega) | decide) only [↓RD,RZ,eq_self,Int.reduceToNat,Int.reduceAdd,Nat.reduceAdd,Nat.reduceSub,Nat.reduceMul,Nat.reduceLeDiff,hx1,hko]
   refine zah hk ?_
   rintro _ H1 ⟨k,rfl,g1,s1,hs⟩
   have a1:AtS [s] H (H1.set s (some ⟨zaD,sndC id slot (.ptr k 0) e st (kidN e st slot) 0,none⟩)):=(Grow.atS s1 _).trans (AtS.set _ (by simp) _)
   unfold sndC at *
   simp (disch:=first | omega | (simp only [RY] <;> omega) | decide) only [↓RD,RZ,eq_self,Int.reduceToNat,Int.reduceAdd,Nat.reduceAdd,Nat.reduceSub,Nat.reduceMul,Nat.reduceLeDiff,g1,zeX]
   exact ⟨rfl,hs,a1⟩
  | some q =>
   obtain ⟨K,e0,st0,c0⟩:=q
   obtain ⟨hc,k0,hx1,hkm,hkl⟩:=hx1
   have hlt:=fun H=>@zca _ _ _ _ (@zpQ H K.kid (kidN e st slot) hkm.good.kid (by omega))
   cases hl:zlZ K.kid (kidN e st slot) with
   | false =>
    have eu:useS id slot n t (some (K,e0,st0,c0)) e st base = (some (K,e0,st0,c0),9):=by simp [useS,hy,hl]
    rw [hl] at hlt
    rw [eu]
    have hx2:=hx1
    unfold sndC at hx1
    simp (disch:=first | omega | (simp only [RY] <;> omega) | decide) only [↓RD,RZ,eq_self,Int.reduceToNat,Int.reduceAdd,Nat.reduceAdd,Nat.reduceSub,Nat.reduceMul,Nat.reduceLeDiff,hx1,hko,hlt]
    exact ⟨rfl,⟨x0,hc,k0,hx2,hkm,hkl⟩,AtS.refl _ _⟩
   | true =>
    have eu:useS id slot n t (some (K,e0,st0,c0)) e st base = (some (drv id.toNat (kidN e st slot) n t base,e,st,0),0):=by simp [useS,hy,hl]
    rw [hl] at hlt
    rw [eu]
    have hk:=key _ _ _ _ _ (.inr ⟨k0,rfl⟩) hx1 hy
    unfold sndC at hx1
    simp (disch:=first | omega | (simp only [RY] <;> omega) | decide) only [↓RD,RZ,eq_self,Int.reduceToNat,Int.reduceAdd,Nat.reduceAdd,Nat.reduceSub,Nat.reduceMul,Nat.reduceLeDiff,hx1,hko,hlt]
    refine zah hk ?_
    rintro _ H1 ⟨k,rfl,g1,s1,hs⟩
    have a1:AtS [s] H (H1.set s (some ⟨zaD,sndC id slot (.ptr k 0) e st (kidN e st slot) 0,none⟩)):=(Grow.atS s1 _).trans (AtS.set _ (by simp) _)
    unfold sndC at *
    simp (disch:=first | omega | (simp only [RY] <;> omega) | decide) only [↓RD,RZ,eq_self,Int.reduceToNat,Int.reduceAdd,Nat.reduceAdd,Nat.reduceSub,Nat.reduceMul,Nat.reduceLeDiff,g1,zeX]
    exact ⟨rfl,hs,a1⟩
 ·have kv:kidv e st slot = .tup [.int .u64 0, .int .i64 1]:=by unfold kidv; rw [if_neg hy]
  rw [kv] at hko
  have eu:useS id slot n t x e st base = (x,1):=by simp [useS,hy]
  rw [eu]
  cases x with
  | none =>
   have hx1:H.get s = some ⟨zaD,sndC id slot .nilp 0 0 0 0,none⟩:=hx1
   have hx2:=hx1
   unfold sndC at hx1
   simp (disch:=first | omega | (simp only [RY] <;> omega) | decide) only [↓RD,RZ,eq_self,Int.reduceToNat,Int.reduceAdd,Nat.reduceAdd,Nat.reduceSub,Nat.reduceMul,Nat.reduceLeDiff,hx1,hko]
   exact ⟨rfl,⟨x0,hx2⟩,AtS.refl _ _⟩
  | some q =>
   obtain ⟨K,e0,st0,c0⟩:=q
   obtain ⟨hc,k0,hx1,hkm,hkl⟩:=hx1
   have hx2:=hx1
   unfold sndC at hx1
   simp (disch:=first | omega | (simp only [RY] <;> omega) | decide) only [↓RD,RZ,eq_self,Int.reduceToNat,Int.reduceAdd,Nat.reduceAdd,Nat.reduceSub,Nat.reduceMul,Nat.reduceLeDiff,hx1,hko]
   exact ⟨rfl,⟨x0,hc,k0,hx2,hkm,hkl⟩,AtS.refl _ _⟩
def nowv:SS → V
 | none=>.tup [.int .i64 0, .int .i64 0, .int .u64 0, .bool false]
 | some (K,e,st,c)=>.tup [.int .i64 e, .int .i64 st, .int .u64 (c:Nat), .bool true]
theorem zuI {ll s:Nat} {H:Heap} {id slot:Int} {x:SS} (hx:SndM ll H s id slot x):Ok (sem T zdk [.ptr s 0]) H fun r H'=>r = nowv x ∧ H' = H:=by
 refine zjE ?_
 unfold zgW
 obtain ⟨x0,hx1⟩:=hx
 cases x with
 | none =>
  have hx1:H.get s = some ⟨zaD,sndC id slot .nilp 0 0 0 0,none⟩:=hx1
  unfold sndC at hx1
  simp (disch:=omega) only [↓RD,RZ,hx1]
  rfl
 | some q =>
  obtain ⟨K,e0,st0,c0⟩:=q
  obtain ⟨hc,k0,hx1,hkm,hkl⟩:=hx1
  unfold sndC at hx1
  simp (disch:=omega) only [↓RD,RZ,hx1]
  rfl
def znw (x:SS) (p:List Nat):SS :=
 match x with
 | none=>none
 | some (K,e,st,c)=>if 1000 < p.length then some (K,e,st,c) else some (K,e,st,(c + 1) % 18446744073709551616)
theorem zri {ll lo1 lo2 s:Nat} {H:Heap} {id slot:Int} {x:SS} {mv pv:V} {m p:List Nat} (hx:SndM ll H s id slot x) (hm:By lo1 H mv m) (m8:Ok8 m) (hp:By lo2 H pv p) (p8:Ok8 p) (hml:m.length ≤ 274877906944) (hpl:p.length ≤ 1099511627776) :
  Ok (sem T zcf [.ptr s 0,mv,pv]) H fun r H'=>SndM ll H' s id slot (znw x p) ∧ AtS [s] H H' ∧
   match x with
   | none=>r = .tup [.nils, .int .i64 10]
   | some (K,e,st,c)=>if 1000 < p.length then r = .tup [.nils, .int .i64 4] else ∃ v,r = .tup [v, .int .i64 0] ∧ By H.next H' v (zdN K c m p):=by
 refine zjb ?_
 unfold zgk
 obtain ⟨x0,hx1⟩:=hx
 cases x with
 | none =>
  have hx1:H.get s = some ⟨zaD,sndC id slot .nilp 0 0 0 0,none⟩:=hx1
  have hx2:=hx1
  unfold sndC at hx1
  simp (disch:=omega) only [↓RD,RZ,eq_self,seval,hx1]
  exact ⟨⟨x0,hx2⟩,AtS.refl _ _⟩
 | some q =>
  obtain ⟨K,e0,st0,c0⟩:=q
  obtain ⟨hc,k0,hx1,hkm,hkl⟩:=hx1
  have hx2:=hx1
  unfold sndC at hx1
  simp (disch:=omega) only [↓RD,RZ,eq_self,seval,hx1]
  refine zah (Seal_ok hkm hc hm m8 hp p8 hml hpl) ?_
  rintro _ H1 ⟨s1,h1⟩
  have g1:=(s1.same s x0).trans hx1
  have g2:=(s1.same s x0).trans hx2
  have n1:=s1.next
  split at h1
  ·rename_i h3
   subst h1
   simp (disch:=omega) only [↓RD,RZ,eq_self,seval]
   refine ⟨?_,Grow.atS s1 _,?_⟩
   ·unfold znw; dsimp only; rw [if_pos h3]; exact ⟨by omega,hc,k0,g2,hkm.grow s1,hkl.to (s1.same k0 hkm.low)⟩
   ·rw [if_pos h3]; trivial
  ·rename_i h3
   obtain ⟨v,rfl,hv⟩:=h1
   have w1:IntKind.u64.wrap (((c0:Nat):Int) + 1) = (((c0 + 1) % 18446744073709551616:Nat):Int):=by rw [wrap_u64]; omega
   simp (disch:=omega) only [↓RD,RZ,eq_self,seval,g1,w1]
   have a1:AtS [s] H (H1.set s (some ⟨zaD,sndC id slot (.ptr k0 0) e0 st0 K.kid ((c0 + 1) % 18446744073709551616),none⟩)):=(Grow.atS s1 _).trans (AtS.set _ (by simp) _)
   refine ⟨?_,a1,?_⟩
   ·unfold znw; dsimp only; rw [if_neg h3]
    have hks:k0 ≠ s:=fun e=>by
     obtain ⟨a,av,sv,m1,_⟩:=hkm.mem
     rw [e,hx2] at m1
     injection m1 with m1
     injection m1 with m1
     exact absurd m1 (show zaD ≠ zaL by decide)
    refine ⟨by rw [zan]; omega,Nat.mod_lt _ (by decide),k0,zaj _ _ _,?_,hkl.to ((zak _ _ hks).trans (s1.same k0 hkm.low))⟩
    exact (hkm.grow s1).atS (AtS.set (S:=[s]) H1 (by simp) _) fun i hi=>by
     simp only [List.mem_singleton] at hi
     subst hi
     exact ⟨_,g2,znK _ _ _ _ _ _ (.inr ⟨k0,rfl⟩)⟩
   ·rw [if_neg h3]
    exact ⟨v,rfl,Lc.atS hv (AtS.set (S:=[s]) H1 (by simp) _) fun i hi e=>by
     simp only [List.mem_singleton] at e
     subst e
     have:=(hv.own i hi).1
     omega⟩
end Go.Ax.SU
/- Lk6 -/
namespace Go.Ax.SU
open Go.Ax
theorem Apf.ty {ty e lo n:Nat} {H:Heap} {v:V} {cs:List V} (h:Apf ty e lo H v cs n):∀ i,v.pid = some i → ∃ b,H.get i = some b ∧ b.ty = ty:=by
 intro i hi
 cases h with
 | full h _ _ _=>simp only [V.pid,Option.some.injEq] at hi; subst hi; exact ⟨_,h,rfl⟩
 | app h =>
  cases h with
  | lit h _ _=>simp only [V.pid,Option.some.injEq] at hi; subst hi; exact ⟨_,h,rfl⟩
  | opn h _ =>
   rcases h with ⟨rfl,_,_⟩ | ⟨id,rfl,h,_⟩
   ·cases hi
   ·simp only [V.pid,Option.some.injEq] at hi; subst hi; exact ⟨_,h,rfl⟩
theorem clone_ab {lo:Nat} {H:Heap} {v:V} {l:List Nat} (hv:By lo H v l) (hl:l.length ≤ 140737488355328):Ok (sem T zda [v]) H fun r H'=>Ab H.next H' r l ∧ Grow H H':=by
 refine ziP ?_
 unfold zhp
 rcases zt6 hv with ⟨rfl,rfl⟩ | e
 ·have e:Ax.eqr .sl false .nils .nils = some (.bool true):=rfl
  simp (disch:=omega) only [↓RD,RZ,e]
  exact ⟨Ab.nil,Grow.refl _⟩
 ·simp (disch:=omega) only [↓RD,RZ,e]
  rw [zaK]
  refine zo7 hv hl fun x0 H0' hx0 s0=>?_
  simp (disch:=omega) only [↓RD,RZ]
  exact ⟨hx0,s0⟩
def OddR (b:Blk):Prop:=Odd b ∧ b.ty ≠ zac ∧ b.ty ≠ zaO
structure ChainM (lo:Nat) (H:Heap) (q st:Nat) (base:List Nat):Prop where
 low:q < H.next
 lo':lo ≤ q
 mem:∃ bv,H.get q = some ⟨zaO,[.int .i64 (st:Nat),bv],none⟩ ∧ By lo H bv base ∧ ∀ i,bv.pid = some i → ∃ b,H.get i = some b ∧ b.ty = zac
 b8:Ok8 base
 bl:base.length ≤ 1099511627
 st31:st ≤ 31
theorem ChainM.atS {lo:Nat} {S:List Nat} {H H':Heap} {q st:Nat} {base:List Nat} (h:ChainM lo H q st base) (s:AtS S H H') (hS:∀ i ∈ S,i < lo ∨ ∃ b,H.get i = some b ∧ OddR b):ChainM lo H' q st base:=by
 obtain ⟨bv,h1,h2,h3⟩:=h.mem
 have hq:q ∉ S:=fun e=>by
  rcases hS q e with h4 | ⟨b,hb,ho⟩
  ·have:=h.lo'; omega
  ·rw [h1] at hb; injection hb with hb; subst hb; exact ho.2.2 rfl
 have hv:∀ i,bv.pid = some i → i ∉ S:=fun i hi e=>by
  rcases hS i e with h4 | ⟨b,hb,ho⟩
  ·have:=(h2.own i hi).1; omega
  ·obtain ⟨b',hb',ht⟩:=h3 i hi
   rw [hb] at hb'; injection hb' with hb'; subst hb'; exact ho.2.1 ht
 exact ⟨Nat.lt_of_lt_of_le h.low s.next,h.lo',⟨bv,(s.same q h.low hq).trans h1,Lc.atS h2 s hv,fun i hi=>by
  obtain ⟨b,hb,ht⟩:=h3 i hi
  exact ⟨b,(s.same i (h2.own i hi).2 (hv i hi)).trans hb,ht⟩⟩,h.b8,h.bl,h.st31⟩
theorem ChainM.grow {lo:Nat} {H H':Heap} {q st:Nat} {base:List Nat} (h:ChainM lo H q st base) (s:Grow H H'):ChainM lo H' q st base:=h.atS (Grow.atS s []) fun i hi=>by simp at hi
structure Rc where
 id:Nat
 ch:List ((Int × Int) × (Nat × List Nat))
 win:List (Nat × WS)
 ks:List (Nat × Ky)
def Al {α β γ:Type} (P:β → γ → Prop):List (α × β) → List (α × γ) → Prop
 | [],[]=>True
 | p :: l,q :: m=>p.1 = q.1 ∧ P p.2 q.2 ∧ Al P l m
 | _,_=>False
theorem Al.mono {α β γ:Type} {P Q:β → γ → Prop} (h:∀ b c,P b c → Q b c):∀ {l:List (α × β)} {m:List (α × γ)},Al P l m → Al Q l m
 | [],[],_=>trivial
 | _ :: _,_ :: _,⟨h1,h2,h3⟩=>⟨h1,h _ _ h2,Al.mono h h3⟩
 | [],_ :: _,h=>h.elim
 | _ :: _,[],h=>h.elim
theorem Al.len {α β γ:Type} {P:β → γ → Prop}:∀ {l:List (α × β)} {m:List (α × γ)},Al P l m → l.length = m.length
 | [],[],_=>rfl
 | _ :: _,_ :: _,⟨_,_,h3⟩=>by rw [List.length_cons,List.length_cons,Al.len h3]
 | [],_ :: _,h=>h.elim
 | _ :: _,[],h=>h.elim
theorem Al.look {α β γ:Type} [DecidableEq α] {P:β → γ → Prop} (a:α):∀ {l:List (α × β)} {m:List (α × γ)},Al P l m → (look a l = none ∧ look a m = none) ∨ ∃ x y,look a l = some x ∧ look a m = some y ∧ P x y
 | [],[],_=>.inl ⟨rfl,rfl⟩
 | (k,v) :: l,(k',v') :: m,⟨h1,h2,h3⟩=>by
  have h1:k = k':=h1
  subst h1
  simp only [SU.look]
  by_cases e:a = k
  ·rw [if_pos e,if_pos e]; exact .inr ⟨_,_,rfl,rfl,h2⟩
  ·rw [if_neg e,if_neg e]; exact Al.look a h3
 | [],_ :: _,h=>h.elim
 | _ :: _,[],h=>h.elim
theorem Al.put {α β γ:Type} [DecidableEq α] {P:β → γ → Prop} (a:α) {x:β} {y:γ} (hp:P x y):∀ {l:List (α × β)} {m:List (α × γ)},Al P l m → Al P (putl a x l) (putl a y m)
 | [],[],_=>⟨rfl,hp,trivial⟩
 | (k,v) :: l,(k',v') :: m,⟨h1,h2,h3⟩=>by
  have h1:k = k':=h1
  subst h1
  simp only [putl]
  by_cases e:a = k
  ·rw [if_pos e,if_pos e]; exact ⟨rfl,hp,h3⟩
  ·rw [if_neg e,if_neg e]; exact ⟨rfl,h2,Al.put a hp h3⟩
 | [],_ :: _,h=>h.elim
 | _ :: _,[],h=>h.elim
def mapv {α β:Type} (f:β → V) (l:List (α × β)):List (α × V):=l.map fun p=>(p.1,f p.2)
theorem zh7 {α β:Type} [DecidableEq α] (f:β → V) (a:α):∀ l:List (α × β),look a (mapv f l) = (look a l).map f
 | []=>rfl
 | (k,v) :: l=>by
  show look a ((k,f v) :: mapv f l) = _
  simp only [look]
  split
  ·rfl
  ·exact zh7 f a l
theorem zlb {α β:Type} [DecidableEq α] (f:β → V) (a:α) (b:β):∀ l:List (α × β),putl a (f b) (mapv f l) = mapv f (putl a b l)
 | []=>rfl
 | (k,v) :: l=>by
  show putl a (f b) ((k,f v) :: mapv f l) = _
  simp only [putl]
  split
  ·rfl
  ·rw [zlb f a b l]; rfl
theorem mapv_len {α β:Type} (f:β → V) (l:List (α × β)):(mapv f l).length = l.length:=List.length_map _
def ptrv (k:Nat):V:=.ptr k 0
theorem zpY {α:Type} {ek:α → V} {l:List (α × V)} (h1:∀ a n,ek a ≠ .int .u8 n) (h2:∀ p ∈ l,∀ n,p.2 ≠ .int .u8 n):∀ v ∈ encM ek l,∀ n,v ≠ .int .u8 n:=by
 intro v hv n
 unfold encM at hv
 obtain ⟨p,hp,hv⟩:=List.mem_flatMap.1 hv
 simp only [List.mem_cons,List.not_mem_nil,or_false] at hv
 rcases hv with rfl | rfl
 ·exact h1 _ _
 ·exact h2 p hp n
abbrev tyC:=zct
abbrev tyW:=zdo
abbrev tyK:=zdI
theorem odd_c (l:List ((Int × Int) × Nat)):OddR ⟨tyC,encM eplc (mapv ptrv l),none⟩ :=
 ⟨⟨show tyC ≠ zaL by decide,show tyC ≠ zaN by decide,show tyC ≠ zas by decide,zpY (fun _ _ h=>by cases h) fun p hp n h=>by
  obtain ⟨q,_,rfl⟩:=List.mem_map.1 hp
  cases h⟩,show tyC ≠ zac by decide,show tyC ≠ zaO by decide⟩
theorem odd_w (l:List (Nat × WS)):OddR ⟨tyW,encM ekid (mapv wsv l),none⟩ :=
 ⟨⟨show tyW ≠ zaL by decide,show tyW ≠ zaN by decide,show tyW ≠ zas by decide,zpY (fun _ _ h=>by cases h) fun p hp n h=>by
  obtain ⟨q,_,rfl⟩:=List.mem_map.1 hp
  cases h⟩,show tyW ≠ zac by decide,show tyW ≠ zaO by decide⟩
theorem odd_k (l:List (Nat × Nat)):OddR ⟨tyK,encM ekid (mapv ptrv l),none⟩ :=
 ⟨⟨show tyK ≠ zaL by decide,show tyK ≠ zaN by decide,show tyK ≠ zas by decide,zpY (fun _ _ h=>by cases h) fun p hp n h=>by
  obtain ⟨q,_,rfl⟩:=List.mem_map.1 hp
  cases h⟩,show tyK ≠ zac by decide,show tyK ≠ zaO by decide⟩
structure RcM (H:Heap) (c:Nat) (R:Rc):Prop where
 top:c + 4 ≤ H.next
 rcd:H.get (c + 3) = some ⟨zcr,[.int .i64 (R.id:Nat), .mp c, .mp (c + 1), .mp (c + 2)],none⟩
 ch:∃ lc:List ((Int × Int) × Nat),H.get c = some ⟨tyC,encM eplc (mapv ptrv lc),none⟩ ∧ Al (fun q x=>ChainM (c + 4) H q x.1 x.2) lc R.ch
 win:H.get (c + 1) = some ⟨tyW,encM ekid (mapv wsv R.win),none⟩
 wr:∀ p ∈ R.win,wsR p.2
 ks:∃ lk:List (Nat × Nat),H.get (c + 2) = some ⟨tyK,encM ekid (mapv ptrv lk),none⟩ ∧ Al (fun q x=>KeyM H q x) lk R.ks
theorem RcM.atS {S:List Nat} {H H':Heap} {c:Nat} {R:Rc} (h:RcM H c R) (s:AtS S H H') (hc:∀ i ∈ S,i < c ∨ c + 4 ≤ i) (hS:∀ i ∈ S,∃ b,H.get i = some b ∧ OddR b):RcM H' c R:=by
 have ht:=h.top
 have hn:∀ i,c ≤ i → i < c + 4 → H'.get i = H.get i:=fun i h1 h2=>s.same i (by omega) fun e=>by have:=hc i e; omega
 obtain ⟨lc,h1,h2⟩:=h.ch
 obtain ⟨lk,h3,h4⟩:=h.ks
 exact ⟨Nat.le_trans ht s.next,(hn _ (by omega) (by omega)).trans h.rcd,⟨lc,(hn _ (by omega) (by omega)).trans h1,h2.mono fun _ _ g=>g.atS s fun i hi=>.inr (hS i hi)⟩,
  (hn _ (by omega) (by omega)).trans h.win,h.wr,⟨lk,(hn _ (by omega) (by omega)).trans h3,h4.mono fun _ _ g=>g.atS s fun i hi=>by
   obtain ⟨b,hb,ho⟩:=hS i hi
   exact ⟨b,hb,ho.1⟩⟩⟩
theorem RcM.grow {H H':Heap} {c:Nat} {R:Rc} (h:RcM H c R) (s:Grow H H'):RcM H' c R:=h.atS (Grow.atS s []) (fun i hi=>by simp at hi) fun i hi=>by simp at hi
theorem RcM.odd {H:Heap} {c:Nat} {R:Rc} (h:RcM H c R):∀ i,c ≤ i → i < c + 3 → ∃ b,H.get i = some b ∧ OddR b:=by
 intro i h1 h2
 obtain ⟨lc,g1,_⟩:=h.ch
 obtain ⟨lk,g3,_⟩:=h.ks
 have:i = c ∨ i = c + 1 ∨ i = c + 2:=by omega
 rcases this with rfl | rfl | rfl
 ·exact ⟨_,g1,odd_c _⟩
 ·exact ⟨_,h.win,odd_w _⟩
 ·exact ⟨_,g3,odd_k _⟩
theorem zmW {H:Heap} (id:Int) (h0:-9223372036854775808 ≤ id):Ok (sem T zcg [.int .i64 id]) H fun r H'=>Grow H H' ∧
  ((id < 0 ∨ szs id.toNat = none) ∧ r = .tup [.nilp, .int .i64 1] ∨
   ∃ n t c,0 ≤ id ∧ szs id.toNat = some (n,t) ∧ r = .tup [.ptr (c + 3) 0, .int .i64 0] ∧ RcM H' c ⟨id.toNat,[],[],[]⟩ ∧ H.next ≤ c):=by
 refine zjc ?_
 unfold zgl
 refine zah (zok id h0) ?_
 rintro _ H ⟨rfl,rfl⟩
 by_cases hz:id < 0 ∨ szs id.toNat = none
 ·rw [znr hz]
  simp (disch:=omega) only [↓RD,RZ]
  exact ⟨Grow.refl _, .inl hz⟩
 ·obtain ⟨⟨n,t⟩,hs⟩:∃ q,szs id.toNat = some q:=by
   cases h:szs id.toNat with
   | none=>exact absurd (.inr h) hz
   | some q=>exact ⟨q,rfl⟩
  have h0':0 ≤ id:=by
   rcases Int.lt_or_le id 0 with h | h
   ·exact absurd (.inl h) hz
   ·exact h
  rw [zjv h0' hs]
  simp (disch:=omega) only [↓RD,RZ]
  refine zap ⟨.mp H.next,H.new ⟨tyC,[],none⟩,rfl,?_⟩
  have a1:=Grow.new H ⟨tyC,[],none⟩
  have b1:(H.new ⟨tyC,[],none⟩).get H.next = some ⟨tyC,[],none⟩:=zad _ _
  have c1:(H.new ⟨tyC,[],none⟩).next = H.next + 1:=zaf _ _
  generalize hc:H.next = c at *
  generalize H.new _ = H1 at *
  refine zap ⟨.mp H1.next,H1.new ⟨tyW,[],none⟩,rfl,?_⟩
  have a2:=Grow.new H1 ⟨tyW,[],none⟩
  have b2:(H1.new ⟨tyW,[],none⟩).get H1.next = some ⟨tyW,[],none⟩:=zad _ _
  have c2:(H1.new ⟨tyW,[],none⟩).next = H1.next + 1:=zaf _ _
  rw [c1] at b2 c2 ⊢
  generalize H1.new _ = H2 at *
  refine zap ⟨.mp H2.next,H2.new ⟨tyK,[],none⟩,rfl,?_⟩
  have a3:=Grow.new H2 ⟨tyK,[],none⟩
  have b3:(H2.new ⟨tyK,[],none⟩).get H2.next = some ⟨tyK,[],none⟩:=zad _ _
  have c3:(H2.new ⟨tyK,[],none⟩).next = H2.next + 1:=zaf _ _
  rw [c2] at b3 c3 ⊢
  generalize H2.new _ = H3 at *
  obtain ⟨i,rfl⟩:∃ i:Nat,id = (i:Nat):=⟨id.toNat,by omega⟩
  refine zaP rfl ?_
  refine zap (zaU rfl ?_)
  have a4:=Grow.new H3 ⟨zcr,[.int .i64 (i:Nat), .mp c, .mp (c + 1), .mp (c + 1 + 1)],none⟩
  have b4:(H3.new ⟨zcr,[.int .i64 (i:Nat), .mp c, .mp (c + 1), .mp (c + 1 + 1)],none⟩).get H3.next = _:=zad _ _
  have c4:(H3.new ⟨zcr,[.int .i64 (i:Nat), .mp c, .mp (c + 1), .mp (c + 1 + 1)],none⟩).next = H3.next + 1:=zaf _ _
  rw [c3] at b4 c4 ⊢
  show Ok (M.pure _) (H3.new ⟨zcr,[.int .i64 (i:Nat), .mp c, .mp (c + 1), .mp (c + 1 + 1)],none⟩) _
  generalize H3.new _ = H4 at *
  have e1:=(((a4.same c (by omega)).trans (a3.same c (by omega))).trans (a2.same c (by omega))).trans b1
  have e2:=((a4.same (c + 1) (by omega)).trans (a3.same (c + 1) (by omega))).trans b2
  have e3:=(a4.same (c + 1 + 1) (by omega)).trans b3
  exact zfJ ⟨_,rfl,((a1.trans a2).trans a3).trans a4, .inr ⟨n,t,c,by omega,hs,rfl,⟨by omega,b4,⟨[],e1,trivial⟩,e2,by simp,⟨[],e3,trivial⟩⟩,by omega⟩⟩
end Go.Ax.SU
/- Lk7 -/
namespace Go.Ax.SU
open Go.Ax
theorem zpP (p:Int × Int):kok (.st [.int, .int]) (eplc p) = true:=rfl
theorem znR (n:Nat):kok .int (ekid n) = true:=rfl
theorem ptr_neq (o:Option Nat):Ax.eqr .ptr true ((o.map ptrv).getD .nilp) .nilp = some (.bool o.isSome):=by cases o <;> rfl
theorem Has_ok {H:Heap} {c:Nat} {R:Rc} (hR:RcM H c R) (e sl:Int):Ok (sem T zcR [.ptr (c + 3) 0, .int .i64 e, .int .i64 sl]) H fun r H'=>r = .bool (look (e,sl) R.ch).isSome ∧ H' = H:=by
 refine ziJ ?_
 unfold zfX
 obtain ⟨lc,h1,h2⟩:=hR.ch
 have hr:=hR.rcd
 have hl:(look (e,sl) lc).isSome = (look (e,sl) R.ch).isSome:=by
  rcases Al.look (e,sl) h2 with ⟨a,b⟩ | ⟨x,y,a,b,_⟩ <;> rw [a,b] <;> rfl
 simp (disch:=omega) only [↓RD,RZ,eq_self,seval,hr]
 refine zix (ek:=eplc) (a:=(e,sl)) zpR (zpP _) h1 ?_
 rw [zh7]
 have e1:=ptr_neq (look (e,sl) lc)
 rw [hl] at e1
 simp (disch:=omega) only [↓RD,RZ,eq_self,seval,e1]
theorem New_c_ok {lo:Nat} {H:Heap} {bv:V} {base:List Nat} (st:Int) (hs:0 ≤ st ∧ st ≤ 31) (hb:By lo H bv base) (b8:Ok8 base) (bl:base.length ≤ 1099511627) :
  Ok (sem T zeR [.int .i64 st,bv]) H fun r H'=>∃ q,r = .tup [.ptr q 0, .int .i64 0] ∧ ChainM H.next H' q st.toNat base ∧ Grow H H':=by
 refine zmL ?_
 unfold zjX
 have hw:=@zca _ _ _ _ (@zlp H st)
 rw [decide_eq_true hs] at hw
 simp (disch:=omega) only [↓RD,RZ,eq_self,seval,hw]
 refine zah (clone_ab hb (by omega)) ?_
 rintro v H1 ⟨hv,s1⟩
 have n1:=s1.next
 have vc:=hv.by.cells1
 have vo:=hv.by.okc
 obtain ⟨k,rfl⟩:∃ k:Nat,st = (k:Nat):=⟨st.toNat,by omega⟩
 have s2:=Grow.new H1 ⟨zaO,[.int .i64 (k:Nat),v],none⟩
 have g2:(H1.new ⟨zaO,[.int .i64 (k:Nat),v],none⟩).get H1.next = _:=zad _ _
 have n2:(H1.new ⟨zaO,[.int .i64 (k:Nat),v],none⟩).next = H1.next + 1:=zaf _ _
 simp (disch:=omega) only [↓RD,RZ,eq_self,seval,vc,vo]
 refine ⟨H1.next,rfl,⟨by omega,n1,⟨v,g2,hv.by.ext s2,fun i hi=>?_⟩,b8,bl,by omega⟩,s1.trans s2⟩
 obtain ⟨b,hb,ht⟩:=Apf.ty hv i hi
 exact ⟨b,(s2.same i ((hv.by.own i hi).2)).trans hb,ht⟩
def addR (R:Rc) (e sl st:Int) (base:List Nat):Rc × Nat :=
 if ¬ zcy e st sl then (R,1) else if (look (e,sl) R.ch).isSome then (R,7) else if 64 ≤ R.ch.length then (R,5) else ({ R with ch:=putl (e,sl) (st.toNat,base) R.ch },0)
theorem AddR_ok {lo c:Nat} {H:Heap} {R:Rc} {bv:V} {base:List Nat} (hR:RcM H c R) (e sl st:Int) (hb:By lo H bv base) (b8:Ok8 base) (bl:base.length ≤ 1099511627) :
  Ok (sem T zcS [.ptr (c + 3) 0, .int .i64 e, .int .i64 sl, .int .i64 st,bv]) H fun r H'=>r = .int .i64 ((addR R e sl st base).2:Nat) ∧ RcM H' c (addR R e sl st base).1 ∧ AtS [c,c + 1,c + 2] H H':=by
 refine ziK ?_
 unfold zfY
 have hko:=@zca _ _ _ _ (@zoP H e st sl)
 have hhas:=@zca _ _ _ _ (Has_ok hR e sl)
 have hr:=hR.rcd
 have htop:=hR.top
 by_cases hy:zcy e st sl
 ·have kv:kidv e st sl = .tup [.int .u64 (kidN e st sl:Nat), .int .i64 0]:=by unfold kidv; rw [if_pos hy]
  rw [kv] at hko
  cases hl:(look (e,sl) R.ch).isSome with
  | true =>
   have ea:addR R e sl st base = (R,7):=by simp [addR,hy,hl]
   rw [hl] at hhas
   rw [ea]
   simp (disch:=first | omega | (simp only [RY] <;> omega) | decide) only [↓RD,RZ,eq_self,Int.reduceToNat,Int.reduceAdd,Nat.reduceAdd,Nat.reduceSub,Nat.reduceMul,Nat.reduceLeDiff,hko,hhas]
   exact ⟨rfl,hR,AtS.refl _ _⟩
  | false =>
   rw [hl] at hhas
   obtain ⟨lc,h1,h2⟩:=hR.ch
   have hlen:(mapv ptrv lc).length = R.ch.length:=by rw [mapv_len,h2.len]
   simp (disch:=first | omega | (simp only [RY] <;> omega) | decide) only [↓RD,RZ,eq_self,Int.reduceToNat,Int.reduceAdd,Nat.reduceAdd,Nat.reduceSub,Nat.reduceMul,Nat.reduceLeDiff,hko,hhas,hr]
   refine zrG h1 ?_
   rw [hlen]
   by_cases h64:64 ≤ R.ch.length
   ·have ea:addR R e sl st base = (R,5):=by simp [addR,hy,hl,h64]
    have d:decide ((64:Int) ≤ ((R.ch.length:Nat):Int)) = true:=decide_eq_true (by omega)
    rw [ea]
    simp (disch:=first | omega | (simp only [RY] <;> omega) | decide) only [↓RD,RZ,eq_self,Int.reduceToNat,Int.reduceAdd,Nat.reduceAdd,Nat.reduceSub,Nat.reduceMul,Nat.reduceLeDiff,d]
    exact ⟨rfl,hR,AtS.refl _ _⟩
   ·have ea:addR R e sl st base = ({ R with ch:=putl (e,sl) (st.toNat,base) R.ch },0):=by simp [addR,hy,hl,h64]
    have d:decide ((64:Int) ≤ ((R.ch.length:Nat):Int)) = false:=decide_eq_false (by omega)
    rw [ea]
    simp (disch:=first | omega | (simp only [RY] <;> omega) | decide) only [↓RD,RZ,eq_self,Int.reduceToNat,Int.reduceAdd,Nat.reduceAdd,Nat.reduceSub,Nat.reduceMul,Nat.reduceLeDiff,d]
    refine zah (New_c_ok st ⟨hy.2.1.1,hy.2.1.2⟩ hb b8 bl) ?_
    rintro _ H1 ⟨q,rfl,hq,s1⟩
    have hR1:=hR.grow s1
    have hr1:=hR1.rcd
    have n1:=s1.next
    simp (disch:=first | omega | (simp only [RY] <;> omega) | decide) only [↓RD,RZ,eq_self,Int.reduceToNat,Int.reduceAdd,Nat.reduceAdd,Nat.reduceSub,Nat.reduceMul,Nat.reduceLeDiff,hr1]
    obtain ⟨lc',h1',h2'⟩:=hR1.ch
    refine zkk (ek:=eplc) (a:=(e,sl)) (v:=ptrv q) zpR (zpP _) h1' ?_
    rw [zlb]
    simp (disch:=first | omega | (simp only [RY] <;> omega) | decide) only [↓RD,RZ,eq_self,Int.reduceToNat,Int.reduceAdd,Nat.reduceAdd,Nat.reduceSub,Nat.reduceMul,Nat.reduceLeDiff]
    have a1:AtS [c,c + 1,c + 2] H1 (H1.set c (some ⟨tyC,encM eplc (mapv ptrv (putl (e,sl) q lc')),none⟩)):=AtS.set _ (by simp) _
    have nn:∀ i,i ≠ c → (H1.set c (some ⟨tyC,encM eplc (mapv ptrv (putl (e,sl) q lc')),none⟩)).get i = H1.get i:=fun i hi=>zak _ _ hi
    obtain ⟨lk,h3,h4⟩:=hR1.ks
    have hS:∀ i ∈ [c,c + 1,c + 2],i < c + 4 ∨ ∃ b,H1.get i = some b ∧ OddR b:=fun i hi=>by simp at hi; omega
    have hq4:ChainM (c + 4) H1 q st.toNat base:=⟨hq.low,by have:=hq.lo'; omega,by
     obtain ⟨bv,g1,g2,g3⟩:=hq.mem
     exact ⟨bv,g1,g2.low (by omega),g3⟩,hq.b8,hq.bl,hq.st31⟩
    refine ⟨rfl,⟨by rw [zan]; omega,(nn _ (by omega)).trans hr1,⟨putl (e,sl) q lc',zaj _ _ _,?_⟩,(nn _ (by omega)).trans hR1.win,hR1.wr,⟨lk,(nn _ (by omega)).trans h3,h4.mono fun k K g=>?_⟩⟩,(Grow.atS s1 _).trans a1⟩
    ·exact Al.put (P:=fun y x=>ChainM (c + 4) (H1.set c (some ⟨tyC,encM eplc (mapv ptrv (putl (e,sl) q lc')),none⟩)) y x.1 x.2) (e,sl) (x:=q) (y:=(st.toNat,base)) (hq4.atS a1 hS) (h2'.mono fun _ _ g=>g.atS a1 hS)
    ·exact g.atS a1 fun i hi=>by
      obtain ⟨b,hb,ho⟩:=hR1.odd i (by simp at hi; omega) (by simp at hi; omega)
      exact ⟨b,hb,ho.1⟩
 ·have kv:kidv e st sl = .tup [.int .u64 0, .int .i64 1]:=by unfold kidv; rw [if_neg hy]
  rw [kv] at hko
  have ea:addR R e sl st base = (R,1):=by simp [addR,hy]
  rw [ea]
  simp (disch:=first | omega | (simp only [RY] <;> omega) | decide) only [↓RD,RZ,eq_self,Int.reduceToNat,Int.reduceAdd,Nat.reduceAdd,Nat.reduceSub,Nat.reduceMul,Nat.reduceLeDiff,hko]
  exact ⟨rfl,hR,AtS.refl _ _⟩
theorem zuF {lo q st:Nat} {H:Heap} {base:List Nat} (h:ChainM lo H q st base):Ok (sem T zcz [.ptr q 0]) H fun r H'=>r = .int .i64 (st:Nat) ∧ H' = H:=by
 refine zhU ?_
 unfold zfj
 obtain ⟨bv,h1,h2,h3⟩:=h.mem
 simp (disch:=omega) only [↓RD,RZ,h1]
theorem At_c_ok {lo q st n:Nat} {H:Heap} {base:List Nat} (h:ChainM lo H q st base) (hn:n ≤ 31) (hst:st ≤ n):Ok (sem T zc2 [.ptr q 0, .int .i64 (n:Nat)]) H fun r H'=>∃ v,r = .tup [v, .int .i64 0] ∧ By H.next H' v (zf4 base (n - st)) ∧ Grow H H':=by
 refine zja ?_
 unfold zgj
 obtain ⟨bv,h1,h2,h3⟩:=h.mem
 have hw:=@zca _ _ _ _ (@zlp H ((n:Nat):Int))
 rw [decide_eq_true (show 0 ≤ ((n:Nat):Int) ∧ ((n:Nat):Int) ≤ 31 by omega)] at hw
 have d:decide (((n:Nat):Int) < ((st:Nat):Int)) = false:=decide_eq_false (by omega)
 have w1:IntKind.i64.wrap (((n:Nat):Int) - ((st:Nat):Int)) = ((n - st:Nat):Int):=by rw [wrap_i64 (by omega) (by omega)]; omega
 simp (disch:=omega) only [↓RD,RZ,hw,h1,d,w1]
 refine zah (zsj h2 h.b8 h.bl (by omega)) ?_
 rintro _ H1 ⟨v,rfl,hv,s1⟩
 simp (disch:=omega) only [↓RD,RZ]
 exact ⟨v,rfl,hv,s1⟩
def keyR (R:Rc) (n t kid:Nat) (base:List Nat):Ky:=(look kid R.ks).getD (drv R.id kid n t base)
def zjJ (R:Rc) (n t kid:Nat) (base:List Nat):Rc:=match look kid R.ks with | some _=>R | none=>{ R with ks:=putl kid (drv R.id kid n t base) R.ks }
theorem key_ok {lo c n t kid:Nat} {H:Heap} {R:Rc} {bv:V} {base:List Nat} (hR:RcM H c R) (hsz:szs R.id = some (n,t)) (hk:kid < 18446744073709551616) (hb:By lo H bv base) (b8:Ok8 base) (bl:base.length ≤ 1099511627776) :
  Ok (sem T zcQ [.ptr (c + 3) 0, .int .u64 (kid:Nat),bv]) H fun r H'=>∃ k,r = .tup [.ptr k 0, .int .i64 0] ∧ KeyM H' k (keyR R n t kid base) ∧ RcM H' c (zjJ R n t kid base) ∧ AtS [c,c + 1,c + 2] H H':=by
 refine ziI ?_
 unfold zfW
 have hr:=hR.rcd
 have htop:=hR.top
 obtain ⟨lk,h3,h4⟩:=hR.ks
 simp (disch:=omega) only [↓RD,RZ,hr]
 refine zix (ek:=ekid) (a:=kid) znT (znR _) h3 ?_
 rw [zh7]
 rcases Al.look kid h4 with ⟨a,b⟩ | ⟨k,K,a,b,hK⟩
 ·have e1:keyR R n t kid base = drv R.id kid n t base:=by unfold keyR; rw [b]; rfl
  have e2:zjJ R n t kid base = { R with ks:=putl kid (drv R.id kid n t base) R.ks }:=by unfold zjJ; rw [b]
  have e3:Ax.eqr .ptr true (((none:Option Nat).map ptrv).getD .nilp) .nilp = some (.bool false):=rfl
  rw [a,e1,e2]
  simp (disch:=omega) only [↓RD,RZ,e3,hr]
  refine zah (zo5 hsz hk hb b8 bl) ?_
  rintro _ H1 ⟨s1,k,rfl,hK,hlow⟩
  have hR1:=hR.grow s1
  have hr1:=hR1.rcd
  have n1:=s1.next
  simp (disch:=omega) only [↓RD,RZ,hr1]
  obtain ⟨lk',h3',h4'⟩:=hR1.ks
  refine zkk (ek:=ekid) (a:=kid) (v:=ptrv k) znT (znR _) h3' ?_
  rw [zlb]
  simp (disch:=omega) only [↓RD,RZ]
  have a1:AtS [c,c + 1,c + 2] H1 (H1.set (c + 2) (some ⟨tyK,encM ekid (mapv ptrv (putl kid k lk')),none⟩)):=AtS.set _ (by simp) _
  have nn:∀ i,i ≠ c + 2 → (H1.set (c + 2) (some ⟨tyK,encM ekid (mapv ptrv (putl kid k lk')),none⟩)).get i = H1.get i:=fun i hi=>zak _ _ hi
  have hS:∀ i ∈ [c,c + 1,c + 2],i < c + 4 ∨ ∃ b,H1.get i = some b ∧ OddR b:=fun i hi=>by simp at hi; omega
  have hO:∀ i ∈ [c,c + 1,c + 2],∃ b,H1.get i = some b ∧ Odd b:=fun i hi=>by
   obtain ⟨b,hb,ho⟩:=hR1.odd i (by simp at hi; omega) (by simp at hi; omega)
   exact ⟨b,hb,ho.1⟩
  obtain ⟨lc,h1,h2⟩:=hR1.ch
  refine ⟨k,rfl,hK.atS a1 hO,⟨by rw [zan]; omega,(nn _ (by omega)).trans hr1,⟨lc,(nn _ (by omega)).trans h1,h2.mono fun _ _ g=>g.atS a1 hS⟩,(nn _ (by omega)).trans hR1.win,hR1.wr,⟨putl kid k lk',zaj _ _ _,?_⟩⟩,(Grow.atS s1 _).trans a1⟩
  exact Al.put (P:=fun q x=>KeyM (H1.set (c + 2) (some ⟨tyK,encM ekid (mapv ptrv (putl kid k lk')),none⟩)) q x) kid (hK.atS a1 hO) (h4'.mono fun _ _ g=>g.atS a1 hO)
 ·have e1:keyR R n t kid base = K:=by unfold keyR; rw [b]; rfl
  have e2:zjJ R n t kid base = R:=by unfold zjJ; rw [b]
  have e3:Ax.eqr .ptr true (.ptr k 0) .nilp = some (.bool true):=rfl
  have e4:((some k:Option Nat).map ptrv).getD .nilp = .ptr k 0:=rfl
  rw [a,e1,e2,e4]
  simp (disch:=omega) only [↓RD,RZ,e3]
  exact ⟨k,rfl,hK,hR,AtS.refl _ _⟩
end Go.Ax.SU
