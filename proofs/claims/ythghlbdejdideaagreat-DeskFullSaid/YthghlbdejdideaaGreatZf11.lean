/-
  Texts of mine, put together by program (wip/slim.py), for law_deskFull: part 11.
-/
import Derived.Test.YthghlbdejdideaaGreatZf10
noncomputable section
set_option linter.unusedVariables false
set_option linter.unusedSimpArgs false
set_option linter.defProp false
set_option maxRecDepth 100000
/- Dk18 -/
namespace Go.Ax.SU
open Go.Ax
def noB (i:Nat):List Nat:=zpL (noX 6 (2 + i % 2:Nat))
def otI (i:Nat):Ot:=⟨((9:Nat):Int),2,noB i⟩
def esI (i:Nat):List Ot:=(List.range (min i 32)).map otI
def nsI (i:Nat):List Nat:=(List.replicate 11 0).set 10 (i - 32)
theorem zF6 (i:Nat):(esI i).length = min i 32:=by unfold esI; rw [List.length_map,List.length_range]
theorem zC9 (i:Nat):(nsI i).getD 10 0 = i - 32:=rfl
theorem no_good (i:Nat):zrv (noX 6 (2 + i % 2:Nat)) = true:=by
 have:i % 2 = 0 ∨ i % 2 = 1:=by omega
 rcases this with h | h <;> rw [h] <;> decide
theorem say_step (i:Nat):sayE (esI i) 9 (noX 6 (2 + i % 2:Nat)) = esI (i + 1) ∧ sayN (esI i) (nsI i) (noX 6 (2 + i % 2:Nat)) = nsI (i + 1):=by
 unfold sayE sayN;rw [no_good i];simp only [if_true];unfold zzT zzS;rw [zF6];by_cases h:i < 32
 ·have h1:min i 32 < 32:=by omega
  rw [if_pos h1,if_pos h1];refine ⟨?_,?_⟩
  ·unfold esI;have e1:min i 32 = i:=by omega
   have e2:min (i + 1) 32 = i + 1:=by omega
   rw [e1,e2,List.range_succ,List.map_append];rfl
  ·unfold nsI;have e1:i - 32 = 0:=by omega
   have e2:i + 1 - 32 = 0:=by omega
   rw [e1,e2]
 ·have h1:¬ min i 32 < 32:=by omega
  rw [if_neg h1,if_neg h1];refine ⟨?_,?_⟩
  ·unfold esI;have e1:min i 32 = 32:=by omega
   have e2:min (i + 1) 32 = 32:=by omega
   rw [e1,e2]
  ·rw [zC9];unfold nsI;rw [List.set_set];congr 1;omega
theorem nobody9:zqW (fun _=>zT) ((9:Nat):Int) = none:=by decide
theorem zAZ {lo:Nat} {H:Heap} {d p C cs:Nat} {D:List V} {es:List (V × Ot)} {ns:List Nat} (h:DS lo H d p C cs 9 D (fun _=>zT) es ns) (i:Nat) (hs:ns.getD 10 0 + 1 < 4611686018427387904) {bv:V} {lb:Nat} {b:List Nat} (hb:By lb H bv b) (eb:b = if i % 2 = 0 then [2,0,0,0,0,0,0,0,0,0,0] else [3,0,1,0,0,0,0,0,0,0,0]) :
  Ok (sem T zaY [.ptr d 0,.agg [.int .i64 2,.int .i64 9,.int .i64 0,bv]]) H fun r H'=>r = .tup [.nils,.int .i64 0] ∧ H.next ≤ H'.next ∧ ∃ es',DS lo H' d p C cs 9 D (fun _=>zT) es' (sayN (es.map (·.2)) ns (noX 6 (2 + i % 2:Nat))) ∧ es'.map (·.2) = sayE (es.map (·.2)) 9 (noX 6 (2 + i % 2:Nat)):=by
 have b8:Ok8 b:=by
  rw [eb];split
  ·exact all8 rfl
  ·exact all8 rfl
 have bl:b.length ≤ 1000000:=by
  rw [eb];split <;> decide
 have hk:(rawN b).k = (2 + i % 2:Nat) ∧ zrj b = 0 ∧ Pl3 (rawN b):=by
  have:i % 2 = 0 ∨ i % 2 = 1:=by omega
  rcases this with h | h
  ·rw [eb,if_pos h,h]; exact ⟨rfl,by decide,by unfold Pl3; decide⟩
  ·rw [eb,if_neg (by omega),h]; exact ⟨rfl,by decide,by unfold Pl3; decide⟩
 obtain ⟨k1,k2,k3⟩:=hk;have vc:=hb.cells1;have vo:=hb.okc;refine zhj (zER (a:=9) 0 (Q:=fun H'=>H.next ≤ H'.next ∧ ∃ es',DS lo H' d p C cs 9 D (fun _=>zT) es' (sayN (es.map (·.2)) ns (noX 6 (2 + i % 2:Nat))) ∧ es'.map (·.2) = sayE (es.map (·.2)) 9 (noX 6 (2 + i % 2:Nat))) (by decide) vc vo fun H1 s1=>?_) fun r H' h=>h;refine zhj (zuK (h.grow s1) (hb.ext s1) b8 bl k3 k2 (by rw [k1]; omega) (by rw [k1]; omega) nobody9 hs) ?_;rintro r H' ⟨h1,h2,es',h3,h4⟩;rw [k1] at h3 h4;exact ⟨h1,by have:=s1.next; omega,es',h3,h4⟩
theorem zFV {lo:Nat} {H:Heap} {d p C cs k:Nat} {D:List V} (hk:k < 256) (h:DS lo H d p C cs 9 D (fun _=>zT) [] (List.replicate 11 0)) :
  Ok (M.iter (zcy (sem T) (.int .i64 (k:Nat)) (.ptr d 0) (.bool false)) [.int .i64 0]) H fun r H'=>r = .ex 0 [] ∧ ∃ es,DS lo H' d p C cs 9 D (fun _=>zT) es (nsI k) ∧ es.map (·.2) = esI k:=by
 refine zmg (fun i L H'=>L = [.int .i64 (i:Nat)] ∧ ∃ es,DS lo H' d p C cs 9 D (fun _=>zT) es (nsI i) ∧ es.map (·.2) = esI i) k ?_ ?_ ?_
 ·exact ⟨rfl,[],h,rfl⟩
 ·rintro i _ H1 hi ⟨rfl,es,h1,he⟩;have d1:decide (((i:Nat):Int) < ((k:Nat):Int)) = true:=decide_eq_true (by omega);have d1':decide (i < k) = true:=decide_eq_true hi;have w1:IntKind.i64.wrap (((i:Nat):Int) + 1) = ((i + 1:Nat):Int):=by rw [wrap_i64 (by omega) (by omega)]; omega
  obtain ⟨e1,e2⟩:=say_step i;rw [← he] at e1 e2;unfold zcy uL uB uc ug;have:i % 2 = 0 ∨ i % 2 = 1:=by omega
  rcases this with h0 | h0
  ·have hr:((i:Nat):Int) % 2 = 0:=by omega
   have hr':Ax.bin .rem (.int .i64 (i:Nat)) (.int .i64 2) = some (.int .i64 0):=by
    have:((i:Nat):Int).tmod 2 = 0:=by rw [Int.tmod_eq_emod_of_nonneg (by omega)]; exact hr
    simp [Ax.bin,zgt,this]
   simp (maxSteps:=1000000) (disch:=first | omega | (simp only [RY] <;> omega) | decide) only [↓RD,RZ,eq_self,Int.reduceToNat,Int.reduceAdd,Int.reduceSub,Int.reduceMul,Nat.reduceAdd,Nat.reduceSub,Nat.reduceMul,Nat.reduceDiv,Nat.reduceMod,Nat.reduceBEq,Nat.reduceLeDiff,d1,d1',hr',hr];refine za8 (zFh (k:=2) (r:=0) (s:=0) (e:=0) (n:=0) (m:=0) (b:=[]) (Lc.nil:By 0 H1 .nils []) (fun H' hb=>good_r2 hb) (by decide) (by decide) (by decide)) ?_;rintro bv H2 ⟨s2,hbv⟩;have vc:=hbv.by.cells1;have vo:=hbv.by.okc;simp (maxSteps:=1000000) (disch:=first | omega | (simp only [RY] <;> omega) | decide) only [↓RD,RZ,eq_self,Int.reduceToNat,Int.reduceAdd,Int.reduceSub,Int.reduceMul,Nat.reduceAdd,Nat.reduceSub,Nat.reduceMul,Nat.reduceDiv,Nat.reduceMod,Nat.reduceBEq,Nat.reduceLeDiff,vc,vo];refine za8 (zAZ (h1.grow s2) i (by rw [zC9]; omega) hbv.by (by rw [if_pos h0]; rfl)) ?_;rintro _ H3 ⟨rfl,n3,es',h3,he'⟩;simp (maxSteps:=1000000) (disch:=first | omega | (simp only [RY] <;> omega) | decide) only [↓RD,RZ,eq_self,Int.reduceToNat,Int.reduceAdd,Int.reduceSub,Int.reduceMul,Nat.reduceAdd,Nat.reduceSub,Nat.reduceMul,Nat.reduceDiv,Nat.reduceMod,Nat.reduceBEq,Nat.reduceLeDiff,w1];exact ⟨rfl,es',by rw [← e2]; exact h3,by rw [he',e1]⟩
  ·have hr:((i:Nat):Int) % 2 = 1:=by omega
   have hr':Ax.bin .rem (.int .i64 (i:Nat)) (.int .i64 2) = some (.int .i64 1):=by
    have:((i:Nat):Int).tmod 2 = 1:=by rw [Int.tmod_eq_emod_of_nonneg (by omega)]; exact hr
    simp [Ax.bin,zgt,this]
   simp (maxSteps:=1000000) (disch:=first | omega | (simp only [RY] <;> omega) | decide) only [↓RD,RZ,eq_self,Int.reduceToNat,Int.reduceAdd,Int.reduceSub,Int.reduceMul,Nat.reduceAdd,Nat.reduceSub,Nat.reduceMul,Nat.reduceDiv,Nat.reduceMod,Nat.reduceBEq,Nat.reduceLeDiff,d1,d1',hr',hr];refine za8 (zFh (k:=3) (r:=0) (s:=1) (e:=0) (n:=0) (m:=0) (b:=[]) (Lc.nil:By 0 H1 .nils []) (fun H' hb=>good_r3 hb) (by decide) (by decide) (by decide)) ?_;rintro bv H2 ⟨s2,hbv⟩;have vc:=hbv.by.cells1;have vo:=hbv.by.okc;simp (maxSteps:=1000000) (disch:=first | omega | (simp only [RY] <;> omega) | decide) only [↓RD,RZ,eq_self,Int.reduceToNat,Int.reduceAdd,Int.reduceSub,Int.reduceMul,Nat.reduceAdd,Nat.reduceSub,Nat.reduceMul,Nat.reduceDiv,Nat.reduceMod,Nat.reduceBEq,Nat.reduceLeDiff,vc,vo];refine za8 (zAZ (h1.grow s2) i (by rw [zC9]; omega) hbv.by (by rw [if_neg (by omega)]; rfl)) ?_;rintro _ H3 ⟨rfl,n3,es',h3,he'⟩;simp (maxSteps:=1000000) (disch:=first | omega | (simp only [RY] <;> omega) | decide) only [↓RD,RZ,eq_self,Int.reduceToNat,Int.reduceAdd,Int.reduceSub,Int.reduceMul,Nat.reduceAdd,Nat.reduceSub,Nat.reduceMul,Nat.reduceDiv,Nat.reduceMod,Nat.reduceBEq,Nat.reduceLeDiff,w1];exact ⟨rfl,es',by rw [← e2]; exact h3,by rw [he',e1]⟩
 ·rintro _ H1 ⟨rfl,es,h1,he⟩;have d1:decide (((k:Nat):Int) < ((k:Nat):Int)) = false:=decide_eq_false (by omega);have d1':decide (k < k) = false:=decide_eq_false (by omega);unfold zcy uL uB uc ug;simp (maxSteps:=1000000) (disch:=first | omega | (simp only [RY] <;> omega) | decide) only [↓RD,RZ,eq_self,Int.reduceToNat,Int.reduceAdd,Int.reduceSub,Int.reduceMul,Nat.reduceAdd,Nat.reduceSub,Nat.reduceMul,Nat.reduceDiv,Nat.reduceMod,Nat.reduceBEq,Nat.reduceLeDiff,d1,d1'];exact ⟨es,h1,he⟩
end Go.Ax.SU
/- Dk19 -/
namespace Go.Ax.SU
open Go.Ax
theorem zxR (i:Nat):noB i = [18,0,0,0,0,0,6,0,2 + i % 2,0,0]:=by
 have:i % 2 = 0 ∨ i % 2 = 1:=by omega
 unfold noB;rcases this with h | h <;> rw [h] <;> rfl
theorem zFE (i:Nat):rawN (noB i) = noX 6 (2 + i % 2:Nat):=by
 rw [zxR];have:i % 2 = 0 ∨ i % 2 = 1:=by omega
 rcases this with h | h <;> rw [h] <;> rfl
theorem at3 {lo n:Nat} {H:Heap} {v:V} {es:List (V × Ot)} (h:Lc 3 lo H v ((es.map oC).flatten) es.length) {i:Nat} (hi:i < es.length):∃ p,(∀ {k:IntKind},Ax.iaddr none 3 v (.int k (i:Nat)) = some p) ∧ Pl H p (oC es[i]) v.pid:=by
 obtain ⟨p,hp,hl⟩:=h.at (i:=(i:Nat)) (by omega) (by omega);have e:=(flat_at (k:=3) (es.map oC) (fun x hx=>by
  obtain ⟨w,hw,rfl⟩:=List.mem_map.1 hx;rfl) i (oC es[i]) (by rw [List.getElem?_map,List.getElem?_eq_getElem hi]; rfl)).1
 rw [Int.toNat_natCast,e] at hl;exact ⟨p,hp,hl⟩
theorem zEp {lo m:Nat} {H:Heap} {v:V} {es:List (V × Ot)} (hv:Lc 3 lo H v ((es.map oC).flatten) es.length) (he:∀ i (hi:i < es.length),es[i].2 = otI i) (hb:∀ e ∈ es,By m H e.1 e.2.b) (hl:es.length ≤ 32) :
  Ok (M.iter (zcx (sem T) v) [.int .i64 0]) H fun r H'=>r = .ex 2 []:=by
 refine zmg (fun i L H'=>L = [.int .i64 (i:Nat)] ∧ Grow H H') es.length ?_ ?_ ?_
 ·exact ⟨rfl,Grow.refl _⟩
 ·rintro i _ H1 hi ⟨rfl,s1⟩;have hv1:=hv.ext s1;have hvl:=hv1.vlen;have d1:decide (((i:Nat):Int) < ((es.length:Nat):Int)) = true:=decide_eq_true (by omega);have d1':decide (i < es.length) = true:=decide_eq_true hi;obtain ⟨p,hp,hpl⟩:=at3 (n:=0) hv1 hi;have fa:=@hpl.fa;have e2:=he i hi;have hbi:=(hb _ (List.getElem_mem hi)).ext s1;rw [e2] at hbi;have c0:(oC es[i])[0]? = some (.int .i64 9):=by unfold oC; rw [e2]; rfl
  have c2:(oC es[i])[2]? = some es[i].1:=rfl;have hol:(oC es[i]).length = 3:=rfl;have l2:∀ {f:V → M Res} {Q:Res → Heap → Prop},@OkB V Res (mload none (Ax.fa p 2)) H1 ⟨f⟩ ⟨Q⟩ ↔ Ok (f es[i].1) H1 Q:=fun {f Q}=>(hpl.ld (by omega)).trans (by rw [c2]; exact Iff.rfl);have w1:IntKind.i64.wrap (((i:Nat):Int) + 1) = ((i + 1:Nat):Int):=by rw [wrap_i64 (by omega) (by omega)]; omega
  generalize es[i].1 = bv at *;have hr:((i:Nat):Int) % 2 = ((i % 2:Nat):Int):=by omega
  have hr':Ax.bin .rem (.int .i64 (i:Nat)) (.int .i64 2) = some (.int .i64 (i % 2:Nat)):=by
   have:((i:Nat):Int).tmod 2 = ((i % 2:Nat):Int):=by rw [Int.tmod_eq_emod_of_nonneg (by omega)]; exact hr
   simp [Ax.bin,zgt,this]
  have w2:IntKind.i64.wrap (2 + ((i % 2:Nat):Int)) = ((2 + i % 2:Nat):Int):=by rw [wrap_i64 (by omega) (by omega)]; omega
  have b8:Ok8 (noB i):=by
   rw [zxR];intro x hx;simp at hx;omega
  have hB:By m H1 bv (noB i):=hbi;unfold zcx uL uT uFM uE uB uI uG uH uO uc ug;simp (disch:=omega) only [↓RD,RZ,hvl,d1,d1',hp,fa,l2];refine za8 (zEO hB b8 (by rw [zxR]; exact Nat.le_refl 11) (by rw [zxR]; rfl) (by rw [zxR]; show 0 * 256 + 0 ≤ 200; omega) fun H' lo' v' hv'=>?_) ?_
  ·rw [zFE];have e11:(noB i).drop 11 = []:=by rw [zxR]; rfl
   rw [e11] at hv';exact good_r18 (by omega) hv'
  ·rintro _ H2 ⟨s2,v2,rfl,hv2⟩;rw [zFE];refine zft rfl ?_;refine zft rfl ?_;refine zlI rfl rfl fun q H3 eq g3 s3 n3=>?_;unfold nC noX at g3;have hv3:=hv1.ext (s2.trans s3);obtain ⟨p3,hp3,hpl3⟩:=at3 (n:=0) hv3 hi;have ep:p3 = p:=by
    have:=(hp3 (k:=.i64)).symm.trans (hp (k:=.i64));simpa using this
   subst ep;have c0':(oC es[i])[0]? = some (.int .i64 9):=c0;have l0:∀ {f:V → M Res} {Q:Res → Heap → Prop},@OkB V Res (mload none (Ax.fa p3 0)) H3 ⟨f⟩ ⟨Q⟩ ↔ Ok (f (.int .i64 9)) H3 Q:=fun {f Q}=>(hpl3.ld (by omega)).trans (by rw [c0']; exact Iff.rfl);simp (disch:=omega) only [↓RD,RZ,g3,hr',hr,w2,beq_self_eq_true,Bool.not_true,hp,fa,l0,w1];exact s1.trans (s2.trans s3)
 ·rintro _ H1 ⟨rfl,s1⟩;have hvl:=(hv.ext s1).vlen;have d1:decide (((es.length:Nat):Int) < ((es.length:Nat):Int)) = false:=decide_eq_false (by omega);have d1':decide (es.length < es.length) = false:=decide_eq_false (by omega);unfold zcx uL uT uFM uE uB uI uG uH uO uc ug;simp (disch:=omega) only [↓RD,RZ,hvl,d1,d1']
theorem min32 (k:Nat):Ax.minmax false (.int .i64 (k:Nat)) [.int .i64 32] = some (.int .i64 (min k 32:Nat)):=by
 by_cases h:k ≤ 32
 ·have e:min k 32 = k:=by omega
  rw [e];have h':¬ ((32:Int) < (k:Nat)):=by omega
  simp [Ax.minmax,Ax.min2,h']
 ·have e:min k 32 = 32:=by omega
  rw [e];have h':((32:Int) < (k:Nat)):=by omega
  simp [Ax.minmax,Ax.min2,h']
theorem minN (a b:Nat):Ax.minmax false (.int .i64 (a:Nat)) [.int .i64 (b:Nat)] = some (.int .i64 (min a b:Nat)):=by
 by_cases h:a ≤ b
 ·have e:min a b = a:=by omega
  rw [e];have h':¬ (((b:Nat):Int) < (a:Nat)):=by omega
  simp [Ax.minmax,Ax.min2];omega
 ·have e:min a b = b:=by omega
  rw [e];simp [Ax.minmax,Ax.min2];omega
theorem max0N (k:Nat):Ax.minmax true (.int .i64 0) [.int .i64 (((k:Nat):Int) - 32)] = some (.int .i64 (k - 32:Nat)):=by
 by_cases h:32 < k
 ·have h':(0:Int) < ((k:Nat):Int) - 32:=by omega
  have e:((k - 32:Nat):Int) = ((k:Nat):Int) - 32:=by omega
  rw [e];simp [Ax.minmax,Ax.min2];omega
 ·have e:((k - 32:Nat):Int) = 0:=by omega
  rw [e];simp [Ax.minmax,Ax.min2];omega
theorem full_ok {k t:Nat} (hk:k < 256) (ht:t < 256):Ok (sem T zcI [.int .u8 (k:Nat),.int .u8 (t:Nat)]) H0 fun r H'=>r = .bool true:=by
 refine zkG ?_;unfold zgv uL uE uB uG uH uc ub;obtain ⟨d,D,p,C,cs,H1,H2,hn,ha,hds⟩:=pre_ds (a:=9) (by decide) pre_9;refine zbO ⟨_,_,hn,?_⟩;refine zbO ⟨_,_,ha,?_⟩;have e1:Ax.eqr .ptr false (.ptr d 0) .nilp = some (.bool false):=rfl;have ck:IntKind.i64.wrap ((k:Nat):Int) = ((k:Nat):Int):=wrap_i64 (by omega) (by omega);simp (maxSteps:=1000000) (disch:=first | omega | (simp only [RY] <;> omega) | decide) only [↓RD,RZ,eq_self,Int.reduceToNat,Int.reduceAdd,Int.reduceSub,Int.reduceMul,Nat.reduceAdd,Nat.reduceSub,Nat.reduceMul,Nat.reduceDiv,Nat.reduceMod,Nat.reduceBEq,Nat.reduceLeDiff,e1,ck];refine zhj (zFV hk hds) ?_;rintro _ H3 ⟨rfl,es,h3,he⟩;obtain ⟨lv,g1,g2,g3⟩:=h3.qm.mem;have hlow:=h3.qm.low;have htop:=h3.qm.top;have hel:es.length = min k 32:=by
  have:=congrArg List.length he;rw [List.length_map,zF6] at this;exact this
 have hat:∀ i (hi:i < es.length),es[i].2 = otI i:=fun i hi=>by
  have h1:(es.map (·.2))[i]? = some es[i].2:=by rw [List.getElem?_map,List.getElem?_eq_getElem hi]; rfl
  rw [he] at h1;unfold esI at h1;rw [List.getElem?_map,List.getElem?_range (by omega)] at h1;injection h1 with h1
  exact h1.symm
 have hlp:lv.pid ≠ some p:=fun h=>by have:=(g2.lc.own p h).1; omega
 have hw:=@zbY _ _ _ _ (show Ok (sem T zaU [.ptr d 0,.int .i64 9]) H3 _ from zDu h3.dt g1 g2.lc.vlen);have hc:=@zbY _ _ _ _ (show Ok (sem T zbb [.ptr d 0,.int .i64 10]) H3 _ from Count_ok h3 (i:=10) (by decide));rw [zC9] at hc;have m1:=min32 k;have m2:=max0N k;have w32:IntKind.i64.wrap (((k:Nat):Int) - 32) = ((k:Nat):Int) - 32:=wrap_i64 (by omega) (by omega);have hr:Ax.bin .rem (.int .u8 (t:Nat)) (.int .u8 33) = some (.int .u8 (t % 33:Nat)):=by
  have:((t:Nat):Int).tmod 33 = ((t % 33:Nat):Int):=by rw [Int.tmod_eq_emod_of_nonneg (by omega)]; omega
  simp [Ax.bin,zgt,this]
 have hr':((t:Nat):Int) % 33 = ((t % 33:Nat):Int):=by omega
 have c33:IntKind.i64.wrap ((t % 33:Nat):Int) = ((t % 33:Nat):Int):=wrap_i64 (by omega) (by omega);generalize hm:t % 33 = m at *;have hm32:m ≤ 32:=by omega
 rw [hel] at hw;simp (maxSteps:=1000000) (disch:=first | omega | (simp only [RY] <;> omega) | decide) only [↓RD,RZ,eq_self,Int.reduceToNat,Int.reduceAdd,Int.reduceSub,Int.reduceMul,Nat.reduceAdd,Nat.reduceSub,Nat.reduceMul,Nat.reduceDiv,Nat.reduceMod,Nat.reduceBEq,Nat.reduceLeDiff,hw,hc,m1,m2,w32,hr,hr',c33,beq_self_eq_true,Bool.not_true];have hcell:∀ e ∈ es,e.1.cells = [e.1] ∧ e.1.okc = true:=fun e hh=>⟨(h3.qm.each e hh).cells1,(h3.qm.each e hh).okc⟩;refine za8 (zEQ (a:=9) (n:=m) (bv:=.nils) (Q:=fun r H'=>∃ H4,Grow H3 H4 ∧ AtS [p] H4 H' ∧ Lc 3 H4.next H' r (((es.take m).map oC).flatten) (es.take m).length ∧ ∃ lv',H'.get p = some ⟨tyPo,[.int .i64 32,lv'],none⟩ ∧ Ax.vlen lv' = some (.int .i64 ((es.drop m).length:Nat))) (by decide) hm32 rfl rfl fun H4 s4=>?_) ?_
 ·have h4:=h3.grow s4;obtain ⟨lv4,k1,k2,k3⟩:=h4.qm.mem;refine zhj (taken_ok (n:=m) h4.dt k1 k2.lc (fun h=>by have:=(k2.lc.own p h).1; omega) hcell hm32 h4.qm.le) ?_;rintro r H' ⟨a1,a2,a3⟩;exact ⟨H4,s4,a1,a2,a3⟩
 ·rintro _ H5 ⟨v,rfl,H4,s4,a5,hv,lv5,g5,hl5⟩;have h4:=h3.grow s4;have hvl:=hv.vlen;have htl:(es.take m).length = min m (min k 32):=by rw [List.length_take,hel]
  have hdl:(es.drop m).length = min k 32 - min m (min k 32):=by rw [List.length_drop,hel]; omega
  have m3:=minN m (min k 32);have hw5:=@zbY _ _ _ _ (show Ok (sem T zaU [.ptr d 0,.int .i64 9]) H5 _ from zDu (h4.dt.atS a5) g5 hl5);rw [hdl] at hw5;rw [htl] at hvl;have ws:IntKind.i64.wrap (((min k 32:Nat):Int) - ((min m (min k 32):Nat):Int)) = ((min k 32 - min m (min k 32):Nat):Int):=by rw [wrap_i64 (by omega) (by omega)]; omega
  have hbs:∀ e ∈ es.take m,By H2.next H5 e.1 e.2.b:=fun e hh=>by
   have hq:=h4.qm.each e (List.mem_of_mem_take hh);exact Lc.atS hq a5 fun i hi h=>by
    have:=(hq.own i hi).1;simp only [List.mem_singleton] at h;omega
  simp (maxSteps:=1000000) (disch:=first | omega | (simp only [RY] <;> omega) | decide) only [↓RD,RZ,eq_self,Int.reduceToNat,Int.reduceAdd,Int.reduceSub,Int.reduceMul,Nat.reduceAdd,Nat.reduceSub,Nat.reduceMul,Nat.reduceDiv,Nat.reduceMod,Nat.reduceBEq,Nat.reduceLeDiff,hvl,m1,m3,hw5,ws,beq_self_eq_true,Bool.not_true];refine zhj (zEp hv (fun i hi=>by rw [List.getElem_take]; exact hat i (by rw [List.length_take] at hi; omega)) hbs (by rw [htl]; omega)) ?_;rintro _ H6 rfl;simp (maxSteps:=1000000) (disch:=first | omega | (simp only [RY] <;> omega) | decide) only [↓RD,RZ,eq_self,Int.reduceToNat,Int.reduceAdd,Int.reduceSub,Int.reduceMul,Nat.reduceAdd,Nat.reduceSub,Nat.reduceMul,Nat.reduceDiv,Nat.reduceMod,Nat.reduceBEq,Nat.reduceLeDiff]
end Go.Ax.SU
namespace Go.Ax
open SU
theorem law_deskFull (us:List V) (h:zGy [.int .u8,.int .u8] us):∃ H',sem T zcI us H0 = some (.bool true,H'):=by
 obtain ⟨a1,a2,rfl⟩:∃ a1 a2,us = [a1,a2]:=by
  rcases us with _ | ⟨a1,_ | ⟨a2,_ | ⟨a3,us⟩⟩⟩
  ·cases h
  ·cases h.2
  ·exact ⟨a1,a2,rfl⟩
  ·cases h.2.2
 obtain ⟨n,hn,hn'⟩:=sh_u8 h.1;obtain ⟨t,ht,ht'⟩:=sh_u8 h.2.1;cases hn; cases ht;obtain ⟨r,H',h1,rfl⟩:=full_ok hn' ht';exact ⟨H',h1⟩
end Go.Ax
