/-
  Texts of mine, put together by program (wip/slim.py), for law_deskDrops: part 11.
-/
import Derived.Test.YthghlbdejdideaaGreatZp10
noncomputable section
set_option linter.unusedVariables false
set_option linter.unusedSimpArgs false
set_option linter.defProp false
set_option maxRecDepth 100000
/- Rc17 -/
namespace Go.Ax.SU
open Go.Ax
theorem pext_err {r:List Nat} {e:Int} (h:R7.pext r = .error e):e = 2 ∨ e = 3:=by
 unfold R7.pext at h;by_cases h1:r.length < 4
 ·rw [if_pos h1] at h; cases h; exact .inr rfl
 rw [if_neg h1] at h;by_cases h2:r.length < 4 + 4 * R7.be (R7.piece r 2 2)
 ·rw [if_pos h2] at h; cases h; exact .inr rfl
 rw [if_neg h2] at h;by_cases h3:R7.be (R7.piece r 0 2) ≠ 48862 ∧ R7.be (R7.piece r 0 2) ≠ 4096
 ·rw [if_pos h3] at h; cases h; exact .inl rfl
 rw [if_neg h3] at h;split at h
 ·cases h; exact .inl rfl
 ·cases h
theorem zns {b:List Nat} {e:Int} (h:R7.parse b = .error e):e = 2 ∨ e = 3 ∨ e = 4:=by
 unfold R7.parse at h;by_cases h1:1200 < b.length
 ·rw [if_pos h1] at h; cases h; exact .inr (.inr rfl)
 rw [if_neg h1] at h;by_cases h2:b.length < 12
 ·rw [if_pos h2] at h; cases h; exact .inr (.inl rfl)
 rw [if_neg h2] at h;by_cases h3:b.getD 0 0 / 64 ≠ 2
 ·rw [if_pos h3] at h; cases h; exact .inl rfl
 rw [if_neg h3] at h;by_cases h4:b.length < 12 + 4 * R7.csn b
 ·rw [if_pos h4] at h; cases h; exact .inr (.inl rfl)
 rw [if_neg h4] at h;cases hp:R7.pextOf b with
 | error e' =>
  rw [hp] at h;cases h;unfold R7.pextOf at hp;split at hp
  ·rcases pext_err hp with rfl | rfl
   ·exact .inl rfl
   ·exact .inr (.inl rfl)
  ·cases hp
 | ok x =>
  rw [hp] at h;obtain ⟨prof,xs,n⟩:=x;simp only at h;split at h
  ·split at h
   ·cases h; exact .inl rfl
   ·cases h
  ·cases h
def zS1:List V:=[V.bool false,V.int .u32 0,V.int .i64 0,V.int .i64 0,V.int .i64 0,V.nils,V.int .i64 0,V.nils,V.nils,V.int .u32 0,V.nils]
theorem st_at {j:Nat} (hj:j < 3):Ax.index 3 11 (some 11) (.agg zSt) (.int .i64 (j:Nat)) = some (.agg zS1):=by
 have:j = 0 ∨ j = 1 ∨ j = 2:=by omega
 rcases this with rfl | rfl | rfl <;> rfl
theorem source_z {K:Kd} {H:Heap} {L:Nat → V} {rm:Nat → Rm} {Q:Nat → List Ot} {ns:List Nat} {nw:Int} (hh:DW K H L rm Q ns nw) (hz:ZK K) {i s:Nat} (hi:i < 4) (hs:s < 8) (x:V) :
  Ok (sem T zcv [.ptr K.d (i * 367),.int .i64 (s:Nat),x]) H fun r H'=>r = .tup [.int .i64 0,.bool false] ∧ Grow H H':=by
 refine zhL ?_;unfold zfo uS uNF uI uc;obtain ⟨D,q,h,hQ⟩:=hh;have g:=h.blk;have hl:=h.sts hz hi hs;have ia:=fun {k}=>@ia8m K.d (i * 367 + 39) s 33 hs k;simp (maxSteps:=1000000) (disch:=first | omega | (simp only [RY] <;> omega) | decide) only [↓RD,RZ,eq_self,Int.reduceToNat,Int.reduceAdd,Int.reduceSub,Int.reduceMul,Nat.reduceAdd,Nat.reduceSub,Nat.reduceMul,Nat.reduceDiv,Nat.reduceMod,Nat.reduceBEq,Nat.reduceLeDiff,g,hl,ia];refine zau (Q:=fun r H'=>r = .ex 0 [] ∧ Grow H H') ?_ ?_
 ·refine zaV (fun j L H'=>L = [.int .i64 (j:Nat)] ∧ Grow H H') 3 ⟨rfl,Grow.refl _⟩ ?_ ?_
  ·rintro j _ H1 hj ⟨rfl,s1⟩;have d1:decide (((j:Nat):Int) < 3) = true:=decide_eq_true (by omega);have d1':decide (j < 3) = true:=decide_eq_true hj;have w1:IntKind.i64.wrap (((j:Nat):Int) + 1) = ((j + 1:Nat):Int):=by rw [wrap_i64 (by omega) (by omega)]; omega
   have n:=st_at hj;unfold zc9 uL uT uFM uB uG uH uO uc ug;unfold zS1 at n;simp (maxSteps:=1000000) (disch:=first | omega | (simp only [RY] <;> omega) | decide) only [↓RD,RZ,eq_self,Int.reduceToNat,Int.reduceAdd,Int.reduceSub,Int.reduceMul,Nat.reduceAdd,Nat.reduceSub,Nat.reduceMul,Nat.reduceDiv,Nat.reduceMod,Nat.reduceBEq,Nat.reduceLeDiff,d1,d1',n,w1];exact s1.trans ((Grow.new _ _).set (Nat.le_refl _) _)
  ·rintro _ H1 ⟨rfl,s1⟩;unfold zc9 uL uT uFM uB uG uH uO uc ug;simp (maxSteps:=1000000) (disch:=first | omega | (simp only [RY] <;> omega) | decide) only [↓RD,RZ,eq_self,Int.reduceToNat,Int.reduceAdd,Int.reduceSub,Int.reduceMul,Nat.reduceAdd,Nat.reduceSub,Nat.reduceMul,Nat.reduceDiv,Nat.reduceMod,Nat.reduceBEq,Nat.reduceLeDiff];exact s1
 ·rintro _ H1 ⟨rfl,s1⟩;simp (maxSteps:=1000000) (disch:=first | omega | (simp only [RY] <;> omega) | decide) only [↓RD,RZ,eq_self,Int.reduceToNat,Int.reduceAdd,Int.reduceSub,Int.reduceMul,Nat.reduceAdd,Nat.reduceSub,Nat.reduceMul,Nat.reduceDiv,Nat.reduceMod,Nat.reduceBEq,Nat.reduceLeDiff];exact s1
def oddN (b:List Nat):Nat:=match R7.parse b with | .error _=>3 | .ok _=>4
theorem zkA (b:List Nat):oddN b = 3 ∨ oddN b = 4:=by
 unfold oddN;cases R7.parse b with
 | error e=>exact .inl rfl
 | ok p=>exact .inr rfl
def pkZ:List V:=[.bool false,.int .i64 0,.int .u16 0,.int .u32 0,.int .u32 0,.nils,.int .i64 0,.nils,.int .i64 0,.nils,.int .i64 0,.int .i64 0,.bool false,.bool false,.int .i64 0,.int .u16 0,.bool false,.int .i64 0,.int .i64 0,.nils,.int .i64 0,.nils,.nils,.bool false,.int .u32 0,.bool false,.bool false,.bool false,.nils,.nils,.nils]
theorem packet_z {K:Kd} {H:Heap} {L:Nat → V} {rm:Nat → Rm} {Q:Nat → List Ot} {ns:List Nat} {nw:Int} {bv:V} {b:List Nat} {lb:Nat} (hh:DW K H L rm Q ns nw) (hz:ZK K) {i s:Nat} (hi:i < 4) (hs:s < 8) (hb:By lb H bv b) (h8:Ok8 b) (hl:b.length ≤ 1200) :
  Ok (sem T zcw [.ptr K.d (i * 367),.int .i64 (s:Nat),bv]) H fun r H'=>r = .tup [.agg pkZ,.int .i64 (oddN b:Nat)] ∧ Grow H H':=by
 refine zhM ?_;unfold zfp uL uS uT uF uFM uNF uE uB uI uG uH uO uc;refine zam (zaR rfl ?_);rw [zai];have s0:=Grow.new H ⟨zcz,[.bool false,.int .i64 0,.int .u16 0,.int .u32 0,.int .u32 0,.nils,.int .i64 0,.nils,.int .i64 0,.nils,.int .i64 0,.int .i64 0,.bool false,.bool false,.int .i64 0,.int .u16 0,.bool false,.int .i64 0,.int .i64 0,.nils,.int .i64 0,.nils,.nils,.bool false,.int .u32 0,.bool false,.bool false,.bool false,.nils,.nils,.nils],none⟩;have g0:(H.new ⟨zcz,[.bool false,.int .i64 0,.int .u16 0,.int .u32 0,.int .u32 0,.nils,.int .i64 0,.nils,.int .i64 0,.nils,.int .i64 0,.int .i64 0,.bool false,.bool false,.int .i64 0,.int .u16 0,.bool false,.int .i64 0,.int .i64 0,.nils,.int .i64 0,.nils,.nils,.bool false,.int .u32 0,.bool false,.bool false,.bool false,.nils,.nils,.nils],none⟩).get H.next = some ⟨zcz,[.bool false,.int .i64 0,.int .u16 0,.int .u32 0,.int .u32 0,.nils,.int .i64 0,.nils,.int .i64 0,.nils,.int .i64 0,.int .i64 0,.bool false,.bool false,.int .i64 0,.int .u16 0,.bool false,.int .i64 0,.int .i64 0,.nils,.int .i64 0,.nils,.nils,.bool false,.int .u32 0,.bool false,.bool false,.bool false,.nils,.nils,.nils],none⟩:=zad _ _;have n0:(H.new ⟨zcz,[.bool false,.int .i64 0,.int .u16 0,.int .u32 0,.int .u32 0,.nils,.int .i64 0,.nils,.int .i64 0,.nils,.int .i64 0,.int .i64 0,.bool false,.bool false,.int .i64 0,.int .u16 0,.bool false,.int .i64 0,.int .i64 0,.nils,.int .i64 0,.nils,.nils,.bool false,.int .u32 0,.bool false,.bool false,.bool false,.nils,.nils,.nils],none⟩).next = H.next + 1:=zag _ _;generalize hq:H.next = q6 at *;generalize H.new _ = H1 at *;have h1:=hh.grow s0;refine zac (R7.Parse_ok (hb.ext s0) h8 (by omega)) ?_;rintro res H2 ⟨s2,hP⟩;have h2:=h1.grow s2;have n2:=s2.next;unfold oddN;cases hp:R7.parse b with
 | error e =>
  rw [hp] at hP;subst hP;have ne:(e == 0) = false:=beq_false_of_ne (by rcases zns hp with rfl | rfl | rfl <;> decide);unfold R7.zeroC;have g2:=(s2.same q6 (by omega)).trans g0;simp (maxSteps:=1000000) (disch:=first | omega | (simp only [RY] <;> omega) | decide) only [↓RD,RZ,eq_self,Int.reduceToNat,Int.reduceAdd,Int.reduceSub,Int.reduceMul,Nat.reduceAdd,Nat.reduceSub,Nat.reduceMul,Nat.reduceDiv,Nat.reduceMod,Nat.reduceBEq,Nat.reduceLeDiff,ne,g2];exact ⟨rfl,((s0.trans s2).trans ((Grow.new _ _).set (Nat.le_refl _) _)).set (by omega) _⟩
 | ok p =>
  rw [hp] at hP;obtain ⟨z,rfl,cv,xv,pv,rfl,l1,l2,l3⟩:=hP;have ok:(V.agg (R7.pcells p cv xv pv)).okc = true:=by simp [V.okc,R7.pcells,l1.okc,l2.okc,l3.okc]
  unfold R7.pcells at ok ⊢;simp (maxSteps:=1000000) (disch:=first | omega | (simp only [RY] <;> omega) | decide) only [↓RD,RZ,eq_self,Int.reduceToNat,Int.reduceAdd,Int.reduceSub,Int.reduceMul,Nat.reduceAdd,Nat.reduceSub,Nat.reduceMul,Nat.reduceDiv,Nat.reduceMod,Nat.reduceBEq,Nat.reduceLeDiff,ok];generalize hHH:Heap.set _ H2.next _ = HH;have sH:Grow H2 HH:=by rw [← hHH]; exact (Grow.new H2 _).set (Nat.le_refl _) _
  clear hHH;refine zac (source_z (h2.grow sH) hz hi hs _) ?_;rintro _ H3 ⟨rfl,s3⟩;have s13:=s2.trans (sH.trans s3);have g3:=(s13.same q6 (by omega)).trans g0;simp (maxSteps:=1000000) (disch:=first | omega | (simp only [RY] <;> omega) | decide) only [↓RD,RZ,eq_self,Int.reduceToNat,Int.reduceAdd,Int.reduceSub,Int.reduceMul,Nat.reduceAdd,Nat.reduceSub,Nat.reduceMul,Nat.reduceDiv,Nat.reduceMod,Nat.reduceBEq,Nat.reduceLeDiff,g3];exact ⟨rfl,(s0.trans s13).set (by omega) _⟩
def isR (b:List Nat):Bool:=decide (2 ≤ b.length) && (decide (192 ≤ b.getD 1 0) && decide (b.getD 1 0 ≤ 223))
def dgN (ns:List Nat) (b:List Nat):List Nat:=if isR b then repsN ns b else ns.set (oddN b) (ns.getD (oddN b) 0 + 1)
theorem zqR {lb a i s:Nat} {K:Kd} {H:Heap} {L:Nat → V} {rm:Nat → Rm} {Q:Nat → List Ot} {ns:List Nat} {nw:Int} {bv:V} {b:List Nat} (hh:DW K H L rm Q ns nw) (hz:ZK K) (hb:∀ H,By lb H bv b) (h8:Ok8 b) (hl:b.length ≤ 1200) (hw:zeQ (fun i=>(rm i).t) (a:Nat) = some (i,s)) (hi:i < 4) (hs:s < 8) (hg:RmG (rm i)) (h3:ns.getD 3 0 < 1000000) (h4:ns.getD 4 0 < 1000000) :
  Ok (sem T zaW [.ptr K.d 0,.int .i64 (a:Nat),bv]) H fun r H'=>r = .tup [] ∧ FrD K.lo L L H H' ∧ DW K H' L (upd rm i (ze5 (rm i) (a:Nat) nw)) Q (dgN ns b) nw:=by
 refine zcQ ?_;unfold zcc uL uS uT uNFM uE uB uO uc;obtain ⟨D,q,hd,hQ⟩:=id hh;have hdl:=hd.dl;have htop:=hd.pm.top;have hv:=(hb H).vlen;have d1:decide ((1200:Int) < ((b.length:Nat):Int)) = false:=decide_eq_false (by omega);have d1':decide (1200 < b.length) = false:=decide_eq_false (by omega);simp (maxSteps:=1000000) (disch:=first | omega | (simp only [RY] <;> omega) | decide) only [↓RD,RZ,eq_self,Int.reduceToNat,Int.reduceAdd,Int.reduceSub,Int.reduceMul,Nat.reduceAdd,Nat.reduceSub,Nat.reduceMul,Nat.reduceDiv,Nat.reduceMod,Nat.reduceBEq,Nat.reduceLeDiff,hv,d1,d1'];refine zac (zj3 hd.tb (by omega) (a:Nat)) ?_;rintro _ H1 ⟨rfl,s1⟩;rw [hw];unfold wv;simp (maxSteps:=1000000) (disch:=first | omega | (simp only [RY] <;> omega) | decide) only [↓RD,RZ,eq_self,Int.reduceToNat,Int.reduceAdd,Int.reduceSub,Int.reduceMul,Nat.reduceAdd,Nat.reduceSub,Nat.reduceMul,Nat.reduceDiv,Nat.reduceMod,Nat.reduceBEq,Nat.reduceLeDiff,Bool.not_true];refine zac (zpD (hh.grow s1) hi hg (a:Nat)) ?_;rintro _ H2 ⟨rfl,f2,h2⟩;have f12:=(s1.frD K.lo L).trans f2;have is:=@zaK _ _ _ _ (zta (hb H2) (by omega));unfold dgN isR;cases hR:(decide (2 ≤ b.length) && (decide (192 ≤ b.getD 1 0) && decide (b.getD 1 0 ≤ 223))) with
 | true =>
  rw [hR] at is;rw [if_pos rfl];simp (maxSteps:=1000000) (disch:=first | omega | (simp only [RY] <;> omega) | decide) only [↓RD,RZ,eq_self,Int.reduceToNat,Int.reduceAdd,Int.reduceSub,Int.reduceMul,Nat.reduceAdd,Nat.reduceSub,Nat.reduceMul,Nat.reduceDiv,Nat.reduceMod,Nat.reduceBEq,Nat.reduceLeDiff,is];have h0:0 < b.length:=by
   rw [Bool.and_eq_true] at hR;have:=of_decide_eq_true hR.1;omega
  refine zac (zrD h2 hz hi hs (hb H2) h8 hl h0 h4 h3) ?_;rintro _ H3 ⟨rfl,f3,h3⟩;simp (maxSteps:=1000000) (disch:=first | omega | (simp only [RY] <;> omega) | decide) only [↓RD,RZ,eq_self,Int.reduceToNat,Int.reduceAdd,Int.reduceSub,Int.reduceMul,Nat.reduceAdd,Nat.reduceSub,Nat.reduceMul,Nat.reduceDiv,Nat.reduceMod,Nat.reduceBEq,Nat.reduceLeDiff];exact ⟨rfl,f12.trans f3,h3⟩
 | false =>
  rw [hR] at is;rw [if_neg (by decide)];simp (maxSteps:=1000000) (disch:=first | omega | (simp only [RY] <;> omega) | decide) only [↓RD,RZ,eq_self,Int.reduceToNat,Int.reduceAdd,Int.reduceSub,Int.reduceMul,Nat.reduceAdd,Nat.reduceSub,Nat.reduceMul,Nat.reduceDiv,Nat.reduceMod,Nat.reduceBEq,Nat.reduceLeDiff,is];refine zac (packet_z h2 hz hi hs (hb H2) h8 hl) ?_;rintro _ H3 ⟨rfl,s3⟩;have h3':=h2.grow s3;have sH:∀ {bb:Blk} {b':Option Blk},Grow H3 ((H3.new bb).set H3.next b'):=fun {bb b'}=>(Grow.new H3 bb).set (Nat.le_refl _) _;have ne:((((oddN b:Nat):Int)) == 0) = false:=by rcases zkA b with h | h <;> rw [h] <;> rfl
  have ne':(oddN b == 0) = false:=by rcases zkA b with h | h <;> rw [h] <;> rfl
  unfold pkZ;obtain ⟨D4,q4,hd4,-⟩:=id h3';have g4:=hd4.blk;have hco:=hd4.co;have hlt:K.d < H3.next:=by have:=h3'.lo; have:=hd4.dl; omega
  have nn:K.d ≠ H3.next:=by omega
  simp (maxSteps:=1000000) (disch:=first | omega | (simp only [RY] <;> omega) | decide) only [↓RD,RZ,eq_self,Int.reduceToNat,Int.reduceAdd,Int.reduceSub,Int.reduceMul,Nat.reduceAdd,Nat.reduceSub,Nat.reduceMul,Nat.reduceDiv,Nat.reduceMod,Nat.reduceBEq,Nat.reduceLeDiff,ne,ne',g4,hco,nn];generalize hHH:Heap.set _ H3.next _ = HH;have sHH:Grow H3 HH:=by rw [← hHH]; exact sH
  clear hHH;have h5:=h3'.grow sHH;obtain ⟨D5,q5,hd5,-⟩:=id h5;refine zac (zjO (i:=oddN b) hd5.cm hd5.Cc (by rcases zkA b with h | h <;> rw [h] <;> decide) (by rcases zkA b with h | h <;> rw [h] <;> omega)) ?_;rintro _ H6 ⟨rfl,a6,hc6⟩;simp (maxSteps:=1000000) (disch:=first | omega | (simp only [RY] <;> omega) | decide) only [↓RD,RZ,eq_self,Int.reduceToNat,Int.reduceAdd,Int.reduceSub,Int.reduceMul,Nat.reduceAdd,Nat.reduceSub,Nat.reduceMul,Nat.reduceDiv,Nat.reduceMod,Nat.reduceBEq,Nat.reduceLeDiff];exact ⟨rfl,f12.trans (((s3.trans sHH).frD _ _).trans (FrD.low a6 L fun k hk=>by simp only [List.mem_singleton] at hk; subst hk; exact hd5.cl)),h5.one a6 hc6⟩
end Go.Ax.SU
/- Rc18 -/
namespace Go.Ax.SU
open Go.Ax
def sumN (ns:List Nat) (j:Nat):Nat:=((List.range j).map fun i=>ns.getD (i + 1) 0).sum
theorem znh (ns:List Nat) (j:Nat):sumN ns (j + 1) = sumN ns j + ns.getD (j + 1) 0:=by unfold sumN; rw [List.range_succ,List.map_append,List.sum_append]; simp
theorem sumN_le {ns:List Nat} (h:∀ i,ns.getD i 0 ≤ 100000000) (j:Nat):sumN ns j ≤ j * 100000000:=by
 induction j with
 | zero=>rw [Nat.zero_mul]; exact Nat.le_refl 0
 | succ j ih=>rw [znh,Nat.succ_mul]; exact Nat.add_le_add ih (h (j + 1))
theorem zl7 {K:Kd} {H:Heap} {L:Nat → V} {rm:Nat → Rm} {Q:Nat → List Ot} {ns:List Nat} {nw:Int} (hh:DW K H L rm Q ns nw) (hs:∀ i,ns.getD i 0 ≤ 100000000) :
  Ok (sem T zbk [.ptr K.d 0]) H fun r H'=>r = .int .i64 (sumN ns 10:Nat) ∧ H' = H:=by
 refine zfz ?_;unfold zdv uc ug;simp (maxSteps:=1000000) (disch:=first | omega | (simp only [RY] <;> omega) | decide) only [↓RD,RZ,eq_self,Int.reduceToNat,Int.reduceAdd,Int.reduceSub,Int.reduceMul,Nat.reduceAdd,Nat.reduceSub,Nat.reduceMul,Nat.reduceDiv,Nat.reduceMod,Nat.reduceBEq,Nat.reduceLeDiff];refine zau (Q:=fun r H'=>r = .ex 0 [.int .i64 (sumN ns 10:Nat)] ∧ H' = H) ?_ ?_
 ·refine zaV (fun j L0 H'=>L0 = [.int .i64 (sumN ns j:Nat),.int .i64 (j + 1:Nat)] ∧ H' = H) 10 ⟨rfl,rfl⟩ ?_ ?_
  ·rintro j _ H' hj ⟨rfl,rfl⟩;have d1:decide (((j + 1:Nat):Int) ≤ 10) = true:=decide_eq_true (by omega);have d1':decide (j + 1 ≤ 10) = true:=decide_eq_true (by omega);have w1:IntKind.i64.wrap (((j + 1:Nat):Int) + 1) = ((j + 1 + 1:Nat):Int):=by rw [wrap_i64 (by omega) (by omega)]; omega
   have hS:=sumN_le hs j;have hj1:=hs (j + 1);have es:=znh ns j;have wc:=@zaK _ _ _ _ (zhm (i:=j + 1) hh (by omega));generalize sumN ns j = x at *;generalize ns.getD (j + 1) 0 = y at *;have w2:IntKind.i64.wrap (((x:Nat):Int) + ((y:Nat):Int)) = ((x + y:Nat):Int):=by rw [wrap_i64 (by omega) (by omega)]; omega
   rw [es];unfold zbO uB uc ug;simp (maxSteps:=1000000) (disch:=first | omega | (simp only [RY] <;> omega) | decide) only [↓RD,RZ,eq_self,Int.reduceToNat,Int.reduceAdd,Int.reduceSub,Int.reduceMul,Nat.reduceAdd,Nat.reduceSub,Nat.reduceMul,Nat.reduceDiv,Nat.reduceMod,Nat.reduceBEq,Nat.reduceLeDiff,d1,d1',wc,w1,w2]
  ·rintro _ H' ⟨rfl,rfl⟩;unfold zbO uB uc ug;simp (maxSteps:=1000000) (disch:=first | omega | (simp only [RY] <;> omega) | decide) only [↓RD,RZ,eq_self,Int.reduceToNat,Int.reduceAdd,Int.reduceSub,Int.reduceMul,Nat.reduceAdd,Nat.reduceSub,Nat.reduceMul,Nat.reduceDiv,Nat.reduceMod,Nat.reduceBEq,Nat.reduceLeDiff]
 ·rintro _ H' ⟨rfl,rfl⟩;simp (maxSteps:=1000000) (disch:=first | omega | (simp only [RY] <;> omega) | decide) only [↓RD,RZ,eq_self,Int.reduceToNat,Int.reduceAdd,Int.reduceSub,Int.reduceMul,Nat.reduceAdd,Nat.reduceSub,Nat.reduceMul,Nat.reduceDiv,Nat.reduceMod,Nat.reduceBEq,Nat.reduceLeDiff]
theorem zmZ {a lb:Nat} {K:Kd} {H:Heap} {L:Nat → V} {rm:Nat → Rm} {Q:Nat → List Ot} {ns:List Nat} {nw:Int} {bv:V} {b:List Nat} (hh:DW K H L rm Q ns nw) (hb:By lb H bv b) (hl:1200 < b.length) (hs:ns.getD 1 0 + 1 < 4611686018427387904) :
  Ok (sem T zaW [.ptr K.d 0,.int .i64 (a:Nat),bv]) H fun r H'=>r = .tup [] ∧ FrD K.lo L L H H' ∧ DW K H' L rm Q (ns.set 1 (ns.getD 1 0 + 1)) nw:=by
 refine zcQ ?_;unfold zcc uL uS uT uNFM uE uB uO uc;obtain ⟨D,q,hd,hQ⟩:=id hh;have hv:=hb.vlen;have d1:decide ((1200:Int) < ((b.length:Nat):Int)) = true:=decide_eq_true (by omega);have d1':decide (1200 < b.length) = true:=decide_eq_true (by omega);have g1:=hd.blk;have hco:=hd.co;simp (maxSteps:=1000000) (disch:=first | omega | (simp only [RY] <;> omega) | decide) only [↓RD,RZ,eq_self,Int.reduceToNat,Int.reduceAdd,Int.reduceSub,Int.reduceMul,Nat.reduceAdd,Nat.reduceSub,Nat.reduceMul,Nat.reduceDiv,Nat.reduceMod,Nat.reduceBEq,Nat.reduceLeDiff,hv,d1,d1',g1,hco];refine zac (zjO (i:=1) hd.cm hd.Cc (by decide) hs) ?_;rintro _ H2 ⟨rfl,a2,hc2⟩;simp (maxSteps:=1000000) (disch:=first | omega | (simp only [RY] <;> omega) | decide) only [↓RD,RZ,eq_self,Int.reduceToNat,Int.reduceAdd,Int.reduceSub,Int.reduceMul,Nat.reduceAdd,Nat.reduceSub,Nat.reduceMul,Nat.reduceDiv,Nat.reduceMod,Nat.reduceBEq,Nat.reduceLeDiff];exact ⟨rfl,FrD.low a2 L fun k hk=>by simp only [List.mem_singleton] at hk; subst hk; exact hd.cl,hh.one a2 hc2⟩
def wnD (b:List Nat) (m:Bool):Nat × Nat:=if 1200 < b.length then (1,1) else if m = false then (1,2) else if isR b then (match reps b.length b with | none=>(1,3) | some xs=>(wtL xs,4)) else (1,oddN b)
theorem wnD_le {b:List Nat} (h8:Ok8 b) (m:Bool):(wnD b m).1 ≤ 100000000 ∧ 1 ≤ (wnD b m).2 ∧ (wnD b m).2 ≤ 4:=by
 unfold wnD;by_cases h1:1200 < b.length
 ·rw [if_pos h1]; exact ⟨by decide,by decide,by decide⟩
 rw [if_neg h1];by_cases h2:m = false
 ·rw [if_pos h2]; exact ⟨by decide,by decide,by decide⟩
 rw [if_neg h2];by_cases h3:isR b = true
 ·rw [if_pos h3];cases hr:reps b.length b with
  | none=>exact ⟨Nat.le_of_ble_eq_true rfl,Nat.le_of_ble_eq_true rfl,Nat.le_of_ble_eq_true rfl⟩
  | some xs =>
   obtain ⟨x1,x2⟩:=zrC h8 (by omega) hr;have:=zpn x2;refine ⟨?_,Nat.le_of_ble_eq_true rfl,Nat.le_of_ble_eq_true rfl⟩;show wtL xs ≤ 100000000;omega
 rw [if_neg h3];rcases zkA b with h | h <;> rw [h] <;> exact ⟨Nat.le_of_ble_eq_true rfl,Nat.le_of_ble_eq_true rfl,Nat.le_of_ble_eq_true rfl⟩
theorem z11 (i:Nat):(List.replicate 11 0).getD i 0 = 0:=by
 rw [List.getD_eq_getElem?_getD,List.getElem?_replicate];split <;> rfl
theorem zpp {n w:Nat} (h1:1 ≤ n) (h4:n ≤ 4):sumN ((List.replicate 11 0).set n w) 10 = w ∧ ((List.replicate 11 0).set n w).getD n 0 = w:=by
 have:n = 1 ∨ n = 2 ∨ n = 3 ∨ n = 4:=by omega
 rcases this with rfl | rfl | rfl | rfl <;> refine ⟨?_,rfl⟩ <;> simp [sumN,List.range,List.range.loop]
theorem zpK {a:Nat} {b:List Nat} {bv:V} {m:Bool} (ha:(m = false ∧ a = 4) ∨ (m = true ∧ a = 3)) {K:Kd} {H:Heap} {L:Nat → V} (hb:∀ H,By 0 H bv b) (h8:Ok8 b) (hh:DW K H L (rmW 1 [3]) (fun _=>[]) (List.replicate 11 0) 0) (hz:ZK K) :
  Ok (sem T zaS [.ptr K.d 0,.agg [.int .i64 1,.int .i64 (a:Nat),.int .i64 0,bv]]) H fun r H'=>r = .tup [.nils,.int .i64 0] ∧ FrD K.lo L L H H' ∧ DW K H' L (rmW 1 [3]) (fun _=>[]) ((List.replicate 11 0).set (wnD b m).2 (wnD b m).1) 0:=by
 refine zau (zlj (a:=a) 0 (Q:=fun H'=>FrD K.lo L L H H' ∧ DW K H' L (rmW 1 [3]) (fun _=>[]) ((List.replicate 11 0).set (wnD b m).2 (wnD b m).1) 0) (by omega) (hb H).cells1 (hb H).okc fun H1 s1=>?_) fun r H' h=>h;have h1:=hh.grow s1;unfold wnD;by_cases hl:1200 < b.length
 ·rw [if_pos hl];refine zau (zmZ h1 (hb H1) hl (by rw [z11]; decide)) ?_;rintro r H' ⟨e,f,d⟩;exact ⟨e,(s1.frD _ _).trans f,d⟩
 rw [if_neg hl];have hwho:Who [3]:=⟨by decide,by decide,by decide⟩;rcases ha with ⟨rfl,rfl⟩ | ⟨rfl,rfl⟩
 ·rw [if_pos rfl];refine zau (zf7 (a:=4) h1 (hb H1) (by omega) (zpo (by decide)) (by rw [z11]; decide)) ?_;rintro r H' ⟨e,f,d⟩;exact ⟨e,(s1.frD _ _).trans f,d⟩
 ·rw [if_neg (by decide)];have hw:=znb (k:=1) (i:=0) (l:=[3]) (by decide) hwho.nd hwho.l8 hwho.a6 (by decide);have hw:zeQ (fun i=>(rmW 1 [3] i).t) ((3:Nat):Int) = some (1,0):=hw;have hrk:rmW 1 [3] 1 = rW [3]:=zaP _ _ _;refine zau (zqR (a:=3) (i:=1) (s:=0) h1 hz hb h8 (by omega) hw (by decide) (by decide) (by rw [hrk]; exact rW_g hwho.nd hwho.l8 hwho.a6) (by rw [z11]; decide) (by rw [z11]; decide)) ?_;rintro r H' ⟨e,f,d⟩;rw [znn] at d;refine ⟨e,(s1.frD _ _).trans f,?_⟩;unfold dgN at d;by_cases hr:isR b = true
  ·rw [if_pos hr] at d ⊢;unfold repsN at d;cases hq:reps b.length b with
   | none=>rw [hq] at d; exact d
   | some xs =>
    rw [hq] at d;have d:DW K H' L (rmW 1 [3]) (fun _=>[]) ((List.replicate 11 0).set 4 ((List.replicate 11 0).getD 4 0 + wtL xs)) 0:=d;rw [z11,Nat.zero_add] at d;exact d
  ·rw [if_neg hr] at d ⊢;rw [z11] at d;exact d
end Go.Ax.SU
/- Rc19 -/
namespace Go.Ax.SU
open Go.Ax
theorem zqQ {lo:Nat} {H:Heap} {v t16:V} {xs:List Rp} (hv:Drs lo H v xs) (ho:∀ x ∈ xs,RpO x) (hl:xs.length ≤ 1200) :
  Ok (M.iter (zaT (sem T) v (.bool false) t16) [.int .i64 0,.int .i64 0]) H fun r H'=>r = .ex 1 [.int .i64 (wtL xs:Nat)] ∧ H' = H:=by
 obtain ⟨css,ha,hcl,hcw⟩:=hv.ex;have hcl16:∀ c ∈ css,c.length = 16:=fun c hc=>by
  obtain ⟨j,hj,rfl⟩:=List.getElem_of_mem hc;have:=(hcw j (by omega)).len
  rwa [List.getD_eq_getElem?_getD,List.getElem?_eq_getElem hj] at this
 have hvl:=ha.lc.vlen;refine zaV (fun j L0 H'=>L0 = [.int .i64 (wtL (xs.take j):Nat),.int .i64 (j:Nat)] ∧ H' = H) xs.length ⟨rfl,rfl⟩ ?_ ?_
 ·rintro j _ H1 hj ⟨rfl,rfl⟩;have hle:wtL (xs.take j) ≤ 1200 * 2401:=by
   have:=zpn (xs:=xs.take j) fun x hx=>ho x (List.mem_of_mem_take hx);rw [List.length_take] at this;omega
  have hw1:=zpm hj;have hoj:RpO (xs.getD j default):=by
   rw [List.getD_eq_getElem?_getD,List.getElem?_eq_getElem hj]; exact ho _ (List.getElem_mem hj)
  have wr1:wtR (xs.getD j default) = (if (xs.getD j default).k = 3 ∨ (xs.getD j default).k = 4 then 1 else 0) + (xs.getD j default).fi.length + (xs.getD j default).ss.length:=rfl;have hx:=hcw j hj;obtain ⟨p,hp,hpl⟩:=ha.lc.at (i:=(j:Nat)) (by omega) (by omega);have e:=(zmX (k:=16) css hcl16 j (css.getD j []) (by rw [List.getD_eq_getElem?_getD,List.getElem?_eq_getElem (by omega)]; rfl)).1;rw [Int.toNat_natCast] at hpl;have hpl:Pl H1 p (css.getD j []) v.pid:=e ▸ hpl;have c16:=hx.len;have fl:=hoj.fl;have sl:=hoj.sl;generalize css.getD j [] = cs at *;generalize xs.getD j default = x at *;generalize wtL (xs.take j) = W at *;rw [hw1];obtain ⟨fr,ab,ntp,ts,pk,oc,bl,pv,fv,ex,mt,sv,ty,ct,bd,ec,vf,vs,-⟩:=hx;have fa:=@hpl.fa;have l0:∀ {f:V → M Res} {Q:Res → Heap → Prop},@OkB V Res (zar none (Ax.fa p 0)) H1 ⟨f⟩ ⟨Q⟩ ↔ Ok (f (.int .i64 (x.k:Nat))) H1 Q:=fun {f Q}=>(hpl.ld (by omega)).trans (by rw [show cs[0]? = some (.int .i64 (x.k:Nat)) by rw [ec]; rfl]; exact Iff.rfl);have l9:∀ {f:V → M Res} {Q:Res → Heap → Prop},@OkB V Res (zar none (Ax.fa p 9)) H1 ⟨f⟩ ⟨Q⟩ ↔ Ok (f fv) H1 Q:=fun {f Q}=>(hpl.ld (by omega)).trans (by rw [show cs[9]? = some fv by rw [ec]; rfl]; exact Iff.rfl);have l12:∀ {f:V → M Res} {Q:Res → Heap → Prop},@OkB V Res (zar none (Ax.fa p 12)) H1 ⟨f⟩ ⟨Q⟩ ↔ Ok (f sv) H1 Q:=fun {f Q}=>(hpl.ld (by omega)).trans (by rw [show cs[12]? = some sv by rw [ec]; rfl]; exact Iff.rfl);generalize x.fi.length = nf at *;generalize x.ss.length = nsl at *;have d1:decide (((j:Nat):Int) < ((xs.length:Nat):Int)) = true:=decide_eq_true (by omega);have d1':decide (j < xs.length) = true:=decide_eq_true hj;have w1:IntKind.i64.wrap (((j:Nat):Int) + 1) = ((j + 1:Nat):Int):=by rw [wrap_i64 (by omega) (by omega)]; omega
  have w2:IntKind.i64.wrap (((nf:Nat):Int) + ((nsl:Nat):Int)) = ((nf + nsl:Nat):Int):=by rw [wrap_i64 (by omega) (by omega)]; omega
  have w3:IntKind.i64.wrap (((W:Nat):Int) + 1) = ((W + 1:Nat):Int):=by rw [wrap_i64 (by omega) (by omega)]; omega
  have w4:IntKind.i64.wrap (((W + 1:Nat):Int) + ((nf + nsl:Nat):Int)) = ((W + (1 + nf + nsl):Nat):Int):=by rw [wrap_i64 (by omega) (by omega)]; omega
  have w5:IntKind.i64.wrap (((W:Nat):Int) + ((nf + nsl:Nat):Int)) = ((W + (0 + nf + nsl):Nat):Int):=by rw [wrap_i64 (by omega) (by omega)]; omega
  have b (n:Nat):(((x.k:Nat):Int) == ((n:Nat):Int)) = decide (x.k = n):=zm6 x.k n;unfold zaT uL uFM uB uI uG uH uc ug;by_cases h3:x.k = 3
  ·have b3:(((x.k:Nat):Int) == 3) = true:=(b 3).trans (decide_eq_true h3);have b3':(x.k == 3) = true:=by rw [h3]; rfl
   rw [if_pos (.inl h3)] at wr1;rw [wr1];simp (maxSteps:=1000000) (disch:=first | omega | (simp only [RY] <;> omega) | decide) only [↓RD,RZ,eq_self,Int.reduceToNat,Int.reduceAdd,Int.reduceSub,Int.reduceMul,Nat.reduceAdd,Nat.reduceSub,Nat.reduceMul,Nat.reduceDiv,Nat.reduceMod,Nat.reduceBEq,Nat.reduceLeDiff,hvl,d1,d1',hp,fa,l0,b3,b3',l9,l12,vf,vs,w1,w2,w3,w4]
  have b3:(((x.k:Nat):Int) == 3) = false:=(b 3).trans (decide_eq_false h3);have b3':(x.k == 3) = false:=beq_false_of_ne h3;by_cases h4:x.k = 4
  ·have b4:(((x.k:Nat):Int) == 4) = true:=(b 4).trans (decide_eq_true h4);have b4':(x.k == 4) = true:=by rw [h4]; rfl
   rw [if_pos (.inr h4)] at wr1;rw [wr1];simp (maxSteps:=1000000) (disch:=first | omega | (simp only [RY] <;> omega) | decide) only [↓RD,RZ,eq_self,Int.reduceToNat,Int.reduceAdd,Int.reduceSub,Int.reduceMul,Nat.reduceAdd,Nat.reduceSub,Nat.reduceMul,Nat.reduceDiv,Nat.reduceMod,Nat.reduceBEq,Nat.reduceLeDiff,hvl,d1,d1',hp,fa,l0,b3,b3',b4,b4',l9,l12,vf,vs,w1,w2,w3,w4]
  have b4:(((x.k:Nat):Int) == 4) = false:=(b 4).trans (decide_eq_false h4);have b4':(x.k == 4) = false:=beq_false_of_ne h4;rw [if_neg (by omega)] at wr1;rw [wr1];simp (maxSteps:=1000000) (disch:=first | omega | (simp only [RY] <;> omega) | decide) only [↓RD,RZ,eq_self,Int.reduceToNat,Int.reduceAdd,Int.reduceSub,Int.reduceMul,Nat.reduceAdd,Nat.reduceSub,Nat.reduceMul,Nat.reduceDiv,Nat.reduceMod,Nat.reduceBEq,Nat.reduceLeDiff,hvl,d1,d1',hp,fa,l0,b3,b3',b4,b4',l9,l12,vf,vs,w1,w2,w5]
 ·rintro _ H1 ⟨rfl,rfl⟩;have d1:decide (((xs.length:Nat):Int) < ((xs.length:Nat):Int)) = false:=decide_eq_false (by omega);have d1':decide (xs.length < xs.length) = false:=decide_eq_false (by omega);rw [List.take_length];unfold zaT uL uFM uB uI uG uH uc ug;simp (maxSteps:=1000000) (disch:=first | omega | (simp only [RY] <;> omega) | decide) only [↓RD,RZ,eq_self,Int.reduceToNat,Int.reduceAdd,Int.reduceSub,Int.reduceMul,Nat.reduceAdd,Nat.reduceSub,Nat.reduceMul,Nat.reduceDiv,Nat.reduceMod,Nat.reduceBEq,Nat.reduceLeDiff,hvl,d1,d1']
theorem zog {b:List Nat} {bv:V} {m:Bool} (hv:Ar by8 bv b) (h8:∀ x ∈ b,x < 256):Ok (sem T zba [bv,.bool m]) H0 fun x H'=>x = .bool true:=by
 refine zeR ?_;unfold zc5 uL uT uE uB uG uH uO uc ug;have hb:∀ H,By 0 H bv b:=fun H=>hv.lc 0;refine zac New_ok ?_;rintro _ H1 ⟨K,rfl,-,h1,s1,hz⟩;have hz:ZK K:=hz;refine zac awake_ok ?_;rintro _ H2 ⟨rfl,s2⟩;have h2:=h1.grow s2;have e1:Ax.eqr .ptr false (.ptr K.d 0) .nilp = some (.bool false):=rfl;have hvl:=hv.vlen;by_cases h3k:3000 < b.length
 ·have d1:decide ((3000:Int) < ((b.length:Nat):Int)) = true:=decide_eq_true (by omega);have d1':decide (3000 < b.length) = true:=decide_eq_true h3k;simp (maxSteps:=1000000) (disch:=first | omega | (simp only [RY] <;> omega) | decide) only [↓RD,RZ,eq_self,Int.reduceToNat,Int.reduceAdd,Int.reduceSub,Int.reduceMul,Nat.reduceAdd,Nat.reduceSub,Nat.reduceMul,Nat.reduceDiv,Nat.reduceMod,Nat.reduceBEq,Nat.reduceLeDiff,Bool.not_true,e1,hvl,d1,d1']
 have d1:decide ((3000:Int) < ((b.length:Nat):Int)) = false:=decide_eq_false (by omega);have d1':decide (3000 < b.length) = false:=decide_eq_false h3k;simp (maxSteps:=1000000) (disch:=first | omega | (simp only [RY] <;> omega) | decide) only [↓RD,RZ,eq_self,Int.reduceToNat,Int.reduceAdd,Int.reduceSub,Int.reduceMul,Nat.reduceAdd,Nat.reduceSub,Nat.reduceMul,Nat.reduceDiv,Nat.reduceMod,Nat.reduceBEq,Nat.reduceLeDiff,Bool.not_true,e1,hvl,d1,d1'];have h2:DW K H2 (fun _=>.nils) (rmW 1 []) (fun _=>[]) (List.replicate 11 0) 0:=by rw [rmW_nil]; exact h2
 refine zac (asks_ok (a:=3) (k:=1) (l:=[]) h2 (by decide) (by decide) ⟨List.nodup_nil,by decide,fun a ha=>(by cases ha)⟩ (by rw [z11]; decide)) ?_;rintro _ H3 ⟨rfl,L3,f3,h3⟩;have hB:zkH [] 3 = true:=by decide
 have hL:joinL [] 3 = [3]:=by decide
 have hW:zqt [] 3 = fun _=>[]:=by
  unfold zqt;rw [hB,if_pos rfl];funext c;unfold qJ;rw [if_neg (by simp)]
 rw [hL,hW] at h3;rw [hB];simp (maxSteps:=1000000) (disch:=first | omega | (simp only [RY] <;> omega) | decide) only [↓RD,RZ,eq_self,Int.reduceToNat,Int.reduceAdd,Int.reduceSub,Int.reduceMul,Nat.reduceAdd,Nat.reduceSub,Nat.reduceMul,Nat.reduceDiv,Nat.reduceMod,Nat.reduceBEq,Nat.reduceLeDiff,Bool.not_true];have hrk:rmW 1 [3] 1 = rW [3]:=zaP _ _ _;have hwho:Who [3]:=⟨by decide,by decide,by decide⟩;have hg:=rW_g hwho.nd hwho.l8 hwho.a6;refine zac (zm9 (i:=1) h3 (by decide)) ?_;rintro _ H4 ⟨rfl,s4⟩;rw [hrk];refine zao rfl ?_;refine zao rfl ?_;refine za4 rfl (zcx hg.o) fun q5 H5 e5 g5 s5 n5=>?_;have h5:=h3.grow (s4.trans s5);have sf5:Sf K H5 L3 q5:=h3.sf (by have:=s4.next; omega) (by omega);have hbc:=(hb H5).cells1;have hbo:=(hb H5).okc;cases m
 ·simp (maxSteps:=1000000) (disch:=first | omega | (simp only [RY] <;> omega) | decide) only [↓RD,RZ,eq_self,Int.reduceToNat,Int.reduceAdd,Int.reduceSub,Int.reduceMul,Nat.reduceAdd,Nat.reduceSub,Nat.reduceMul,Nat.reduceDiv,Nat.reduceMod,Nat.reduceBEq,Nat.reduceLeDiff,hbc,hbo];refine zac (zpK (a:=4) (m:=false) (.inl ⟨rfl,rfl⟩) hb h8 h5 hz) ?_;rintro _ H6 ⟨rfl,f6,h6⟩;obtain ⟨sf6,e6⟩:=sf5.fr f6;have g6:=e6.trans g5;refine zao rfl ?_;refine zao rfl ?_;refine zac (zm9 (i:=1) h6 (by decide)) ?_;rintro _ H7 ⟨rfl,s7⟩;rw [hrk];refine zao rfl ?_;refine zao rfl ?_;refine za4 rfl (zcx hg.o) fun q8 H8 e8 g8 s8 n8=>?_;have s68:=s7.trans s8;have g58:=(s68.same q5 sf6.hi).trans g6;have h8w:=h6.grow s68;obtain ⟨wle,n1,n4⟩:=wnD_le h8 false;refine zrU ?_;refine zau (Q:=fun r H'=>r = .nrm [.int .i64 ((wnD b false).1:Nat),.int .i64 ((wnD b false).2:Nat)] ∧ Grow H8 H') ?_ ?_
  ·unfold wnD;by_cases hl:1200 < b.length
   ·have d3:decide ((1200:Int) < ((b.length:Nat):Int)) = true:=decide_eq_true (by omega);have d3':decide (1200 < b.length) = true:=decide_eq_true hl;rw [if_pos hl];simp (maxSteps:=1000000) (disch:=first | omega | (simp only [RY] <;> omega) | decide) only [↓RD,RZ,eq_self,Int.reduceToNat,Int.reduceAdd,Int.reduceSub,Int.reduceMul,Nat.reduceAdd,Nat.reduceSub,Nat.reduceMul,Nat.reduceDiv,Nat.reduceMod,Nat.reduceBEq,Nat.reduceLeDiff,hvl,d3,d3'];exact ⟨rfl,Grow.refl _⟩
   ·have d3:decide ((1200:Int) < ((b.length:Nat):Int)) = false:=decide_eq_false (by omega);have d3':decide (1200 < b.length) = false:=decide_eq_false hl;rw [if_neg hl,if_pos rfl];simp (maxSteps:=1000000) (disch:=first | omega | (simp only [RY] <;> omega) | decide) only [↓RD,RZ,eq_self,Int.reduceToNat,Int.reduceAdd,Int.reduceSub,Int.reduceMul,Nat.reduceAdd,Nat.reduceSub,Nat.reduceMul,Nat.reduceDiv,Nat.reduceMod,Nat.reduceBEq,Nat.reduceLeDiff,hvl,d3,d3',Bool.not_false];exact ⟨rfl,Grow.refl _⟩
  ·rintro _ H9 ⟨rfl,s9⟩;have h9:=h8w.grow s9;obtain ⟨su,sg⟩:=zpp (w:=(wnD b false).1) n1 n4;have sml:∀ i,((List.replicate 11 0).set (wnD b false).2 (wnD b false).1).getD i 0 ≤ 100000000:=fun i=>by
    rw [List.getD_eq_getElem?_getD,List.getElem?_set];split
    ·split
     ·exact wle
     ·exact Nat.zero_le _
    ·rw [← List.getD_eq_getElem?_getD,z11]; exact Nat.zero_le _
   generalize (wnD b false).1 = w at *;generalize (wnD b false).2 = n at *;have k1:=@zaK _ _ _ _ (zl7 h9 sml);have k2:=@zaK _ _ _ _ (zhm (i:=n) h9 (by omega));have k3:∀ {f:V → M Res} {Q:Res → Heap → Prop},@OkB V Res (sem T zaM [.ptr K.d 0,.int .i64 3]) H9 ⟨f⟩ ⟨Q⟩ ↔ Ok (f (.int .i64 0)) H9 Q:=fun {f Q}=>@zaK _ _ _ _ (zga (a:=3) h9 (by decide)) f Q;have k4:∀ {f:V → M Res} {Q:Res → Heap → Prop},@OkB V Res (sem T zaM [.ptr K.d 0,.int .i64 4]) H9 ⟨f⟩ ⟨Q⟩ ↔ Ok (f (.int .i64 0)) H9 Q:=fun {f Q}=>@zaK _ _ _ _ (zga (a:=4) h9 (by decide)) f Q;rw [su] at k1;rw [sg] at k2;have g59:=(s9.same q5 (by have:=sf6.hi; have:=s68.next; omega)).trans g58;have g89:=(s9.same q8 (by omega)).trans g8;have hAl:=zh7 hg.o;have e2:Ax.eqr (.st ksR) false (.agg (rC (rW [3]))) (.agg (rC (rW [3]))) = some (.bool true):=by simp only [Ax.eqr,eqv,zrL hg.o,Option.map_some]; rfl
   unfold ksR at e2;have ww:∀ x:Nat,(((x:Nat):Int) == ((x:Nat):Int)) = true:=fun x=>by simp
   simp (maxSteps:=1000000) (disch:=first | omega | (simp only [RY] <;> omega) | decide) only [↓RD,RZ,eq_self,Int.reduceToNat,Int.reduceAdd,Int.reduceSub,Int.reduceMul,Nat.reduceAdd,Nat.reduceSub,Nat.reduceMul,Nat.reduceDiv,Nat.reduceMod,Nat.reduceBEq,Nat.reduceLeDiff,k1,k2,k3,k4,g59,g89,hAl,e2,ww,beq_self_eq_true]
 ·simp (maxSteps:=1000000) (disch:=first | omega | (simp only [RY] <;> omega) | decide) only [↓RD,RZ,eq_self,Int.reduceToNat,Int.reduceAdd,Int.reduceSub,Int.reduceMul,Nat.reduceAdd,Nat.reduceSub,Nat.reduceMul,Nat.reduceDiv,Nat.reduceMod,Nat.reduceBEq,Nat.reduceLeDiff,hbc,hbo];refine zac (zpK (a:=3) (m:=true) (.inr ⟨rfl,rfl⟩) hb h8 h5 hz) ?_;rintro _ H6 ⟨rfl,f6,h6⟩;obtain ⟨sf6,e6⟩:=sf5.fr f6;have g6:=e6.trans g5;refine zao rfl ?_;refine zao rfl ?_;refine zac (zm9 (i:=1) h6 (by decide)) ?_;rintro _ H7 ⟨rfl,s7⟩;rw [hrk];refine zao rfl ?_;refine zao rfl ?_;refine za4 rfl (zcx hg.o) fun q8 H8 e8 g8 s8 n8=>?_;have s68:=s7.trans s8;have g58:=(s68.same q5 sf6.hi).trans g6;have h8w:=h6.grow s68;obtain ⟨wle,n1,n4⟩:=wnD_le h8 true;refine zrU ?_;refine zau (Q:=fun r H'=>r = .nrm [.int .i64 ((wnD b true).1:Nat),.int .i64 ((wnD b true).2:Nat)] ∧ Grow H8 H') ?_ ?_
  ·unfold wnD;by_cases hl:1200 < b.length
   ·have d3:decide ((1200:Int) < ((b.length:Nat):Int)) = true:=decide_eq_true (by omega);have d3':decide (1200 < b.length) = true:=decide_eq_true hl;rw [if_pos hl];simp (maxSteps:=1000000) (disch:=first | omega | (simp only [RY] <;> omega) | decide) only [↓RD,RZ,eq_self,Int.reduceToNat,Int.reduceAdd,Int.reduceSub,Int.reduceMul,Nat.reduceAdd,Nat.reduceSub,Nat.reduceMul,Nat.reduceDiv,Nat.reduceMod,Nat.reduceBEq,Nat.reduceLeDiff,hvl,d3,d3'];exact ⟨rfl,Grow.refl _⟩
   have d3:decide ((1200:Int) < ((b.length:Nat):Int)) = false:=decide_eq_false (by omega);have d3':decide (1200 < b.length) = false:=decide_eq_false hl;rw [if_neg hl,if_neg (by decide)];have is:=@zaK _ _ _ _ (Is_d_ok (hb H8) (by omega));unfold isR;cases hR:(decide (2 ≤ b.length) && (decide (192 ≤ b.getD 1 0) && decide (b.getD 1 0 ≤ 223))) with
   | true =>
    rw [hR] at is;rw [if_pos rfl];have h0:0 < b.length:=by
     rw [Bool.and_eq_true] at hR;have:=of_decide_eq_true hR.1;omega
    simp (maxSteps:=1000000) (disch:=first | omega | (simp only [RY] <;> omega) | decide) only [↓RD,RZ,eq_self,Int.reduceToNat,Int.reduceAdd,Int.reduceSub,Int.reduceMul,Nat.reduceAdd,Nat.reduceSub,Nat.reduceMul,Nat.reduceDiv,Nat.reduceMod,Nat.reduceBEq,Nat.reduceLeDiff,hvl,d3,d3',Bool.not_true,is];refine zac (ztb (hb H8) h8 (by omega) h0) ?_;rintro _ H9 ⟨s9,v,e,rfl,he0,he1⟩;cases hr:reps b.length b with
    | none =>
     obtain ⟨e0,rfl⟩:=he0 hr;have ne:(e == 0) = false:=beq_false_of_ne e0;simp (maxSteps:=1000000) (disch:=first | omega | (simp only [RY] <;> omega) | decide) only [↓RD,RZ,eq_self,Int.reduceToNat,Int.reduceAdd,Int.reduceSub,Int.reduceMul,Nat.reduceAdd,Nat.reduceSub,Nat.reduceMul,Nat.reduceDiv,Nat.reduceMod,Nat.reduceBEq,Nat.reduceLeDiff,ne];refine zau (Q:=fun r H'=>r = .ex 1 [.int .i64 1] ∧ H' = H9) ?_ ?_
     ·refine zh8 (fun L H' n=>L = [.int .i64 1,.int .i64 0] ∧ H' = H9) 0 ⟨rfl,rfl⟩ ?_;rintro _ H' n' ⟨rfl,rfl⟩;unfold zaT uL uFM uB uI uG uH uc ug;simp (maxSteps:=1000000) (disch:=first | omega | (simp only [RY] <;> omega) | decide) only [↓RD,RZ,eq_self,Int.reduceToNat,Int.reduceAdd,Int.reduceSub,Int.reduceMul,Nat.reduceAdd,Nat.reduceSub,Nat.reduceMul,Nat.reduceDiv,Nat.reduceMod,Nat.reduceBEq,Nat.reduceLeDiff]
     ·rintro _ _ ⟨rfl,rfl⟩;simp (maxSteps:=1000000) (disch:=first | omega | (simp only [RY] <;> omega) | decide) only [↓RD,RZ,eq_self,Int.reduceToNat,Int.reduceAdd,Int.reduceSub,Int.reduceMul,Nat.reduceAdd,Nat.reduceSub,Nat.reduceMul,Nat.reduceDiv,Nat.reduceMod,Nat.reduceBEq,Nat.reduceLeDiff];exact ⟨rfl,s9⟩
    | some xs =>
     obtain ⟨rfl,hD⟩:=he1 xs hr;obtain ⟨x1,x2⟩:=zrC h8 (by omega) hr;simp (maxSteps:=1000000) (disch:=first | omega | (simp only [RY] <;> omega) | decide) only [↓RD,RZ,eq_self,Int.reduceToNat,Int.reduceAdd,Int.reduceSub,Int.reduceMul,Nat.reduceAdd,Nat.reduceSub,Nat.reduceMul,Nat.reduceDiv,Nat.reduceMod,Nat.reduceBEq,Nat.reduceLeDiff];refine zau (zqQ hD x2 (by omega)) ?_;rintro _ _ ⟨rfl,rfl⟩;simp (maxSteps:=1000000) (disch:=first | omega | (simp only [RY] <;> omega) | decide) only [↓RD,RZ,eq_self,Int.reduceToNat,Int.reduceAdd,Int.reduceSub,Int.reduceMul,Nat.reduceAdd,Nat.reduceSub,Nat.reduceMul,Nat.reduceDiv,Nat.reduceMod,Nat.reduceBEq,Nat.reduceLeDiff];exact ⟨rfl,s9⟩
   | false =>
    rw [hR] at is;rw [if_neg (by decide)];simp (maxSteps:=1000000) (disch:=first | omega | (simp only [RY] <;> omega) | decide) only [↓RD,RZ,eq_self,Int.reduceToNat,Int.reduceAdd,Int.reduceSub,Int.reduceMul,Nat.reduceAdd,Nat.reduceSub,Nat.reduceMul,Nat.reduceDiv,Nat.reduceMod,Nat.reduceBEq,Nat.reduceLeDiff,hvl,d3,d3',Bool.not_true,is];refine zac (R7.Parse2_ok (hb H8) h8 (by omega)) ?_;rintro res H9 ⟨s9,hP⟩;unfold oddN;cases hp:R7.parse b with
    | error e =>
     rw [hp] at hP;subst hP;have ne:(e == 0) = false:=beq_false_of_ne (by rcases zns hp with rfl | rfl | rfl <;> decide);unfold R7.zeroC;simp (maxSteps:=1000000) (disch:=first | omega | (simp only [RY] <;> omega) | decide) only [↓RD,RZ,eq_self,Int.reduceToNat,Int.reduceAdd,Int.reduceSub,Int.reduceMul,Nat.reduceAdd,Nat.reduceSub,Nat.reduceMul,Nat.reduceDiv,Nat.reduceMod,Nat.reduceBEq,Nat.reduceLeDiff,ne];exact ⟨rfl,s9.trans ((Grow.new _ _).set (Nat.le_refl _) _)⟩
    | ok p =>
     rw [hp] at hP;obtain ⟨z,rfl,cv,xv,pv,rfl,l1,l2,l3⟩:=hP;have ok:(V.agg (R7.pcells p cv xv pv)).okc = true:=by simp [V.okc,R7.pcells,l1.okc,l2.okc,l3.okc]
     unfold R7.pcells at ok ⊢;simp (maxSteps:=1000000) (disch:=first | omega | (simp only [RY] <;> omega) | decide) only [↓RD,RZ,eq_self,Int.reduceToNat,Int.reduceAdd,Int.reduceSub,Int.reduceMul,Nat.reduceAdd,Nat.reduceSub,Nat.reduceMul,Nat.reduceDiv,Nat.reduceMod,Nat.reduceBEq,Nat.reduceLeDiff,ok];exact ⟨rfl,s9.trans ((Grow.new _ _).set (Nat.le_refl _) _)⟩
  ·rintro _ H9 ⟨rfl,s9⟩;have h9:=h8w.grow s9;obtain ⟨su,sg⟩:=zpp (w:=(wnD b true).1) n1 n4;have sml:∀ i,((List.replicate 11 0).set (wnD b true).2 (wnD b true).1).getD i 0 ≤ 100000000:=fun i=>by
    rw [List.getD_eq_getElem?_getD,List.getElem?_set];split
    ·split
     ·exact wle
     ·exact Nat.zero_le _
    ·rw [← List.getD_eq_getElem?_getD,z11]; exact Nat.zero_le _
   generalize (wnD b true).1 = w at *;generalize (wnD b true).2 = n at *;have k1:=@zaK _ _ _ _ (zl7 h9 sml);have k2:=@zaK _ _ _ _ (zhm (i:=n) h9 (by omega));have k3:∀ {f:V → M Res} {Q:Res → Heap → Prop},@OkB V Res (sem T zaM [.ptr K.d 0,.int .i64 3]) H9 ⟨f⟩ ⟨Q⟩ ↔ Ok (f (.int .i64 0)) H9 Q:=fun {f Q}=>@zaK _ _ _ _ (zga (a:=3) h9 (by decide)) f Q;have k4:∀ {f:V → M Res} {Q:Res → Heap → Prop},@OkB V Res (sem T zaM [.ptr K.d 0,.int .i64 4]) H9 ⟨f⟩ ⟨Q⟩ ↔ Ok (f (.int .i64 0)) H9 Q:=fun {f Q}=>@zaK _ _ _ _ (zga (a:=4) h9 (by decide)) f Q;rw [su] at k1;rw [sg] at k2;have g59:=(s9.same q5 (by have:=sf6.hi; have:=s68.next; omega)).trans g58;have g89:=(s9.same q8 (by omega)).trans g8;have hAl:=zh7 hg.o;have e2:Ax.eqr (.st ksR) false (.agg (rC (rW [3]))) (.agg (rC (rW [3]))) = some (.bool true):=by simp only [Ax.eqr,eqv,zrL hg.o,Option.map_some]; rfl
   unfold ksR at e2;have ww:∀ x:Nat,(((x:Nat):Int) == ((x:Nat):Int)) = true:=fun x=>by simp
   simp (maxSteps:=1000000) (disch:=first | omega | (simp only [RY] <;> omega) | decide) only [↓RD,RZ,eq_self,Int.reduceToNat,Int.reduceAdd,Int.reduceSub,Int.reduceMul,Nat.reduceAdd,Nat.reduceSub,Nat.reduceMul,Nat.reduceDiv,Nat.reduceMod,Nat.reduceBEq,Nat.reduceLeDiff,k1,k2,k3,k4,g59,g89,hAl,e2,ww,beq_self_eq_true]
end Go.Ax.SU
namespace Go.Ax
open Go.Ax.SU
theorem law_deskDrops (us:List V) (h:zs6 [.sl (.int .u8),.bool] us):∃ H',sem T zba us H0 = some (.bool true,H'):=by
 obtain ⟨a1,a2,rfl⟩:∃ a1 a2,us = [a1,a2]:=by
  rcases us with _ | ⟨a1,_ | ⟨a2,_ | ⟨a3,us⟩⟩⟩
  ·cases h
  ·cases h.2
  ·exact ⟨a1,a2,rfl⟩
  ·cases h.2.2
 obtain ⟨v,l,h1,h1',h1''⟩:=sh_u8s h.1;obtain ⟨b,h2⟩:=sh_bool h.2.1;cases h1; cases h2;obtain ⟨r,H',k1,rfl⟩:=zog h1' h1'';exact ⟨H',k1⟩
end Go.Ax
