/-
  Texts of mine, put together by program (wip/slim.py), for law_deskDrops: part 10.
-/
import Derived.Test.YthghlbdejdideaaGreatZp9
noncomputable section
set_option linter.unusedVariables false
set_option linter.unusedSimpArgs false
set_option linter.defProp false
set_option maxRecDepth 100000
/- Rc6 -/
namespace Go.Ax.SU
open Go.Ax
def abN (k:Nat) (l:List Nat):Nat:=if k = 3 then 4 + 4 * rdN 4 (sk 4 l) else if k = 5 then 4 + 8 * rdN 8 (sk 4 l) else if k = 6 then 12 + 4 * pn 1 (sk 8 l) else 4
def abB (k:Nat) (l:List Nat):Bool:=if k = 5 then fbd (rdN 8 (sk 4 l)) (sk 4 l) else false
def abP (k:Nat) (l:List Nat):List (Nat × Nat):=if k = 3 then prs (rdN 4 (sk 4 l)) (sk 4 l) else []
def abF (k:Nat) (l:List Nat):List (Nat × Nat):=if k = 5 then frs (rdN 8 (sk 4 l)) (sk 4 l) else []
def abS (k:Nat) (l:List Nat):List Nat:=if k = 6 then sss (pn 1 (sk 8 l)) (sk 12 l) else []
def abE (k:Nat) (l:List Nat):Nat:=if k = 6 then pn 3 (sk 9 l) / 262144 else 0
def abM (k:Nat) (l:List Nat):Nat:=if k = 6 then pn 3 (sk 9 l) % 262144 else 0
theorem AI.st {H0 H:Heap} {q p lo:Nat} {w:Option Nat} {l:List Nat} {bad:Bool} {cells:List V} (h:AI H0 H q p lo w l bad cells) (cells':List V):AI H0 (H.set p (some ⟨tyRp,cells',none⟩)) q p lo w l bad cells' :=
 ⟨h.at'.trans (AtS.set (k:=p) _ (by simp) _),h.r.atS (AtS.set (S:=[p]) (k:=p) _ (by simp) _) (by simp; exact fun e=>h.pq e.symm) (fun i hi e=>by rw [List.mem_singleton] at e; subst e; exact h.wp hi),zak _ _ _,h.hp,h.hq,h.pq,h.wl,h.wp⟩
theorem prs_len (j:Nat) (l:List Nat):(prs j l).length = j:=by simp [prs]
theorem zoQ (j:Nat) (l:List Nat):(frs j l).length = j:=by simp [frs]
theorem zox (j:Nat) (l:List Nat):(sss j l).length = j:=by simp [sss]
theorem about_ok {H0 H:Heap} {k q p lo fr:Nat} {w:Option Nat} {l:List Nat} {bad:Bool} (hk:k = 3 ∨ k = 4 ∨ k = 5 ∨ k = 6) (h:AI H0 H q p lo w l bad (rpC k fr 0 0 0 0 0 .nils .nils .nils 0 0 .nils 0 0 .nils)) (h8:Ok8 l) (hl:l.length ≤ 1000000) :
  Ok (sem T zb9 [.ptr q 0,.ptr p 0]) H fun r H'=>r = .tup [] ∧ ∃ pv fv sv,AI H0 H' q p lo w (sk (abN k l) l) (bdF (abN k l) l bad || abB k l) (rpC k fr (pn 4 l) 0 0 0 0 .nils pv fv (abE k l) (abM k l) sv 0 0 .nils) ∧
   Lc 2 H0.next H' pv (prC (abP k l)) (abP k l).length ∧ Lc 2 H0.next H' fv (frC (abF k l)) (abF k l).length ∧ Lc 1 H0.next H' sv (ssC (abS k l)) (abS k l).length:=by
 refine zhn ?_;unfold ze0 uL uT uNFM uNF uB uc uq;have k8:∀ n,Ok8 (sk n l):=fun n=>sk_8 h8;have ll:∀ n,(sk n l).length ≤ 1000000:=fun n=>by rw [zgy]; omega
 refine zac (zdW h.r h8 hl) ?_;rintro _ H1 ⟨rfl,a1,r1⟩;obtain ⟨h1,e1⟩:=h.num a1 r1;have g1:=h1.g;have h2:=h1.st (rpC k fr (pn 4 l) 0 0 0 0 .nils .nils .nils 0 0 .nils 0 0 .nils);have sp:splice (rpC k fr 0 0 0 0 0 .nils .nils .nils 0 0 .nils 0 0 .nils) 2 [.int .u32 (pn 4 l:Nat)] = rpC k fr (pn 4 l) 0 0 0 0 .nils .nils .nils 0 0 .nils 0 0 .nils:=rfl;have len:(rpC k fr 0 0 0 0 0 .nils .nils .nils 0 0 .nils 0 0 .nils).length = 16:=rfl;have nl:∀ {e:Nat} {H':Heap},Lc e H0.next H' .nils [] 0:=fun {e H'}=>Lc.nil;rcases hk with rfl | rfl | rfl | rfl
 ·have c0:(rpC 3 fr (pn 4 l) 0 0 0 0 .nils .nils .nils 0 0 .nils 0 0 .nils)[0]? = some (.int .i64 3):=rfl;simp (maxSteps:=1000000) (disch:=first | omega | (simp only [RY] <;> omega) | decide) only [↓RD,RZ,eq_self,Int.reduceToNat,Int.reduceAdd,Int.reduceSub,Int.reduceMul,Nat.reduceAdd,Nat.reduceSub,Nat.reduceMul,Nat.reduceDiv,Nat.reduceMod,Nat.reduceBEq,Nat.reduceLeDiff,g1,sp,len,c0];refine zau (zq7 h2 (k8 4) (ll 4)) ?_;rintro _ H3 ⟨rfl,pv,h3,hp⟩;simp (maxSteps:=1000000) (disch:=first | omega | (simp only [RY] <;> omega) | decide) only [↓RD,RZ,eq_self,Int.reduceToNat,Int.reduceAdd,Int.reduceSub,Int.reduceMul,Nat.reduceAdd,Nat.reduceSub,Nat.reduceMul,Nat.reduceDiv,Nat.reduceMod,Nat.reduceBEq,Nat.reduceLeDiff];rw [zdN,zcL (by unfold rdN; omega)] at h3;refine ⟨rfl,pv,.nils,.nils,?_,?_,nl,nl⟩
  ·show AI H0 H3 q p lo w (sk (4 + 4 * rdN 4 (sk 4 l)) l) (bdF (4 + 4 * rdN 4 (sk 4 l)) l bad || false) _;rw [Bool.or_false];exact h3
  ·show Lc 2 H0.next H3 pv (prC (prs (rdN 4 (sk 4 l)) (sk 4 l))) (prs (rdN 4 (sk 4 l)) (sk 4 l)).length;rw [prs_len];exact hp.lc
 ·have c0:(rpC 4 fr (pn 4 l) 0 0 0 0 .nils .nils .nils 0 0 .nils 0 0 .nils)[0]? = some (.int .i64 4):=rfl;simp (maxSteps:=1000000) (disch:=first | omega | (simp only [RY] <;> omega) | decide) only [↓RD,RZ,eq_self,Int.reduceToNat,Int.reduceAdd,Int.reduceSub,Int.reduceMul,Nat.reduceAdd,Nat.reduceSub,Nat.reduceMul,Nat.reduceDiv,Nat.reduceMod,Nat.reduceBEq,Nat.reduceLeDiff,g1,sp,len,c0];refine ⟨rfl,.nils,.nils,.nils,?_,nl,nl,nl⟩;show AI H0 _ q p lo w (sk 4 l) (bdF 4 l bad || false) _;rw [Bool.or_false];exact h2
 ·have c0:(rpC 5 fr (pn 4 l) 0 0 0 0 .nils .nils .nils 0 0 .nils 0 0 .nils)[0]? = some (.int .i64 5):=rfl;simp (maxSteps:=1000000) (disch:=first | omega | (simp only [RY] <;> omega) | decide) only [↓RD,RZ,eq_self,Int.reduceToNat,Int.reduceAdd,Int.reduceSub,Int.reduceMul,Nat.reduceAdd,Nat.reduceSub,Nat.reduceMul,Nat.reduceDiv,Nat.reduceMod,Nat.reduceBEq,Nat.reduceLeDiff,g1,sp,len,c0];refine zau (zs2 h2 (k8 4) (ll 4)) ?_;rintro _ H3 ⟨rfl,fv,h3,hp⟩;simp (maxSteps:=1000000) (disch:=first | omega | (simp only [RY] <;> omega) | decide) only [↓RD,RZ,eq_self,Int.reduceToNat,Int.reduceAdd,Int.reduceSub,Int.reduceMul,Nat.reduceAdd,Nat.reduceSub,Nat.reduceMul,Nat.reduceDiv,Nat.reduceMod,Nat.reduceBEq,Nat.reduceLeDiff];rw [zdN,zcL (by unfold rdN; omega)] at h3;refine ⟨rfl,.nils,fv,.nils,h3,nl,?_,nl⟩;show Lc 2 H0.next H3 fv (frC (frs (rdN 8 (sk 4 l)) (sk 4 l))) (frs (rdN 8 (sk 4 l)) (sk 4 l)).length;rw [zoQ];exact hp.lc
 ·have c0:(rpC 6 fr (pn 4 l) 0 0 0 0 .nils .nils .nils 0 0 .nils 0 0 .nils)[0]? = some (.int .i64 6):=rfl;simp (maxSteps:=1000000) (disch:=first | omega | (simp only [RY] <;> omega) | decide) only [↓RD,RZ,eq_self,Int.reduceToNat,Int.reduceAdd,Int.reduceSub,Int.reduceMul,Nat.reduceAdd,Nat.reduceSub,Nat.reduceMul,Nat.reduceDiv,Nat.reduceMod,Nat.reduceBEq,Nat.reduceLeDiff,g1,sp,len,c0];refine zac (zdW h2.r (k8 4) (ll 4)) ?_;rintro _ H3 ⟨rfl,a3,r3⟩;rw [zdN,zcL (by decide)] at r3;obtain ⟨h3,-⟩:=h2.num a3 r3;simp (maxSteps:=1000000) (disch:=first | omega | (simp only [RY] <;> omega) | decide) only [↓RD,RZ,eq_self,Int.reduceToNat,Int.reduceAdd,Int.reduceSub,Int.reduceMul,Nat.reduceAdd,Nat.reduceSub,Nat.reduceMul,Nat.reduceDiv,Nat.reduceMod,Nat.reduceBEq,Nat.reduceLeDiff];refine zac (zhy (n:=1) h3.r (k8 _) (by decide) (ll _)) ?_;rintro _ H4 ⟨rfl,a4,r4⟩;rw [zdN,zcL (by decide)] at r4;obtain ⟨h4,-⟩:=h3.num a4 r4;have b1:=zko (n:=1) (k8 (4 + 4));have c1:IntKind.i64.wrap ((pn 1 (sk (4 + 4) l):Nat):Int) = ((pn 1 (sk (4 + 4) l):Nat):Int):=wrap_i64 (by omega) (by omega);simp (maxSteps:=1000000) (disch:=first | omega | (simp only [RY] <;> omega) | decide) only [↓RD,RZ,eq_self,Int.reduceToNat,Int.reduceAdd,Int.reduceSub,Int.reduceMul,Nat.reduceAdd,Nat.reduceSub,Nat.reduceMul,Nat.reduceDiv,Nat.reduceMod,Nat.reduceBEq,Nat.reduceLeDiff,c1];refine zac (zhy (n:=3) h4.r (k8 _) (by decide) (ll _)) ?_;rintro _ H5 ⟨rfl,a5,r5⟩;rw [zdN,zcL (by decide)] at r5;obtain ⟨h5,-⟩:=h4.num a5 r5;have b3:=zko (n:=3) (k8 (4 + 4 + 1));have e6:abE 6 l = pn 3 (sk (4 + 4 + 1) l) / 262144:=rfl;have m6:abM 6 l = pn 3 (sk (4 + 4 + 1) l) % 262144:=rfl;generalize pn 3 (sk (4 + 4 + 1) l) = y at *;have c2:IntKind.i64.wrap ((y / 262144:Nat):Int) = ((y / 262144:Nat):Int):=wrap_i64 (by omega) (by omega);have c3:IntKind.u32.wrap ((y % 262144:Nat):Int) = ((y % 262144:Nat):Int):=by rw [wrap_u32]; omega
  have s1:Ax.bin .shr (.int .u64 (y:Nat)) (.int .u64 18) = some (.int .u64 (y / 262144:Nat)):=by
   rw [zoz (by omega) (by omega) (by decide),Int.toNat_natCast];show some (V.int IntKind.u64 ((shr y 18:Nat):Int)) = _;rw [zrx]
  have s2:Ax.bin .and (.int .u64 (y:Nat)) (.int .u64 262143) = some (.int .u64 (y % 262144:Nat)):=by
   rw [zpj (by omega) (by omega) (by decide) (by decide),Int.toNat_natCast];show some (V.int IntKind.u64 ((y &&& 262143:Nat):Int)) = _;rw [show y &&& 262143 = y % 262144 from Nat.and_two_pow_sub_one_eq_mod y 18]
  have g5:=h5.g;have h6:=(h5.st (rpC 6 fr (pn 4 l) 0 0 0 0 .nils .nils .nils (y / 262144) 0 .nils 0 0 .nils)).st (rpC 6 fr (pn 4 l) 0 0 0 0 .nils .nils .nils (y / 262144) (y % 262144) .nils 0 0 .nils);have sp1:splice (rpC 6 fr (pn 4 l) 0 0 0 0 .nils .nils .nils 0 0 .nils 0 0 .nils) 10 [.int .i64 (y / 262144:Nat)] = rpC 6 fr (pn 4 l) 0 0 0 0 .nils .nils .nils (y / 262144) 0 .nils 0 0 .nils:=rfl;have sp2:splice (rpC 6 fr (pn 4 l) 0 0 0 0 .nils .nils .nils (y / 262144) 0 .nils 0 0 .nils) 11 [.int .u32 (y % 262144:Nat)] = rpC 6 fr (pn 4 l) 0 0 0 0 .nils .nils .nils (y / 262144) (y % 262144) .nils 0 0 .nils:=rfl;have len1:(rpC 6 fr (pn 4 l) 0 0 0 0 .nils .nils .nils 0 0 .nils 0 0 .nils).length = 16:=rfl;have len2:(rpC 6 fr (pn 4 l) 0 0 0 0 .nils .nils .nils (y / 262144) 0 .nils 0 0 .nils).length = 16:=rfl;simp (maxSteps:=1000000) (disch:=first | omega | (simp only [RY] <;> omega) | decide) only [↓RD,RZ,eq_self,Int.reduceToNat,Int.reduceAdd,Int.reduceSub,Int.reduceMul,Nat.reduceAdd,Nat.reduceSub,Nat.reduceMul,Nat.reduceDiv,Nat.reduceMod,Nat.reduceBEq,Nat.reduceLeDiff,s1,s2,c2,c3,g5,sp1,sp2,len1,len2];refine zau (zq6 h6 (k8 _) (ll _) (by omega)) ?_;rintro _ H7 ⟨rfl,sv,h7,hp⟩;simp (maxSteps:=1000000) (disch:=first | omega | (simp only [RY] <;> omega) | decide) only [↓RD,RZ,eq_self,Int.reduceToNat,Int.reduceAdd,Int.reduceSub,Int.reduceMul,Nat.reduceAdd,Nat.reduceSub,Nat.reduceMul,Nat.reduceDiv,Nat.reduceMod,Nat.reduceBEq,Nat.reduceLeDiff];have e12:sk (4 * pn 1 (sk (4 + 4) l)) (sk (4 + 4 + 1 + 3) l) = sk (abN 6 l) l:=by rw [zdN]; rfl
  have f12:bdF (4 * pn 1 (sk (4 + 4) l)) (sk (4 + 4 + 1 + 3) l) (bdF (4 + 4 + 1 + 3) l bad) = (bdF (abN 6 l) l bad || abB 6 l):=by
   show _ = (bdF (12 + 4 * pn 1 (sk 8 l)) l bad || false);rw [Bool.or_false];by_cases hz:pn 1 (sk (4 + 4) l) = 0
   ·rw [hz,Nat.mul_zero,bd0]
   ·rw [zcL (by omega)]
  rw [e12,f12] at h7;rw [e6,m6];refine ⟨rfl,.nils,.nils,sv,h7,nl,nl,?_⟩;show Lc 1 H0.next H7 sv (ssC (sss (pn 1 (sk 8 l)) (sk 12 l))) (sss (pn 1 (sk 8 l)) (sk 12 l)).length;rw [zox];exact hp.lc
end Go.Ax.SU
/- Rc7 -/
namespace Go.Ax.SU
open Go.Ax
structure Rp where
 k:Nat
 ab:Nat
 pr:List (Nat × Nat)
 fi:List (Nat × Nat)
 ex:Nat
 mt:Nat
 ss:List Nat
def RpV (lo:Nat) (H:Heap) (cells:List V) (x:Rp):Prop :=
 ∃ fr ntp ts pk oc bl pv fv sv ty ct bd,cells = rpC x.k fr x.ab ntp ts pk oc bl pv fv x.ex x.mt sv ty ct bd ∧ Lc 2 lo H pv (prC x.pr) x.pr.length ∧ Lc 2 lo H fv (frC x.fi) x.fi.length ∧ Lc 1 lo H sv (ssC x.ss) x.ss.length ∧ bl.cells = [bl] ∧ bl.okc = true ∧ bd.cells = [bd] ∧ bd.okc = true
def repX (t c:Nat) (l:List Nat):Rp :=
 if zcD t c l ≤ 2 ∨ zcD t c l = 7 then ⟨zcD t c l,0,[],[],0,0,[]⟩ else ⟨zcD t c l,pn 4 (sk 4 l),abP (zcD t c l) (sk 4 l),abF (zcD t c l) (sk 4 l),abE (zcD t c l) (sk 4 l),abM (zcD t c l) (sk 4 l),abS (zcD t c l) (sk 4 l)⟩
def repN (t c:Nat) (l:List Nat):Nat:=if zcD t c l = 1 then 24 + 24 * c else if zcD t c l = 2 then 4 + 24 * c else 4 + abN (zcD t c l) (sk 4 l)
def zed (t c:Nat) (l:List Nat):Bool:=if zcD t c l = 7 then true else !(abB (zcD t c l) (sk 4 l)) && decide (l.length = repN t c l)
theorem b_unch_u {H h h':Heap} {f:Unit → M Res} {Q:Res → Heap → Prop}:@OkB Unit Res (M.unch .undef h h') H ⟨f⟩ ⟨Q⟩ ↔ Ok (f ()) H Q:=by
 have e:M.unch .undef h h' = M.pure ():=by
  funext H;unfold M.unch;rw [if_pos fun id hid=>by cases hid];rfl
 show Ok ((M.unch .undef h h').bind f) H Q ↔ _;rw [e];exact Iff.rfl
theorem zpz (t c:Nat) (l:List Nat):1 ≤ zcD t c l ∧ zcD t c l ≤ 7:=by
 unfold zcD
 repeat' split
 all_goals omega
theorem abN_pos (k:Nat) (l:List Nat):0 < abN k l:=by
 unfold abN;by_cases h3:k = 3
 ·rw [if_pos h3]; omega
 rw [if_neg h3];by_cases h5:k = 5
 ·rw [if_pos h5]; omega
 rw [if_neg h5];by_cases h6:k = 6
 ·rw [if_pos h6]; omega
 rw [if_neg h6]; omega
theorem fin_ok {n:Nat} {l:List Nat} {b:Bool}:(!(bdF n l false || b) && decide (sk n l = [])) = (!b && decide (l.length = n)):=by
 have e:(sk n l = []) ↔ l.length ≤ n:=by rw [← List.length_eq_zero_iff,zgy]; omega
 unfold bdF;cases b
 ·by_cases h:l.length = n
  ·rw [decide_eq_true h,decide_eq_true (e.2 (by omega)),decide_eq_false (by omega)]; rfl
  ·rw [decide_eq_false h];by_cases h2:l.length < n
   ·rw [decide_eq_true h2]; rfl
   ·rw [decide_eq_false h2,decide_eq_false (fun h3=>by have:=e.1 h3; omega)]; rfl
 ·simp
set_option maxHeartbeats 2000000 in
theorem zrE {lo t c:Nat} {H:Heap} {v:V} {l:List Nat} (hb:By lo H v l) (h8:Ok8 l) (hl:l.length ≤ 1000000) (ht:t < 256) (hc:c ≤ 31) :
  Ok (sem T zd7 [.int .i64 (t:Nat),.int .i64 (c:Nat),v]) H fun r H'=>Grow H H' ∧ ∃ cells,r = .tup [.agg cells,.bool (zed t c l)] ∧ RpV H.next H' cells (repX t c l):=by
 refine zlm ?_;unfold ziE uL uS uT uF uFM uNFM uB uG uH uO uU uc uq;have z0:([.int .i64 0,.int .u32 0,.int .u32 0,.int .u64 0,.int .u32 0,.int .u32 0,.int .u32 0,.nils,.nils,.nils,.int .i64 0,.int .u32 0,.nils,.int .i64 0,.int .i64 0,.nils]:List V) = rpC 0 0 0 0 0 0 0 .nils .nils .nils 0 0 .nils 0 0 .nils:=rfl;refine zam (zaR rfl ?_);rw [zai,z0];have s0:=Grow.new H ⟨tyRp,rpC 0 0 0 0 0 0 0 .nils .nils .nils 0 0 .nils 0 0 .nils,none⟩;have g0:(H.new ⟨tyRp,rpC 0 0 0 0 0 0 0 .nils .nils .nils 0 0 .nils 0 0 .nils,none⟩).get H.next = some ⟨tyRp,rpC 0 0 0 0 0 0 0 .nils .nils .nils 0 0 .nils 0 0 .nils,none⟩:=zad _ _;have n0:(H.new ⟨tyRp,rpC 0 0 0 0 0 0 0 .nils .nils .nils 0 0 .nils 0 0 .nils,none⟩).next = H.next + 1:=zag _ _;generalize hq6:H.next = q6 at *;generalize H.new _ = H1 at *;refine zac (kind_ok (t:=t) (c:=c) (hb.ext s0) h8 hl) ?_;rintro _ _ ⟨rfl,rfl⟩;obtain ⟨k1,k7⟩:=zpz t c l;unfold repX zed repN;generalize hk:zcD t c l = k at *;refine zao (v:=.agg (rpC k 0 0 0 0 0 0 .nils .nils .nils 0 0 .nils 0 0 .nils)) rfl ?_;refine za4 rfl rfl fun p H2 ep g2 s2 n2=>?_;refine zao (v:=.agg [v,.bool false]) (by rw [zl8]; simp only [fill]; rw [if_pos ⟨by rw [hb.cells1]; rfl,by decide,hb.okc⟩,hb.cells1]; rfl) ?_;refine zam (zaR (by simp [V.okc,hb.okc]) ?_);rw [zai];have s3:=Grow.new H2 ⟨tyRr,[v,.bool false],none⟩;have g3:(H2.new ⟨tyRr,[v,.bool false],none⟩).get H2.next = some ⟨tyRr,[v,.bool false],none⟩:=zad _ _;have n3:(H2.new ⟨tyRr,[v,.bool false],none⟩).next = H2.next + 1:=zag _ _;have gp:=(s3.same p (by omega)).trans g2;generalize hq:H2.next = q at *;generalize H2.new _ = H3 at *;have s23:=s2.trans s3;have s03:=s0.trans s23;have g6:=(s23.same q6 (by omega)).trans g0;have hb3:=hb.ext s03;have hvl:∀ i,v.pid = some i → i < q6:=fun i hi=>by have:=(hb.own i hi).2; omega
 have hA:AI H3 H3 q p lo v.pid l false (rpC k 0 0 0 0 0 0 .nils .nils .nils 0 0 .nils 0 0 .nils) :=
  ⟨AtS.refl _ _,⟨⟨v,g3,hb3,fun i hi=>hi⟩,(fun e=>by have:=hvl q e; omega),by omega⟩,gp,by omega,by omega,by omega,fun i hi=>by have:=hvl i hi; omega,fun e=>by have:=hvl p e; omega⟩
 have ne6p:q6 ≠ p:=by omega
 have ne6q:q6 ≠ q:=by omega
 have nl:∀ {e:Nat} {H':Heap},Lc e q6 H' .nils [] 0:=fun {e H'}=>Lc.nil
 -- the end,all kinds
 have fin:∀ {H':Heap} {l':List Nat} {bad:Bool} {fr ab ntp ts pk oc:Nat} {bl pv fv sv:V} {ex mt:Nat},AI H3 H' q p lo v.pid l' bad (rpC k fr ab ntp ts pk oc bl pv fv ex mt sv 0 0 .nils) → (pr:List (Nat × Nat)) → (fi:List (Nat × Nat)) → (ss:List Nat) → Lc 2 H3.next H' pv (prC pr) pr.length → Lc 2 H3.next H' fv (frC fi) fi.length → Lc 1 H3.next H' sv (ssC ss) ss.length → bl.cells = [bl] → bl.okc = true →
   ∃ v' vb,H'.get q = some ⟨tyRr,[v',.bool bad],none⟩ ∧ Ax.vlen v' = some (.int .i64 (l'.length:Nat)) ∧ H'.get p = some ⟨tyRp,rpC k fr ab ntp ts pk oc bl pv fv ex mt sv 0 0 .nils,none⟩ ∧ H'.get q6 = some ⟨tyRp,rpC 0 0 0 0 0 0 0 .nils .nils .nils 0 0 .nils 0 0 .nils,none⟩ ∧ vb = (V.agg (rpC k fr ab ntp ts pk oc bl pv fv ex mt sv 0 0 .nils)) ∧ vb.okc = true ∧
    (∀ b,Grow H (H'.set q6 b)) ∧ RpV q6 (H'.set q6 (some ⟨tyRp,rpC k fr ab ntp ts pk oc bl pv fv ex mt sv 0 0 .nils,none⟩)) (rpC k fr ab ntp ts pk oc bl pv fv ex mt sv 0 0 .nils) ⟨k,ab,pr,fi,ex,mt,ss⟩:=by
  intro H' l' bad fr ab ntp ts pk oc bl pv fv sv ex mt hA pr fi ss h1 h2 h3 h4 h5;obtain ⟨v',gq,hb',-⟩:=hA.r.ex;have aS:=hA.at';have n':=aS.next;have a6:AtS [q6] H' (H'.set q6 (some ⟨tyRp,rpC k fr ab ntp ts pk oc bl pv fv ex mt sv 0 0 .nils,none⟩)):=AtS.set (k:=q6) _ (by simp) _;have away:∀ {x:V} {e n:Nat} {cs:List V},Lc e H3.next H' x cs n → Lc e q6 (H'.set q6 (some ⟨tyRp,rpC k fr ab ntp ts pk oc bl pv fv ex mt sv 0 0 .nils,none⟩)) x cs n:=fun {x e n cs} hx =>
   Lc.low (Lc.atS hx a6 fun i hi e=>by have:=(hx.own i hi).1; rw [List.mem_singleton] at e; omega) (by omega)
  refine ⟨v',_,gq,hb'.vlen,hA.g,(aS.same q6 (by omega) (by simp; exact ⟨ne6q,ne6p⟩)).trans g6,rfl,?_,fun b=>?_,⟨fr,ntp,ts,pk,oc,bl,pv,fv,sv,0,0,.nils,rfl,away h1,away h2,away h3,h4,h5,rfl,rfl⟩⟩
  ·simp [V.okc,rpC]
  ·exact AtS.new (S:=[q6,q,p]) s03 ((aS.mono (by simp)).trans (AtS.set (k:=q6) _ (by simp) b)) (by simp; omega)
 have spl:∀ {fr ab ntp ts pk oc bl pv fv ex mt sv ty ct bd},splice (rpC 0 0 0 0 0 0 0 .nils .nils .nils 0 0 .nils 0 0 .nils) 0 (rpC k fr ab ntp ts pk oc bl pv fv ex mt sv ty ct bd) = rpC k fr ab ntp ts pk oc bl pv fv ex mt sv ty ct bd:=fun {_ _ _ _ _ _ _ _ _ _ _ _ _ _ _}=>rfl;have len:∀ {k fr ab ntp ts pk oc bl pv fv ex mt sv ty ct bd},(rpC k fr ab ntp ts pk oc bl pv fv ex mt sv ty ct bd).length = 16:=fun {_ _ _ _ _ _ _ _ _ _ _ _ _ _ _ _}=>rfl;have all:∀ {k fr ab ntp ts pk oc bl pv fv ex mt sv ty ct bd},ldc (some 16) (rpC k fr ab ntp ts pk oc bl pv fv ex mt sv ty ct bd) 0 = some (.agg (rpC k fr ab ntp ts pk oc bl pv fv ex mt sv ty ct bd)):=fun {_ _ _ _ _ _ _ _ _ _ _ _ _ _ _ _}=>rfl;have k8:∀ n,Ok8 (sk n l):=fun n=>sk_8 h8;have ll:∀ n,(sk n l).length ≤ 1000000:=fun n=>by rw [zgy]; omega
 have wl3:∀ i,v.pid = some i → i < H3.next:=hA.wl;by_cases h7:k = 7
 ·subst h7;simp only [if_true,or_true];have g7:=hA.g;have c0:(rpC 7 0 0 0 0 0 0 .nils .nils .nils 0 0 .nils 0 0 .nils)[0]? = some (.int .i64 7):=rfl;simp (maxSteps:=1000000) (disch:=first | omega | (simp only [RY] <;> omega) | decide) only [↓RD,RZ,eq_self,Int.reduceToNat,Int.reduceAdd,Int.reduceSub,Int.reduceMul,Nat.reduceAdd,Nat.reduceSub,Nat.reduceMul,Nat.reduceDiv,Nat.reduceMod,Nat.reduceBEq,Nat.reduceLeDiff,gp,c0,len];refine zac (zm1 hb3 (by omega)) ?_;rintro w H4 ⟨hw,s4⟩;have wc:=hw.lc.cells1;have wo:=hw.lc.okc;have g4:=(s4.same p hA.hp).trans gp;have g46:=(s4.same q6 (by omega)).trans g6;have e1:splice (rpC 7 0 0 0 0 0 0 .nils .nils .nils 0 0 .nils 0 0 .nils) 13 [.int .i64 (t:Nat)] = rpC 7 0 0 0 0 0 0 .nils .nils .nils 0 0 .nils t 0 .nils:=rfl;have e2:splice (rpC 7 0 0 0 0 0 0 .nils .nils .nils 0 0 .nils t 0 .nils) 14 [.int .i64 (c:Nat)] = rpC 7 0 0 0 0 0 0 .nils .nils .nils 0 0 .nils t c .nils:=rfl;have e3:splice (rpC 7 0 0 0 0 0 0 .nils .nils .nils 0 0 .nils t c .nils) 15 [w] = rpC 7 0 0 0 0 0 0 .nils .nils .nils 0 0 .nils t c w:=rfl;have ok:(V.agg (rpC 7 0 0 0 0 0 0 .nils .nils .nils 0 0 .nils t c w)).okc = true:=by simp [V.okc,rpC,wo]
  simp (maxSteps:=1000000) (disch:=first | omega | (simp only [RY] <;> omega) | decide) only [↓RD,RZ,eq_self,Int.reduceToNat,Int.reduceAdd,Int.reduceSub,Int.reduceMul,Nat.reduceAdd,Nat.reduceSub,Nat.reduceMul,Nat.reduceDiv,Nat.reduceMod,Nat.reduceBEq,Nat.reduceLeDiff,g4,g46,len,e1,e2,e3,wc,wo,all,ok,spl,ne6p];have aS:∀ x,AtS [q6,p] H4 x → Grow H x:=fun x hx=>AtS.new (S:=[q6,p]) (s03.trans s4) hx (by simp; omega);have a1:AtS [q6,p] H4 _:=(AtS.set (k:=p) H4 (by simp) (some ⟨tyRp,rpC 7 0 0 0 0 0 0 .nils .nils .nils 0 0 .nils t 0 .nils,none⟩)).trans ((AtS.set (k:=p) _ (by simp) (some ⟨tyRp,rpC 7 0 0 0 0 0 0 .nils .nils .nils 0 0 .nils t c .nils,none⟩)).trans ((AtS.set (k:=p) _ (by simp) (some ⟨tyRp,rpC 7 0 0 0 0 0 0 .nils .nils .nils 0 0 .nils t c w,none⟩)).trans (AtS.set (k:=q6) _ (by simp) (some ⟨tyRp,rpC 7 0 0 0 0 0 0 .nils .nils .nils 0 0 .nils t c w,none⟩))));exact ⟨aS _ a1,_,rfl,0,0,0,0,0,.nils,.nils,.nils,.nils,t,c,w,rfl,Lc.nil,Lc.nil,Lc.nil,rfl,rfl,wc,wo⟩
 have b7:(((k:Nat):Int) == 7) = false:=beq_false_of_ne (by omega);have b7':(k == 7) = false:=beq_false_of_ne h7;have c0:(rpC k 0 0 0 0 0 0 .nils .nils .nils 0 0 .nils 0 0 .nils)[0]? = some (.int .i64 (k:Nat)):=rfl;simp only [h7,or_false,if_false];simp (maxSteps:=1000000) (disch:=first | omega | (simp only [RY] <;> omega) | decide) only [↓RD,RZ,eq_self,Int.reduceToNat,Int.reduceAdd,Int.reduceSub,Int.reduceMul,Nat.reduceAdd,Nat.reduceSub,Nat.reduceMul,Nat.reduceDiv,Nat.reduceMod,Nat.reduceBEq,Nat.reduceLeDiff,gp,c0,len,b7,b7'];refine zac (zdW hA.r h8 hl) ?_;rintro _ H4 ⟨rfl,a4,r4⟩;obtain ⟨h4,-⟩:=hA.num a4 r4;have g4:=h4.g;have h5:=h4.st (rpC k (pn 4 l) 0 0 0 0 0 .nils .nils .nils 0 0 .nils 0 0 .nils);have g5:=h5.g;have c5:(rpC k (pn 4 l) 0 0 0 0 0 .nils .nils .nils 0 0 .nils 0 0 .nils)[0]? = some (.int .i64 (k:Nat)):=rfl;have sp5:splice (rpC k 0 0 0 0 0 0 .nils .nils .nils 0 0 .nils 0 0 .nils) 1 [.int .u32 (pn 4 l:Nat)] = rpC k (pn 4 l) 0 0 0 0 0 .nils .nils .nils 0 0 .nils 0 0 .nils:=rfl;generalize hx:(if k ≤ 2 then (⟨k,0,[],[],0,0,[]⟩:Rp) else _) = x at *;generalize hN:(if k = 1 then 24 + 24 * c else if k = 2 then 4 + 24 * c else 4 + abN k (sk 4 l)) = n at *;have hxk:x.k = k:=by rw [← hx]; split <;> rfl
 simp (maxSteps:=1000000) (disch:=first | omega | (simp only [RY] <;> omega) | decide) only [↓RD,RZ,eq_self,Int.reduceToNat,Int.reduceAdd,Int.reduceSub,Int.reduceMul,Nat.reduceAdd,Nat.reduceSub,Nat.reduceMul,Nat.reduceDiv,Nat.reduceMod,Nat.reduceBEq,Nat.reduceLeDiff,g4,len,sp5,g5,c5];refine zau (Q:=fun r H'=>r = .nrm [] ∧ ∃ ntp ts pk oc bl pv fv sv,AI H3 H' q p lo v.pid (sk n l) (bdF n l false || abB k (sk 4 l)) (rpC k (pn 4 l) x.ab ntp ts pk oc bl pv fv x.ex x.mt sv 0 0 .nils) ∧ Lc 2 H3.next H' pv (prC x.pr) x.pr.length ∧ Lc 2 H3.next H' fv (frC x.fi) x.fi.length ∧ Lc 1 H3.next H' sv (ssC x.ss) x.ss.length ∧ bl.cells = [bl] ∧ bl.okc = true) ?_ ?_
 ·by_cases h3:3 ≤ k
  ·have hk':k = 3 ∨ k = 4 ∨ k = 5 ∨ k = 6:=by omega
   have b1:(((k:Nat):Int) == 1) = false:=beq_false_of_ne (by omega);have b2:(((k:Nat):Int) == 2) = false:=beq_false_of_ne (by omega);have b1':(k == 1) = false:=beq_false_of_ne (by omega);have b2':(k == 2) = false:=beq_false_of_ne (by omega);rw [if_neg (by omega)] at hx;rw [if_neg (by omega),if_neg (by omega)] at hN;subst hx;subst hN;simp (maxSteps:=1000000) (disch:=first | omega | (simp only [RY] <;> omega) | decide) only [↓RD,RZ,eq_self,Int.reduceToNat,Int.reduceAdd,Int.reduceSub,Int.reduceMul,Nat.reduceAdd,Nat.reduceSub,Nat.reduceMul,Nat.reduceDiv,Nat.reduceMod,Nat.reduceBEq,Nat.reduceLeDiff,b1,b1',b2,b2'];refine zac (about_ok hk' h5 (k8 4) (ll 4)) ?_;rintro _ H6 ⟨rfl,pv,fv,sv,h6,l1,l2,l3⟩;rw [zdN,zcL (abN_pos k _)] at h6;simp (maxSteps:=1000000) (disch:=first | omega | (simp only [RY] <;> omega) | decide) only [↓RD,RZ,eq_self,Int.reduceToNat,Int.reduceAdd,Int.reduceSub,Int.reduceMul,Nat.reduceAdd,Nat.reduceSub,Nat.reduceMul,Nat.reduceDiv,Nat.reduceMod,Nat.reduceBEq,Nat.reduceLeDiff];exact ⟨0,0,0,0,.nils,pv,fv,sv,h6,l1,l2,l3,rfl,rfl⟩
  ·rw [if_pos (by omega)] at hx;subst hx;have hB:abB k (sk 4 l) = false:=by unfold abB; rw [if_neg (by omega)]
   rw [hB];rcases (show k = 1 ∨ k = 2 by omega) with rfl | rfl
   ·rw [if_pos rfl] at hN;subst hN;simp (maxSteps:=1000000) (disch:=first | omega | (simp only [RY] <;> omega) | decide) only [↓RD,RZ,eq_self,Int.reduceToNat,Int.reduceAdd,Int.reduceSub,Int.reduceMul,Nat.reduceAdd,Nat.reduceSub,Nat.reduceMul,Nat.reduceDiv,Nat.reduceMod,Nat.reduceBEq,Nat.reduceLeDiff];refine zac (zhy (n:=8) h5.r (k8 4) (by decide) (ll 4)) ?_;rintro _ H6 ⟨rfl,a6,r6⟩;rw [zdN,zcL (by decide)] at r6;obtain ⟨h6,-⟩:=h5.num a6 r6;have h6':=h6.st (rpC 1 (pn 4 l) 0 (pn 8 (sk 4 l)) 0 0 0 .nils .nils .nils 0 0 .nils 0 0 .nils);have spn:splice (rpC 1 (pn 4 l) 0 0 0 0 0 .nils .nils .nils 0 0 .nils 0 0 .nils) 3 [.int .u64 (pn 8 (sk 4 l):Nat)] = rpC 1 (pn 4 l) 0 (pn 8 (sk 4 l)) 0 0 0 .nils .nils .nils 0 0 .nils 0 0 .nils:=rfl;simp (maxSteps:=1000000) (disch:=first | omega | (simp only [RY] <;> omega) | decide) only [↓RD,RZ,eq_self,Int.reduceToNat,Int.reduceAdd,Int.reduceSub,Int.reduceMul,Nat.reduceAdd,Nat.reduceSub,Nat.reduceMul,Nat.reduceDiv,Nat.reduceMod,Nat.reduceBEq,Nat.reduceLeDiff,h6.g,len,spn];refine zac (zdW h6'.r (k8 _) (ll _)) ?_;rintro _ H7 ⟨rfl,a7,r7⟩;rw [zdN,zcL (by decide)] at r7;obtain ⟨h7',-⟩:=h6'.num a7 r7;simp (maxSteps:=1000000) (disch:=first | omega | (simp only [RY] <;> omega) | decide) only [↓RD,RZ,eq_self,Int.reduceToNat,Int.reduceAdd,Int.reduceSub,Int.reduceMul,Nat.reduceAdd,Nat.reduceSub,Nat.reduceMul,Nat.reduceDiv,Nat.reduceMod,Nat.reduceBEq,Nat.reduceLeDiff];refine zac (zdW h7'.r (k8 _) (ll _)) ?_;rintro _ H8 ⟨rfl,a8,r8⟩;rw [zdN,zcL (by decide)] at r8;obtain ⟨h8',-⟩:=h7'.num a8 r8;simp (maxSteps:=1000000) (disch:=first | omega | (simp only [RY] <;> omega) | decide) only [↓RD,RZ,eq_self,Int.reduceToNat,Int.reduceAdd,Int.reduceSub,Int.reduceMul,Nat.reduceAdd,Nat.reduceSub,Nat.reduceMul,Nat.reduceDiv,Nat.reduceMod,Nat.reduceBEq,Nat.reduceLeDiff];refine zac (zdW h8'.r (k8 _) (ll _)) ?_;rintro _ H9 ⟨rfl,a9,r9⟩;rw [zdN,zcL (by decide)] at r9;obtain ⟨h9',-⟩:=h8'.num a9 r9;have sp1:splice (rpC 1 (pn 4 l) 0 (pn 8 (sk 4 l)) 0 0 0 .nils .nils .nils 0 0 .nils 0 0 .nils) 4 [.int .u32 (pn 4 (sk (4 + 8) l):Nat)] = rpC 1 (pn 4 l) 0 (pn 8 (sk 4 l)) (pn 4 (sk (4 + 8) l)) 0 0 .nils .nils .nils 0 0 .nils 0 0 .nils:=rfl;have sp2:splice (rpC 1 (pn 4 l) 0 (pn 8 (sk 4 l)) (pn 4 (sk (4 + 8) l)) 0 0 .nils .nils .nils 0 0 .nils 0 0 .nils) 5 [.int .u32 (pn 4 (sk (4 + 8 + 4) l):Nat)] = rpC 1 (pn 4 l) 0 (pn 8 (sk 4 l)) (pn 4 (sk (4 + 8) l)) (pn 4 (sk (4 + 8 + 4) l)) 0 .nils .nils .nils 0 0 .nils 0 0 .nils:=rfl;have sp3:splice (rpC 1 (pn 4 l) 0 (pn 8 (sk 4 l)) (pn 4 (sk (4 + 8) l)) (pn 4 (sk (4 + 8 + 4) l)) 0 .nils .nils .nils 0 0 .nils 0 0 .nils) 6 [.int .u32 (pn 4 (sk (4 + 8 + 4 + 4) l):Nat)] = rpC 1 (pn 4 l) 0 (pn 8 (sk 4 l)) (pn 4 (sk (4 + 8) l)) (pn 4 (sk (4 + 8 + 4) l)) (pn 4 (sk (4 + 8 + 4 + 4) l)) .nils .nils .nils 0 0 .nils 0 0 .nils:=rfl;have h9'':=(((h9'.st (rpC 1 (pn 4 l) 0 (pn 8 (sk 4 l)) (pn 4 (sk (4 + 8) l)) 0 0 .nils .nils .nils 0 0 .nils 0 0 .nils)).st (rpC 1 (pn 4 l) 0 (pn 8 (sk 4 l)) (pn 4 (sk (4 + 8) l)) (pn 4 (sk (4 + 8 + 4) l)) 0 .nils .nils .nils 0 0 .nils 0 0 .nils)).st (rpC 1 (pn 4 l) 0 (pn 8 (sk 4 l)) (pn 4 (sk (4 + 8) l)) (pn 4 (sk (4 + 8 + 4) l)) (pn 4 (sk (4 + 8 + 4 + 4) l)) .nils .nils .nils 0 0 .nils 0 0 .nils))
    simp (maxSteps:=1000000) (disch:=first | omega | (simp only [RY] <;> omega) | decide) only [↓RD,RZ,eq_self,Int.reduceToNat,Int.reduceAdd,Int.reduceSub,Int.reduceMul,Nat.reduceAdd,Nat.reduceSub,Nat.reduceMul,Nat.reduceDiv,Nat.reduceMod,Nat.reduceBEq,Nat.reduceLeDiff,h9'.g,len,sp1,sp2,sp3];refine zac (zom h9''.r (fun i hi=>Nat.lt_of_lt_of_le (wl3 i hi) h9''.at'.next) (k8 _) hc (ll _)) ?_;rintro bl H10 ⟨blc,blo,a10,r10⟩;rw [zdN,show 4 + 8 + 4 + 4 + 4 = 24 from rfl] at r10;have eb:bdF (24 * c) (sk 24 l) (bdF 24 l false) = (bdF (24 + 24 * c) l false || false):=by
     rw [Bool.or_false];by_cases hz:c = 0
     ·rw [hz,Nat.mul_zero,bd0]
     ·rw [zcL (by omega)]
    rw [eb] at r10;obtain ⟨h10,-⟩:=h9''.num a10 r10;have g10:=h10.g;have sp6:splice (rpC 1 (pn 4 l) 0 (pn 8 (sk 4 l)) (pn 4 (sk (4 + 8) l)) (pn 4 (sk (4 + 8 + 4) l)) (pn 4 (sk (4 + 8 + 4 + 4) l)) .nils .nils .nils 0 0 .nils 0 0 .nils) 7 [bl] = rpC 1 (pn 4 l) 0 (pn 8 (sk 4 l)) (pn 4 (sk (4 + 8) l)) (pn 4 (sk (4 + 8 + 4) l)) (pn 4 (sk (4 + 8 + 4 + 4) l)) bl .nils .nils 0 0 .nils 0 0 .nils:=rfl;simp (maxSteps:=1000000) (disch:=first | omega | (simp only [RY] <;> omega) | decide) only [↓RD,RZ,eq_self,Int.reduceToNat,Int.reduceAdd,Int.reduceSub,Int.reduceMul,Nat.reduceAdd,Nat.reduceSub,Nat.reduceMul,Nat.reduceDiv,Nat.reduceMod,Nat.reduceBEq,Nat.reduceLeDiff,g10,len,sp6,blc,blo];exact ⟨_,_,_,_,bl,.nils,.nils,.nils,h10.st _,Lc.nil,Lc.nil,Lc.nil,blc,blo⟩
   ·rw [if_neg (by decide),if_pos rfl] at hN;subst hN;simp (maxSteps:=1000000) (disch:=first | omega | (simp only [RY] <;> omega) | decide) only [↓RD,RZ,eq_self,Int.reduceToNat,Int.reduceAdd,Int.reduceSub,Int.reduceMul,Nat.reduceAdd,Nat.reduceSub,Nat.reduceMul,Nat.reduceDiv,Nat.reduceMod,Nat.reduceBEq,Nat.reduceLeDiff];refine zac (zom h5.r (fun i hi=>Nat.lt_of_lt_of_le (wl3 i hi) h5.at'.next) (k8 4) hc (ll 4)) ?_;rintro bl H6 ⟨blc,blo,a6,r6⟩;rw [zdN] at r6;have eb:bdF (24 * c) (sk 4 l) (bdF 4 l false) = (bdF (4 + 24 * c) l false || false):=by
     rw [Bool.or_false];by_cases hz:c = 0
     ·rw [hz,Nat.mul_zero,bd0]
     ·rw [zcL (by omega)]
    rw [eb] at r6;obtain ⟨h6,-⟩:=h5.num a6 r6;have g6':=h6.g;have sp6:splice (rpC 2 (pn 4 l) 0 0 0 0 0 .nils .nils .nils 0 0 .nils 0 0 .nils) 7 [bl] = rpC 2 (pn 4 l) 0 0 0 0 0 bl .nils .nils 0 0 .nils 0 0 .nils:=rfl;simp (maxSteps:=1000000) (disch:=first | omega | (simp only [RY] <;> omega) | decide) only [↓RD,RZ,eq_self,Int.reduceToNat,Int.reduceAdd,Int.reduceSub,Int.reduceMul,Nat.reduceAdd,Nat.reduceSub,Nat.reduceMul,Nat.reduceDiv,Nat.reduceMod,Nat.reduceBEq,Nat.reduceLeDiff,g6',len,sp6,blc,blo];exact ⟨0,0,0,0,bl,.nils,.nils,.nils,h6.st _,Lc.nil,Lc.nil,Lc.nil,blc,blo⟩
 ·rintro _ H6 ⟨rfl,ntp,ts,pk,oc,bl,pv,fv,sv,h6,l1,l2,l3,l4,l5⟩;obtain ⟨v',vb,gq,hvl,gp6,g66,evb,vbo,gr,rv⟩:=fin h6 _ _ _ l1 l2 l3 l4 l5;have fe:=fin_ok (n:=n) (l:=l) (b:=abB k (sk 4 l));rw [← fe];generalize (bdF n l false || abB k (sk 4 l)) = B at *;have ex:(⟨k,x.ab,x.pr,x.fi,x.ex,x.mt,x.ss⟩:Rp) = x:=by rw [← hxk]
  rw [ex] at rv;cases B
  ·simp (maxSteps:=1000000) (disch:=first | omega | (simp only [RY] <;> omega) | decide) only [↓RD,RZ,eq_self,Int.reduceToNat,Int.reduceAdd,Int.reduceSub,Int.reduceMul,Nat.reduceAdd,Nat.reduceSub,Nat.reduceMul,Nat.reduceDiv,Nat.reduceMod,Nat.reduceBEq,Nat.reduceLeDiff,gp6,all,len,gq,g66,hvl,spl,ne6p,ne6q];have ez:((((sk n l).length:Nat):Int) == 0) = decide (sk n l = []):=by
    by_cases he:sk n l = []
    ·rw [he]; rfl
    ·rw [decide_eq_false he];have:(sk n l).length ≠ 0:=fun e=>he (List.length_eq_zero_iff.1 e);exact beq_false_of_ne (by omega)
   exact ⟨gr _,_,by rw [ez]; rfl,rv⟩
  ·simp (maxSteps:=1000000) (disch:=first | omega | (simp only [RY] <;> omega) | decide) only [↓RD,RZ,eq_self,Int.reduceToNat,Int.reduceAdd,Int.reduceSub,Int.reduceMul,Nat.reduceAdd,Nat.reduceSub,Nat.reduceMul,Nat.reduceDiv,Nat.reduceMod,Nat.reduceBEq,Nat.reduceLeDiff,gp6,all,len,gq,g66,hvl,spl,ne6p,ne6q];refine b_unch_u.2 ?_;simp (maxSteps:=1000000) (disch:=first | omega | (simp only [RY] <;> omega) | decide) only [↓RD,RZ,eq_self,Int.reduceToNat,Int.reduceAdd,Int.reduceSub,Int.reduceMul,Nat.reduceAdd,Nat.reduceSub,Nat.reduceMul,Nat.reduceDiv,Nat.reduceMod,Nat.reduceBEq,Nat.reduceLeDiff,gp6,all,len,gq,g66,hvl,spl,ne6p,ne6q];exact ⟨gr _,_,rfl,rv⟩
end Go.Ax.SU
/- Rc8 -/
namespace Go.Ax.SU
open Go.Ax
instance:Inhabited Rp:=⟨⟨0,0,[],[],0,0,[]⟩⟩
def rwl (m:List Nat):Nat:=m.getD 2 0 * 256 + m.getD 3 0
def rbd (m:List Nat):List Nat:=(m.drop 4).take (4 * rwl m)
def rhd (m:List Nat):Bool:=decide (m.getD 0 0 / 32 = 4) && (decide (192 ≤ m.getD 1 0) && decide (m.getD 1 0 ≤ 223))
def reps:Nat → List Nat → Option (List Rp)
 | 0,_=>some []
 | n + 1,m=>if m.length = 0 then some [] else if m.length < 4 then none else if rhd m = false then none else if m.length < 4 + 4 * rwl m then none else
   if zed (m.getD 1 0) (m.getD 0 0 % 32) (rbd m) = false then none else (reps n (m.drop (4 + 4 * rwl m))).map fun l=>repX (m.getD 1 0) (m.getD 0 0 % 32) (rbd m) :: l
def RpW (lo:Nat) (av:Option Nat) (H:Heap) (cells:List V) (x:Rp):Prop :=
 ∃ fr ntp ts pk oc bl pv fv sv ty ct bd,cells = rpC x.k fr x.ab ntp ts pk oc bl pv fv x.ex x.mt sv ty ct bd ∧ Lc 2 lo H fv (frC x.fi) x.fi.length ∧ Lc 1 lo H sv (ssC x.ss) x.ss.length ∧
  (∀ i,fv.pid = some i → av ≠ some i) ∧ (∀ i,sv.pid = some i → av ≠ some i) ∧ (bl.cells = [bl] ∧ bl.okc = true) ∧ (pv.cells = [pv] ∧ pv.okc = true) ∧ bd.cells = [bd] ∧ bd.okc = true
structure Rps (lo:Nat) (H:Heap) (v:V) (xs:List Rp):Prop where
 ex:∃ css:List (List V),App tyRp 16 lo H v css.flatten xs.length ∧ css.length = xs.length ∧ ∀ j,j < xs.length → RpW lo v.pid H (css.getD j []) (xs.getD j default)
theorem Rps.nil {lo:Nat} {H:Heap}:Rps lo H .nils []:=⟨[],App.nil,rfl,fun j hj=>absurd hj (by simp)⟩
theorem RpW.atS {lo:Nat} {av av':Option Nat} {H H':Heap} {cs:List V} {x:Rp} {S:List Nat} (h:RpW lo av H cs x) (a:AtS S H H') (hS:∀ i,i ∈ S → av = some i ∨ i < lo) (h':∀ i,av' = some i → av = some i ∨ H.next ≤ i):RpW lo av' H' cs x:=by
 obtain ⟨fr,ntp,ts,pk,oc,bl,pv,fv,sv,ty,ct,bd,e,l1,l2,n1,n2,r⟩:=h;have f:∀ {y:V},(∀ i,y.pid = some i → lo ≤ i ∧ i < H.next) → (∀ i,y.pid = some i → av ≠ some i) → ∀ i,y.pid = some i → i ∉ S:=fun o n i hi hm=>(hS i hm).elim (n i hi) fun h=>by have:=(o i hi).1; omega
 have g:∀ {y:V},(∀ i,y.pid = some i → lo ≤ i ∧ i < H.next) → (∀ i,y.pid = some i → av ≠ some i) → ∀ i,y.pid = some i → av' ≠ some i:=fun o n i hi hm=>(h' i hm).elim (n i hi) fun h=>by have:=(o i hi).2; omega
 exact ⟨fr,ntp,ts,pk,oc,bl,pv,fv,sv,ty,ct,bd,e,Lc.atS l1 a (f l1.own n1),Lc.atS l2 a (f l2.own n2),g l1.own n1,g l2.own n2,r⟩
theorem RpV.w {lo lo':Nat} {av:Option Nat} {H H':Heap} {cs:List V} {x:Rp} {S:List Nat} (h:RpV lo H cs x) (hl:lo' ≤ lo) (a:AtS S H H') (hS:∀ i,i ∈ S → i < lo ∨ H.next ≤ i) (h':∀ i,av = some i → i < lo ∨ H.next ≤ i):RpW lo' av H' cs x:=by
 obtain ⟨fr,ntp,ts,pk,oc,bl,pv,fv,sv,ty,ct,bd,e,l0,l1,l2,b1,b2,b3,b4⟩:=h;have f:∀ {y:V},(∀ i,y.pid = some i → lo ≤ i ∧ i < H.next) → ∀ i,y.pid = some i → i ∉ S:=fun o i hi hm=>by have:=o i hi; have:=hS i hm; omega
 have g:∀ {y:V},(∀ i,y.pid = some i → lo ≤ i ∧ i < H.next) → ∀ i,y.pid = some i → av ≠ some i:=fun o i hi hm=>(h' i hm).elim (fun h=>by have:=(o i hi).1; omega) fun h=>by have:=(o i hi).2; omega
 exact ⟨fr,ntp,ts,pk,oc,bl,pv,fv,sv,ty,ct,bd,e,Lc.low (Lc.atS l1 a (f l1.own)) hl,Lc.low (Lc.atS l2 a (f l2.own)) hl,g l1.own,g l2.own,⟨b1,b2⟩,⟨l0.cells1,l0.okc⟩,b3,b4⟩
theorem RpW.len {lo:Nat} {av:Option Nat} {H:Heap} {cs:List V} {x:Rp} (h:RpW lo av H cs x):cs.length = 16:=by
 obtain ⟨fr,ntp,ts,pk,oc,bl,pv,fv,sv,ty,ct,bd,rfl,-⟩:=h;rfl
theorem RpW.okc {lo:Nat} {av:Option Nat} {H:Heap} {cs:List V} {x:Rp} (h:RpW lo av H cs x):(V.agg cs).okc = true ∧ (V.agg cs).cells = cs:=by
 obtain ⟨fr,ntp,ts,pk,oc,bl,pv,fv,sv,ty,ct,bd,rfl,l1,l2,-,-,b1,b2,b3,b4⟩:=h;refine ⟨?_,zai _⟩;simp [V.okc,rpC,l1.okc,l2.okc,b1.2,b2.2,b4]
theorem zis {α:Type} {l:List α} {x d:α} {j:Nat} (h:j < l.length):(l ++ [x]).getD j d = l.getD j d:=by
 rw [List.getD_eq_getElem?_getD,List.getD_eq_getElem?_getD,List.getElem?_append_left h]
theorem ziu {α:Type} {l:List α} {x d:α}:(l ++ [x]).getD l.length d = x:=by
 rw [List.getD_eq_getElem?_getD,List.getElem?_append_right (Nat.le_refl _),Nat.sub_self]; rfl
theorem an_all:((List.range 256).all fun m=>decide (Go.bits .andNot .u8 (m:Nat) 31 = ((m / 32 * 32:Nat):Int))) = true:=by kernel_rfl
theorem an_31 {m:Nat} (h:m < 256):Ax.bin .andNot (.int .u8 (m:Nat)) (.int .u8 31) = some (.int .u8 (m / 32 * 32:Nat)):=by
 have:=of_decide_eq_true (List.all_eq_true.1 an_all m (List.mem_range.2 h));rw [zdx,this]
theorem sh8 {m:Nat} (h:m < 256):Ax.bin .shl (.int .i64 (m:Nat)) (.int .u64 8) = some (.int .i64 (m * 256:Nat)):=by
 have e:shl m 8 = m * 256:=Nat.shiftLeft_eq m 8;have:=@zry (m:Nat) 8 .u64 (by omega) (by decide) (by rw [Int.toNat_natCast,show (8:Int).toNat = 8 from rfl,e]; omega);rw [this,Int.toNat_natCast,show (8:Int).toNat = 8 from rfl,e]
theorem or8 {a b:Nat} (h:a < 256) (hb:b < 256):Ax.bin .or (.int .i64 (a * 256:Nat)) (.int .i64 (b:Nat)) = some (.int .i64 (a * 256 + b:Nat)):=by
 have:=@znx ((a * 256:Nat):Int) ((b:Nat):Int) (by omega) (by omega) (by omega) (by omega);rw [this,Int.toNat_natCast,Int.toNat_natCast,or256 _ _ hb]
theorem and31 {m:Nat} (h:m < 256):Ax.bin .and (.int .u8 (m:Nat)) (.int .u8 31) = some (.int .u8 (m % 32:Nat)):=by
 rw [and_u8 (by omega) (by omega) (by decide) (by decide),Int.toNat_natCast];show some (V.int .u8 ((m &&& 31:Nat):Int)) = _;rw [show m &&& 31 = m % 32 from Nat.and_two_pow_sub_one_eq_mod m 5]
set_option maxHeartbeats 2000000 in
theorem zs8 {lo:Nat} {H:Heap} {v:V} {l:List Nat} (hb:By lo H v l) (h8:Ok8 l) (hl:l.length ≤ 1200) (h0:0 < l.length) :
  Ok (sem T zeG [v]) H fun r H'=>Grow H H' ∧ ∃ v e,r = .tup [v,.int .i64 e] ∧ (reps l.length l = none → e ≠ 0) ∧ ∀ xs,reps l.length l = some xs → e = 0 ∧ Rps H.next H' v xs:=by
 refine zmt ?_;unfold zjF uL uB uc ug;have hv:=hb.vlen;have d1:decide ((1200:Int) < ((l.length:Nat):Int)) = false:=decide_eq_false (by omega);have d1':decide (1200 < l.length) = false:=decide_eq_false (by omega);have d2:(((l.length:Nat):Int) == 0) = false:=beq_false_of_ne (by omega);have d2':(l.length == 0) = false:=beq_false_of_ne (by omega);simp (maxSteps:=1000000) (disch:=first | omega | (simp only [RY] <;> omega) | decide) only [↓RD,RZ,eq_self,Int.reduceToNat,Int.reduceAdd,Int.reduceSub,Int.reduceMul,Nat.reduceAdd,Nat.reduceSub,Nat.reduceMul,Nat.reduceDiv,Nat.reduceMod,Nat.reduceBEq,Nat.reduceLeDiff,hv,d1,d1',d2,d2'];have nop:∀ {P:V → Prop},(reps l.length l = none) → ∀ xs,reps l.length l = some xs → (0:Int) = 0 ∧ P .nils:=fun h xs e=>by rw [h] at e; cases e
 refine zh8 (fun L H' n=>∃ mv av m xs,L = [mv,av] ∧ By lo H' mv m ∧ Ok8 m ∧ (∀ i,mv.pid = some i → i < H.next) ∧ Rps H.next H' av xs ∧ Grow H H' ∧ m.length ≤ n ∧ n ≤ 1200 ∧ xs.length + n ≤ 1200 ∧ reps l.length l = (reps n m).map (xs ++ ·)) l.length ?_ ?_
 ·exact ⟨v,.nils,l,[],rfl,hb,h8,fun i hi=>(hb.own i hi).2,Rps.nil,Grow.refl _,Nat.le_refl _,hl,by simpa using hl,by cases reps l.length l <;> rfl⟩
 rintro _ H1 n ⟨mv,av,m,xs,rfl,hm,m8,hmp,hx,s1,hn,hn2,hn3,er⟩;unfold zhC uL uM uS uT uE uB uG uH uO uc ub uq ug;have hmv:=hm.vlen;by_cases hm0:m.length = 0
 ·have d3:decide ((0:Int) < ((m.length:Nat):Int)) = false:=decide_eq_false (by omega);have d3':decide (0 < m.length) = false:=decide_eq_false (by omega);have er':reps l.length l = some xs:=by
   rw [er];cases n with
   | zero=>simp [reps]
   | succ n=>unfold reps; rw [if_pos hm0]; simp
  rw [er'];simp (maxSteps:=1000000) (disch:=first | omega | (simp only [RY] <;> omega) | decide) only [↓RD,RZ,eq_self,Int.reduceToNat,Int.reduceAdd,Int.reduceSub,Int.reduceMul,Nat.reduceAdd,Nat.reduceSub,Nat.reduceMul,Nat.reduceDiv,Nat.reduceMod,Nat.reduceBEq,Nat.reduceLeDiff,hmv,d3,d3'];exact ⟨s1,av,0,rfl,(fun h=>by cases h),fun ys h=>by cases h; exact ⟨rfl,hx⟩⟩
 obtain ⟨n,rfl⟩:∃ k,n = k + 1:=⟨n - 1,by omega⟩;rw [reps,if_neg hm0] at er;have d3:decide ((0:Int) < ((m.length:Nat):Int)) = true:=decide_eq_true (by omega);have d3':decide (0 < m.length) = true:=decide_eq_true (by omega);by_cases h4:m.length < 4
 ·have d4:decide (((m.length:Nat):Int) < 4) = true:=decide_eq_true (by omega);have d4':decide (m.length < 4) = true:=decide_eq_true h4;rw [if_pos h4] at er;rw [show reps l.length l = none from er];simp (maxSteps:=1000000) (disch:=first | omega | (simp only [RY] <;> omega) | decide) only [↓RD,RZ,eq_self,Int.reduceToNat,Int.reduceAdd,Int.reduceSub,Int.reduceMul,Nat.reduceAdd,Nat.reduceSub,Nat.reduceMul,Nat.reduceDiv,Nat.reduceMod,Nat.reduceBEq,Nat.reduceLeDiff,hmv,d3,d3',d4,d4'];exact ⟨s1,.nils,3,rfl,(fun _=>by decide),fun xs e=>by cases e⟩
 have d4:decide (((m.length:Nat):Int) < 4) = false:=decide_eq_false (by omega);have d4':decide (m.length < 4) = false:=decide_eq_false h4;rw [if_neg h4] at er;obtain ⟨p0,hp0,ld0,-⟩:=by_at hm (i:=0) (by decide) (by omega);obtain ⟨p1,hp1,ld1,-⟩:=by_at hm (i:=1) (by decide) (by omega);obtain ⟨p2,hp2,ld2,-⟩:=by_at hm (i:=2) (by decide) (by omega);obtain ⟨p3,hp3,ld3,-⟩:=by_at hm (i:=3) (by decide) (by omega);have ld0:LdR none H1 p0 (.int .u8 (m.getD 0 0:Nat)):=ld0;have ld1:LdR none H1 p1 (.int .u8 (m.getD 1 0:Nat)):=ld1;have ld2:LdR none H1 p2 (.int .u8 (m.getD 2 0:Nat)):=ld2;have ld3:LdR none H1 p3 (.int .u8 (m.getD 3 0:Nat)):=ld3;have lt0:=getD_lt m8 0;have lt1:=getD_lt m8 1;have lt2:=getD_lt m8 2;have lt3:=getD_lt m8 3;have a31:=an_31 lt0;have r31:=and31 lt0;have s8:=sh8 lt2;have o8:=or8 lt2 lt3;have is:=@zaK _ _ _ _ (zta hm (by omega));rw [decide_eq_true (by omega:2 ≤ m.length),Bool.true_and] at is;have lw:rwl m < 65536:=by unfold rwl; omega
 have n31:(((m.getD 0 0 / 32 * 32:Nat):Int) != 128) = !decide (m.getD 0 0 / 32 = 4):=by
  by_cases h:m.getD 0 0 / 32 = 4
  ·rw [h,decide_eq_true rfl]; rfl
  ·rw [decide_eq_false h];have:((m.getD 0 0 / 32 * 32:Nat):Int) ≠ 128:=by omega
   simpa using this
 have n31':(m.getD 0 0 / 32 * 32 != 128) = !decide (m.getD 0 0 / 32 = 4):=by
  by_cases h:m.getD 0 0 / 32 = 4
  ·rw [h,decide_eq_true rfl]; rfl
  ·rw [decide_eq_false h];have:m.getD 0 0 / 32 * 32 ≠ 128:=by omega
   simpa using this
 by_cases hd:rhd m = false
 ·rw [if_pos hd] at er;rw [show reps l.length l = none from er];unfold rhd at hd;by_cases h2:m.getD 0 0 / 32 = 4
  ·rw [decide_eq_true h2] at hd n31 n31';rw [Bool.true_and] at hd;rw [hd] at is;simp (maxSteps:=1000000) (disch:=first | omega | (simp only [RY] <;> omega) | decide) only [↓RD,RZ,eq_self,Int.reduceToNat,Int.reduceAdd,Int.reduceSub,Int.reduceMul,Nat.reduceAdd,Nat.reduceSub,Nat.reduceMul,Nat.reduceDiv,Nat.reduceMod,Nat.reduceBEq,Nat.reduceLeDiff,hmv,d3,d3',d4,d4',hp0,ld0,a31,n31,n31',is];exact ⟨s1,.nils,2,rfl,(fun _=>by decide),fun xs e=>by cases e⟩
  ·rw [decide_eq_false h2] at n31 n31';simp (maxSteps:=1000000) (disch:=first | omega | (simp only [RY] <;> omega) | decide) only [↓RD,RZ,eq_self,Int.reduceToNat,Int.reduceAdd,Int.reduceSub,Int.reduceMul,Nat.reduceAdd,Nat.reduceSub,Nat.reduceMul,Nat.reduceDiv,Nat.reduceMod,Nat.reduceBEq,Nat.reduceLeDiff,hmv,d3,d3',d4,d4',hp0,ld0,a31,n31,n31',is];exact ⟨s1,.nils,2,rfl,(fun _=>by decide),fun xs e=>by cases e⟩
 rw [if_neg hd] at er;have hd:rhd m = true:=by cases h:rhd m with | true=>rfl | false=>exact absurd h hd
 unfold rhd at hd;rw [Bool.and_eq_true] at hd;rw [hd.1] at n31 n31';rw [hd.2] at is;have n32:(((m.getD 0 0 / 32 * 32:Nat):Int) == 128) = true:=by rw [of_decide_eq_true hd.1]; rfl
 have n32':(m.getD 0 0 / 32 * 32 == 128) = true:=by rw [of_decide_eq_true hd.1]; rfl
 have m1:IntKind.i64.wrap (4 * ((m.getD 2 0 * 256 + m.getD 3 0:Nat):Int)) = ((4 * rwl m:Nat):Int):=by rw [wrap_i64 (by omega) (by omega)]; unfold rwl; omega
 have m2:IntKind.i64.wrap (4 + ((4 * rwl m:Nat):Int)) = ((4 + 4 * rwl m:Nat):Int):=by rw [wrap_i64 (by omega) (by omega)]; omega
 by_cases hw:m.length < 4 + 4 * rwl m
 ·have d5:decide (((m.length:Nat):Int) < ((4 + 4 * rwl m:Nat):Int)) = true:=decide_eq_true (by omega);have d5':decide (m.length < 4 + 4 * rwl m) = true:=decide_eq_true hw;rw [if_pos hw] at er;rw [show reps l.length l = none from er];simp (maxSteps:=1000000) (disch:=first | omega | (simp only [RY] <;> omega) | decide) only [↓RD,RZ,eq_self,Int.reduceToNat,Int.reduceAdd,Int.reduceSub,Int.reduceMul,Nat.reduceAdd,Nat.reduceSub,Nat.reduceMul,Nat.reduceDiv,Nat.reduceMod,Nat.reduceBEq,Nat.reduceLeDiff,hmv,d3,d3',d4,d4',hp0,ld0,a31,n31,n31',n32,n32',is,hp2,hp3,ld2,ld3,s8,o8,m1,m2,d5,d5'];exact ⟨s1,.nils,3,rfl,(fun _=>by decide),fun xs e=>by cases e⟩
 rw [if_neg hw] at er;have d5:decide (((m.length:Nat):Int) < ((4 + 4 * rwl m:Nat):Int)) = false:=decide_eq_false (by omega);have d5':decide (m.length < 4 + 4 * rwl m) = false:=decide_eq_false hw;obtain ⟨bv,hbs,-,-,hbb,hbp⟩:=by_slice hm (x:=4) (y:=(4 + 4 * rwl m:Nat)) (by decide) (by omega) (by omega);obtain ⟨rv,-,-,hrs,hrb,hrp⟩:=by_slice hm (x:=(4 + 4 * rwl m:Nat)) (y:=(m.length:Nat)) (by omega) (by omega) (by omega);have hrs:=fun {k}=>hrs rfl (k:=k);rw [Int.toNat_natCast,show (4:Int).toNat = 4 from rfl,show 4 + 4 * rwl m - 4 = 4 * rwl m by omega] at hbb;rw [Int.toNat_natCast,Int.toNat_natCast,List.take_of_length_le (by rw [List.length_drop]; omega)] at hrb;have lb:(rbd m).length ≤ 1200:=by unfold rbd; rw [List.length_take,List.length_drop]; omega
 have hbb:By lo H1 bv (rbd m):=hbb;simp (maxSteps:=1000000) (disch:=first | omega | (simp only [RY] <;> omega) | decide) only [↓RD,RZ,eq_self,Int.reduceToNat,Int.reduceAdd,Int.reduceSub,Int.reduceMul,Nat.reduceAdd,Nat.reduceSub,Nat.reduceMul,Nat.reduceDiv,Nat.reduceMod,Nat.reduceBEq,Nat.reduceLeDiff,hmv,d3,d3',d4,d4',hp0,ld0,a31,n31,n31',n32,n32',is,hp1,ld1,hp2,hp3,ld2,ld3,s8,o8,m1,m2,d5,d5',r31,hbs];refine zac (zrE hbb (show Ok8 (rbd m) from (m8.drop 4).take _) (by omega) lt1 (by omega)) ?_;rintro _ H2 ⟨s2,cells,rfl,hrv⟩;have n2:=s2.next;have xn:xs.length + (n + 1) ≤ 1200:=hn3;have s3:=Grow.new H2 ⟨tyRp,rpC 0 0 0 0 0 0 0 .nils .nils .nils 0 0 .nils 0 0 .nils,none⟩;have cw:=hrv.w (av:=none) (Nat.le_refl _) (AtS.refl [] H2) (by simp) (fun i hi=>by cases hi);have c16:=cw.len;have cok:=cw.okc;refine zao rfl ?_;refine zam (zaR rfl ?_);rw [zai];have z0:([.int .i64 0,.int .u32 0,.int .u32 0,.int .u64 0,.int .u32 0,.int .u32 0,.int .u32 0,.nils,.nils,.nils,.int .i64 0,.int .u32 0,.nils,.int .i64 0,.int .i64 0,.nils]:List V) = rpC 0 0 0 0 0 0 0 .nils .nils .nils 0 0 .nils 0 0 .nils:=rfl;rw [z0];have g3:(H2.new ⟨tyRp,rpC 0 0 0 0 0 0 0 .nils .nils .nils 0 0 .nils 0 0 .nils,none⟩).get H2.next = some ⟨tyRp,rpC 0 0 0 0 0 0 0 .nils .nils .nils 0 0 .nils 0 0 .nils,none⟩:=zad _ _;have n3:(H2.new ⟨tyRp,rpC 0 0 0 0 0 0 0 .nils .nils .nils 0 0 .nils 0 0 .nils,none⟩).next = H2.next + 1:=zag _ _;generalize hq:H2.next = q at *;generalize H2.new _ = H3 at *;have z16:(rpC 0 0 0 0 0 0 0 .nils .nils .nils 0 0 .nils 0 0 .nils).length = 16:=rfl;have spl:splice (rpC 0 0 0 0 0 0 0 .nils .nils .nils 0 0 .nils 0 0 .nils) 0 cells = cells:=by
  obtain ⟨fr,ntp,ts,pk,oc,bl,pv,fv,sv,ty,ct,bd,e,-⟩:=cw;rw [e]; rfl
 have ldl:ldc (some 16) cells 0 = some (.agg cells):=by
  obtain ⟨fr,ntp,ts,pk,oc,bl,pv,fv,sv,ty,ct,bd,e,-⟩:=cw;rw [e]; rfl
 by_cases hok:zed (m.getD 1 0) (m.getD 0 0 % 32) (rbd m) = false
 ·rw [if_pos hok] at er;rw [show reps l.length l = none from er];rw [hok];simp (maxSteps:=1000000) (disch:=first | omega | (simp only [RY] <;> omega) | decide) only [↓RD,RZ,eq_self,Int.reduceToNat,Int.reduceAdd,Int.reduceSub,Int.reduceMul,Nat.reduceAdd,Nat.reduceSub,Nat.reduceMul,Nat.reduceDiv,Nat.reduceMod,Nat.reduceBEq,Nat.reduceLeDiff,g3,cok.1,cok.2,c16,z16,spl];exact ⟨(s1.trans (s2.trans s3)).set (by have:=s1.next; omega) _,.nils,2,rfl,(fun _=>by decide),fun xs e=>by cases e⟩
 rw [if_neg hok] at er;have hok:zed (m.getD 1 0) (m.getD 0 0 % 32) (rbd m) = true:=by cases h:zed (m.getD 1 0) (m.getD 0 0 % 32) (rbd m) with | true=>rfl | false=>exact absurd h hok
 rw [hok];simp (maxSteps:=1000000) (disch:=first | omega | (simp only [RY] <;> omega) | decide) only [↓RD,RZ,eq_self,Int.reduceToNat,Int.reduceAdd,Int.reduceSub,Int.reduceMul,Nat.reduceAdd,Nat.reduceSub,Nat.reduceMul,Nat.reduceDiv,Nat.reduceMod,Nat.reduceBEq,Nat.reduceLeDiff,g3,cok.1,cok.2,c16,z16,spl,ldl,List.append_nil];obtain ⟨css,ha,hcl,hcw⟩:=hx;have s13:=s2.trans s3;have s4:Grow H1 (H3.set q (some ⟨tyRp,cells,none⟩)):=s13.set (by omega) _;have s5:=s4.trans (Grow.new (H3.set q (some ⟨tyRp,cells,none⟩)) ⟨tyRp,cells,none⟩);have s25:AtS [q] H2 ((H3.set q (some ⟨tyRp,cells,none⟩)).new ⟨tyRp,cells,none⟩):=(s3.atS _).trans ((AtS.set (k:=q) H3 (by simp) _).trans ((Grow.new _ _).atS _));have avl:=ha.lc.own;have n1:=s1.next;have n5:((H3.set q (some ⟨tyRp,cells,none⟩)).new ⟨tyRp,cells,none⟩).next = H3.next + 1:=rfl;have l5:H.next ≤ ((H3.set q (some ⟨tyRp,cells,none⟩)).new ⟨tyRp,cells,none⟩).next:=Nat.le_trans s1.next s5.next;refine zcq (bytes:=192) (ha.atS (s5.atS []) (by simp)) l5 (zaQ (by rw [c16])) (by rw [c16]) (by omega) (by omega) fun x H6 hx6 st=>?_;have xc:=hx6.lc.cells1;have sT:Grow H H6:=⟨Nat.le_trans l5 st.next,fun i hi=>by
  rw [st.same i (Nat.lt_of_lt_of_le hi l5) fun hm=>by have:=(avl i (by simpa [zbe] using hm)).1; omega];exact (s1.trans s5).same i hi⟩
 simp (maxSteps:=1000000) (disch:=first | omega | (simp only [RY] <;> omega) | decide) only [↓RD,RZ,eq_self,Int.reduceToNat,Int.reduceAdd,Int.reduceSub,Int.reduceMul,Nat.reduceAdd,Nat.reduceSub,Nat.reduceMul,Nat.reduceDiv,Nat.reduceMod,Nat.reduceBEq,Nat.reduceLeDiff,hrs];have ncs:css.length = xs.length:=hcl;have atS:AtS av.pid.toList ((H3.set q (some ⟨tyRp,cells,none⟩)).new ⟨tyRp,cells,none⟩) H6:=st.atS;have xo:∀ i,x.pid = some i → av.pid = some i ∨ ((H3.set q (some ⟨tyRp,cells,none⟩)).new ⟨tyRp,cells,none⟩).next ≤ i:=fun i hi=>(st.own i (by simpa [zbe] using hi)).elim (fun h=>.inl (by simpa [zbe] using h)) fun h=>.inr h.1;refine ⟨n,Nat.lt_succ_self n,rv,x,m.drop (4 + 4 * rwl m),xs ++ [repX (m.getD 1 0) (m.getD 0 0 % 32) (rbd m)],rfl,?_,m8.drop _,(fun i hi=>hmp i (hrp ▸ hi)),⟨css ++ [cells],?_,?_,?_⟩,sT,by rw [List.length_drop]; omega,by omega,by rw [List.length_append]; simp; omega,?_⟩
 ·refine (Lc.atS (Lc.atS hrb (s5.atS [])  (by simp)) atS fun i hi hm=>?_);have:=hmp i (hrp ▸ hi);have:=(avl i (by simpa [zbe] using hm)).1;omega
 ·rw [List.flatten_append,List.length_append];simpa using hx6
 ·rw [List.length_append,List.length_append,hcl]; rfl
 ·intro j hj;rw [List.length_append] at hj;have hj:j < xs.length + 1:=hj;by_cases hjl:j < xs.length
  ·rw [zis (by omega),zis hjl];exact ((hcw j hjl).atS (s5.atS []) (by simp) fun i hi=>.inl hi).atS atS (fun i hi=>.inl (by simpa [zbe] using hi)) xo
  ·obtain rfl:j = xs.length:=by omega
   rw [ziu,← ncs,ziu];have w:=hrv.w (av:=av.pid) (lo':=H.next) s1.next s25 (fun i hi=>.inr (by simp at hi; omega)) fun i hi=>.inl (avl i hi).2;exact w.atS atS (fun i hi=>.inl (by simpa [zbe] using hi)) xo
 ·rw [er];cases reps n (m.drop (4 + 4 * rwl m)) <;> simp
end Go.Ax.SU
/- Rtp1 -/
namespace Go.Ax.R7
open Go.Ax
def be (l:List Nat):Nat:=l.foldl (fun a b=>a * 256 + b) 0
theorem be_snoc (l:List Nat) (b:Nat):be (l ++ [b]) = be l * 256 + b:=by simp [be]
theorem be_lt (l:List Nat) (h:∀ x ∈ l,x < 256):be l < 256 ^ l.length:=by
 have key:∀ (l:List Nat),(∀ x ∈ l,x < 256) → ∀ l':List Nat,l = l'.reverse → be l < 256 ^ l.length:=by
  intro l hl l' e;subst e
  induction l' with
  | nil=>simp [be]
  | cons b l' ih =>
   rw [List.reverse_cons,be_snoc,List.length_append,List.length_singleton,Nat.pow_succ];have h1:=ih fun x hx=>hl x (by rw [List.reverse_cons]; exact List.mem_append_left _ hx);have h2:=hl b (by simp);omega
 exact key l h l.reverse (by simp)
theorem or256 (a b:Nat) (h:b < 256):a * 256 ||| b = a * 256 + b:=by
 have:=Nat.shiftLeft_add_eq_or_of_lt (i:=8) (b:=b) h a;rw [Nat.shiftLeft_eq] at this;exact this.symm
abbrev By (lo:Nat) (H:Heap) (v:V) (l:List Nat):Prop:=Lc 1 lo H v (l.map by8) l.length
def Ok8 (l:List Nat):Prop:=∀ x ∈ l,x < 256
theorem Ok8.take {l:List Nat} (h:Ok8 l) (n:Nat):Ok8 (l.take n):=fun x hx=>h x (List.mem_of_mem_take hx)
theorem Ok8.drop {l:List Nat} (h:Ok8 l) (n:Nat):Ok8 (l.drop n):=fun x hx=>h x (List.mem_of_mem_drop hx)
theorem by_at {lo:Nat} {H:Heap} {v:V} {l:List Nat} (h:By lo H v l) {i:Int} (h0:0 ≤ i) (h1:i < l.length):∃ p,(∀ {k:IntKind},Ax.iaddr none 1 v (.int k i) = some p) ∧ LdR none H p (.int .u8 (l.getD i.toNat 0:Nat)) ∧ p.pid = v.pid:=by
 obtain ⟨p,hp,hl⟩:=h.at h0 h1;have hi:i.toNat < l.length:=by omega
 have e:((l.map by8).drop (i.toNat * 1)).take 1 = [by8 l[i.toNat]]:=by
  rw [Nat.mul_one,← List.map_drop,List.drop_eq_getElem_cons hi]; rfl
 rw [e] at hl;refine ⟨p,hp,fun f Q=>?_,hl.pid.1⟩;rw [hl.ld0 (by simp)];have hg:l.getD i.toNat 0 = l[i.toNat]:=by rw [List.getD_eq_getElem?_getD,List.getElem?_eq_getElem hi]; rfl
 rw [hg]; exact zsQ
theorem ziO {lo:Nat} {H:Heap} {v:V} {l:List Nat} (h:By lo H v l) {i:Int} (h0:0 ≤ i) (h1:i < l.length):∃ p,(∀ {k:IntKind},Ax.iaddr none 1 v (.int k i) = some p) ∧ (∀ H',By lo H' v l → LdR none H' p (.int .u8 (l.getD i.toNat 0:Nat))) ∧ p.pid = v.pid:=by
 obtain ⟨p,hp,hl,hd⟩:=by_at h h0 h1;refine ⟨p,hp,fun H' h'=>?_,hd⟩;obtain ⟨p',hp',hl',-⟩:=by_at h' h0 h1;have:p = p':=by
  have:=(hp (k:=.i64)).symm.trans (hp' (k:=.i64));simpa using this
 subst this;exact hl'
theorem by_slice {lo:Nat} {H:Heap} {v:V} {l:List Nat} (h:By lo H v l) {x y:Int} (h0:0 ≤ x) (h1:x ≤ y) (h2:y ≤ l.length) :
  ∃ v',(∀ {k k':IntKind},zaN .sl 1 v (some (.int k x)) (some (.int k' y)) none = some v') ∧ (x = 0 → ∀ {k':IntKind},zaN .sl 1 v none (some (.int k' y)) none = some v') ∧ (y = l.length → ∀ {k:IntKind},zaN .sl 1 v (some (.int k x)) none none = some v') ∧
   By lo H v' ((l.drop x.toNat).take (y.toNat - x.toNat)) ∧ v'.pid = v.pid:=by
 obtain ⟨v',a,b,c,d,e⟩:=h.slice h0 h1 h2;refine ⟨v',a,b,c,?_,e⟩;have hl:((l.drop x.toNat).take (y.toNat - x.toNat)).length = y.toNat - x.toNat:=by rw [List.length_take,List.length_drop]; omega
 have:=d;rw [Nat.mul_one,Nat.mul_one,← List.map_drop,← List.map_take] at this;unfold By;rw [hl]; exact this
theorem getD_drop {l:List Nat} {i n:Nat}:(l.drop n).getD i 0 = l.getD (n + i) 0:=by
 simp only [List.getD_eq_getElem?_getD,List.getElem?_drop]
theorem getD_lt {l:List Nat} (h:Ok8 l) (i:Nat):l.getD i 0 < 256:=by
 rw [List.getD_eq_getElem?_getD];cases e:l[i]? with
 | none=>simp
 | some x=>exact h x (List.mem_of_getElem? e)
theorem take_snoc {l:List Nat} {i:Nat} (h:i < l.length):l.take (i + 1) = l.take i ++ [l.getD i 0]:=by
 rw [List.take_add_one,List.getElem?_eq_getElem h,List.getD_eq_getElem?_getD,List.getElem?_eq_getElem h]; rfl
theorem be_take_lt {l:List Nat} (h:Ok8 l) {i n:Nat} (hi:i ≤ n):be (l.take i) < 256 ^ n:=by
 have h1:=be_lt _ (h.take i);have h2:256 ^ (l.take i).length ≤ 256 ^ n:=Nat.pow_le_pow_right (by decide) (by rw [List.length_take]; omega);omega
theorem zlW {lo:Nat} {H:Heap} {v:V} {l:List Nat} (h:By lo H v l) (h8:Ok8 l) (hn:l.length ≤ 4):Ok (sem T zcZ [v]) H fun r H'=>r = .int .u32 (be l:Nat) ∧ H' = H:=by
 refine zqk ?_;unfold zn9 uL uc ug;simp (maxSteps:=1000000) (disch:=first | omega | (simp only [RY] <;> omega) | decide) only [↓RD,RZ,eq_self,Int.reduceToNat,Int.reduceAdd,Int.reduceSub,Int.reduceMul,Nat.reduceAdd,Nat.reduceSub,Nat.reduceMul,Nat.reduceDiv,Nat.reduceMod,Nat.reduceBEq,Nat.reduceLeDiff,h.vlen];refine zaV (fun k L H'=>L = [.int .u32 (be (l.take k):Nat),.int .i64 (k:Nat)] ∧ H' = H) l.length ?_ ?_ ?_
 ·exact ⟨by simp [be],rfl⟩
 ·rintro k L H1 hk ⟨rfl,rfl⟩;obtain ⟨p,hp,hld,-⟩:=by_at h (i:=(k:Nat)) (by omega) (by omega);have hb:=be_take_lt h8 (i:=k) (n:=3) (by omega);have hg:=getD_lt h8 k;have hm:be (l.take k) * 256 % 4294967296 = be (l.take k) * 256:=Nat.mod_eq_of_lt (by omega);unfold zhV uL uB uIM uc uq ug;simp (maxSteps:=1000000) (disch:=first | omega | (simp only [RY] <;> omega) | decide) only [↓RD,RZ,eq_self,Int.reduceToNat,Int.reduceAdd,Int.reduceSub,Int.reduceMul,Nat.reduceAdd,Nat.reduceSub,Nat.reduceMul,Nat.reduceDiv,Nat.reduceMod,Nat.reduceBEq,Nat.reduceLeDiff,hp,hld,hm,or256 _ _ hg];rw [take_snoc hk,be_snoc]; rfl
 ·rintro L H1 ⟨rfl,rfl⟩;unfold zhV uL uB uIM uc uq ug;simp (maxSteps:=1000000) (disch:=first | omega | (simp only [RY] <;> omega) | decide) only [↓RD,RZ,eq_self,Int.reduceToNat,Int.reduceAdd,Int.reduceSub,Int.reduceMul,Nat.reduceAdd,Nat.reduceSub,Nat.reduceMul,Nat.reduceDiv,Nat.reduceMod,Nat.reduceBEq,Nat.reduceLeDiff];rw [List.take_length]
theorem N_ok {lo:Nat} {H:Heap} {v:V} {l:List Nat} (h:By lo H v l) (h8:Ok8 l) (hl:l.length ≤ 1099511627776) (at' n:Nat) (ha:at' + n ≤ l.length) (hn:n ≤ 8):Ok (sem T zaf [v,.int .i64 at',.int .i64 n]) H fun r H'=>r = .int .u64 (be ((l.drop at').take n):Nat) ∧ H' = H:=by
 refine zib ?_;unfold zfY uc uq ug;simp (disch:=first | omega | (simp only [RY] <;> omega) | decide) only [↓RD,RZ,eq_self,Nat.reduceAdd,Int.reduceAdd,Int.reduceToNat,Nat.reduceMul];refine zaV (fun k L H'=>L = [.int .u64 (be ((l.drop at').take k):Nat),.int .i64 (k:Nat)] ∧ H' = H) n ?_ ?_ ?_
 ·exact ⟨by simp [be],rfl⟩
 ·rintro k L H1 hk ⟨rfl,rfl⟩;obtain ⟨p,hp,hld,-⟩:=by_at h (i:=(at' + k:Nat)) (by omega) (by omega);have hb:=be_take_lt (h8.drop at') (i:=k) (n:=7) (by omega);have hg:=getD_lt h8 (at' + k);have hm:be ((l.drop at').take k) * 256 % 18446744073709551616 = be ((l.drop at').take k) * 256:=Nat.mod_eq_of_lt (by omega);have ec:(at':Int) + (k:Int) = ((at' + k:Nat):Int):=rfl;unfold zdj uL uB uIM uc uq ug;simp (disch:=first | omega | (simp only [RY] <;> omega) | decide) only [↓RD,RZ,eq_self,Nat.reduceAdd,Int.reduceAdd,Int.reduceToNat,Nat.reduceMul,hp,hld,hm,or256 _ _ hg,ec];rw [take_snoc (by rw [List.length_drop]; omega),be_snoc,getD_drop]; rfl
 ·rintro L H1 ⟨rfl,rfl⟩;unfold zdj uL uB uIM uc uq ug;simp (disch:=first | omega | (simp only [RY] <;> omega) | decide) only [↓RD,RZ,eq_self,Nat.reduceAdd,Int.reduceAdd,Int.reduceToNat,Nat.reduceMul]
theorem okb_copy {β:Type} {ty e bytes m:Nat} {H:Heap} {y:V} {q:List V} {f:V → M β} {Q:β → Heap → Prop} (hy:zcm e H y = some (q,m)) (hp:∀ id,y.pid = some id → id < H.next) (hq:q.length = m * e)
  (hb:m * bytes ≤ 140737488355328) (hm:m ≤ 140737488355328)
  (k:∀ x' H',App ty e H.next H' x' q m → Grow H H' → Ok (f x') H' Q):Ok ((zay ty e bytes (.sl H.next 0 0 (.fix 0)) y).bind f) (H.new ⟨ty,[],none⟩) Q:=by
 have ha:App ty e H.next (H.new ⟨ty,[],none⟩) (.sl H.next 0 0 (.fix 0)) [] 0:=.lit (zad _ _) (Nat.le_refl _) (by rw [zag]; omega);refine zcq ha (by rw [zag]; omega) (by rw [zlh fun i hi=>zaG _ _ (by have:=hp i hi; omega)]; exact hy) hq (by simpa using hb) (by omega) fun x' H' h hs=>?_;refine k x' H' (by simpa using h) ⟨by have:=hs.next; rw [zag] at this; omega,fun i hi=>?_⟩;rw [hs.same i (by rw [zag]; omega) (by simp [V.pid]; omega),zaG _ _ (by omega)]
theorem zpZ {lo:Nat} {H:Heap} {v:V} {l:List Nat} (h:By lo H v l) (hl:l.length ≤ 1099511627776):Ok (sem T zbm [v]) H fun r H'=>By H.next H' r l ∧ Grow H H':=by
 refine zhx ?_;unfold zgv uL ub;rcases h.cases with ⟨rfl,hc,hn⟩ | ⟨id,off,cap,b,rfl,_⟩ | ⟨cs,rfl,_⟩
 ·simp (disch:=omega) only [↓RD,RZ];have:l = []:=List.eq_nil_of_length_eq_zero hn;subst this;exact ⟨Lc.nil,Grow.refl _⟩
 ·simp (disch:=omega) only [↓RD,RZ];refine okb_copy h.ac (fun i hi=>(h.own i hi).2) (by simp) (by omega) (by omega) fun x' H' ha hg=>?_;simp (disch:=omega) only [↓RD,RZ];exact ⟨ha.lc,hg⟩
 ·simp (disch:=omega) only [↓RD,RZ];refine okb_copy h.ac (fun i hi=>(h.own i hi).2) (by simp) (by omega) (by omega) fun x' H' ha hg=>?_;simp (disch:=omega) only [↓RD,RZ];exact ⟨ha.lc,hg⟩
end Go.Ax.R7
/- Rtp2 -/
namespace Go.Ax
theorem Lc.step {e lo n:Nat} {H H':Heap} {F F':List Nat} {v:V} {cells:List V} (h:Lc e lo H v cells n) (s:Step H H' F F') (hd:∀ id,v.pid = some id → id ∉ F):Lc e lo H' v cells n :=
 ⟨by rw [zcf fun i hi=>s.same i (h.own i hi).2 (hd i hi)]; exact h.rc,fun i hi=>⟨(h.own i hi).1,Nat.lt_of_lt_of_le (h.own i hi).2 s.next⟩,h.cap⟩
theorem Lc.setn {e lo n:Nat} {H:Heap} {v:V} {cells:List V} (h:Lc e lo H v cells n) {w:Nat} (hd:v.pid ≠ some w) (b:Option Blk):Lc e lo (H.set w b) v cells n :=
 ⟨by rw [zcf fun i hi=>zat _ _ (fun e=>hd (by rw [hi,e]))]; exact h.rc,h.own,h.cap⟩
theorem Lc.newn {e lo n:Nat} {H:Heap} {v:V} {cells:List V} (h:Lc e lo H v cells n) (b:Blk):Lc e lo (H.new b) v cells n:=h.ext (Grow.new H b)
end Go.Ax
namespace Go.Ax.R7
open Go.Ax
abbrev X:Type:=Int × List Nat
def xc (w:X × V):List V:=[.int .i64 w.1.1,w.2]
structure Exs (lo:Nat) (H:Heap) (v:V) (xs:List X):Prop where
 ex:∃ ws:List (X × V),ws.map (·.1) = xs ∧ Lc 2 lo H v (ws.map xc).flatten ws.length ∧ ∀ w ∈ ws,By lo H w.2 w.1.2
theorem Exs.nil {lo:Nat} {H:Heap}:Exs lo H .nils []:=⟨[],rfl,Lc.nil,fun w h=>by cases h⟩
theorem Exs.keep {lo:Nat} {H H':Heap} {v:V} {xs:List X} (h:Exs lo H v xs) (k:Keep lo H H'):Exs lo H' v xs:=by
 obtain ⟨ws,h1,h2,h3⟩:=h;exact ⟨ws,h1,h2.keep k,fun w hw=>(h3 w hw).keep k⟩
theorem Exs.ext {lo:Nat} {H H':Heap} {v:V} {xs:List X} (h:Exs lo H v xs) (k:Grow H H'):Exs lo H' v xs:=h.keep (k.keep lo)
theorem Exs.low {lo lo':Nat} {H:Heap} {v:V} {xs:List X} (h:Exs lo H v xs) (hl:lo' ≤ lo):Exs lo' H v xs:=by
 obtain ⟨ws,h1,h2,h3⟩:=h;exact ⟨ws,h1,h2.low hl,fun w hw=>(h3 w hw).low hl⟩
theorem Exs.cells1 {lo:Nat} {H:Heap} {v:V} {xs:List X} (h:Exs lo H v xs):v.cells = [v]:=by
 obtain ⟨ws,rfl,h2,h3⟩:=h;exact h2.cells1
theorem Exs.okc {lo:Nat} {H:Heap} {v:V} {xs:List X} (h:Exs lo H v xs):v.okc = true:=by
 obtain ⟨ws,rfl,h2,h3⟩:=h;exact h2.okc
structure AppX (ty lo:Nat) (H:Heap) (v:V) (xs:List X):Prop where
 ex:∃ ws:List (X × V),ws.map (·.1) = xs ∧ App ty 2 lo H v (ws.map xc).flatten ws.length ∧ ∀ w ∈ ws,By lo H w.2 w.1.2 ∧ ∀ id,w.2.pid = some id → v.pid ≠ some id
theorem AppX.exs {ty lo:Nat} {H:Heap} {v:V} {xs:List X} (h:AppX ty lo H v xs):Exs lo H v xs:=by
 obtain ⟨ws,h1,h2,h3⟩:=h;exact ⟨ws,h1,h2.lc,fun w hw=>(h3 w hw).1⟩
theorem AppX.nil {ty lo:Nat} {H:Heap}:AppX ty lo H .nils []:=⟨[],rfl,App.nil,fun w h=>by cases h⟩
theorem App.keep {ty e lo n:Nat} {H H':Heap} {v:V} {cells:List V} (h:App ty e lo H v cells n) (k:Keep lo H H'):App ty e lo H' v cells n:=by
 cases h with
 | opn h ho=>exact .opn (h.to fun i hi=>k.same i (ho i hi).1 (ho i hi).2) fun i hi=>⟨(ho i hi).1,Nat.lt_of_lt_of_le (ho i hi).2 k.next⟩
 | lit h h0 h1=>exact .lit (by rw [k.same _ h0 h1,h]) h0 (Nat.lt_of_lt_of_le h1 k.next)
theorem AppX.keep {ty lo:Nat} {H H':Heap} {v:V} {xs:List X} (h:AppX ty lo H v xs) (k:Keep lo H H'):AppX ty lo H' v xs:=by
 obtain ⟨ws,h1,h2,h3⟩:=h;exact ⟨ws,h1,App.keep h2 k,fun w hw=>⟨(h3 w hw).1.keep k,(h3 w hw).2⟩⟩
theorem zpw {β:Type} {ty bytes lo:Nat} {H:Heap} {x y bv:V} {xs:List X} {a:Int} {b:List Nat} {f:V → M β} {Q:β → Heap → Prop} (hx:AppX ty lo H x xs) (hlo:lo ≤ H.next) (hy:zcm 2 H y = some ([.int .i64 a,bv],1)) (hbv:By lo H bv b) (hd:∀ id,bv.pid = some id → x.pid ≠ some id)
  (hb:(xs.length + 1) * bytes ≤ 140737488355328) (hm:xs.length + 1 ≤ 140737488355328)
  (k:∀ x' H',AppX ty lo H' x' (xs ++ [(a,b)]) → Step H H' x.pid.toList x'.pid.toList → Ok (f x') H' Q):Ok ((zay ty 2 bytes x y).bind f) H Q:=by
 obtain ⟨ws,rfl,h2,h3⟩:=hx;rw [List.length_map] at hb hm;refine zcq h2 hlo hy rfl hb hm fun x' H' h s=>k x' H' ⟨ws ++ [((a,b),bv)],by simp,?_,?_⟩ s
 ·simpa [xc] using h
 ·have hpid:∀ id,x'.pid = some id → x.pid = some id ∨ H.next ≤ id:=fun id hi=>by
   rcases s.own id (by simp [hi]) with h | h
   ·exact .inl (by simpa [zbe] using h)
   ·exact .inr h.1
  have key:∀ (u:V) (l:List Nat),By lo H u l → (∀ id,u.pid = some id → x.pid ≠ some id) → By lo H' u l ∧ ∀ id,u.pid = some id → x'.pid ≠ some id:=by
   intro u l hu hn;refine ⟨hu.step s fun id hi hF=>hn id hi (by simpa [zbe] using hF),fun id hi he=>?_⟩;rcases hpid id he with h | h
   ·exact hn id hi h
   ·have:=(hu.own id hi).2; omega
  intro w hw;rcases List.mem_append.1 hw with hw | hw
  ·exact key _ _ (h3 w hw).1 (h3 w hw).2
  ·simp only [List.mem_singleton] at hw;subst hw;exact key _ _ hbv hd
/-! One element. -/
def eid (one:Bool) (l:List Nat):Nat:=if one then l.getD 0 0 / 16 else l.getD 0 0
def zdo (one:Bool):Nat:=if one then 1 else 2
def enum (one:Bool) (l:List Nat):Nat:=if one then l.getD 0 0 % 16 + 1 else l.getD 1 0
def ebad (one:Bool) (l:List Nat):Prop:=eid one l = 0 ∨ l.length < zdo one + enum one l
def zod (one:Bool) (l:List Nat):X:=((eid one l:Nat),(l.drop (zdo one)).take (enum one l))
def elen (one:Bool) (l:List Nat):Nat:=zdo one + enum one l
instance (one:Bool) (l:List Nat):Decidable (ebad one l):=by unfold ebad; infer_instance
theorem zqP {lo : Nat} {H : Heap} {v : V} {l : List Nat} (h : By lo H v l) (h8 : Ok8 l) (hl : l.length ≤ 1048576) (h0 : 0 < l.length) (prof : Int) (hp : -9223372036854775808 ≤ prof ∧ prof ≤ 9223372036854775807) :
    Ok (sem T zd6 [.int .i64 prof, v]) H fun r H' => Grow H H' ∧
      (if ebad (decide (prof = 48862)) l then r = .tup [.agg [.int .i64 0, .nils], .int .i64 0, .bool false]
       else ∃ bv, r = .tup [.agg [.int .i64 (zod (decide (prof = 48862)) l).1, bv], .int .i64 (elen (decide (prof = 48862)) l : Nat), .bool true] ∧ By H.next H' bv (zod (decide (prof = 48862)) l).2) := by
  obtain ⟨p0, hp0, hl0, -⟩ := ziO h (i := 0) (by omega) (by omega)
  have hb0 := getD_lt h8 0
  have hb1 := getD_lt h8 1
  have hv : ∀ id, v.pid = some id → id < H.next := fun id hi => (h.own id hi).2
  refine zll ?_
  unfold ziD uL uS uT uF uFM uB uIM uG uH uO uc ub uq ug
  have e1 := hl0 (H.new ⟨zbE, [.int .i64 0, .nils], none⟩) (h.newn _)
  simp (maxSteps := 1000000) (disch := first | omega | (simp only [RY] <;> omega) | decide) only [↓RD, RZ, eq_self, Int.reduceToNat, Int.reduceAdd, Int.reduceSub, Int.reduceMul, Nat.reduceAdd, Nat.reduceSub, Nat.reduceMul, Nat.reduceDiv, Nat.reduceMod, Nat.reduceBEq, Nat.reduceLeDiff, hp0, e1]
  generalize hH1 : (Heap.new (Heap.new _ _) _).set _ _ = H1
  have hn1 : H1.next = H.next + 2 := by rw [← hH1]; rfl
  have hg1 : Grow H H1 := by rw [← hH1]; exact ((Grow.new H _).trans (Grow.new _ _)).set (by omega) _
  have hd4 : H1.get H.next = some ⟨zbE, [.int .i64 0, .nils], none⟩ := by rw [← hH1, zat _ _ (by omega), zaG _ _ (by rw [zag]; omega), zad]
  have hd7 : H1.get (H.next + 1) = some ⟨zbE, [.int .i64 (l.getD 0 0 : Nat), .nils], none⟩ := by rw [← hH1, zak]
  have h1 : By lo H1 v l := h.ext hg1
  clear hH1
  -- both shapes of a head
  refine zau (Q := fun r H' => r = Res.nrm [.int .i64 (zdo (decide (prof = 48862)) : Nat), .int .i64 (enum (decide (prof = 48862)) l : Nat)] ∧ By lo H' v l ∧ Grow H H' ∧ H'.next = H1.next ∧ H'.get H.next = H1.get H.next ∧ H'.get (H.next + 1) = some ⟨zbE, [.int .i64 (eid (decide (prof = 48862)) l : Nat), .nils], none⟩) ?_ ?_
  · have e2 := hl0 H1 h1
    refine zmA (fun hpr => ?_) fun hpr => ?_
    · have e3 := hl0 (H1.set (H.next + 1) (some ⟨zbE, [.int .i64 (l.getD 0 0 / 16 : Nat), .nils], none⟩)) (h1.setn (fun e => by have := hv _ e; omega) _)
      simp (maxSteps := 1000000) (disch := first | omega | (simp only [RY] <;> omega) | decide) only [↓RD, RZ, eq_self, Int.reduceToNat, Int.reduceAdd, Int.reduceSub, Int.reduceMul, Nat.reduceAdd, Nat.reduceSub, Nat.reduceMul, Nat.reduceDiv, Nat.reduceMod, Nat.reduceBEq, Nat.reduceLeDiff, hp0, e2, hd7, e3]
      have hen : enum (decide (prof = 48862)) l = l.getD 0 0 % 16 + 1 := by rw [decide_eq_true hpr]; rfl
      have hef : zdo (decide (prof = 48862)) = 1 := by rw [decide_eq_true hpr]; rfl
      have hei : eid (decide (prof = 48862)) l = l.getD 0 0 / 16 := by rw [decide_eq_true hpr]; rfl
      rw [hen, hef, hei]
      exact ⟨rfl, h1.setn (fun e => by have := hv _ e; omega) _, hg1.set (by omega) _, by trivial⟩
    · have hei : eid (decide (prof = 48862)) l = l.getD 0 0 := by rw [decide_eq_false hpr]; rfl
      have hef : zdo (decide (prof = 48862)) = 2 := by rw [decide_eq_false hpr]; rfl
      have hen : enum (decide (prof = 48862)) l = l.getD 1 0 := by rw [decide_eq_false hpr]; rfl
      rw [hen, hef, hei]
      simp (maxSteps := 1000000) (disch := first | omega | (simp only [RY] <;> omega) | decide) only [↓RD, RZ, eq_self, Int.reduceToNat, Int.reduceAdd, Int.reduceSub, Int.reduceMul, Nat.reduceAdd, Nat.reduceSub, Nat.reduceMul, Nat.reduceDiv, Nat.reduceMod, Nat.reduceBEq, Nat.reduceLeDiff, h1.vlen]
      by_cases hl1 : 1 < l.length
      · obtain ⟨p1, hp1, hl1', -⟩ := by_at h1 (i := 1) (by omega) (by omega)
        simp (maxSteps := 1000000) (disch := first | omega | (simp only [RY] <;> omega) | decide) only [↓RD, RZ, eq_self, Int.reduceToNat, Int.reduceAdd, Int.reduceSub, Int.reduceMul, Nat.reduceAdd, Nat.reduceSub, Nat.reduceMul, Nat.reduceDiv, Nat.reduceMod, Nat.reduceBEq, Nat.reduceLeDiff, hp1, hl1']
        exact ⟨rfl, h1, hg1, hd7⟩
      · have hz : l.getD 1 0 = 0 := by rw [List.getD_eq_getElem?_getD, List.getElem?_eq_none (by omega)]; rfl
        simp (maxSteps := 1000000) (disch := first | omega | (simp only [RY] <;> omega) | decide) only [↓RD, RZ, eq_self, Int.reduceToNat, Int.reduceAdd, Int.reduceSub, Int.reduceMul, Nat.reduceAdd, Nat.reduceSub, Nat.reduceMul, Nat.reduceDiv, Nat.reduceMod, Nat.reduceBEq, Nat.reduceLeDiff, hz]
        exact ⟨rfl, h1, hg1, hd7⟩
  · rintro _ H2 ⟨rfl, h2, hg2, hn2, hd4', hd7'⟩
    rw [hd4] at hd4'
    simp (maxSteps := 1000000) (disch := first | omega | (simp only [RY] <;> omega) | decide) only [↓RD, RZ, eq_self, Int.reduceToNat, Int.reduceAdd, Int.reduceSub, Int.reduceMul, Nat.reduceAdd, Nat.reduceSub, Nat.reduceMul, Nat.reduceDiv, Nat.reduceMod, Nat.reduceBEq, Nat.reduceLeDiff, hd4', hd7', h2.vlen]
    have hef : zdo (decide (prof = 48862)) ≤ 2 := by unfold zdo; split <;> omega
    have hen : enum (decide (prof = 48862)) l ≤ 255 := by unfold enum; split <;> omega
    have hei : eid (decide (prof = 48862)) l ≤ 255 := by unfold eid; split <;> omega
    unfold zod elen
    generalize hone : decide (prof = 48862) = one at *
    by_cases hz : eid one l = 0
    · have hbad : ebad one l := .inl hz
      rw [hz] at hd7'
      simp (maxSteps := 1000000) (disch := first | omega | (simp only [RY] <;> omega) | decide) only [↓RD, RZ, eq_self, Int.reduceToNat, Int.reduceAdd, Int.reduceSub, Int.reduceMul, Nat.reduceAdd, Nat.reduceSub, Nat.reduceMul, Nat.reduceDiv, Nat.reduceMod, Nat.reduceBEq, Nat.reduceLeDiff, hz, hd4', hd7']
      rw [if_pos hbad]
      exact ⟨hg2.set (by omega) _, by trivial⟩
    · by_cases hs : l.length < zdo one + enum one l
      · have hbad : ebad one l := .inr hs
        simp (maxSteps := 1000000) (disch := first | omega | (simp only [RY] <;> omega) | decide) only [↓RD, RZ, eq_self, Int.reduceToNat, Int.reduceAdd, Int.reduceSub, Int.reduceMul, Nat.reduceAdd, Nat.reduceSub, Nat.reduceMul, Nat.reduceDiv, Nat.reduceMod, Nat.reduceBEq, Nat.reduceLeDiff, hd4', hd7', h2.vlen]
        rw [if_pos hbad]
        exact ⟨hg2.set (by omega) _, by trivial⟩
      · have hbad : ¬ ebad one l := fun h => h.elim hz hs
        obtain ⟨v', hs1, -, -, hs4, hs5⟩ := by_slice h2 (x := (zdo one : Nat)) (y := (zdo one + enum one l : Nat)) (by omega) (by omega) (by omega)
        have ec : (zdo one : Int) + (enum one l : Int) = ((zdo one + enum one l : Nat) : Int) := rfl
        have el : ((zdo one + enum one l : Nat) : Int).toNat - ((zdo one : Nat) : Int).toNat = enum one l := by omega
        rw [el, Int.toNat_natCast] at hs4
        simp (maxSteps := 1000000) (disch := first | omega | (simp only [RY] <;> omega) | decide) only [↓RD, RZ, eq_self, Int.reduceToNat, Int.reduceAdd, Int.reduceSub, Int.reduceMul, Nat.reduceAdd, Nat.reduceSub, Nat.reduceMul, Nat.reduceDiv, Nat.reduceMod, Nat.reduceBEq, Nat.reduceLeDiff, h2.vlen, ec, hs1]
        refine zac (zpZ hs4 (by rw [List.length_take, List.length_drop]; omega)) ?_
        rintro bv H3 ⟨hb3, hg3⟩
        have hd4'' : H3.get H.next = some ⟨zbE, [.int .i64 0, .nils], none⟩ := by rw [hg3.same _ (by omega), hd4']
        have hd7'' : H3.get (H.next + 1) = some ⟨zbE, [.int .i64 (eid one l : Nat), .nils], none⟩ := by rw [hg3.same _ (by omega), hd7']
        simp (maxSteps := 1000000) (disch := first | omega | (simp only [RY] <;> omega) | decide) only [↓RD, RZ, eq_self, Int.reduceToNat, Int.reduceAdd, Int.reduceSub, Int.reduceMul, Nat.reduceAdd, Nat.reduceSub, Nat.reduceMul, Nat.reduceDiv, Nat.reduceMod, Nat.reduceBEq, Nat.reduceLeDiff, hd4'', hd7'', hb3.cells1, hb3.okc]
        rw [if_neg hbad]
        have hne : ∀ w, w ≤ H.next + 1 → bv.pid ≠ some w := fun w hw e => by have := (hb3.own w e).1; omega
        exact ⟨((hg2.trans hg3).set (by omega) _).set (by omega) _, bv, rfl, ((hb3.low (by omega)).setn (hne _ (by omega)) _).setn (hne _ (by omega)) _⟩
/-! All elements. -/
def zeq (one:Bool) (l:List Nat):Option (List X) :=
 if h:l.length = 0 then some []
 else if l.getD 0 0 = 0 then zeq one (l.drop 1)
 else if one = true ∧ l.getD 0 0 / 16 = 15 then some []
 else if ebad one l then none
 else (zeq one (l.drop (elen one l))).map (zod one l :: ·)
termination_by l.length
decreasing_by
 all_goals simp only [List.length_drop]
 ·omega
 ·unfold elen zdo; split <;> omega
theorem zpJ (one:Bool) (l:List Nat):0 < elen one l:=by unfold elen zdo; split <;> omega
theorem exts_ok {lo:Nat} {H:Heap} {v:V} {l:List Nat} (h:By lo H v l) (h8:Ok8 l) (hl:l.length ≤ 1048576) (prof:Int) (hp:-9223372036854775808 ≤ prof ∧ prof ≤ 9223372036854775807) :
  Ok (sem T zeV [.int .i64 prof,v]) H fun r H'=>Grow H H' ∧ match zeq (decide (prof = 48862)) l with
   | none=>r = .tup [.nils,.bool false]
   | some xs=>∃ xv,r = .tup [xv,.bool true] ∧ Exs H.next H' xv xs ∧ xs.length ≤ l.length:=by
 refine zoF ?_;unfold zl2 ug;simp (maxSteps:=1000000) (disch:=first | omega | (simp only [RY] <;> omega) | decide) only [↓RD,RZ,eq_self,Int.reduceToNat,Int.reduceAdd,Int.reduceSub,Int.reduceMul,Nat.reduceAdd,Nat.reduceSub,Nat.reduceMul,Nat.reduceDiv,Nat.reduceMod,Nat.reduceBEq,Nat.reduceLeDiff];generalize hone:decide (prof = 48862) = one;refine zh8 (fun L H' m=>∃ w acc k xs,L = [w,acc] ∧ m = l.length - k ∧ k ≤ l.length ∧ By lo H' w (l.drop k) ∧ w.pid = v.pid ∧ AppX zbE H.next H' acc xs ∧ Grow H H' ∧ xs.length ≤ k ∧ zeq one l = (zeq one (l.drop k)).map (xs ++ ·)) l.length ?_ ?_
 ·exact ⟨v,.nils,0,[],rfl,by simp,by omega,by simpa using h,rfl,AppX.nil,Grow.refl _,by simp,by simp⟩
 ·rintro L H1 m ⟨w,acc,k,xs,rfl,rfl,hk,hw,hwp,ha,hg,hx,hpe⟩;have hdl:(l.drop k).length = l.length - k:=by rw [List.length_drop]
  unfold zjE uL uM uS uT uE uB uG uH uO uc ub uq ug;simp (maxSteps:=1000000) (disch:=first | omega | (simp only [RY] <;> omega) | decide) only [↓RD,RZ,eq_self,Int.reduceToNat,Int.reduceAdd,Int.reduceSub,Int.reduceMul,Nat.reduceAdd,Nat.reduceSub,Nat.reduceMul,Nat.reduceDiv,Nat.reduceMod,Nat.reduceBEq,Nat.reduceLeDiff,hw.vlen,hdl];by_cases h0:l.length - k = 0
  ·have hp0:zeq one (l.drop k) = some []:=by rw [zeq,dif_pos (by omega)]
   rw [hp0] at hpe;simp (maxSteps:=1000000) (disch:=first | omega | (simp only [RY] <;> omega) | decide) only [↓RD,RZ,eq_self,Int.reduceToNat,Int.reduceAdd,Int.reduceSub,Int.reduceMul,Nat.reduceAdd,Nat.reduceSub,Nat.reduceMul,Nat.reduceDiv,Nat.reduceMod,Nat.reduceBEq,Nat.reduceLeDiff,hw.vlen,hdl];refine ⟨hg,?_⟩;rw [hpe];exact ⟨acc,rfl,by simpa using ha.exs,by simpa using (by omega:xs.length ≤ l.length)⟩
  ·have hpos:0 < l.length - k:=by omega
   obtain ⟨p0,hp0,hl0,-⟩:=ziO hw (i:=0) (by omega) (by omega);have e1:=hl0 H1 hw;have h8k:=h8.drop k;have hb0:=getD_lt h8k 0;have ht0:(0:Int).toNat = 0:=rfl;rw [ht0] at e1;have hp1:zeq one (l.drop k) = if (l.drop k).getD 0 0 = 0 then zeq one ((l.drop k).drop 1) else if one = true ∧ (l.drop k).getD 0 0 / 16 = 15 then some [] else if ebad one (l.drop k) then none else (zeq one ((l.drop k).drop (elen one (l.drop k)))).map (zod one (l.drop k) :: ·):=by
    rw [zeq,dif_neg (by omega)]
   simp (maxSteps:=1000000) (disch:=first | omega | (simp only [RY] <;> omega) | decide) only [↓RD,RZ,eq_self,Int.reduceToNat,Int.reduceAdd,Int.reduceSub,Int.reduceMul,Nat.reduceAdd,Nat.reduceSub,Nat.reduceMul,Nat.reduceDiv,Nat.reduceMod,Nat.reduceBEq,Nat.reduceLeDiff,hp0,e1];refine zmA (fun hz=>?_) fun hz=>?_
   ·obtain ⟨v',-,-,hs3,hs4,hs5⟩:=by_slice hw (x:=1) (y:=(l.length - k:Nat)) (by omega) (by omega) (by omega);rw [if_pos (by omega)] at hp1;have hs3':=@hs3 (by rw [hdl]);simp (maxSteps:=1000000) (disch:=first | omega | (simp only [RY] <;> omega) | decide) only [↓RD,RZ,eq_self,Int.reduceToNat,Int.reduceAdd,Int.reduceSub,Int.reduceMul,Nat.reduceAdd,Nat.reduceSub,Nat.reduceMul,Nat.reduceDiv,Nat.reduceMod,Nat.reduceBEq,Nat.reduceLeDiff,hs3'];refine ⟨l.length - (k + 1),by omega,v',acc,k + 1,xs,rfl,rfl,by omega,?_,hs5.trans hwp,ha,hg,by omega,?_⟩
    ·have el:(l.drop k).drop 1 = l.drop (k + 1):=by rw [List.drop_drop]
     have:(((l.drop k).drop (1:Int).toNat).take (((l.length - k:Nat):Int).toNat - (1:Int).toNat)) = l.drop (k + 1):=by
      rw [← el]; exact List.take_of_length_le (by rw [List.length_drop,List.length_drop]; omega)
     rw [this] at hs4; exact hs4
    ·rw [hpe,hp1,List.drop_drop]
   ·rw [if_neg (by omega)] at hp1;by_cases hend:one = true ∧ (l.drop k).getD 0 0 / 16 = 15
    ·rw [if_pos hend] at hp1;have hpr:prof = 48862:=by rw [hend.1] at hone; exact of_decide_eq_true hone
     simp (maxSteps:=1000000) (disch:=first | omega | (simp only [RY] <;> omega) | decide) only [↓RD,RZ,eq_self,Int.reduceToNat,Int.reduceAdd,Int.reduceSub,Int.reduceMul,Nat.reduceAdd,Nat.reduceSub,Nat.reduceMul,Nat.reduceDiv,Nat.reduceMod,Nat.reduceBEq,Nat.reduceLeDiff,hp0,e1,hend.2];rw [hpe,hp1];exact ⟨hg,acc,rfl,by simpa using ha.exs,by simp; omega⟩
    ·rw [if_neg hend] at hp1;have hcase:(prof = 48862 ∧ (l.drop k).getD 0 0 / 16 ≠ 15) ∨ prof ≠ 48862:=by
      by_cases hpr:prof = 48862
      ·refine .inl ⟨hpr,fun e=>hend ⟨?_,e⟩⟩;rw [← hone]; exact decide_eq_true hpr
      ·exact .inr hpr
     rcases hcase with ⟨hpr,h15⟩ | hpr <;> (
      simp (maxSteps:=1000000) (disch:=first | omega | (simp only [RY] <;> omega) | decide) only [↓RD,RZ,eq_self,Int.reduceToNat,Int.reduceAdd,Int.reduceSub,Int.reduceMul,Nat.reduceAdd,Nat.reduceSub,Nat.reduceMul,Nat.reduceDiv,Nat.reduceMod,Nat.reduceBEq,Nat.reduceLeDiff,hp0,e1];refine zac (zqP hw h8k (by omega) (by omega) prof hp) ?_;rintro r H2 ⟨hg2,hr⟩;rw [hone] at hr;by_cases hbad:ebad one (l.drop k)
      ·rw [if_pos hbad] at hr hp1;subst hr;simp (maxSteps:=1000000) (disch:=first | omega | (simp only [RY] <;> omega) | decide) only [↓RD,RZ,eq_self,Int.reduceToNat,Int.reduceAdd,Int.reduceSub,Int.reduceMul,Nat.reduceAdd,Nat.reduceSub,Nat.reduceMul,Nat.reduceDiv,Nat.reduceMod,Nat.reduceBEq,Nat.reduceLeDiff];rw [hpe,hp1];exact ⟨(hg.trans hg2).trans ((Grow.new _ _).set (by omega) _),by trivial⟩
      ·rw [if_neg hbad] at hr hp1;obtain ⟨bv,rfl,hbv⟩:=hr;have hel:=zpJ one (l.drop k);have helr:elen one (l.drop k) ≤ l.length - k:=by
        have:¬ (l.drop k).length < zdo one + enum one (l.drop k):=fun e=>hbad (.inr e);unfold elen; omega
       simp (maxSteps:=1000000) (disch:=first | omega | (simp only [RY] <;> omega) | decide) only [↓RD,RZ,eq_self,Int.reduceToNat,Int.reduceAdd,Int.reduceSub,Int.reduceMul,Nat.reduceAdd,Nat.reduceSub,Nat.reduceMul,Nat.reduceDiv,Nat.reduceMod,Nat.reduceBEq,Nat.reduceLeDiff,hbv.cells1,hbv.okc];generalize hH3:(Heap.set _ _ _) = H3;have g23:Grow H2 H3:=by rw [← hH3]; exact (Grow.new _ _).set (by omega) _
       have n3:H3.next = H2.next + 1:=by rw [← hH3]; rfl
       have hn1:=hg.next;have hn2:=hg2.next;have g13:=hg2.trans g23;have hbv3:=hbv.ext g23;refine zpw (lo:=H.next) (bytes:=32) (ha.keep ((g13.trans (Grow.new _ _)).keep _)) (by rw [zag]; omega) (ziR (by omega) rfl) ((hbv3.newn _).low (by omega)) (fun id hid e=>?_) (by omega) (by omega) fun x' H4 ha4 hs4=>?_
       ·obtain ⟨ws,_,hw2,_⟩:=ha;have:=(hw2.lc.own id e).2;have:=(hbv.own id hid).1;omega
       ·have hacc:∀ id,acc.pid = some id → H.next ≤ id:=fun id e=>by
         obtain ⟨ws,_,hw2,_⟩:=ha;exact (hw2.lc.own id e).1
        have n4:=hs4.next;rw [zag] at n4;have g4:Grow H H4:=⟨by omega,fun i hi=>by
         rw [hs4.same i (by rw [zag]; omega) (fun e=>by have:=hacc i (by simpa [zbe] using e); omega),zaG _ _ (by omega),g13.same i (by omega),hg.same i hi]⟩
        have hw4:By lo H4 w (l.drop k):=((hw.ext g13).newn _).step hs4 fun id e e2=>by
         have:=hacc id (by simpa [zbe] using e2);have:=(h.own id (hwp ▸ e)).2;omega
        obtain ⟨v',-,-,hs3,hs5,hs6⟩:=by_slice hw4 (x:=(elen one (l.drop k):Nat)) (y:=(l.length - k:Nat)) (by omega) (by omega) (by omega);have hs3':=@hs3 (by rw [hdl]);simp (maxSteps:=1000000) (disch:=first | omega | (simp only [RY] <;> omega) | decide) only [↓RD,RZ,eq_self,Int.reduceToNat,Int.reduceAdd,Int.reduceSub,Int.reduceMul,Nat.reduceAdd,Nat.reduceSub,Nat.reduceMul,Nat.reduceDiv,Nat.reduceMod,Nat.reduceBEq,Nat.reduceLeDiff,hs3'];refine ⟨l.length - (k + elen one (l.drop k)),by omega,v',x',k + elen one (l.drop k),xs ++ [zod one (l.drop k)],rfl,rfl,by omega,?_,hs6.trans hwp,ha4,g4,by simp; omega,?_⟩
        ·have:(((l.drop k).drop ((elen one (l.drop k):Nat):Int).toNat).take (((l.length - k:Nat):Int).toNat - ((elen one (l.drop k):Nat):Int).toNat)) = l.drop (k + elen one (l.drop k)):=by
          rw [Int.toNat_natCast,Int.toNat_natCast,List.drop_drop]; exact List.take_of_length_le (by rw [List.length_drop]; omega)
         rw [this] at hs5; exact hs5
        ·rw [hpe,hp1,List.drop_drop,Option.map_map];congr 1;funext z; simp)
end Go.Ax.R7
/- Rtp3 -/
namespace Go.Ax.R7
open Go.Ax
def Hd (one:Bool) (l:List Nat) (k:Nat) (r:Res):Prop :=
 (eid one l ≠ 0 ∧ r = .nrm [.int .i64 (eid one l:Nat),.int .i64 (enum one l:Nat),.int .i64 ((k + zdo one:Nat):Int)]) ∨ (eid one l = 0 ∧ r = .ret [.nils,.bool false])
theorem zo4 {lo:Nat} {H:Heap} {v:V} {l:List Nat} (h:By lo H v l) (h8:Ok8 l) (hl:l.length ≤ 1048576) (prof:Int) (hp:-9223372036854775808 ≤ prof ∧ prof ≤ 9223372036854775807) :
  Ok (sem T za1 [v,.int .i64 prof]) H fun r H'=>Grow H H' ∧ match zeq (decide (prof = 48862)) l with
   | none=>r = .tup [.nils,.bool false]
   | some xs=>∃ xv,r = .tup [xv,.bool true] ∧ Exs H.next H' xv xs ∧ xs.length ≤ l.length:=by
 refine zfy ?_;unfold zdu uc ug;simp (disch:=first | omega | (simp only [RY] <;> omega) | decide) only [↓RD,RZ,eq_self,Int.reduceToNat,Int.reduceAdd,Nat.reduceAdd,Nat.reduceSub,Nat.reduceMul,Nat.reduceLeDiff];generalize hone:decide (prof = 48862) = one;refine zh8 (fun L H' m=>∃ acc k xs,L = [acc,.int .i64 (k:Nat)] ∧ m = l.length - k ∧ k ≤ l.length ∧ AppX zc7 H.next H' acc xs ∧ Grow H H' ∧ xs.length ≤ k ∧ zeq one l = (zeq one (l.drop k)).map (xs ++ ·)) l.length ?_ ?_
 ·exact ⟨.nils,0,[],rfl,by simp,by omega,AppX.nil,Grow.refl _,by simp,by simp⟩
 ·rintro L H1 m ⟨acc,k,xs,rfl,rfl,hk,ha,hg,hx,hpe⟩;have hdl:(l.drop k).length = l.length - k:=by rw [List.length_drop]
  unfold zc4 uL uB uIM uG uH uc ub uq ug;simp (disch:=first | omega | (simp only [RY] <;> omega) | decide) only [↓RD,RZ,eq_self,Int.reduceToNat,Int.reduceAdd,Nat.reduceAdd,Nat.reduceSub,Nat.reduceMul,Nat.reduceLeDiff,h.vlen];by_cases h0:l.length - k = 0
  ·have hp0:zeq one (l.drop k) = some []:=by rw [zeq,dif_pos (by omega)]
   rw [hp0] at hpe;simp (disch:=first | omega | (simp only [RY] <;> omega) | decide) only [↓RD,RZ,eq_self,Int.reduceToNat,Int.reduceAdd,Nat.reduceAdd,Nat.reduceSub,Nat.reduceMul,Nat.reduceLeDiff];refine ⟨hg,?_⟩;rw [hpe];exact ⟨acc,rfl,by simpa using ha.exs,by simpa using (by omega:xs.length ≤ l.length)⟩
  ·have hpos:0 < l.length - k:=by omega
   have h1:=h.ext hg;obtain ⟨p0,hp0,hl0,-⟩:=ziO h1 (i:=(k:Nat)) (by omega) (by omega);have e1:=hl0 H1 h1;have h8k:=h8.drop k;have hb0:=getD_lt h8k 0;have hb1:=getD_lt h8k 1;rw [getD_drop] at hb0 hb1;rw [Nat.add_zero] at hb0;have ek:(k:Int) + 1 = ((k + 1:Nat):Int):=rfl;rw [Int.toNat_natCast] at e1;have hp1:zeq one (l.drop k) = if (l.drop k).getD 0 0 = 0 then zeq one ((l.drop k).drop 1) else if one = true ∧ (l.drop k).getD 0 0 / 16 = 15 then some [] else if ebad one (l.drop k) then none else (zeq one ((l.drop k).drop (elen one (l.drop k)))).map (zod one (l.drop k) :: ·):=by
    rw [zeq,dif_neg (by omega)]
   have hk0:(l.drop k).getD 0 0 = l.getD k 0:=by rw [getD_drop]; rfl
   have hk1:(l.drop k).getD 1 0 = l.getD (k + 1) 0:=by rw [getD_drop]
   rw [hk0] at hp1;simp (disch:=first | omega | (simp only [RY] <;> omega) | decide) only [↓RD,RZ,eq_self,Int.reduceToNat,Int.reduceAdd,Nat.reduceAdd,Nat.reduceSub,Nat.reduceMul,Nat.reduceLeDiff,hp0,e1];refine zmA (fun hz=>?_) fun hz=>?_
   ·rw [if_pos (by omega)] at hp1;simp (disch:=first | omega | (simp only [RY] <;> omega) | decide) only [↓RD,RZ,eq_self,Int.reduceToNat,Int.reduceAdd,Nat.reduceAdd,Nat.reduceSub,Nat.reduceMul,Nat.reduceLeDiff];refine ⟨l.length - (k + 1),by omega,acc,k + 1,xs,rfl,rfl,by omega,ha,hg,by omega,?_⟩;rw [hpe,hp1,List.drop_drop]
   ·rw [if_neg (by omega)] at hp1;by_cases hend:one = true ∧ l.getD k 0 / 16 = 15
    ·rw [if_pos hend] at hp1;have hpr:prof = 48862:=by rw [hend.1] at hone; exact of_decide_eq_true hone
     simp (disch:=first | omega | (simp only [RY] <;> omega) | decide) only [↓RD,RZ,eq_self,Int.reduceToNat,Int.reduceAdd,Nat.reduceAdd,Nat.reduceSub,Nat.reduceMul,Nat.reduceLeDiff,hp0,e1,hend.2];refine ⟨hg,?_⟩;rw [hpe,hp1];exact ⟨acc,rfl,by simpa using ha.exs,by simp; omega⟩
    ·rw [if_neg hend] at hp1;simp (disch:=first | omega | (simp only [RY] <;> omega) | decide) only [↓RD,RZ,eq_self,Int.reduceToNat,Int.reduceAdd,Nat.reduceAdd,Nat.reduceSub,Nat.reduceMul,Nat.reduceLeDiff,hp0,e1]
     -- a head of either shape
     refine zau (Q:=fun r H'=>Hd one (l.drop k) k r ∧ H' = H1) ?_ ?_
     ·refine zmA (fun hpr=>?_) fun hpr=>?_
      ·have ho:one = true:=by rw [← hone]; exact decide_eq_true hpr
       subst ho;have h15:l.getD k 0 / 16 ≠ 15:=fun e=>hend ⟨rfl,e⟩;have hei:eid true (l.drop k) = l.getD k 0 / 16:=by unfold eid; rw [if_pos rfl,hk0]
       have hen:enum true (l.drop k) = l.getD k 0 % 16 + 1:=by unfold enum; rw [if_pos rfl,hk0]
       by_cases hid:l.getD k 0 / 16 = 0
       ·simp (disch:=first | omega | (simp only [RY] <;> omega) | decide) only [↓RD,RZ,eq_self,Int.reduceToNat,Int.reduceAdd,Nat.reduceAdd,Nat.reduceSub,Nat.reduceMul,Nat.reduceLeDiff,hp0,e1,hid];refine .inr ⟨?_,rfl⟩;rw [hei]; exact hid
       ·simp (disch:=first | omega | (simp only [RY] <;> omega) | decide) only [↓RD,RZ,eq_self,Int.reduceToNat,Int.reduceAdd,Nat.reduceAdd,Nat.reduceSub,Nat.reduceMul,Nat.reduceLeDiff,hp0,e1];refine .inl ⟨?_,?_⟩
        ·rw [hei]; exact hid
        ·rw [hei,hen]; rfl
      ·have ho:one = false:=by rw [← hone]; exact decide_eq_false hpr
       subst ho;have hei:eid false (l.drop k) = l.getD k 0:=by unfold eid; rw [if_neg (by simp),hk0]
       have hen:enum false (l.drop k) = l.getD (k + 1) 0:=by unfold enum; rw [if_neg (by simp),hk1]
       simp (disch:=first | omega | (simp only [RY] <;> omega) | decide) only [↓RD,RZ,eq_self,Int.reduceToNat,Int.reduceAdd,Nat.reduceAdd,Nat.reduceSub,Nat.reduceMul,Nat.reduceLeDiff,h1.vlen];by_cases hk2:k + 1 < l.length
       ·obtain ⟨p1,hp1',hl1,-⟩:=by_at h1 (i:=(k + 1:Nat)) (by omega) (by omega);simp (disch:=first | omega | (simp only [RY] <;> omega) | decide) only [↓RD,RZ,eq_self,Int.reduceToNat,Int.reduceAdd,Nat.reduceAdd,Nat.reduceSub,Nat.reduceMul,Nat.reduceLeDiff,ek,hp1',hl1];refine .inl ⟨?_,?_⟩
        ·rw [hei]; omega
        ·rw [hei,hen]; rfl
       ·have hz1:l.getD (k + 1) 0 = 0:=by rw [List.getD_eq_getElem?_getD,List.getElem?_eq_none (by omega)]; rfl
        simp (disch:=first | omega | (simp only [RY] <;> omega) | decide) only [↓RD,RZ,eq_self,Int.reduceToNat,Int.reduceAdd,Nat.reduceAdd,Nat.reduceSub,Nat.reduceMul,Nat.reduceLeDiff];refine .inl ⟨?_,?_⟩
        ·rw [hei]; omega
        ·rw [hei,hen,hz1]; rfl
     ·rintro _ H2 ⟨⟨hid,rfl⟩ | ⟨hid,rfl⟩,rfl⟩
      ·have hef:zdo one ≤ 2:=by unfold zdo; split <;> omega
       have hen:enum one (l.drop k) ≤ 255:=by unfold enum; rw [hk0,hk1]; split <;> omega
       have hei:eid one (l.drop k) ≤ 255:=by unfold eid; rw [hk0]; split <;> omega
       by_cases hs:(l.drop k).length < zdo one + enum one (l.drop k)
       ·have hbad:ebad one (l.drop k):=.inr hs;rw [if_pos hbad] at hp1;by_cases hs2:l.length < k + zdo one
        ·simp (disch:=first | omega | (simp only [RY] <;> omega) | decide) only [↓RD,RZ,eq_self,Int.reduceToNat,Int.reduceAdd,Nat.reduceAdd,Nat.reduceSub,Nat.reduceMul,Nat.reduceLeDiff,h1.vlen];rw [hpe,hp1];exact ⟨hg,by trivial⟩
        ·simp (disch:=first | omega | (simp only [RY] <;> omega) | decide) only [↓RD,RZ,eq_self,Int.reduceToNat,Int.reduceAdd,Nat.reduceAdd,Nat.reduceSub,Nat.reduceMul,Nat.reduceLeDiff,h1.vlen];rw [hpe,hp1];exact ⟨hg,by trivial⟩
       ·have hbad:¬ ebad one (l.drop k):=fun h=>h.elim hid hs;rw [if_neg hbad] at hp1;obtain ⟨v',hs1,-,-,hs4,hs5⟩:=by_slice h1 (x:=(k + zdo one:Nat)) (y:=(k + zdo one + enum one (l.drop k):Nat)) (by omega) (by omega) (by omega);have ec:((k + zdo one:Nat):Int) + (enum one (l.drop k):Int) = ((k + zdo one + enum one (l.drop k):Nat):Int):=rfl;have el:((k + zdo one + enum one (l.drop k):Nat):Int).toNat - ((k + zdo one:Nat):Int).toNat = enum one (l.drop k):=by omega
        rw [el,Int.toNat_natCast,← List.drop_drop] at hs4;simp (disch:=first | omega | (simp only [RY] <;> omega) | decide) only [↓RD,RZ,eq_self,Int.reduceToNat,Int.reduceAdd,Nat.reduceAdd,Nat.reduceSub,Nat.reduceMul,Nat.reduceLeDiff,h1.vlen,ec,hs1];refine okb_copy hs4.ac (fun i hi=>(hs4.own i hi).2) (by simp) (by rw [List.length_take,List.length_drop,List.length_drop]; omega) (by rw [List.length_take,List.length_drop,List.length_drop]; omega) fun bv H3 hb3 hg3=>?_;have hbv:=hb3.lc;have hn1:=hg.next;have n3:=hg3.next;simp (disch:=first | omega | (simp only [RY] <;> omega) | decide) only [↓RD,RZ,eq_self,Int.reduceToNat,Int.reduceAdd,Nat.reduceAdd,Nat.reduceSub,Nat.reduceMul,Nat.reduceLeDiff,hbv.cells1,hbv.okc,ec];refine zpw (lo:=H.next) (bytes:=32) (a:=(eid one (l.drop k):Nat)) (b:=((l.drop k).drop (zdo one)).take (enum one (l.drop k))) (ha.keep ((hg3.trans (Grow.new _ _)).keep _)) (by rw [zag]; omega) (ziR rfl rfl) ((hbv.newn _).low (by omega)) (fun id hid e=>?_) (by omega) (by omega) fun x' H4 ha4 hs4=>?_
        ·obtain ⟨ws,_,hw2,_⟩:=ha;have:=(hw2.lc.own id e).2;have:=(hbv.own id hid).1;omega
        ·have hacc:∀ id,acc.pid = some id → H.next ≤ id:=fun id e=>by
          obtain ⟨ws,_,hw2,_⟩:=ha;exact (hw2.lc.own id e).1
         have n4:=hs4.next;rw [zag] at n4;have g4:Grow H H4:=⟨by omega,fun i hi=>by
          rw [hs4.same i (by rw [zag]; omega) (fun e=>by have:=hacc i (by simpa [zbe] using e); omega),zaG _ _ (by omega),hg3.same i (by omega),hg.same i hi]⟩
         have hel:=zpJ one (l.drop k);have hele:elen one (l.drop k) = zdo one + enum one (l.drop k):=rfl;simp (disch:=first | omega | (simp only [RY] <;> omega) | decide) only [↓RD,RZ,eq_self,Int.reduceToNat,Int.reduceAdd,Nat.reduceAdd,Nat.reduceSub,Nat.reduceMul,Nat.reduceLeDiff,ec];refine ⟨l.length - (k + elen one (l.drop k)),by omega,x',k + elen one (l.drop k),xs ++ [zod one (l.drop k)],?_,rfl,by omega,ha4,g4,by simp; omega,?_⟩
         ·rw [hele]; simp only [Nat.add_assoc]
         ·rw [hpe,hp1,List.drop_drop,Option.map_map];congr 1;funext z; simp
      ·have hbad:ebad one (l.drop k):=.inl hid;rw [if_pos hbad] at hp1;simp (disch:=first | omega | (simp only [RY] <;> omega) | decide) only [↓RD,RZ,eq_self,Int.reduceToNat,Int.reduceAdd,Nat.reduceAdd,Nat.reduceSub,Nat.reduceMul,Nat.reduceLeDiff];rw [hpe,hp1];exact ⟨hg,by trivial⟩
end Go.Ax.R7
/- Rtp4 -/
namespace Go.Ax.R7
open Go.Ax
def by32 (n:Nat):V:=.int .u32 n
structure Pkt where
 mark:Bool
 typ:Int
 seq:Nat
 ts:Nat
 ssrc:Nat
 csrc:List Nat
 prof:Int
 exts:List X
 pad:Int
 pay:List Nat
def pcells (p:Pkt) (cv xv pv:V):List V:=[.bool p.mark,.int .i64 p.typ,.int .u16 p.seq,.int .u32 p.ts,.int .u32 p.ssrc,cv,.int .i64 p.prof,xv,.int .i64 p.pad,pv]
structure PkR (lo:Nat) (H:Heap) (v:V) (p:Pkt):Prop where
 ex:∃ cv xv pv,v = .agg (pcells p cv xv pv) ∧ Lc 1 lo H cv (p.csrc.map by32) p.csrc.length ∧ Exs lo H xv p.exts ∧ By lo H pv p.pay
def piece (b:List Nat) (i n:Nat):List Nat:=(b.drop i).take n
def zhr (b:List Nat):Pkt:=⟨decide (b.getD 1 0 / 128 % 2 = 1),(b.getD 1 0 % 128:Nat),be (piece b 2 2),be (piece b 4 4),be (piece b 8 4),[],0,[],0,[]⟩
def csn (b:List Nat):Nat:=b.getD 0 0 % 16
def zcy (b:List Nat):List Nat:=(List.range (csn b)).map fun i=>be (piece b (12 + 4 * i) 4)
def pext (r:List Nat):Except Int (Int × List X × Nat) :=
 if r.length < 4 then .error 3
 else if r.length < 4 + 4 * be (piece r 2 2) then .error 3
 else if be (piece r 0 2) ≠ 48862 ∧ be (piece r 0 2) ≠ 4096 then .error 2
 else match zeq (decide (((be (piece r 0 2):Nat):Int) = 48862)) (piece r 4 (4 * be (piece r 2 2))) with
  | none=>.error 2
  | some xs=>.ok ((be (piece r 0 2):Nat),xs,4 + 4 * be (piece r 2 2))
def pextOf (b:List Nat):Except Int (Int × List X × Nat):=if b.getD 0 0 / 16 % 2 = 1 then pext (b.drop (12 + 4 * csn b)) else .ok (0,[],0)
def parse (b:List Nat):Except Int Pkt :=
 if 1200 < b.length then .error 4
 else if b.length < 12 then .error 3
 else if b.getD 0 0 / 64 ≠ 2 then .error 2
 else if b.length < 12 + 4 * csn b then .error 3
 else match pextOf b with
  | .error e=>.error e
  | .ok (prof,xs,n) =>
   let at':=12 + 4 * csn b + n
   if b.getD 0 0 / 32 % 2 = 1 then
    let pad:=b.getD (b.length - 1) 0
    if pad = 0 ∨ b.length - at' < pad then .error 2
    else .ok { zhr b with csrc:=zcy b,prof:=prof,exts:=xs,pad:=(pad:Nat),pay:=piece b at' (b.length - at' - pad) }
   else .ok { zhr b with csrc:=zcy b,prof:=prof,exts:=xs,pay:=piece b at' (b.length - at') }
theorem zee {b:List Nat} (h:Ok8 b) (i n:Nat):Ok8 (piece b i n):=(h.drop i).take n
theorem zcP {b:List Nat} {i n:Nat} (h:i + n ≤ b.length):(piece b i n).length = n:=by unfold piece; rw [List.length_take,List.length_drop]; omega
theorem zbI {b:List Nat} (h:Ok8 b) (i n:Nat):be (piece b i n) < 256 ^ n:=be_take_lt (h.drop i) (Nat.le_refl n)
theorem zeN {lo:Nat} {H:Heap} {v:V} {l:List Nat} (h:By lo H v l) {x y:Int} (h0:0 ≤ x) (h1:x ≤ y) (h2:y ≤ l.length) :
  ∃ v',(∀ {k k':IntKind},zaN .sl 1 v (some (.int k x)) (some (.int k' y)) none = some v') ∧ (x = 0 → ∀ {k':IntKind},zaN .sl 1 v none (some (.int k' y)) none = some v') ∧ (y = l.length → ∀ {k:IntKind},zaN .sl 1 v (some (.int k x)) none none = some v') ∧
   By lo H v' (piece l x.toNat (y.toNat - x.toNat)) ∧ v'.pid = v.pid:=by_slice h h0 h1 h2
def ExtQ (H:Heap) (k:Nat) (p:Pkt) (cv pv:V) (o:Except Int (Int × List X × Nat)) (res:V) (H':Heap):Prop :=
 At1 k H H' ∧ match o with
  | .error e=>res = .tup [.int .i64 0,.int .i64 e]
  | .ok (prof,xs,n)=>res = .tup [.int .i64 (n:Nat),.int .i64 0] ∧ ∃ xv',H'.get k = some ⟨zaD,pcells { p with prof:=prof } cv xv' pv,none⟩ ∧ Exs H.next H' xv' xs
theorem zoc {lo:Nat} {H:Heap} {v:V} {r:List Nat} (h:By lo H v r) (h8:Ok8 r) (hl:r.length ≤ 1048576) {k:Nat} {p:Pkt} {cv xv pv:V} (hk:k < H.next) (hb:H.get k = some ⟨zaD,pcells p cv xv pv,none⟩) (hv:v.pid ≠ some k) :
  Ok (sem T zdc [.ptr k 0,v]) H (ExtQ H k p cv pv (pext r)):=by
 refine zjP ?_;unfold zha uL uT uNFM uNF uE uB uG uH uc;unfold pext;simp (maxSteps:=1000000) (disch:=first | omega | (simp only [RY] <;> omega) | decide) only [↓RD,RZ,eq_self,Int.reduceToNat,Int.reduceAdd,Int.reduceSub,Int.reduceMul,Nat.reduceAdd,Nat.reduceSub,Nat.reduceMul,Nat.reduceDiv,Nat.reduceMod,Nat.reduceBEq,Nat.reduceLeDiff,h.vlen];refine zgk (fun h4=>?_) fun h4=>?_
 ·simp (maxSteps:=1000000) (disch:=first | omega | (simp only [RY] <;> omega) | decide) only [↓RD,RZ,eq_self,Int.reduceToNat,Int.reduceAdd,Int.reduceSub,Int.reduceMul,Nat.reduceAdd,Nat.reduceSub,Nat.reduceMul,Nat.reduceDiv,Nat.reduceMod,Nat.reduceBEq,Nat.reduceLeDiff];rw [if_pos (by omega)];exact ⟨At1.refl _ _,rfl⟩
 ·rw [if_neg (by omega)];obtain ⟨v1,hs1,-,-,hb1,hp1⟩:=zeN h (x:=2) (y:=4) (by omega) (by omega) (by omega);have hb1':By lo H v1 (piece r 2 2):=hb1;have hw:=zbI h8 2 2;have hpr:=zbI h8 0 2;simp (maxSteps:=1000000) (disch:=first | omega | (simp only [RY] <;> omega) | decide) only [↓RD,RZ,eq_self,Int.reduceToNat,Int.reduceAdd,Int.reduceSub,Int.reduceMul,Nat.reduceAdd,Nat.reduceSub,Nat.reduceMul,Nat.reduceDiv,Nat.reduceMod,Nat.reduceBEq,Nat.reduceLeDiff,hs1];refine zac (zlW hb1' (zee h8 _ _) (by rw [zcP (by omega)]; omega)) ?_;rintro _ H ⟨rfl,rfl⟩;have ec:(4:Int) + 4 * (be (piece r 2 2):Nat) = ((4 + 4 * be (piece r 2 2):Nat):Int):=by omega
  simp (maxSteps:=1000000) (disch:=first | omega | (simp only [RY] <;> omega) | decide) only [↓RD,RZ,eq_self,Int.reduceToNat,Int.reduceAdd,Int.reduceSub,Int.reduceMul,Nat.reduceAdd,Nat.reduceSub,Nat.reduceMul,Nat.reduceDiv,Nat.reduceMod,Nat.reduceBEq,Nat.reduceLeDiff,h.vlen,ec];refine zgk (fun h5=>?_) fun h5=>?_
  ·simp (maxSteps:=1000000) (disch:=first | omega | (simp only [RY] <;> omega) | decide) only [↓RD,RZ,eq_self,Int.reduceToNat,Int.reduceAdd,Int.reduceSub,Int.reduceMul,Nat.reduceAdd,Nat.reduceSub,Nat.reduceMul,Nat.reduceDiv,Nat.reduceMod,Nat.reduceBEq,Nat.reduceLeDiff];rw [if_pos (by omega)];exact ⟨At1.refl _ _,rfl⟩
  ·rw [if_neg (by omega)];obtain ⟨v2,-,hs2,-,hb2,hp2⟩:=zeN h (x:=0) (y:=2) (by omega) (by omega) (by omega);have hb2':By lo H v2 (piece r 0 2):=hb2;have hs2':=@hs2 rfl;simp (maxSteps:=1000000) (disch:=first | omega | (simp only [RY] <;> omega) | decide) only [↓RD,RZ,eq_self,Int.reduceToNat,Int.reduceAdd,Int.reduceSub,Int.reduceMul,Nat.reduceAdd,Nat.reduceSub,Nat.reduceMul,Nat.reduceDiv,Nat.reduceMod,Nat.reduceBEq,Nat.reduceLeDiff,hs2'];refine zac (zlW hb2' (zee h8 _ _) (by rw [zcP (by omega)]; omega)) ?_;rintro _ H ⟨rfl,rfl⟩;unfold pcells at hb;generalize hprof:be (piece r 0 2) = prof at *;simp (maxSteps:=1000000) (disch:=first | omega | (simp only [RY] <;> omega) | decide) only [↓RD,RZ,eq_self,Int.reduceToNat,Int.reduceAdd,Int.reduceSub,Int.reduceMul,Nat.reduceAdd,Nat.reduceSub,Nat.reduceMul,Nat.reduceDiv,Nat.reduceMod,Nat.reduceBEq,Nat.reduceLeDiff,hb];generalize hH1:Heap.set H k _ = H1;have g1:H1.get k = some ⟨zaD,pcells { p with prof:=(prof:Nat) } cv xv pv,none⟩:=by rw [← hH1,zak]; rfl
   have s1:At1 k H H1:=by rw [← hH1]; exact At1.set _ _ _
   have n1:H1.next = H.next:=by rw [← hH1,zbr]
   have g1':=g1;unfold pcells at g1';have h1:By lo H1 v r:=h.at1 s1 hv;obtain ⟨v3,hs3,-,-,hb3,hp3⟩:=zeN h1 (x:=4) (y:=(4 + 4 * be (piece r 2 2):Nat)) (by omega) (by omega) (by omega);have e3:((4 + 4 * be (piece r 2 2):Nat):Int).toNat - (4:Int).toNat = 4 * be (piece r 2 2):=by omega
   rw [e3] at hb3;have hb3':By lo H1 v3 (piece r 4 (4 * be (piece r 2 2))):=hb3;have h83:=zee h8 4 (4 * be (piece r 2 2));have hl3:(piece r 4 (4 * be (piece r 2 2))).length ≤ 1048576:=by rw [zcP (by omega)]; omega
   have main:(prof = 48862 ∨ prof = 4096) → Ok ((sem T zeV [.int .i64 (prof:Nat),v3]).bind fun t49=>(M.lift (ext 0 t49)).bind fun t50=>(M.lift (ext 1 t49)).bind fun t51=>(M.lift (un .not t51)).bind fun t53 =>
     M.ite t53 (M.pure (Res.ret [.int .i64 0,.int .i64 2])) ((M.lift (nilck (.ptr k 0))).bind fun t56=>(M.lift (faddr 7 t56)).bind fun t57=>(zco 1 t57 t50).bind fun _=>M.pure (.ret [.int .i64 (4 + 4 * be (piece r 2 2):Nat),.int .i64 0]))) H1
     fun r' H'=>∃ L,r' = Res.ret L ∧ ExtQ H k p cv pv (match zeq (decide (((prof:Nat):Int) = 48862)) (piece r 4 (4 * be (piece r 2 2))) with | none=>Except.error 2 | some xs=>Except.ok (((prof:Nat):Int),xs,4 + 4 * be (piece r 2 2))) (zec L) H':=by
    intro hor;refine zac (exts_ok hb3' h83 hl3 (prof:Nat) (by omega)) ?_;rintro res H2 ⟨hg2,hr⟩;cases hx:zeq (decide (((prof:Nat):Int) = 48862)) (piece r 4 (4 * be (piece r 2 2))) with
    | none =>
     rw [hx] at hr;dsimp only at hr;subst hr;simp (maxSteps:=1000000) (disch:=first | omega | (simp only [RY] <;> omega) | decide) only [↓RD,RZ,eq_self,Int.reduceToNat,Int.reduceAdd,Int.reduceSub,Int.reduceMul,Nat.reduceAdd,Nat.reduceSub,Nat.reduceMul,Nat.reduceDiv,Nat.reduceMod,Nat.reduceBEq,Nat.reduceLeDiff];exact ⟨s1.trans (hg2.at1 k),rfl⟩
    | some xs =>
     rw [hx] at hr;dsimp only at hr;obtain ⟨xv',rfl,hxs,hxl⟩:=hr;have g2:H2.get k = some ⟨zaD,[V.bool p.mark,V.int IntKind.i64 p.typ,V.int IntKind.u16 ↑p.seq,V.int IntKind.u32 ↑p.ts,V.int IntKind.u32 ↑p.ssrc,cv,V.int IntKind.i64 ↑prof,xv,V.int IntKind.i64 p.pad,pv],none⟩:=by rw [hg2.same k (by omega)]; exact g1'
     simp (maxSteps:=1000000) (disch:=first | omega | (simp only [RY] <;> omega) | decide) only [↓RD,RZ,eq_self,Int.reduceToNat,Int.reduceAdd,Int.reduceSub,Int.reduceMul,Nat.reduceAdd,Nat.reduceSub,Nat.reduceMul,Nat.reduceDiv,Nat.reduceMod,Nat.reduceBEq,Nat.reduceLeDiff,g2,hxs.cells1,hxs.okc];refine ⟨(s1.trans (hg2.at1 k)).trans (At1.set _ _ _),rfl,xv',zak _ _ _,?_⟩;rw [n1] at hxs;exact hxs.keep ⟨Nat.le_refl _,fun i h1 h2=>zat _ _ (by omega)⟩
   by_cases hp1:prof = 48862
   ·rw [if_neg (by omega)];subst hp1;simp (maxSteps:=1000000) (disch:=first | omega | (simp only [RY] <;> omega) | decide) only [↓RD,RZ,eq_self,Int.reduceToNat,Int.reduceAdd,Int.reduceSub,Int.reduceMul,Nat.reduceAdd,Nat.reduceSub,Nat.reduceMul,Nat.reduceDiv,Nat.reduceMod,Nat.reduceBEq,Nat.reduceLeDiff,g1',hs3];exact main (.inl rfl)
   ·by_cases hp2:prof = 4096
    ·rw [if_neg (by omega)];subst hp2;simp (maxSteps:=1000000) (disch:=first | omega | (simp only [RY] <;> omega) | decide) only [↓RD,RZ,eq_self,Int.reduceToNat,Int.reduceAdd,Int.reduceSub,Int.reduceMul,Nat.reduceAdd,Nat.reduceSub,Nat.reduceMul,Nat.reduceDiv,Nat.reduceMod,Nat.reduceBEq,Nat.reduceLeDiff,g1',hs3];exact main (.inr rfl)
    ·rw [if_pos ⟨hp1,hp2⟩];simp (maxSteps:=1000000) (disch:=first | omega | (simp only [RY] <;> omega) | decide) only [↓RD,RZ,eq_self,Int.reduceToNat,Int.reduceAdd,Int.reduceSub,Int.reduceMul,Nat.reduceAdd,Nat.reduceSub,Nat.reduceMul,Nat.reduceDiv,Nat.reduceMod,Nat.reduceBEq,Nat.reduceLeDiff,g1'];exact ⟨s1,rfl⟩
theorem zsC {lo:Nat} {H:Heap} {v:V} {b:List Nat} (h:By lo H v b) (h8:Ok8 b) (hl:b.length ≤ 1200) {k m:Nat} {p:Pkt} {xv pv:V} (t2:V) (hv:∀ id,v.pid = some id → id < k) (hk:k < m) (hm:m ≤ H.next) (hb:H.get k = some ⟨zaD,pcells p .nils xv pv,none⟩) (hn:12 + 4 * csn b ≤ b.length) {Q:Res → Heap → Prop}
  (kk:∀ H' cv,H'.get k = some ⟨zaD,pcells p cv xv pv,none⟩ → Lc 1 m H' cv ((zcy b).map by32) (zcy b).length → (∀ i,i < m → i ≠ k → H'.get i = H.get i) → H.next ≤ H'.next → Q (.ex 1 []) H') :
  Ok (M.iter (zeM (sem T) (.int .i64 (12 + 4 * csn b:Nat)) v (.ptr k 0) t2) [.int .i64 12]) H Q:=by
 have hcl:(zcy b).length = csn b:=by simp [zcy]
 refine zaV (fun j L H'=>∃ cv,L = [.int .i64 (12 + 4 * j:Nat)] ∧ H'.get k = some ⟨zaD,pcells p cv xv pv,none⟩ ∧ App zbu 1 m H' cv (((zcy b).take j).map by32) j ∧ (∀ i,i < m → i ≠ k → H'.get i = H.get i) ∧ H.next ≤ H'.next) (csn b) ?_ ?_ ?_
 ·exact ⟨.nils,rfl,hb,App.nil,fun _ _ _=>rfl,Nat.le_refl _⟩
 ·rintro j L H1 hj ⟨cv,rfl,g1,ha,gs,gn⟩;have h1:By lo H1 v b:=⟨by rw [zcf fun i hi=>gs i (by have:=hv i hi; omega) (by have:=hv i hi; omega)]; exact h.rc,fun i hi=>⟨(h.own i hi).1,Nat.lt_of_lt_of_le (h.own i hi).2 gn⟩,h.cap⟩;obtain ⟨v1,hs1,-,-,hb1,-⟩:=zeN h1 (x:=(12 + 4 * j:Nat)) (y:=(16 + 4 * j:Nat)) (by omega) (by omega) (by omega);have e1:((16 + 4 * j:Nat):Int).toNat - ((12 + 4 * j:Nat):Int).toNat = 4:=by omega
  rw [e1,Int.toNat_natCast] at hb1;have e2:((12 + 4 * j:Nat):Int) + 4 = ((16 + 4 * j:Nat):Int):=by omega
  have g1':=g1;unfold pcells at g1';unfold zeM uL uM uT uF uB uU uc ug;simp (maxSteps:=1000000) (disch:=first | omega | (simp only [RY] <;> omega) | decide) only [↓RD,RZ,eq_self,Int.reduceToNat,Int.reduceAdd,Int.reduceSub,Int.reduceMul,Nat.reduceAdd,Nat.reduceSub,Nat.reduceMul,Nat.reduceDiv,Nat.reduceMod,Nat.reduceBEq,Nat.reduceLeDiff,g1',e2,hs1];refine zac (zlW hb1 (zee h8 _ _) (by rw [zcP (by omega)]; omega)) ?_;rintro _ H1 ⟨rfl,rfl⟩;simp (maxSteps:=1000000) (disch:=first | omega | (simp only [RY] <;> omega) | decide) only [↓RD,RZ,eq_self,Int.reduceToNat,Int.reduceAdd,Int.reduceSub,Int.reduceMul,Nat.reduceAdd,Nat.reduceSub,Nat.reduceMul,Nat.reduceDiv,Nat.reduceMod,Nat.reduceBEq,Nat.reduceLeDiff];refine zcq (lo:=m) (bytes:=4) (m:=1) (q:=[by32 (be (piece b (12 + 4 * j) 4))]) (App.keep ha ((Grow.new _ _).keep _)) (by rw [zag]; omega) (zaQ rfl) rfl (by omega) (by omega) fun cv' H2 ha2 hs2=>?_;have hcv:∀ id,cv.pid = some id → m ≤ id:=fun id hi=>(ha.lc.own id hi).1;have low:∀ i,i < m → H2.get i = H1.get i:=fun i hi=>by
   rw [hs2.same i (by rw [zag]; omega) (fun e=>by have:=hcv i (by simpa [zbe] using e); omega),zaG _ _ (by omega)]
  have g2:=g1';rw [← low k (by omega)] at g2;have n2:=hs2.next;rw [zag] at n2;simp (maxSteps:=1000000) (disch:=first | omega | (simp only [RY] <;> omega) | decide) only [↓RD,RZ,eq_self,Int.reduceToNat,Int.reduceAdd,Int.reduceSub,Int.reduceMul,Nat.reduceAdd,Nat.reduceSub,Nat.reduceMul,Nat.reduceDiv,Nat.reduceMod,Nat.reduceBEq,Nat.reduceLeDiff,g2,ha2.lc.cells1,ha2.lc.okc];refine ⟨cv',by first | rfl | (congr 2; omega),by first | rfl | exact zak _ _ _,?_,fun i hi hik=>by rw [zat _ _ hik,low i hi,gs i hi hik],by first | omega | (rw [zbr]; omega)⟩;have e3:((zcy b).take (j + 1)).map by32 = ((zcy b).take j).map by32 ++ [by32 (be (piece b (12 + 4 * j) 4))]:=by
   have e4:(zcy b).getD j 0 = be (piece b (12 + 4 * j) 4):=by
    rw [List.getD_eq_getElem?_getD,List.getElem?_eq_getElem (by omega)]; simp [zcy]
   rw [take_snoc (by omega),List.map_append,e4]; rfl
  rw [e3];exact App.keep ha2 (Keep.set _ (by omega) _)
 ·rintro L H1 ⟨cv,rfl,g1,ha,gs,gn⟩;unfold zeM uL uM uT uF uB uU uc ug;simp (maxSteps:=1000000) (disch:=first | omega | (simp only [RY] <;> omega) | decide) only [↓RD,RZ,eq_self,Int.reduceToNat,Int.reduceAdd,Int.reduceSub,Int.reduceMul,Nat.reduceAdd,Nat.reduceSub,Nat.reduceMul,Nat.reduceDiv,Nat.reduceMod,Nat.reduceBEq,Nat.reduceLeDiff];have:=ha.lc;rw [← hcl,List.take_length] at this;exact kk H1 cv g1 this gs gn
end Go.Ax.R7
/- Rtp5 -/
namespace Go.Ax.R7
open Go.Ax
def zeroC:List V:=[.bool false,.int .i64 0,.int .u16 0,.int .u32 0,.int .u32 0,.nils,.int .i64 0,.nils,.int .i64 0,.nils]
def zjN (H:Heap) (o:Except Int Pkt) (res:V) (H':Heap):Prop :=
 Grow H H' ∧ match o with
  | .error e=>res = .tup [.agg zeroC,.int .i64 e]
  | .ok p=>∃ z,res = .tup [z,.int .i64 0] ∧ PkR H.next H' z p
theorem errQ {H H':Heap} {e:Int} {b:Option Blk} (h:Grow H H'):zjN H (.error e) (.tup [.agg zeroC,.int .i64 e]) (H'.set H.next b):=⟨h.set (Nat.le_refl _) _,rfl⟩
theorem bitne {x:Nat} (m:Nat) (hm:0 < m):(!(((x % 2 * m:Nat):Int) == 0)) = decide (x % 2 = 1):=by
 rcases Nat.mod_two_eq_zero_or_one x with h | h
 ·simp [h]
 ·simp [h]; omega
def PE (H:Heap) (lo:Nat) (v:V) (b:List Nat) (cv:V) (r:Res) (H':Heap):Prop :=
 match pextOf b with
 | .error e=>∃ L,r = .ret L ∧ zjN H (.error e) (zec L) H'
 | .ok (prof,xs,n)=>r = .nrm [.int .i64 (12 + 4 * csn b + n:Nat)] ∧ ∃ xv,H'.get (H.next + 1) = some ⟨zaD,pcells { zhr b with prof:=prof } cv xv .nils,none⟩ ∧ Exs (H.next + 2) H' xv xs ∧ Lc 1 (H.next + 2) H' cv ((zcy b).map by32) (zcy b).length ∧
   H'.get H.next = some ⟨zaD,zeroC,none⟩ ∧ Grow H H' ∧ H.next + 2 ≤ H'.next ∧ 12 + 4 * csn b + n ≤ b.length
def PP (H:Heap) (b:List Nat) (cv xv:V) (at':Nat) (prof:Int) (xs:List X) (r:Res) (H':Heap):Prop :=
 if b.getD 0 0 / 32 % 2 = 1 ∧ (b.getD (b.length - 1) 0 = 0 ∨ b.length - at' < b.getD (b.length - 1) 0) then ∃ L,r = .ret L ∧ zjN H (.error 2) (zec L) H'
 else r = .nrm [] ∧ H'.get (H.next + 1) = some ⟨zaD,pcells { zhr b with prof:=prof,pad:=((if b.getD 0 0 / 32 % 2 = 1 then b.getD (b.length - 1) 0 else 0:Nat):Int) } cv xv .nils,none⟩ ∧ Exs (H.next + 2) H' xv xs ∧ Lc 1 (H.next + 2) H' cv ((zcy b).map by32) (zcy b).length ∧
   H'.get H.next = some ⟨zaD,zeroC,none⟩ ∧ Grow H H' ∧ H.next + 2 ≤ H'.next
theorem Parse_ok {lo:Nat} {H:Heap} {v:V} {b:List Nat} (h:By lo H v b) (h8:Ok8 b) (hl:b.length ≤ 1048576):Ok (sem T zfe [v]) H (zjN H (parse b)):=by
 have hv:∀ id,v.pid = some id → id < H.next:=fun id hi=>(h.own id hi).2;have b0:=getD_lt h8 0;have b1:=getD_lt h8 1;refine znA ?_;unfold zkW uL uM uS uT uF uFM uE uB uI uIM uG uH uO uU uc ub uq ug;unfold parse;simp (maxSteps:=1000000) (disch:=first | omega | (simp only [RY] <;> omega) | decide) only [↓RD,RZ,eq_self,Int.reduceToNat,Int.reduceAdd,Int.reduceSub,Int.reduceMul,Nat.reduceAdd,Nat.reduceSub,Nat.reduceMul,Nat.reduceDiv,Nat.reduceMod,Nat.reduceBEq,Nat.reduceLeDiff,h.vlen];generalize hH1:Heap.new H _ = H1;have n1:H1.next = H.next + 1:=by rw [← hH1]; rfl
 have s1:Grow H H1:=by rw [← hH1]; exact Grow.new _ _
 have g1:H1.get H.next = some ⟨zaD,zeroC,none⟩:=by rw [← hH1]; exact zad _ _
 have h1:=h.ext s1;have g1':=g1;unfold zeroC at g1';clear hH1;by_cases c1:1200 < b.length
 ·rw [if_pos c1];simp (maxSteps:=1000000) (disch:=first | omega | (simp only [RY] <;> omega) | decide) only [↓RD,RZ,eq_self,Int.reduceToNat,Int.reduceAdd,Int.reduceSub,Int.reduceMul,Nat.reduceAdd,Nat.reduceSub,Nat.reduceMul,Nat.reduceDiv,Nat.reduceMod,Nat.reduceBEq,Nat.reduceLeDiff,g1'];exact errQ s1
 ·rw [if_neg c1];by_cases c2:b.length < 12
  ·rw [if_pos c2];simp (maxSteps:=1000000) (disch:=first | omega | (simp only [RY] <;> omega) | decide) only [↓RD,RZ,eq_self,Int.reduceToNat,Int.reduceAdd,Int.reduceSub,Int.reduceMul,Nat.reduceAdd,Nat.reduceSub,Nat.reduceMul,Nat.reduceDiv,Nat.reduceMod,Nat.reduceBEq,Nat.reduceLeDiff,g1',h.vlen];exact errQ s1
  ·rw [if_neg c2];obtain ⟨p0,hp0,hl0,hd0⟩:=ziO h1 (i:=0) (by omega) (by omega);obtain ⟨p1,hp1,hl1,hd1⟩:=ziO h1 (i:=1) (by omega) (by omega);have ht0:(0:Int).toNat = 0:=rfl;have ht1:(1:Int).toNat = 1:=rfl;rw [ht0] at hl0;rw [ht1] at hl1;have e0:=hl0 H1 h1;have e1:=hl1 H1 h1;by_cases c3:b.getD 0 0 / 64 ≠ 2
   ·rw [if_pos c3];simp (maxSteps:=1000000) (disch:=first | omega | (simp only [RY] <;> omega) | decide) only [↓RD,RZ,eq_self,Int.reduceToNat,Int.reduceAdd,Int.reduceSub,Int.reduceMul,Nat.reduceAdd,Nat.reduceSub,Nat.reduceMul,Nat.reduceDiv,Nat.reduceMod,Nat.reduceBEq,Nat.reduceLeDiff,g1',h.vlen,hp0,e0];exact errQ s1
   ·rw [if_neg c3];have c3':b.getD 0 0 / 64 = 2:=by omega
    obtain ⟨v1,hs1,-,-,hb1,-⟩:=zeN h1 (x:=2) (y:=4) (by omega) (by omega) (by omega);obtain ⟨v2,hs2,-,-,hb2,-⟩:=zeN h1 (x:=4) (y:=8) (by omega) (by omega) (by omega);obtain ⟨v3,hs3,-,-,hb3,-⟩:=zeN h1 (x:=8) (y:=12) (by omega) (by omega) (by omega);have hb1':By lo H1 v1 (piece b 2 2):=hb1;have hb2':By lo H1 v2 (piece b 4 4):=hb2;have hb3':By lo H1 v3 (piece b 8 4):=hb3;have r1:=@zaK _ _ _ _ (zlW hb1' (zee h8 _ _) (by rw [zcP (by omega)]; omega));have r2:=@zaK _ _ _ _ (zlW hb2' (zee h8 _ _) (by rw [zcP (by omega)]; omega));have r3:=@zaK _ _ _ _ (zlW hb3' (zee h8 _ _) (by rw [zcP (by omega)]; omega));have w1:=zbI h8 2 2;have w2:=zbI h8 4 4;have w3:=zbI h8 8 4;have hm:=bitne (x:=b.getD 1 0 / 128) 128 (by decide);simp (maxSteps:=1000000) (disch:=first | omega | (simp only [RY] <;> omega) | decide) only [↓RD,RZ,eq_self,Int.reduceToNat,Int.reduceAdd,Int.reduceSub,Int.reduceMul,Nat.reduceAdd,Nat.reduceSub,Nat.reduceMul,Nat.reduceDiv,Nat.reduceMod,Nat.reduceBEq,Nat.reduceLeDiff,h.vlen,hp0,e0,hp1,e1,c3',hs1,hs2,hs3,r1,r2,r3,hm,n1];generalize hH2:Heap.set _ (H.next + 1) _ = H2;have n2:H2.next = H.next + 2:=by rw [← hH2,zbr,zag]; omega
    have s2:Grow H H2:=by rw [← hH2]; exact (s1.trans (Grow.new _ _)).set (by omega) _
    have g2:H2.get H.next = some ⟨zaD,zeroC,none⟩:=by rw [← hH2,zat _ _ (by omega),zaG _ _ (by omega),g1]
    have q2:H2.get (H.next + 1) = some ⟨zaD,pcells (zhr b) .nils .nils .nils,none⟩:=by rw [← hH2,zak]; rfl
    clear hH2;have h2:=h.ext s2;have e0':=hl0 H2 h2;have g2':=g2;unfold zeroC at g2';have ec:(12:Int) + 4 * ((b.getD 0 0 % 16:Nat):Int) = ((12 + 4 * csn b:Nat):Int):=by unfold csn; omega
    have hcs:csn b ≤ 15:=by unfold csn; omega
    by_cases c4:b.length < 12 + 4 * csn b
    ·rw [if_pos c4];simp (maxSteps:=1000000) (disch:=first | omega | (simp only [RY] <;> omega) | decide) only [↓RD,RZ,eq_self,Int.reduceToNat,Int.reduceAdd,Int.reduceSub,Int.reduceMul,Nat.reduceAdd,Nat.reduceSub,Nat.reduceMul,Nat.reduceDiv,Nat.reduceMod,Nat.reduceBEq,Nat.reduceLeDiff,e0',ec,h2.vlen,g2',n1];exact errQ s2
    ·rw [if_neg c4];simp (maxSteps:=1000000) (disch:=first | omega | (simp only [RY] <;> omega) | decide) only [↓RD,RZ,eq_self,Int.reduceToNat,Int.reduceAdd,Int.reduceSub,Int.reduceMul,Nat.reduceAdd,Nat.reduceSub,Nat.reduceMul,Nat.reduceDiv,Nat.reduceMod,Nat.reduceBEq,Nat.reduceLeDiff,e0',ec,h2.vlen,n1];refine zsC h2 h8 (by omega) (k:=H.next + 1) (m:=H.next + 2) _ (fun id hi=>by have:=hv id hi; omega) (by omega) (by omega) q2 (by omega) fun H3 cv q3 hc3 s3 n3=>?_;have s3':Grow H H3:=⟨by omega,fun i hi=>by rw [s3 i (by omega) (by omega),s2.same i hi]⟩;have g3:H3.get H.next = some ⟨zaD,zeroC,none⟩:=by rw [s3 _ (by omega) (by omega),g2]
     have h3:=h.ext s3';have e03:=hl0 H3 h3;have q3':=q3;unfold pcells at q3';have g3':=g3;unfold zeroC at g3';have hm16:=bitne (x:=b.getD 0 0 / 16) 16 (by decide);have hm32:=bitne (x:=b.getD 0 0 / 32) 32 (by decide);simp (maxSteps:=1000000) (disch:=first | omega | (simp only [RY] <;> omega) | decide) only [↓RD,RZ,eq_self,Int.reduceToNat,Int.reduceAdd,Int.reduceSub,Int.reduceMul,Nat.reduceAdd,Nat.reduceSub,Nat.reduceMul,Nat.reduceDiv,Nat.reduceMod,Nat.reduceBEq,Nat.reduceLeDiff,hp0,e03,hm16,n1]
     -- the extension
     refine zau (Q:=PE H lo v b cv) ?_ ?_
     ·by_cases cx:b.getD 0 0 / 16 % 2 = 1
      ·obtain ⟨v4,-,-,hs4,hb4,hp4⟩:=by_slice h3 (x:=(12 + 4 * csn b:Nat)) (y:=b.length) (by omega) (by omega) (by omega);have hs4':=@hs4 rfl;have hb4':By lo H3 v4 (b.drop (12 + 4 * csn b)):=by
        have:((b.drop ((12 + 4 * csn b:Nat):Int).toNat).take ((b.length:Int).toNat - ((12 + 4 * csn b:Nat):Int).toNat)) = b.drop (12 + 4 * csn b):=by
         rw [Int.toNat_natCast]; exact List.take_of_length_le (by rw [List.length_drop]; omega)
        rw [this] at hb4; exact hb4
       simp (maxSteps:=1000000) (disch:=first | omega | (simp only [RY] <;> omega) | decide) only [↓RD,RZ,eq_self,Int.reduceToNat,Int.reduceAdd,Int.reduceSub,Int.reduceMul,Nat.reduceAdd,Nat.reduceSub,Nat.reduceMul,Nat.reduceDiv,Nat.reduceMod,Nat.reduceBEq,Nat.reduceLeDiff,cx,hs4',n1];refine zac (zoc hb4' (h8.drop _) (by rw [List.length_drop]; omega) (k:=H.next + 1) (by omega) q3 (fun e=>by have:=hv _ (hp4 ▸ e); omega)) ?_;rintro res H4 ⟨t4,hr⟩;have s4:Grow H H4:=⟨by have:=t4.next; omega,fun i hi=>by rw [t4.same i (by omega) (by omega),s3'.same i hi]⟩;have g4:H4.get H.next = some ⟨zaD,zeroC,none⟩:=by rw [t4.same _ (by omega) (by omega),g3]
       have g4':=g4;unfold zeroC at g4';have n4:=t4.next;cases hx:pext (b.drop (12 + 4 * csn b)) with
       | error e =>
        rw [hx] at hr;dsimp only at hr;subst hr;have hee:e = 2 ∨ e = 3:=by
         unfold pext at hx;split at hx
         ·cases hx; exact .inr rfl
         ·split at hx
          ·cases hx; exact .inr rfl
          ·split at hx
           ·cases hx; exact .inl rfl
           ·split at hx
            ·cases hx; exact .inl rfl
            ·cases hx
        rcases hee with rfl | rfl
        ·simp (maxSteps:=1000000) (disch:=first | omega | (simp only [RY] <;> omega) | decide) only [↓RD,RZ,eq_self,Int.reduceToNat,Int.reduceAdd,Int.reduceSub,Int.reduceMul,Nat.reduceAdd,Nat.reduceSub,Nat.reduceMul,Nat.reduceDiv,Nat.reduceMod,Nat.reduceBEq,Nat.reduceLeDiff,g4'];unfold PE pextOf;rw [if_pos cx,hx];exact ⟨_,rfl,errQ s4⟩
        ·simp (maxSteps:=1000000) (disch:=first | omega | (simp only [RY] <;> omega) | decide) only [↓RD,RZ,eq_self,Int.reduceToNat,Int.reduceAdd,Int.reduceSub,Int.reduceMul,Nat.reduceAdd,Nat.reduceSub,Nat.reduceMul,Nat.reduceDiv,Nat.reduceMod,Nat.reduceBEq,Nat.reduceLeDiff,g4'];unfold PE pextOf;rw [if_pos cx,hx];exact ⟨_,rfl,errQ s4⟩
       | ok o =>
        obtain ⟨prof,xs,n⟩:=o;rw [hx] at hr;dsimp only at hr;obtain ⟨rfl,xv,q4,hxs⟩:=hr;have hn:n ≤ b.length - (12 + 4 * csn b):=by
         unfold pext at hx;rw [List.length_drop] at hx;split at hx
         ·cases hx
         ·split at hx
          ·cases hx
          ·split at hx
           ·cases hx
           ·split at hx
            ·cases hx
            ·cases hx; omega
        have ea:((12 + 4 * csn b:Nat):Int) + (n:Int) = ((12 + 4 * csn b + n:Nat):Int):=rfl;simp (maxSteps:=1000000) (disch:=first | omega | (simp only [RY] <;> omega) | decide) only [↓RD,RZ,eq_self,Int.reduceToNat,Int.reduceAdd,Int.reduceSub,Int.reduceMul,Nat.reduceAdd,Nat.reduceSub,Nat.reduceMul,Nat.reduceDiv,Nat.reduceMod,Nat.reduceBEq,Nat.reduceLeDiff,ea,n1];unfold PE pextOf;rw [if_pos cx,hx];exact ⟨rfl,xv,q4,hxs.low (by omega),hc3.at1 t4 (fun e=>by have:=(hc3.own _ e).1; omega),g4,s4,by omega,by omega⟩
      ·simp (maxSteps:=1000000) (disch:=first | omega | (simp only [RY] <;> omega) | decide) only [↓RD,RZ,eq_self,Int.reduceToNat,Int.reduceAdd,Int.reduceSub,Int.reduceMul,Nat.reduceAdd,Nat.reduceSub,Nat.reduceMul,Nat.reduceDiv,Nat.reduceMod,Nat.reduceBEq,Nat.reduceLeDiff,cx,n1];unfold PE pextOf;rw [if_neg cx];exact ⟨rfl,.nils,q3,Exs.nil,hc3,g3,s3',by omega,by omega⟩
     ·rintro r H4 hPE;unfold PE at hPE;cases hx:pextOf b with
      | error e =>
       rw [hx] at hPE;obtain ⟨L,rfl,hq⟩:=hPE;simp (maxSteps:=1000000) (disch:=first | omega | (simp only [RY] <;> omega) | decide) only [↓RD,RZ,eq_self,Int.reduceToNat,Int.reduceAdd,Int.reduceSub,Int.reduceMul,Nat.reduceAdd,Nat.reduceSub,Nat.reduceMul,Nat.reduceDiv,Nat.reduceMod,Nat.reduceBEq,Nat.reduceLeDiff];exact hq
      | ok o =>
       obtain ⟨prof,xs,n⟩:=o;rw [hx] at hPE;obtain ⟨rfl,xv,q4,hxs,hc4,g4,s4,n4,hat⟩:=hPE;dsimp only;have h4:=h.ext s4;generalize hatd:12 + 4 * csn b + n = at' at *;obtain ⟨v5,-,-,hs5,hb5,hp5⟩:=by_slice h4 (x:=(at':Nat)) (y:=b.length) (by omega) (by omega) (by omega);have hs5':=@hs5 rfl;have e5:(b.length:Int).toNat - ((at':Nat):Int).toNat = b.length - at':=by omega
       rw [e5,Int.toNat_natCast] at hb5;have hb5':By (lo) H4 v5 (piece b at' (b.length - at')):=hb5;have hl5:(piece b at' (b.length - at')).length = b.length - at':=zcP (by omega);have vl5:=hb5'.vlen;rw [hl5] at vl5;obtain ⟨pl,hpl,hll,hdl⟩:=ziO h4 (i:=(b.length - 1:Nat)) (by omega) (by omega);rw [Int.toNat_natCast] at hll;have e04:=hl0 H4 h4;have el4:=hll H4 h4;have elen':(b.length:Int) - 1 = ((b.length - 1:Nat):Int):=by omega
       have bl:=getD_lt h8 (b.length - 1);have q4':=q4;unfold pcells at q4';have g4':=g4;unfold zeroC at g4';simp (maxSteps:=1000000) (disch:=first | omega | (simp only [RY] <;> omega) | decide) only [↓RD,RZ,eq_self,Int.reduceToNat,Int.reduceAdd,Int.reduceSub,Int.reduceMul,Nat.reduceAdd,Nat.reduceSub,Nat.reduceMul,Nat.reduceDiv,Nat.reduceMod,Nat.reduceBEq,Nat.reduceLeDiff,hs5',hp0,e04,hm32,n1]
       -- the padding
       refine zau (Q:=PP H b cv xv at' prof xs) ?_ ?_
       ·by_cases cp:b.getD 0 0 / 32 % 2 = 1
        ·by_cases cz:b.getD (b.length - 1) 0 = 0
         ·simp (maxSteps:=1000000) (disch:=first | omega | (simp only [RY] <;> omega) | decide) only [↓RD,RZ,eq_self,Int.reduceToNat,Int.reduceAdd,Int.reduceSub,Int.reduceMul,Nat.reduceAdd,Nat.reduceSub,Nat.reduceMul,Nat.reduceDiv,Nat.reduceMod,Nat.reduceBEq,Nat.reduceLeDiff,cp,h4.vlen,elen',hpl,el4,q4',cz,g4',n1];unfold PP;rw [if_pos ⟨cp,.inl cz⟩];exact ⟨_,rfl,errQ (s4.set (by omega) _)⟩
         ·by_cases cl:b.length - at' < b.getD (b.length - 1) 0
          ·simp (maxSteps:=1000000) (disch:=first | omega | (simp only [RY] <;> omega) | decide) only [↓RD,RZ,eq_self,Int.reduceToNat,Int.reduceAdd,Int.reduceSub,Int.reduceMul,Nat.reduceAdd,Nat.reduceSub,Nat.reduceMul,Nat.reduceDiv,Nat.reduceMod,Nat.reduceBEq,Nat.reduceLeDiff,cp,h4.vlen,elen',hpl,el4,q4',vl5,g4',n1];unfold PP;rw [if_pos ⟨cp,.inr cl⟩];exact ⟨_,rfl,errQ (s4.set (by omega) _)⟩
          ·simp (maxSteps:=1000000) (disch:=first | omega | (simp only [RY] <;> omega) | decide) only [↓RD,RZ,eq_self,Int.reduceToNat,Int.reduceAdd,Int.reduceSub,Int.reduceMul,Nat.reduceAdd,Nat.reduceSub,Nat.reduceMul,Nat.reduceDiv,Nat.reduceMod,Nat.reduceBEq,Nat.reduceLeDiff,cp,h4.vlen,elen',hpl,el4,q4',vl5,g4',n1];unfold PP;rw [if_neg (fun e=>e.2.elim cz cl),if_pos cp];refine ⟨rfl,zak _ _ _,hxs.keep (Keep.set _ (by omega) _),hc4.keep (Keep.set _ (by omega) _),by rw [zat _ _ (by omega),g4],s4.set (by omega) _,n4⟩
        ·simp (maxSteps:=1000000) (disch:=first | omega | (simp only [RY] <;> omega) | decide) only [↓RD,RZ,eq_self,Int.reduceToNat,Int.reduceAdd,Int.reduceSub,Int.reduceMul,Nat.reduceAdd,Nat.reduceSub,Nat.reduceMul,Nat.reduceDiv,Nat.reduceMod,Nat.reduceBEq,Nat.reduceLeDiff,cp,n1];unfold PP;rw [if_neg (fun e=>cp e.1),if_neg cp];exact ⟨rfl,q4,hxs,hc4,g4,s4,n4⟩
       ·rintro r H5 hPP;unfold PP at hPP;generalize hpad:(if b.getD 0 0 / 32 % 2 = 1 then b.getD (b.length - 1) 0 else 0) = pad at *;by_cases ce:b.getD 0 0 / 32 % 2 = 1 ∧ (b.getD (b.length - 1) 0 = 0 ∨ b.length - at' < b.getD (b.length - 1) 0)
        ·rw [if_pos ce] at hPP;obtain ⟨L,rfl,hq⟩:=hPP;rw [if_pos ce.1,if_pos ce.2];simp (maxSteps:=1000000) (disch:=first | omega | (simp only [RY] <;> omega) | decide) only [↓RD,RZ,eq_self,Int.reduceToNat,Int.reduceAdd,Int.reduceSub,Int.reduceMul,Nat.reduceAdd,Nat.reduceSub,Nat.reduceMul,Nat.reduceDiv,Nat.reduceMod,Nat.reduceBEq,Nat.reduceLeDiff];exact hq
        ·rw [if_neg ce] at hPP;obtain ⟨rfl,q5,hx5,hc5,g5,s5,n5⟩:=hPP;have hpl':pad ≤ b.length - at':=by
          rw [← hpad]; split
          ·rename_i cp;have:¬ (b.getD (b.length - 1) 0 = 0 ∨ b.length - at' < b.getD (b.length - 1) 0):=fun e=>ce ⟨cp,e⟩;omega
          ·omega
         have q5':=q5;unfold pcells at q5';have hb5'':By lo H5 v5 (piece b at' (b.length - at')):=by
          have hs:∀ i,v5.pid = some i → H5.get i = H4.get i:=fun i hi=>by
           have:=hv i (hp5 ▸ hi);rw [s5.same i this,s4.same i this]
          refine ⟨by rw [zcf hs]; exact hb5'.rc,fun i hi=>⟨(hb5'.own i hi).1,?_⟩,hb5'.cap⟩;have:=hv i (hp5 ▸ hi); omega
         obtain ⟨v6,-,hs6,-,hb6,-⟩:=by_slice hb5'' (x:=0) (y:=(b.length - at' - pad:Nat)) (by omega) (by omega) (by omega);have hs6':=@hs6 rfl;have e6:((b.length - at' - pad:Nat):Int).toNat - (0:Int).toNat = b.length - at' - pad:=by omega
         have e7:(0:Int).toNat = 0:=rfl;rw [e6,e7,List.drop_zero] at hb6;have e8:(piece b at' (b.length - at')).take (b.length - at' - pad) = piece b at' (b.length - at' - pad):=by
          unfold piece; rw [List.take_take,Nat.min_eq_left (by omega)]
         rw [e8] at hb6;have e9:((b.length - at':Nat):Int) - (pad:Int) = ((b.length - at' - pad:Nat):Int):=by omega
         simp (maxSteps:=1000000) (disch:=first | omega | (simp only [RY] <;> omega) | decide) only [↓RD,RZ,eq_self,Int.reduceToNat,Int.reduceAdd,Int.reduceSub,Int.reduceMul,Nat.reduceAdd,Nat.reduceSub,Nat.reduceMul,Nat.reduceDiv,Nat.reduceMod,Nat.reduceBEq,Nat.reduceLeDiff,vl5,q5',e9,hs6',n1];refine zac (zpZ hb6 (by rw [zcP (by omega)]; omega)) ?_;rintro pv H6 ⟨hb7,s7⟩;have q6:H6.get (H.next + 1) = _:=(s7.same _ (by omega)).trans q5';have g6:H6.get H.next = _:=(s7.same _ (by omega)).trans g5;unfold zeroC at g6;have n7:=s7.next;simp (maxSteps:=1000000) (disch:=first | omega | (simp only [RY] <;> omega) | decide) only [↓RD,RZ,eq_self,Int.reduceToNat,Int.reduceAdd,Int.reduceSub,Int.reduceMul,Nat.reduceAdd,Nat.reduceSub,Nat.reduceMul,Nat.reduceDiv,Nat.reduceMod,Nat.reduceBEq,Nat.reduceLeDiff,q6,hb7.cells1,hb7.okc,g6,n1];have hfin:(if b.getD 0 0 / 32 % 2 = 1 then (if b.getD (b.length - 1) 0 = 0 ∨ b.length - at' < b.getD (b.length - 1) 0 then (Except.error 2:Except Int Pkt) else .ok { zhr b with csrc:=zcy b,prof:=prof,exts:=xs,pad:=(b.getD (b.length - 1) 0:Nat),pay:=piece b at' (b.length - at' - b.getD (b.length - 1) 0) }) else .ok { zhr b with csrc:=zcy b,prof:=prof,exts:=xs,pay:=piece b at' (b.length - at') })
           = .ok { zhr b with csrc:=zcy b,prof:=prof,exts:=xs,pad:=(pad:Nat),pay:=piece b at' (b.length - at' - pad) }:=by
          rw [← hpad];by_cases cp:b.getD 0 0 / 32 % 2 = 1
          ·rw [if_pos cp,if_pos cp,if_neg (fun e=>ce ⟨cp,e⟩)]
          ·rw [if_neg cp,if_neg cp]; rfl
         rw [hfin];refine ⟨((s5.trans s7).set (by omega) _).set (by omega) _,_,rfl,cv,xv,pv,rfl,?_,?_,?_⟩
         ·exact (((hc5.ext s7).keep (Keep.set _ (by omega) _)).keep (Keep.set _ (by omega) _)).low (by omega)
         ·exact (((hx5.ext s7).keep (Keep.set _ (by omega) _)).keep (Keep.set _ (by omega) _)).low (by omega)
         ·exact (((hb7.low (lo':=H.next + 2) (by omega)).keep (Keep.set _ (by omega) _)).keep (Keep.set _ (by omega) _)).low (by omega)
end Go.Ax.R7
/- Rtp6 -/
namespace Go.Ax.R7
open Go.Ax
theorem zqS {lo:Nat} {H:Heap} {v:V} {b:List Nat} (h:By lo H v b) (h8:Ok8 b) (hl:b.length ≤ 1200) {k m:Nat} {p:Pkt} {xv pv:V} (t2 t3:V) (hv:∀ id,v.pid = some id → id < k) (hk:k < m) (hm:m ≤ H.next) (hb:H.get k = some ⟨zah,pcells p .nils xv pv,none⟩) (hn:12 + 4 * csn b ≤ b.length) {Q:Res → Heap → Prop}
  (kk:∀ H' cv,H'.get k = some ⟨zah,pcells p cv xv pv,none⟩ → Lc 1 m H' cv ((zcy b).map by32) (zcy b).length → (∀ i,i < m → i ≠ k → H'.get i = H.get i) → H.next ≤ H'.next → Q (.ex 0 []) H') :
  Ok (M.iter (zbC (sem T) (.int .i64 (csn b:Nat)) v (.ptr k 0) t2 t3) [.int .i64 0]) H Q:=by
 have hcl:(zcy b).length = csn b:=by simp [zcy]
 refine zaV (fun j L H'=>∃ cv,L = [.int .i64 (j:Nat)] ∧ H'.get k = some ⟨zah,pcells p cv xv pv,none⟩ ∧ App zbu 1 m H' cv (((zcy b).take j).map by32) j ∧ (∀ i,i < m → i ≠ k → H'.get i = H.get i) ∧ H.next ≤ H'.next) (csn b) ?_ ?_ ?_
 ·exact ⟨.nils,rfl,hb,App.nil,fun _ _ _=>rfl,Nat.le_refl _⟩
 ·rintro j L H1 hj ⟨cv,rfl,g1,ha,gs,gn⟩;have h1:By lo H1 v b:=⟨by rw [zcf fun i hi=>gs i (by have:=hv i hi; omega) (by have:=hv i hi; omega)]; exact h.rc,fun i hi=>⟨(h.own i hi).1,Nat.lt_of_lt_of_le (h.own i hi).2 gn⟩,h.cap⟩;have e2:(12:Int) + 4 * (j:Nat) = ((12 + 4 * j:Nat):Int):=by omega
  have g1':=g1;unfold pcells at g1';have r1:=@zaK _ _ _ _ (show Ok (sem T zaf [v,.int .i64 ((12 + 4 * j:Nat):Int),.int .i64 4]) H1 (fun r H'=>r = .int .u64 (be (piece b (12 + 4 * j) 4):Nat) ∧ H' = H1) from N_ok h1 h8 (by omega) (12 + 4 * j) 4 (by omega) (by omega));have hw:=zbI h8 (12 + 4 * j) 4;have hm:be (piece b (12 + 4 * j) 4) % 4294967296 = be (piece b (12 + 4 * j) 4):=Nat.mod_eq_of_lt (by omega);unfold zbC uL uM uT uF uB uU uc ug;simp (disch:=first | omega | (simp only [RY] <;> omega) | decide) only [↓RD,RZ,eq_self,Int.reduceToNat,Int.reduceAdd,Nat.reduceAdd,Nat.reduceSub,Nat.reduceMul,Nat.reduceLeDiff,g1',e2,r1,hm];refine zcq (lo:=m) (bytes:=4) (m:=1) (q:=[by32 (be (piece b (12 + 4 * j) 4))]) (App.keep ha ((Grow.new _ _).keep _)) (by rw [zag]; omega) (zaQ rfl) rfl (by omega) (by omega) fun cv' H2 ha2 hs2=>?_;have hcv:∀ id,cv.pid = some id → m ≤ id:=fun id hi=>(ha.lc.own id hi).1;have low:∀ i,i < m → H2.get i = H1.get i:=fun i hi=>by
   rw [hs2.same i (by rw [zag]; omega) (fun e=>by have:=hcv i (by simpa [zbe] using e); omega),zaG _ _ (by omega)]
  have g2:=g1';rw [← low k (by omega)] at g2;have n2:=hs2.next;rw [zag] at n2;simp (disch:=first | omega | (simp only [RY] <;> omega) | decide) only [↓RD,RZ,eq_self,Int.reduceToNat,Int.reduceAdd,Nat.reduceAdd,Nat.reduceSub,Nat.reduceMul,Nat.reduceLeDiff,g2,ha2.lc.cells1,ha2.lc.okc];refine ⟨cv',by first | rfl | (congr 2; omega),by first | rfl | exact zak _ _ _,?_,fun i hi hik=>by rw [zat _ _ hik,low i hi,gs i hi hik],by first | omega | (rw [zbr]; omega)⟩;have e3:((zcy b).take (j + 1)).map by32 = ((zcy b).take j).map by32 ++ [by32 (be (piece b (12 + 4 * j) 4))]:=by
   have e4:(zcy b).getD j 0 = be (piece b (12 + 4 * j) 4):=by
    rw [List.getD_eq_getElem?_getD,List.getElem?_eq_getElem (by omega)]; simp [zcy]
   rw [take_snoc (by omega),List.map_append,e4]; rfl
  rw [e3];exact App.keep ha2 (Keep.set _ (by omega) _)
 ·rintro L H1 ⟨cv,rfl,g1,ha,gs,gn⟩;unfold zbC uL uM uT uF uB uU uc ug;simp (disch:=first | omega | (simp only [RY] <;> omega) | decide) only [↓RD,RZ,eq_self,Int.reduceToNat,Int.reduceAdd,Nat.reduceAdd,Nat.reduceSub,Nat.reduceMul,Nat.reduceLeDiff];have:=ha.lc;rw [← hcl,List.take_length] at this;exact kk H1 cv g1 this gs gn
theorem bit1 (x:Nat):((((x % 2:Nat):Int) == 1)) = decide (x % 2 = 1):=by
 rcases Nat.mod_two_eq_zero_or_one x with h | h <;> simp [h]
def PE2 (H:Heap) (b:List Nat) (cv:V) (r:Res) (H':Heap):Prop :=
 match pextOf b with
 | .error e=>∃ L,r = .ret L ∧ zjN H (.error e) (zec L) H'
 | .ok (prof,xs,n)=>r = .nrm [.int .i64 (12 + 4 * csn b + n:Nat)] ∧ ∃ xv,H'.get (H.next + 1) = some ⟨zah,pcells { zhr b with prof:=prof } cv xv .nils,none⟩ ∧ Exs (H.next + 2) H' xv xs ∧ Lc 1 (H.next + 2) H' cv ((zcy b).map by32) (zcy b).length ∧
   H'.get H.next = some ⟨zah,zeroC,none⟩ ∧ Grow H H' ∧ H.next + 2 ≤ H'.next ∧ 12 + 4 * csn b + n ≤ b.length
def PP2 (H:Heap) (b:List Nat) (cv xv:V) (at':Nat) (prof:Int) (xs:List X) (r:Res) (H':Heap):Prop :=
 if b.getD 0 0 / 32 % 2 = 1 ∧ (b.getD (b.length - 1) 0 = 0 ∨ b.length - at' < b.getD (b.length - 1) 0) then ∃ L,r = .ret L ∧ zjN H (.error 2) (zec L) H'
 else r = .nrm [.int .i64 ((b.length - (if b.getD 0 0 / 32 % 2 = 1 then b.getD (b.length - 1) 0 else 0):Nat):Int)] ∧ H'.get (H.next + 1) = some ⟨zah,pcells { zhr b with prof:=prof,pad:=((if b.getD 0 0 / 32 % 2 = 1 then b.getD (b.length - 1) 0 else 0:Nat):Int) } cv xv .nils,none⟩ ∧ Exs (H.next + 2) H' xv xs ∧ Lc 1 (H.next + 2) H' cv ((zcy b).map by32) (zcy b).length ∧
   H'.get H.next = some ⟨zah,zeroC,none⟩ ∧ Grow H H' ∧ H.next + 2 ≤ H'.next
theorem ziW (b:List Nat) (i j n:Nat):piece (b.drop i) j n = piece b (i + j) n:=by
 unfold piece; rw [List.drop_drop]
theorem Parse2_ok {lo:Nat} {H:Heap} {v:V} {b:List Nat} (h:By lo H v b) (h8:Ok8 b) (hl:b.length ≤ 1048576):Ok (sem T zbL [v]) H (zjN H (parse b)):=by
 have hv:∀ id,v.pid = some id → id < H.next:=fun id hi=>(h.own id hi).2;have b0:=getD_lt h8 0;have b1:=getD_lt h8 1;refine zgN ?_;unfold zeo uL uM uS uT uF uFM uE uB uI uIM uG uH uO uU uc ub uq ug;unfold parse;simp (disch:=first | omega | (simp only [RY] <;> omega) | decide) only [↓RD,RZ,eq_self,Int.reduceToNat,Int.reduceAdd,Nat.reduceAdd,Nat.reduceSub,Nat.reduceMul,Nat.reduceLeDiff,h.vlen];generalize hH1:Heap.new H _ = H1;have n1:H1.next = H.next + 1:=by rw [← hH1]; rfl
 have s1:Grow H H1:=by rw [← hH1]; exact Grow.new _ _
 have g1:H1.get H.next = some ⟨zah,zeroC,none⟩:=by rw [← hH1]; exact zad _ _
 have h1:=h.ext s1;have g1':=g1;unfold zeroC at g1';clear hH1;by_cases c1:1200 < b.length
 ·rw [if_pos c1];simp (disch:=first | omega | (simp only [RY] <;> omega) | decide) only [↓RD,RZ,eq_self,Int.reduceToNat,Int.reduceAdd,Nat.reduceAdd,Nat.reduceSub,Nat.reduceMul,Nat.reduceLeDiff,g1'];exact errQ s1
 ·rw [if_neg c1];by_cases c2:b.length < 12
  ·rw [if_pos c2];simp (disch:=first | omega | (simp only [RY] <;> omega) | decide) only [↓RD,RZ,eq_self,Int.reduceToNat,Int.reduceAdd,Nat.reduceAdd,Nat.reduceSub,Nat.reduceMul,Nat.reduceLeDiff,g1',h.vlen];exact errQ s1
  ·rw [if_neg c2];obtain ⟨p0,hp0,hl0,hd0⟩:=ziO h1 (i:=0) (by omega) (by omega);obtain ⟨p1,hp1,hl1,hd1⟩:=ziO h1 (i:=1) (by omega) (by omega);have ht0:(0:Int).toNat = 0:=rfl;have ht1:(1:Int).toNat = 1:=rfl;rw [ht0] at hl0;rw [ht1] at hl1;have e0:=hl0 H1 h1;have e1:=hl1 H1 h1;by_cases c3:b.getD 0 0 / 64 ≠ 2
   ·rw [if_pos c3];simp (disch:=first | omega | (simp only [RY] <;> omega) | decide) only [↓RD,RZ,eq_self,Int.reduceToNat,Int.reduceAdd,Nat.reduceAdd,Nat.reduceSub,Nat.reduceMul,Nat.reduceLeDiff,g1',h.vlen,hp0,e0];exact errQ s1
   ·rw [if_neg c3];have c3':b.getD 0 0 / 64 = 2:=by omega
    have r1:=@zaK _ _ _ _ (show Ok (sem T zaf [v,.int .i64 2,.int .i64 2]) H1 (fun r H'=>r = .int .u64 (be (piece b 2 2):Nat) ∧ H' = H1) from N_ok h1 h8 (by omega) 2 2 (by omega) (by omega));have r2:=@zaK _ _ _ _ (show Ok (sem T zaf [v,.int .i64 4,.int .i64 4]) H1 (fun r H'=>r = .int .u64 (be (piece b 4 4):Nat) ∧ H' = H1) from N_ok h1 h8 (by omega) 4 4 (by omega) (by omega));have r3:=@zaK _ _ _ _ (show Ok (sem T zaf [v,.int .i64 8,.int .i64 4]) H1 (fun r H'=>r = .int .u64 (be (piece b 8 4):Nat) ∧ H' = H1) from N_ok h1 h8 (by omega) 8 4 (by omega) (by omega));have w1:=zbI h8 2 2;have w2:=zbI h8 4 4;have w3:=zbI h8 8 4;have m1:be (piece b 2 2) % 65536 = be (piece b 2 2):=Nat.mod_eq_of_lt (by omega);have m2:be (piece b 4 4) % 4294967296 = be (piece b 4 4):=Nat.mod_eq_of_lt (by omega);have m3:be (piece b 8 4) % 4294967296 = be (piece b 8 4):=Nat.mod_eq_of_lt (by omega);have hm:decide (127 < ((b.getD 1 0:Nat):Int)) = decide (b.getD 1 0 / 128 % 2 = 1):=by
     apply decide_eq_decide.2; omega
    simp (disch:=first | omega | (simp only [RY] <;> omega) | decide) only [↓RD,RZ,eq_self,Int.reduceToNat,Int.reduceAdd,Nat.reduceAdd,Nat.reduceSub,Nat.reduceMul,Nat.reduceLeDiff,h.vlen,hp0,e0,hp1,e1,c3',r1,r2,r3,m1,m2,m3,hm,n1];generalize hH2:Heap.set _ (H.next + 1) _ = H2;have n2:H2.next = H.next + 2:=by rw [← hH2,zbr,zag]; omega
    have s2:Grow H H2:=by rw [← hH2]; exact (s1.trans (Grow.new _ _)).set (by omega) _
    have g2:H2.get H.next = some ⟨zah,zeroC,none⟩:=by rw [← hH2,zat _ _ (by omega),zaG _ _ (by omega),g1]
    have q2:H2.get (H.next + 1) = some ⟨zah,pcells (zhr b) .nils .nils .nils,none⟩:=by rw [← hH2,zak]; rfl
    clear hH2;have h2:=h.ext s2;have e0':=hl0 H2 h2;have g2':=g2;unfold zeroC at g2';have ec:(12:Int) + 4 * ((b.getD 0 0 % 16:Nat):Int) = ((12 + 4 * csn b:Nat):Int):=by unfold csn; omega
    have hcs:csn b ≤ 15:=by unfold csn; omega
    by_cases c4:b.length < 12 + 4 * csn b
    ·rw [if_pos c4];simp (disch:=first | omega | (simp only [RY] <;> omega) | decide) only [↓RD,RZ,eq_self,Int.reduceToNat,Int.reduceAdd,Nat.reduceAdd,Nat.reduceSub,Nat.reduceMul,Nat.reduceLeDiff,e0',ec,h2.vlen,g2',n1];exact errQ s2
    ·rw [if_neg c4];simp (disch:=first | omega | (simp only [RY] <;> omega) | decide) only [↓RD,RZ,eq_self,Int.reduceToNat,Int.reduceAdd,Nat.reduceAdd,Nat.reduceSub,Nat.reduceMul,Nat.reduceLeDiff,e0',ec,h2.vlen,n1];refine zqS h2 h8 (by omega) (k:=H.next + 1) (m:=H.next + 2) _ _ (fun id hi=>by have:=hv id hi; omega) (by omega) (by omega) q2 (by omega) fun H3 cv q3 hc3 s3 n3=>?_;have s3':Grow H H3:=⟨by omega,fun i hi=>by rw [s3 i (by omega) (by omega),s2.same i hi]⟩;have g3:H3.get H.next = some ⟨zah,zeroC,none⟩:=by rw [s3 _ (by omega) (by omega),g2]
     have h3:=h.ext s3';have e03:=hl0 H3 h3;have q3':=q3;unfold pcells at q3';have g3':=g3;unfold zeroC at g3';have hm16:=bit1 (b.getD 0 0 / 16);have hm32:=bit1 (b.getD 0 0 / 32);simp (disch:=first | omega | (simp only [RY] <;> omega) | decide) only [↓RD,RZ,eq_self,Int.reduceToNat,Int.reduceAdd,Nat.reduceAdd,Nat.reduceSub,Nat.reduceMul,Nat.reduceLeDiff,hp0,e03,hm16,n1]
     -- the extension
     refine zau (Q:=PE2 H b cv) ?_ ?_
     ·by_cases cx:b.getD 0 0 / 16 % 2 = 1
      ·unfold PE2 pextOf;rw [if_pos cx];unfold pext;rw [List.length_drop,ziW,ziW,ziW,Nat.add_zero];have ea4:((12 + 4 * csn b:Nat):Int) + 4 = ((12 + 4 * csn b + 4:Nat):Int):=rfl;have ea2:((12 + 4 * csn b:Nat):Int) + 2 = ((12 + 4 * csn b + 2:Nat):Int):=rfl;generalize hat0:12 + 4 * csn b = a0 at *;by_cases d1:b.length - a0 < 4
       ·rw [if_pos d1];simp (disch:=first | omega | (simp only [RY] <;> omega) | decide) only [↓RD,RZ,eq_self,Int.reduceToNat,Int.reduceAdd,Nat.reduceAdd,Nat.reduceSub,Nat.reduceMul,Nat.reduceLeDiff,cx,n1,ea4,h3.vlen,g3'];exact errQ s3'
       ·rw [if_neg d1];have r4:=@zaK _ _ _ _ (show Ok (sem T zaf [v,.int .i64 ((a0:Nat):Int),.int .i64 2]) H3 (fun r H'=>r = .int .u64 (be (piece b a0 2):Nat) ∧ H' = H3) from N_ok h3 h8 (by omega) a0 2 (by omega) (by omega));have w4:=zbI h8 a0 2;have w5:=zbI h8 (a0 + 2) 2;generalize hprof:be (piece b a0 2) = prof at *;generalize hnw:be (piece b (a0 + 2) 2) = nw at *;simp (disch:=first | omega | (simp only [RY] <;> omega) | decide) only [↓RD,RZ,eq_self,Int.reduceToNat,Int.reduceAdd,Nat.reduceAdd,Nat.reduceSub,Nat.reduceMul,Nat.reduceLeDiff,cx,n1,ea4,ea2,h3.vlen,r4,q3'];generalize hH4:Heap.set H3 (H.next + 1) _ = H4;have n4:H4.next = H3.next:=by rw [← hH4,zbr]
        have s4:Grow H H4:=by rw [← hH4]; exact s3'.set (by omega) _
        have g4:H4.get H.next = some ⟨zah,zeroC,none⟩:=by rw [← hH4,zat _ _ (by omega),g3]
        have q4:H4.get (H.next + 1) = some ⟨zah,pcells { zhr b with prof:=(prof:Nat) } cv .nils .nils,none⟩:=by rw [← hH4,zak]; rfl
        have hc4:Lc 1 (H.next + 2) H4 cv ((zcy b).map by32) (zcy b).length:=by rw [← hH4]; exact hc3.keep (Keep.set _ (by omega) _)
        clear hH4;have h4:=h.ext s4;have g4':=g4;unfold zeroC at g4';have q4':=q4;unfold pcells at q4';have r5:=@zaK _ _ _ _ (show Ok (sem T zaf [v,.int .i64 ((a0 + 2:Nat):Int),.int .i64 2]) H4 (fun r H'=>r = .int .u64 (be (piece b (a0 + 2) 2):Nat) ∧ H' = H4) from N_ok h4 h8 (by omega) (a0 + 2) 2 (by omega) (by omega));rw [hnw] at r5;have ea5:((a0 + 4:Nat):Int) + 4 * (nw:Nat) = ((a0 + (4 + 4 * nw):Nat):Int):=by omega
        by_cases d2:b.length - a0 < 4 + 4 * nw
        ·rw [if_pos d2];simp (disch:=first | omega | (simp only [RY] <;> omega) | decide) only [↓RD,RZ,eq_self,Int.reduceToNat,Int.reduceAdd,Nat.reduceAdd,Nat.reduceSub,Nat.reduceMul,Nat.reduceLeDiff,r5,ea5,h4.vlen,g4'];exact errQ s4
        ·rw [if_neg d2];by_cases d3:prof ≠ 48862 ∧ prof ≠ 4096
         ·rw [if_pos d3];simp (disch:=first | omega | (simp only [RY] <;> omega) | decide) only [↓RD,RZ,eq_self,Int.reduceToNat,Int.reduceAdd,Nat.reduceAdd,Nat.reduceSub,Nat.reduceMul,Nat.reduceLeDiff,r5,ea5,h4.vlen,g4',q4',d3.1,d3.2];exact errQ s4
         ·rw [if_neg d3];obtain ⟨v3,hs3,-,-,hb3,hp3⟩:=zeN h4 (x:=(a0 + 4:Nat)) (y:=(a0 + (4 + 4 * nw):Nat)) (by omega) (by omega) (by omega);have e3:((a0 + (4 + 4 * nw):Nat):Int).toNat - ((a0 + 4:Nat):Int).toNat = 4 * nw:=by omega
          rw [e3,Int.toNat_natCast] at hb3;have hb3':By lo H4 v3 (piece b (a0 + 4) (4 * nw)):=by
           have:=hb3; exact this
          have h83:=zee h8 (a0 + 4) (4 * nw);have hl3:(piece b (a0 + 4) (4 * nw)).length ≤ 1048576:=by rw [zcP (by omega)]; omega
          have main:(prof = 48862 ∨ prof = 4096) → Ok ((sem T za1 [v3,.int .i64 (prof:Nat)]).bind fun t125=>(M.lift (ext 0 t125)).bind fun t126=>(M.lift (ext 1 t125)).bind fun t127=>(M.lift (un .not t127)).bind fun t129 =>
            M.ite t129 ((M.lift (build zeroC [])).bind fun t130=>(zco 10 (.ptr H.next 0) t130).bind fun _=>(zar (some 10) (.ptr H.next 0)).bind fun r0=>M.pure (Res.ret [r0,.int .i64 2]))
             ((M.lift (faddr 7 (.ptr (H.next + 1) 0))).bind fun t132=>(zco 1 t132 t126).bind fun _=>(M.lift (bin .mul (.int .i64 4) (.int .i64 (nw:Nat)))).bind fun t135=>(M.lift (bin .add (.int .i64 ((a0 + 4:Nat):Int)) t135)).bind fun t136=>M.pure (Res.nrm [t136]))) H4
            (fun (r:Res) H'=>match (match zeq (decide (((prof:Nat):Int) = 48862)) (piece b (a0 + 4) (4 * nw)) with | none=>(Except.error 2:Except Int (Int × List X × Nat)) | some xs=>Except.ok (((prof:Nat):Int),xs,4 + 4 * nw)) with
             | .error e=>∃ L,r = Res.ret L ∧ zjN H (.error e) (zec L) H'
             | .ok (prof,xs,n)=>r = Res.nrm [.int .i64 (a0 + n:Nat)] ∧ ∃ xv,H'.get (H.next + 1) = some ⟨zah,pcells { zhr b with prof:=prof } cv xv .nils,none⟩ ∧ Exs (H.next + 2) H' xv xs ∧ Lc 1 (H.next + 2) H' cv ((zcy b).map by32) (zcy b).length ∧
               H'.get H.next = some ⟨zah,zeroC,none⟩ ∧ Grow H H' ∧ H.next + 2 ≤ H'.next ∧ a0 + n ≤ b.length):=by
           intro hor;refine zac (zo4 hb3' h83 hl3 (prof:Nat) (by omega)) ?_;rintro res H5 ⟨hg5,hr⟩;have s5:=s4.trans hg5;have g5:H5.get H.next = _:=(hg5.same _ (by omega)).trans g4';have q5:H5.get (H.next + 1) = _:=(hg5.same _ (by omega)).trans q4';have n5:=hg5.next;cases hx:zeq (decide (((prof:Nat):Int) = 48862)) (piece b (a0 + 4) (4 * nw)) with
           | none =>
            rw [hx] at hr;dsimp only at hr;subst hr;unfold zeroC;simp (disch:=first | omega | (simp only [RY] <;> omega) | decide) only [↓RD,RZ,eq_self,Int.reduceToNat,Int.reduceAdd,Nat.reduceAdd,Nat.reduceSub,Nat.reduceMul,Nat.reduceLeDiff,g5];exact errQ s5
           | some xs =>
            rw [hx] at hr;dsimp only at hr;obtain ⟨xv',rfl,hxs,hxl⟩:=hr;simp (disch:=first | omega | (simp only [RY] <;> omega) | decide) only [↓RD,RZ,eq_self,Int.reduceToNat,Int.reduceAdd,Nat.reduceAdd,Nat.reduceSub,Nat.reduceMul,Nat.reduceLeDiff,q5,hxs.cells1,hxs.okc,ea5];exact ⟨xv',rfl,(hxs.low (by omega)).keep (Keep.set _ (by omega) _),(hc4.ext hg5).keep (Keep.set _ (by omega) _),by rw [hg5.same _ (by omega),g4],s5.set (by omega) _,by omega,by omega⟩
          by_cases hp1:prof = 48862
          ·subst hp1;simp (disch:=first | omega | (simp only [RY] <;> omega) | decide) only [↓RD,RZ,eq_self,Int.reduceToNat,Int.reduceAdd,Nat.reduceAdd,Nat.reduceSub,Nat.reduceMul,Nat.reduceLeDiff,r5,ea5,h4.vlen,q4',hs3];exact main (.inl rfl)
          ·have hp2:prof = 4096:=by omega
           subst hp2;simp (disch:=first | omega | (simp only [RY] <;> omega) | decide) only [↓RD,RZ,eq_self,Int.reduceToNat,Int.reduceAdd,Nat.reduceAdd,Nat.reduceSub,Nat.reduceMul,Nat.reduceLeDiff,r5,ea5,h4.vlen,q4',hs3];exact main (.inr rfl)
      ·simp (disch:=first | omega | (simp only [RY] <;> omega) | decide) only [↓RD,RZ,eq_self,Int.reduceToNat,Int.reduceAdd,Nat.reduceAdd,Nat.reduceSub,Nat.reduceMul,Nat.reduceLeDiff,cx,n1];unfold PE2 pextOf;rw [if_neg cx];exact ⟨rfl,.nils,q3,Exs.nil,hc3,g3,s3',by omega,by omega⟩
     ·rintro r H4 hPE;unfold PE2 at hPE;cases hx:pextOf b with
      | error e =>
       rw [hx] at hPE;obtain ⟨L,rfl,hq⟩:=hPE;simp (disch:=first | omega | (simp only [RY] <;> omega) | decide) only [↓RD,RZ,eq_self,Int.reduceToNat,Int.reduceAdd,Nat.reduceAdd,Nat.reduceSub,Nat.reduceMul,Nat.reduceLeDiff];exact hq
      | ok o =>
       obtain ⟨prof,xs,n⟩:=o;rw [hx] at hPE;obtain ⟨rfl,xv,q4,hxs,hc4,g4,s4,n4,hat⟩:=hPE;dsimp only;have h4:=h.ext s4;generalize hatd:12 + 4 * csn b + n = at' at *;obtain ⟨pl,hpl,hll,hdl⟩:=ziO h4 (i:=(b.length - 1:Nat)) (by omega) (by omega);rw [Int.toNat_natCast] at hll;have e04:=hl0 H4 h4;have el4:=hll H4 h4;have elen':(b.length:Int) - 1 = ((b.length - 1:Nat):Int):=by omega
       have eat':(b.length:Int) - (at':Nat) = ((b.length - at':Nat):Int):=by omega
       have bl:=getD_lt h8 (b.length - 1);have q4':=q4;unfold pcells at q4';have g4':=g4;unfold zeroC at g4';simp (disch:=first | omega | (simp only [RY] <;> omega) | decide) only [↓RD,RZ,eq_self,Int.reduceToNat,Int.reduceAdd,Nat.reduceAdd,Nat.reduceSub,Nat.reduceMul,Nat.reduceLeDiff,hp0,e04,hm32,n1,h4.vlen]
       -- the padding
       refine zau (Q:=PP2 H b cv xv at' prof xs) ?_ ?_
       ·by_cases cp:b.getD 0 0 / 32 % 2 = 1
        ·by_cases cz:b.getD (b.length - 1) 0 = 0
         ·simp (disch:=first | omega | (simp only [RY] <;> omega) | decide) only [↓RD,RZ,eq_self,Int.reduceToNat,Int.reduceAdd,Nat.reduceAdd,Nat.reduceSub,Nat.reduceMul,Nat.reduceLeDiff,cp,h4.vlen,elen',eat',hpl,el4,q4',cz,g4',n1];unfold PP2;rw [if_pos ⟨cp,.inl cz⟩];exact ⟨_,rfl,errQ (s4.set (by omega) _)⟩
         ·by_cases cl:b.length - at' < b.getD (b.length - 1) 0
          ·simp (disch:=first | omega | (simp only [RY] <;> omega) | decide) only [↓RD,RZ,eq_self,Int.reduceToNat,Int.reduceAdd,Nat.reduceAdd,Nat.reduceSub,Nat.reduceMul,Nat.reduceLeDiff,cp,h4.vlen,elen',eat',hpl,el4,q4',g4',n1];unfold PP2;rw [if_pos ⟨cp,.inr cl⟩];exact ⟨_,rfl,errQ (s4.set (by omega) _)⟩
          ·have ell:(b.length:Int) - ((b.getD (b.length - 1) 0:Nat):Int) = ((b.length - b.getD (b.length - 1) 0:Nat):Int):=by omega
           simp (disch:=first | omega | (simp only [RY] <;> omega) | decide) only [↓RD,RZ,eq_self,Int.reduceToNat,Int.reduceAdd,Nat.reduceAdd,Nat.reduceSub,Nat.reduceMul,Nat.reduceLeDiff,cp,h4.vlen,elen',eat',hpl,el4,q4',g4',n1,ell];unfold PP2;rw [if_neg (fun e=>e.2.elim cz cl),if_pos cp];refine ⟨rfl,zak _ _ _,hxs.keep (Keep.set _ (by omega) _),hc4.keep (Keep.set _ (by omega) _),by rw [zat _ _ (by omega),g4],s4.set (by omega) _,n4⟩
        ·simp (disch:=first | omega | (simp only [RY] <;> omega) | decide) only [↓RD,RZ,eq_self,Int.reduceToNat,Int.reduceAdd,Nat.reduceAdd,Nat.reduceSub,Nat.reduceMul,Nat.reduceLeDiff,cp,n1];unfold PP2;rw [if_neg (fun e=>cp e.1),if_neg cp];exact ⟨rfl,q4,hxs,hc4,g4,s4,n4⟩
       ·rintro r H5 hPP;unfold PP2 at hPP;generalize hpad:(if b.getD 0 0 / 32 % 2 = 1 then b.getD (b.length - 1) 0 else 0) = pad at *;by_cases ce:b.getD 0 0 / 32 % 2 = 1 ∧ (b.getD (b.length - 1) 0 = 0 ∨ b.length - at' < b.getD (b.length - 1) 0)
        ·rw [if_pos ce] at hPP;obtain ⟨L,rfl,hq⟩:=hPP;rw [if_pos ce.1,if_pos ce.2];simp (disch:=first | omega | (simp only [RY] <;> omega) | decide) only [↓RD,RZ,eq_self,Int.reduceToNat,Int.reduceAdd,Nat.reduceAdd,Nat.reduceSub,Nat.reduceMul,Nat.reduceLeDiff];exact hq
        ·rw [if_neg ce] at hPP;obtain ⟨rfl,q5,hx5,hc5,g5,s5,n5⟩:=hPP;have hpl':pad ≤ b.length - at':=by
          rw [← hpad]; split
          ·rename_i cp;have:¬ (b.getD (b.length - 1) 0 = 0 ∨ b.length - at' < b.getD (b.length - 1) 0):=fun e=>ce ⟨cp,e⟩;omega
          ·omega
         have q5':=q5;unfold pcells at q5';have h5:=h.ext s5;obtain ⟨v6,hs6,-,-,hb6,hp6⟩:=zeN (h5.ext (Grow.new H5 ⟨zaw,[],none⟩)) (x:=(at':Nat)) (y:=(b.length - pad:Nat)) (by omega) (by omega) (by omega);have e6:((b.length - pad:Nat):Int).toNat - ((at':Nat):Int).toNat = b.length - at' - pad:=by omega
         rw [e6,Int.toNat_natCast] at hb6;have hp6':∀ id,v6.pid = some id → id < H5.next:=fun id hi=>(h5.own id (hp6 ▸ hi)).2;have l6:(piece b at' (b.length - at' - pad)).length = b.length - at' - pad:=zcP (by omega);have hb6':zcm 1 H5 v6 = some ((piece b at' (b.length - at' - pad)).map by8,b.length - at' - pad):=by
          have:=hb6.ac;rw [zlh fun i hi=>zaG _ _ (by have:=hp6' i hi; omega),l6] at this;exact this
         simp (disch:=first | omega | (simp only [RY] <;> omega) | decide) only [↓RD,RZ,eq_self,Int.reduceToNat,Int.reduceAdd,Nat.reduceAdd,Nat.reduceSub,Nat.reduceMul,Nat.reduceLeDiff,hs6,n1];refine okb_copy hb6' hp6' (by rw [List.length_map,l6]; omega) (by omega) (by omega) fun pv H6 ha7 s7=>?_;have hb7:By H5.next H6 pv (piece b at' (b.length - at' - pad)):=by
          show Lc 1 H5.next H6 pv ((piece b at' (b.length - at' - pad)).map by8) (piece b at' (b.length - at' - pad)).length;rw [l6]; exact ha7.lc
         have q6:H6.get (H.next + 1) = _:=(s7.same _ (by omega)).trans q5';have g6:H6.get H.next = _:=(s7.same _ (by omega)).trans g5;unfold zeroC at g6;have n7:=s7.next;simp (disch:=first | omega | (simp only [RY] <;> omega) | decide) only [↓RD,RZ,eq_self,Int.reduceToNat,Int.reduceAdd,Nat.reduceAdd,Nat.reduceSub,Nat.reduceMul,Nat.reduceLeDiff,q6,hb7.cells1,hb7.okc,g6,n1];have hfin:(if b.getD 0 0 / 32 % 2 = 1 then (if b.getD (b.length - 1) 0 = 0 ∨ b.length - at' < b.getD (b.length - 1) 0 then (Except.error 2:Except Int Pkt) else .ok { zhr b with csrc:=zcy b,prof:=prof,exts:=xs,pad:=(b.getD (b.length - 1) 0:Nat),pay:=piece b at' (b.length - at' - b.getD (b.length - 1) 0) }) else .ok { zhr b with csrc:=zcy b,prof:=prof,exts:=xs,pay:=piece b at' (b.length - at') })
           = .ok { zhr b with csrc:=zcy b,prof:=prof,exts:=xs,pad:=(pad:Nat),pay:=piece b at' (b.length - at' - pad) }:=by
          rw [← hpad];by_cases cp:b.getD 0 0 / 32 % 2 = 1
          ·rw [if_pos cp,if_pos cp,if_neg (fun e=>ce ⟨cp,e⟩)]
          ·rw [if_neg cp,if_neg cp]; rfl
         rw [hfin];refine ⟨((s5.trans s7).set (by omega) _).set (by omega) _,_,rfl,cv,xv,pv,rfl,?_,?_,?_⟩
         ·exact (((hc5.ext s7).keep (Keep.set _ (by omega) _)).keep (Keep.set _ (by omega) _)).low (by omega)
         ·exact (((hx5.ext s7).keep (Keep.set _ (by omega) _)).keep (Keep.set _ (by omega) _)).low (by omega)
         ·exact (((hb7.low (lo':=H.next + 2) (by omega)).keep (Keep.set _ (by omega) _)).keep (Keep.set _ (by omega) _)).low (by omega)
end Go.Ax.R7
/- Rc9 -/
namespace Go.Ax.SU
open Go.Ax
abbrev tyRd:=zaJ
def rdC (k:Nat) (fr ab ntp ts pk oc:Int) (bl pv fv:V) (ex mt:Int) (sv:V) (ty ct:Int) (bd:V):List V :=
 [.int .i64 (k:Nat),.int .u32 fr,.int .u32 ab,.int .u64 ntp,.int .u32 ts,.int .u32 pk,.int .u32 oc,bl,pv,fv,.int .i64 ex,.int .u32 mt,sv,.int .i64 ty,.int .i64 ct,bd]
def Sg (v:V):Prop:=v.cells = [v] ∧ v.okc = true
theorem Sg.nil:Sg .nils:=⟨rfl,rfl⟩
def DrV (cells:List V) (k nf ns:Nat):Prop :=
 ∃ fr ab ntp ts pk oc bl pv fv ex mt sv ty ct bd,cells = rdC k fr ab ntp ts pk oc bl pv fv ex mt sv ty ct bd ∧ Ax.vlen fv = some (.int .i64 (nf:Nat)) ∧ Ax.vlen sv = some (.int .i64 (ns:Nat)) ∧ Sg bl ∧ Sg pv ∧ Sg fv ∧ Sg sv ∧ Sg bd
theorem DrV.len {cells:List V} {k nf ns:Nat} (h:DrV cells k nf ns):cells.length = 16:=by
 obtain ⟨fr,ab,ntp,ts,pk,oc,bl,pv,fv,ex,mt,sv,ty,ct,bd,rfl,-⟩:=h;rfl
theorem DrV.okc {cells:List V} {k nf ns:Nat} (h:DrV cells k nf ns):(V.agg cells).okc = true:=by
 obtain ⟨fr,ab,ntp,ts,pk,oc,bl,pv,fv,ex,mt,sv,ty,ct,bd,rfl,-,-,b1,b2,b3,b4,b5⟩:=h;simp [V.okc,rdC,b1.2,b2.2,b3.2,b4.2,b5.2]
structure DI (H0 H:Heap) (p:Nat) (cells:List V):Prop where
 at':AtS [p] H0 H
 g:H.get p = some ⟨tyRd,cells,none⟩
 hp:p < H0.next
theorem DI.st {H0 H:Heap} {p:Nat} {cells:List V} (h:DI H0 H p cells) (cells':List V):DI H0 (H.set p (some ⟨tyRd,cells',none⟩)) p cells' :=
 ⟨h.at'.trans (AtS.set (k:=p) _ (by simp) _),zak _ _ _,h.hp⟩
theorem DI.put {H0 H H1 H2:Heap} {p:Nat} {cells:List V} {v x:V} (h:DI H0 H p cells) (s1:Grow H H1) (s2:Step H1 H2 v.pid.toList x.pid.toList) (hv:∀ i,v.pid = some i → H0.next ≤ i) :
  H2.get p = some ⟨tyRd,cells,none⟩ ∧ ∀ cells',DI H0 (H2.set p (some ⟨tyRd,cells',none⟩)) p cells':=by
 have n0:=h.at'.next;have hp:=h.hp;have e:H2.get p = some ⟨tyRd,cells,none⟩:=by
  rw [s2.same p (by have:=s1.next; omega) (fun e=>by have:=hv p (by simpa [zbe] using e); omega),s1.same p (by omega)];exact h.g
 exact ⟨e,fun cells'=>⟨((h.at'.trans (s1.atS _)).stp s2 hv).trans (AtS.set (k:=p) _ (by simp) _),zak _ _ _,hp⟩⟩
theorem dN {lo:Nat} {H:Heap} {v:V} {l:List Nat} (h:By lo H v l) (h8:Ok8 l) (hl:l.length ≤ 1000000) (a n:Nat) (ha:a + n ≤ l.length) (hn:n ≤ 8) {x y:Int} (ex:x = (a:Nat)) (ey:y = (n:Nat)) {f:V → M Res} {Q:Res → Heap → Prop} :
  @OkB V Res (sem T zaf [v,.int .i64 x,.int .i64 y]) H ⟨f⟩ ⟨Q⟩ ↔ Ok (f (.int .u64 (be ((l.drop a).take n):Nat))) H Q:=by
 subst ex;subst ey;exact zaK (R7.N_ok h h8 (by omega) a n ha hn)
theorem wr {a:Int} (h:0 ≤ a) (h1:a < 9223372036854775808):IntKind.i64.wrap a = a:=wrap_i64 (by omega) (by omega)
theorem rd0_ok {lo q6 p k:Nat} {H0 H:Heap} {v:V} {l:List Nat} {fr ab ntp ts pk oc ex mt ty ct:Int} {bl fv sv bd:V} (hb:By lo H0 v l) (vp:v.pid ≠ some p) (h8:Ok8 l) (hl:l.length ≤ 1200) (h4:l.length % 4 = 0) (h:DI H0 H p (rdC k fr ab ntp ts pk oc bl .nils fv ex mt sv ty ct bd)) :
  Ok (M.iter (zbB (sem T) v (.ptr p 0) (.ptr q6 0) (.bool false)) [.int .i64 0]) H fun r H'=>r = .ex 1 [] ∧ ∃ pv,DI H0 H' p (rdC k fr ab ntp ts pk oc bl pv fv ex mt sv ty ct bd) ∧ Sg pv:=by
 refine zaV (fun j L H'=>L = [.int .i64 (4 * j:Nat)] ∧ ∃ pv cs,DI H0 H' p (rdC k fr ab ntp ts pk oc bl pv fv ex mt sv ty ct bd) ∧ App zcM 2 H0.next H' pv cs j) (l.length / 4) ?_ ?_ ?_
 ·exact ⟨rfl,.nils,[],h,App.nil⟩
 ·rintro j _ H1 hj ⟨rfl,pv,cs,h1,hp1⟩;have hb1:=Lc.atS hb h1.at' fun i hi e=>vp (by rw [List.mem_singleton] at e; rw [hi,e]);have hv:=hb1.vlen;have d1:decide (((4 * j:Nat):Int) < ((l.length:Nat):Int)) = true:=decide_eq_true (by omega);have d1':decide (4 * j < l.length) = true:=decide_eq_true (by omega);have w2:IntKind.i64.wrap (((4 * j:Nat):Int) + 2) = ((4 * j + 2:Nat):Int):=by rw [wr (by omega) (by omega)]; omega
  have w4:IntKind.i64.wrap (((4 * j:Nat):Int) + 4) = ((4 * (j + 1):Nat):Int):=by rw [wr (by omega) (by omega)]; omega
  have r1:=fun {f Q}=>@dN _ _ _ _ hb1 h8 (by omega) (4 * j) 2 (by omega) (by decide) ((4 * j:Nat):Int) 2 rfl rfl f Q;have r2:=fun {f Q}=>@dN _ _ _ _ hb1 h8 (by omega) (4 * j + 2) 2 (by omega) (by decide) ((4 * j + 2:Nat):Int) 2 rfl rfl f Q;have g1:=h1.g;have n1:=h1.at'.next;have hvn:∀ i,pv.pid = some i → H0.next ≤ i:=fun i hi=>(hp1.lc.own i hi).1;unfold zbB uL uM uT uF uB uU uc ug;unfold rdC at g1;simp (maxSteps:=1000000) (disch:=first | omega | (simp only [RY] <;> omega) | decide) only [↓RD,RZ,eq_self,Int.reduceToNat,Int.reduceAdd,Int.reduceSub,Int.reduceMul,Nat.reduceAdd,Nat.reduceSub,Nat.reduceMul,Nat.reduceDiv,Nat.reduceMod,Nat.reduceBEq,Nat.reduceLeDiff,hv,d1,d1',g1,w2,r1,r2];have s4:=fun b=>Grow.new H1 b;refine zcq (bytes:=4) (hp1.atS ((s4 _).atS []) (by simp)) (by rw [zag]; omega) (zaQ rfl) rfl (by omega) (by omega) fun x H2 hx st=>?_;obtain ⟨g2,put⟩:=h1.put (s4 _) st hvn;have xc:=hx.lc.cells1;have xo:=hx.lc.okc;have put:=put (rdC k fr ab ntp ts pk oc bl x fv ex mt sv ty ct bd);have hp:=h1.hp;have hx':=hx.atS (AtS.set (S:=[p]) (k:=p) H2 (by simp) (some ⟨tyRd,rdC k fr ab ntp ts pk oc bl x fv ex mt sv ty ct bd,none⟩)) fun i hi e=>by have:=(hx.lc.own i hi).1; rw [List.mem_singleton] at e; omega
  unfold rdC at g2;simp (maxSteps:=1000000) (disch:=first | omega | (simp only [RY] <;> omega) | decide) only [↓RD,RZ,eq_self,Int.reduceToNat,Int.reduceAdd,Int.reduceSub,Int.reduceMul,Nat.reduceAdd,Nat.reduceSub,Nat.reduceMul,Nat.reduceDiv,Nat.reduceMod,Nat.reduceBEq,Nat.reduceLeDiff,g2,xc,xo,w4];exact ⟨x,_,put,hx'⟩
 ·rintro _ H1 ⟨rfl,pv,cs,h1,hp1⟩;have hb1:=Lc.atS hb h1.at' fun i hi e=>vp (by rw [List.mem_singleton] at e; rw [hi,e]);have hv:=hb1.vlen;have d1:decide (((4 * (l.length / 4):Nat):Int) < ((l.length:Nat):Int)) = false:=decide_eq_false (by omega);have d1':decide (4 * (l.length / 4) < l.length) = false:=decide_eq_false (by omega);unfold zbB uL uM uT uF uB uU uc ug;simp (maxSteps:=1000000) (disch:=first | omega | (simp only [RY] <;> omega) | decide) only [↓RD,RZ,eq_self,Int.reduceToNat,Int.reduceAdd,Int.reduceSub,Int.reduceMul,Nat.reduceAdd,Nat.reduceSub,Nat.reduceMul,Nat.reduceDiv,Nat.reduceMod,Nat.reduceBEq,Nat.reduceLeDiff,hv,d1,d1'];exact ⟨pv,h1,hp1.lc.cells1,hp1.lc.okc⟩
theorem pn_sk {a n:Nat} {l:List Nat} (h:a + n ≤ l.length):pn n (sk a l) = be ((l.drop a).take n):=by
 unfold pn sk;rw [if_neg (by omega:¬ l.length < a),if_neg (by rw [List.length_drop]; omega)]
theorem fbd_at {n j:Nat} {l:List Nat} (hj:j < n) (h:pn 3 (sk (8 * j + 5) l) ≠ 0):fbd n l = true:=List.any_eq_true.2 ⟨j,List.mem_range.2 hj,decide_eq_true h⟩
theorem rd1_ok {lo q6 p k:Nat} {H0 H:Heap} {v:V} {l:List Nat} {fr ab ntp ts pk oc ex mt ty ct:Int} {bl pv sv bd:V} {z:List V} (hb:By lo H0 v l) (vp:v.pid ≠ some p) (h8:Ok8 l) (hl:l.length ≤ 1200) (h4:l.length % 8 = 0) (h:DI H0 H p (rdC k fr ab ntp ts pk oc bl pv .nils ex mt sv ty ct bd))
  (h6:H0.get q6 = some ⟨tyRd,z,none⟩) (l6:q6 < H0.next) (ne6:q6 ≠ p) (hz:∀ {a b c d e f g h i j:Int} {k:Nat} {bl pv fv sv bd:V},splice z 0 (rdC k a b c d e f bl pv fv g h sv i j bd) = rdC k a b c d e f bl pv fv g h sv i j bd) (zl:z.length = 16) (sbl:Sg bl) (spv:Sg pv) (ssv:Sg sv) (sbd:Sg bd) :
  Ok (M.iter (zbA (sem T) v (.ptr p 0) (.ptr q6 0)) [.int .i64 0]) H fun r H'=>(fbd (l.length / 8) l = false ∧ r = .ex 3 [] ∧ ∃ fv,DI H0 H' p (rdC k fr ab ntp ts pk oc bl pv fv ex mt sv ty ct bd) ∧ Sg fv ∧ Ax.vlen fv = some (.int .i64 (l.length / 8:Nat))) ∨
   (fbd (l.length / 8) l = true ∧ ∃ fv nf,r = .ret [.agg (rdC k fr ab ntp ts pk oc bl pv fv ex mt sv ty ct bd),.bool false] ∧ AtS [q6,p] H0 H' ∧ Sg fv ∧ Ax.vlen fv = some (.int .i64 (nf:Nat))):=by
 refine zaV (fun j L H'=>fbd j l = false ∧ L = [.int .i64 (8 * j:Nat)] ∧ ∃ fv cs,DI H0 H' p (rdC k fr ab ntp ts pk oc bl pv fv ex mt sv ty ct bd) ∧ App zc6 2 H0.next H' fv cs j) (l.length / 8) ?_ ?_ ?_
 ·exact ⟨rfl,rfl,.nils,[],h,App.nil⟩
 ·rintro j _ H1 hj ⟨hf,rfl,fv,cs,h1,hp1⟩;have hb1:=Lc.atS hb h1.at' fun i hi e=>vp (by rw [List.mem_singleton] at e; rw [hi,e]);have hv:=hb1.vlen;have d1:decide (((8 * j:Nat):Int) < ((l.length:Nat):Int)) = true:=decide_eq_true (by omega);have d1':decide (8 * j < l.length) = true:=decide_eq_true (by omega);have w2:IntKind.i64.wrap (((8 * j:Nat):Int) + 4) = ((8 * j + 4:Nat):Int):=by rw [wr (by omega) (by omega)]; omega
  have w5:IntKind.i64.wrap (((8 * j:Nat):Int) + 5) = ((8 * j + 5:Nat):Int):=by rw [wr (by omega) (by omega)]; omega
  have w4:IntKind.i64.wrap (((8 * j:Nat):Int) + 8) = ((8 * (j + 1):Nat):Int):=by rw [wr (by omega) (by omega)]; omega
  have r1:=fun {f Q}=>@dN _ _ _ _ hb1 h8 (by omega) (8 * j) 4 (by omega) (by decide) ((8 * j:Nat):Int) 4 rfl rfl f Q;obtain ⟨p4,hp4,ld4,-⟩:=by_at hb1 (i:=(8 * j + 4:Nat)) (by omega) (by omega);rw [Int.toNat_natCast] at ld4;have g1:=h1.g;have n1:=h1.at'.next;have hvn:∀ i,fv.pid = some i → H0.next ≤ i:=fun i hi=>(hp1.lc.own i hi).1;unfold zbA uL uM uS uT uF uB uI uU uc ub uq ug;unfold rdC at g1;simp (maxSteps:=1000000) (disch:=first | omega | (simp only [RY] <;> omega) | decide) only [↓RD,RZ,eq_self,Int.reduceToNat,Int.reduceAdd,Int.reduceSub,Int.reduceMul,Nat.reduceAdd,Nat.reduceSub,Nat.reduceMul,Nat.reduceDiv,Nat.reduceMod,Nat.reduceBEq,Nat.reduceLeDiff,hv,d1,d1',g1,w2,r1,hp4,ld4];have s4:=fun b=>Grow.new H1 b;refine zcq (bytes:=8) (hp1.atS ((s4 _).atS []) (by simp)) (by rw [zag]; omega) (zaQ rfl) rfl (by omega) (by omega) fun x H2 hx st=>?_;obtain ⟨g2,put⟩:=h1.put (s4 _) st hvn;have xc:=hx.lc.cells1;have xo:=hx.lc.okc;have put:=put (rdC k fr ab ntp ts pk oc bl pv x ex mt sv ty ct bd);have hp:=h1.hp;have a2:=AtS.set (S:=[p]) (k:=p) H2 (by simp) (some ⟨tyRd,rdC k fr ab ntp ts pk oc bl pv x ex mt sv ty ct bd,none⟩);have hx':=hx.atS a2 fun i hi e=>by have:=(hx.lc.own i hi).1; rw [List.mem_singleton] at e; omega
  have hb3:=Lc.atS hb put.at' fun i hi e=>vp (by rw [List.mem_singleton] at e; rw [hi,e]);have g3:=put.g;have g63:=(put.at'.same q6 l6 (by simp; exact ne6)).trans h6;have r2:=fun {f Q}=>@dN _ _ _ _ hb3 h8 (by omega) (8 * j + 5) 3 (by omega) (by decide) ((8 * j + 5:Nat):Int) 3 rfl rfl f Q;have e35:=pn_sk (a:=8 * j + 5) (n:=3) (l:=l) (by omega);have g63':=g63;unfold rdC at g2 g3 r2 g63;by_cases hz5:pn 3 (sk (8 * j + 5) l) = 0
  ·rw [← e35,hz5] at r2;simp (maxSteps:=1000000) (disch:=first | omega | (simp only [RY] <;> omega) | decide) only [↓RD,RZ,eq_self,Int.reduceToNat,Int.reduceAdd,Int.reduceSub,Int.reduceMul,Nat.reduceAdd,Nat.reduceSub,Nat.reduceMul,Nat.reduceDiv,Nat.reduceMod,Nat.reduceBEq,Nat.reduceLeDiff,g2,xc,xo,g3,w5,r2,w4];refine ⟨?_,x,_,put,hx'⟩;rw [zpF,hf,hz5];rfl
  ·have bz:(((pn 3 (sk (8 * j + 5) l):Nat):Int) != 0) = true:=by
    have:((pn 3 (sk (8 * j + 5) l):Nat):Int) ≠ 0:=by omega
    simpa using this
   have bz':(pn 3 (sk (8 * j + 5) l) != 0) = true:=by simpa using hz5
   have bz2:(((pn 3 (sk (8 * j + 5) l):Nat):Int) == 0) = false:=beq_false_of_ne (by omega);have bz2':(pn 3 (sk (8 * j + 5) l) == 0) = false:=beq_false_of_ne hz5;rw [← e35] at r2;have g62:H2.get q6 = some ⟨tyRd,z,none⟩:=(zat _ _ ne6).symm.trans g63';have hz':=@hz fr ab ntp ts pk oc ex mt ty ct k bl pv x sv bd;have ok:(V.agg (rdC k fr ab ntp ts pk oc bl pv x ex mt sv ty ct bd)).okc = true:=by simp [V.okc,rdC,sbl.2,spv.2,xo,ssv.2,sbd.2]
   unfold rdC at hz' ok;simp (maxSteps:=1000000) (disch:=first | omega | (simp only [RY] <;> omega) | decide) only [↓RD,RZ,eq_self,Int.reduceToNat,Int.reduceAdd,Int.reduceSub,Int.reduceMul,Nat.reduceAdd,Nat.reduceSub,Nat.reduceMul,Nat.reduceDiv,Nat.reduceMod,Nat.reduceBEq,Nat.reduceLeDiff,g2,xc,xo,g3,w5,r2,bz,bz',bz2,bz2',g62,hz',zl,ok,ne6];refine .inr ⟨fbd_at hj hz5,x,_,rfl,?_,⟨xc,xo⟩,hx.lc.vlen⟩;exact (put.at'.mono (by simp)).trans (AtS.set (k:=q6) _ (by simp) _)
 ·rintro _ H1 ⟨hf,rfl,fv,cs,h1,hp1⟩;have hb1:=Lc.atS hb h1.at' fun i hi e=>vp (by rw [List.mem_singleton] at e; rw [hi,e]);have hv:=hb1.vlen;have d1:decide (((8 * (l.length / 8):Nat):Int) < ((l.length:Nat):Int)) = false:=decide_eq_false (by omega);have d1':decide (8 * (l.length / 8) < l.length) = false:=decide_eq_false (by omega);unfold zbA uL uM uS uT uF uB uI uU uc ub uq ug;simp (maxSteps:=1000000) (disch:=first | omega | (simp only [RY] <;> omega) | decide) only [↓RD,RZ,eq_self,Int.reduceToNat,Int.reduceAdd,Int.reduceSub,Int.reduceMul,Nat.reduceAdd,Nat.reduceSub,Nat.reduceMul,Nat.reduceDiv,Nat.reduceMod,Nat.reduceBEq,Nat.reduceLeDiff,hv,d1,d1'];exact .inl ⟨hf,fv,h1,⟨hp1.lc.cells1,hp1.lc.okc⟩,hp1.lc.vlen⟩
theorem rd2_ok {lo q6 p k:Nat} {H0 H:Heap} {v:V} {l:List Nat} {fr ab ntp ts pk oc ex mt ty ct:Int} {bl pv fv bd:V} (hb:By lo H0 v l) (vp:v.pid ≠ some p) (h8:Ok8 l) (hl:l.length ≤ 1200) (h4:l.length % 4 = 0) (hl8:8 ≤ l.length) (h:DI H0 H p (rdC k fr ab ntp ts pk oc bl pv fv ex mt .nils ty ct bd)) :
  Ok (M.iter (zbz (sem T) v (.ptr p 0) (.ptr q6 0)) [.int .i64 8]) H fun r H'=>r = .ex 5 [] ∧ ∃ sv,DI H0 H' p (rdC k fr ab ntp ts pk oc bl pv fv ex mt sv ty ct bd) ∧ Sg sv ∧ Ax.vlen sv = some (.int .i64 ((l.length - 8) / 4:Nat)):=by
 refine zaV (fun j L H'=>L = [.int .i64 (8 + 4 * j:Nat)] ∧ ∃ sv cs,DI H0 H' p (rdC k fr ab ntp ts pk oc bl pv fv ex mt sv ty ct bd) ∧ App zbu 1 H0.next H' sv cs j) ((l.length - 8) / 4) ?_ ?_ ?_
 ·exact ⟨rfl,.nils,[],h,App.nil⟩
 ·rintro j _ H1 hj ⟨rfl,sv,cs,h1,hp1⟩;have hb1:=Lc.atS hb h1.at' fun i hi e=>vp (by rw [List.mem_singleton] at e; rw [hi,e]);have hv:=hb1.vlen;have d1:decide (((8 + 4 * j:Nat):Int) < ((l.length:Nat):Int)) = true:=decide_eq_true (by omega);have d1':decide (8 + 4 * j < l.length) = true:=decide_eq_true (by omega);have w4:IntKind.i64.wrap (((8 + 4 * j:Nat):Int) + 4) = ((8 + 4 * (j + 1):Nat):Int):=by rw [wr (by omega) (by omega)]; omega
  have r1:=fun {f Q}=>@dN _ _ _ _ hb1 h8 (by omega) (8 + 4 * j) 4 (by omega) (by decide) ((8 + 4 * j:Nat):Int) 4 rfl rfl f Q;have g1:=h1.g;have n1:=h1.at'.next;have hvn:∀ i,sv.pid = some i → H0.next ≤ i:=fun i hi=>(hp1.lc.own i hi).1;unfold zbz uL uM uT uF uB uU uc ug;unfold rdC at g1;simp (maxSteps:=1000000) (disch:=first | omega | (simp only [RY] <;> omega) | decide) only [↓RD,RZ,eq_self,Int.reduceToNat,Int.reduceAdd,Int.reduceSub,Int.reduceMul,Nat.reduceAdd,Nat.reduceSub,Nat.reduceMul,Nat.reduceDiv,Nat.reduceMod,Nat.reduceBEq,Nat.reduceLeDiff,hv,d1,d1',g1,r1];have s4:=fun b=>Grow.new H1 b;refine zcq (bytes:=4) (hp1.atS ((s4 _).atS []) (by simp)) (by rw [zag]; omega) (zaQ rfl) rfl (by omega) (by omega) fun x H2 hx st=>?_;obtain ⟨g2,put⟩:=h1.put (s4 _) st hvn;have xc:=hx.lc.cells1;have xo:=hx.lc.okc;have put:=put (rdC k fr ab ntp ts pk oc bl pv fv ex mt x ty ct bd);have hp:=h1.hp;have hx':=hx.atS (AtS.set (S:=[p]) (k:=p) H2 (by simp) (some ⟨tyRd,rdC k fr ab ntp ts pk oc bl pv fv ex mt x ty ct bd,none⟩)) fun i hi e=>by have:=(hx.lc.own i hi).1; rw [List.mem_singleton] at e; omega
  unfold rdC at g2;simp (maxSteps:=1000000) (disch:=first | omega | (simp only [RY] <;> omega) | decide) only [↓RD,RZ,eq_self,Int.reduceToNat,Int.reduceAdd,Int.reduceSub,Int.reduceMul,Nat.reduceAdd,Nat.reduceSub,Nat.reduceMul,Nat.reduceDiv,Nat.reduceMod,Nat.reduceBEq,Nat.reduceLeDiff,g2,xc,xo,w4];exact ⟨x,_,put,hx'⟩
 ·rintro _ H1 ⟨rfl,sv,cs,h1,hp1⟩;have hb1:=Lc.atS hb h1.at' fun i hi e=>vp (by rw [List.mem_singleton] at e; rw [hi,e]);have hv:=hb1.vlen;have d1:decide (((8 + 4 * ((l.length - 8) / 4):Nat):Int) < ((l.length:Nat):Int)) = false:=decide_eq_false (by omega);have d1':decide (8 + 4 * ((l.length - 8) / 4) < l.length) = false:=decide_eq_false (by omega);unfold zbz uL uM uT uF uB uU uc ug;simp (maxSteps:=1000000) (disch:=first | omega | (simp only [RY] <;> omega) | decide) only [↓RD,RZ,eq_self,Int.reduceToNat,Int.reduceAdd,Int.reduceSub,Int.reduceMul,Nat.reduceAdd,Nat.reduceSub,Nat.reduceMul,Nat.reduceDiv,Nat.reduceMod,Nat.reduceBEq,Nat.reduceLeDiff,hv,d1,d1'];exact ⟨sv,h1,⟨hp1.lc.cells1,hp1.lc.okc⟩,hp1.lc.vlen⟩
end Go.Ax.SU
/- Rc10 -/
namespace Go.Ax.SU
open Go.Ax
theorem other_ok {lo t c:Nat} {H:Heap} {v:V} {l:List Nat} (hb:By lo H v l) (h8:Ok8 l) (hl:l.length ≤ 1000000):Ok (sem T zbK [.int .i64 (t:Nat),.int .i64 (c:Nat),v]) H fun r H'=>r = .bool (decide (zcD t c l ≠ 7)) ∧ H' = H:=by
 refine zgM ?_;unfold zen uL uB uG uH uc;have b (n:Nat):(((t:Nat):Int) == ((n:Nat):Int)) = decide (t = n):=zm6 t n;have bc (n:Nat):(((c:Nat):Int) == ((n:Nat):Int)) = decide (c = n):=zm6 c n;have hv:=hb.vlen;unfold zcD;by_cases h200:t = 200
 ·subst h200; simp (maxSteps:=1000000) (disch:=first | omega | (simp only [RY] <;> omega) | decide) only [↓RD,RZ,eq_self,Int.reduceToNat,Int.reduceAdd,Int.reduceSub,Int.reduceMul,Nat.reduceAdd,Nat.reduceSub,Nat.reduceMul,Nat.reduceDiv,Nat.reduceMod,Nat.reduceBEq,Nat.reduceLeDiff,if_true]; all_goals rfl
 have b200:(((t:Nat):Int) == 200) = false:=(b 200).trans (decide_eq_false h200);have b200':(t == 200) = false:=beq_false_of_ne h200;by_cases h201:t = 201
 ·subst h201; simp (maxSteps:=1000000) (disch:=first | omega | (simp only [RY] <;> omega) | decide) only [↓RD,RZ,eq_self,Int.reduceToNat,Int.reduceAdd,Int.reduceSub,Int.reduceMul,Nat.reduceAdd,Nat.reduceSub,Nat.reduceMul,Nat.reduceDiv,Nat.reduceMod,Nat.reduceBEq,Nat.reduceLeDiff]; all_goals rfl
 have b201:(((t:Nat):Int) == 201) = false:=(b 201).trans (decide_eq_false h201);have b201':(t == 201) = false:=beq_false_of_ne h201;rw [if_neg h200,if_neg h201];by_cases h205:t = 205
 ·subst h205;by_cases hc:c = 1
  ·subst hc; simp (maxSteps:=1000000) (disch:=first | omega | (simp only [RY] <;> omega) | decide) only [↓RD,RZ,eq_self,Int.reduceToNat,Int.reduceAdd,Int.reduceSub,Int.reduceMul,Nat.reduceAdd,Nat.reduceSub,Nat.reduceMul,Nat.reduceDiv,Nat.reduceMod,Nat.reduceBEq,Nat.reduceLeDiff]; all_goals rfl
  ·have c1:(((c:Nat):Int) == 1) = false:=(bc 1).trans (decide_eq_false hc);have c1':(c == 1) = false:=beq_false_of_ne hc;rw [if_neg (fun h=>hc h.2),if_neg (fun h=>absurd h.1 (by decide)),if_neg (fun h=>absurd h.1 (by decide)),if_neg (fun h=>absurd h.1 (by decide))];simp (maxSteps:=1000000) (disch:=first | omega | (simp only [RY] <;> omega) | decide) only [↓RD,RZ,eq_self,Int.reduceToNat,Int.reduceAdd,Int.reduceSub,Int.reduceMul,Nat.reduceAdd,Nat.reduceSub,Nat.reduceMul,Nat.reduceDiv,Nat.reduceMod,Nat.reduceBEq,Nat.reduceLeDiff,c1,c1']
   all_goals rfl
 have b205:(((t:Nat):Int) == 205) = false:=(b 205).trans (decide_eq_false h205);have b205':(t == 205) = false:=beq_false_of_ne h205;rw [if_neg (fun h=>h205 h.1)];by_cases h206:t = 206
 ·subst h206;by_cases hc:c = 1
  ·subst hc; simp (maxSteps:=1000000) (disch:=first | omega | (simp only [RY] <;> omega) | decide) only [↓RD,RZ,eq_self,Int.reduceToNat,Int.reduceAdd,Int.reduceSub,Int.reduceMul,Nat.reduceAdd,Nat.reduceSub,Nat.reduceMul,Nat.reduceDiv,Nat.reduceMod,Nat.reduceBEq,Nat.reduceLeDiff]; all_goals rfl
  have c1:(((c:Nat):Int) == 1) = false:=(bc 1).trans (decide_eq_false hc);have c1':(c == 1) = false:=beq_false_of_ne hc;rw [if_neg (fun h=>hc h.2)];by_cases hc4:c = 4
  ·subst hc4; simp (maxSteps:=1000000) (disch:=first | omega | (simp only [RY] <;> omega) | decide) only [↓RD,RZ,eq_self,Int.reduceToNat,Int.reduceAdd,Int.reduceSub,Int.reduceMul,Nat.reduceAdd,Nat.reduceSub,Nat.reduceMul,Nat.reduceDiv,Nat.reduceMod,Nat.reduceBEq,Nat.reduceLeDiff]; all_goals rfl
  have c4:(((c:Nat):Int) == 4) = false:=(bc 4).trans (decide_eq_false hc4);have c4':(c == 4) = false:=beq_false_of_ne hc4;rw [if_neg (fun h=>hc4 h.2)];by_cases hc15:c = 15
  ·subst hc15;unfold zju;by_cases h12:12 ≤ l.length
   ·have d1:decide ((12:Int) ≤ ((l.length:Nat):Int)) = true:=decide_eq_true (by omega);have d1':decide (12 ≤ l.length) = true:=decide_eq_true h12;obtain ⟨v',hs,-,-,hb',-⟩:=by_slice hb (x:=8) (y:=12) (by decide) (by decide) (by omega);have hb':By lo H v' ((l.drop 8).take 4):=hb';have e8:Ok8 ((l.drop 8).take 4):=(h8.drop 8).take 4;have ee:=zrG e8;have ts:=@zaK _ _ _ _ (znd hb');rw [d1',Bool.true_and];by_cases he:(l.drop 8).take 4 = [82,69,77,66]
    ·rw [decide_eq_true he] at ee ⊢;rw [if_pos ⟨rfl,rfl,rfl⟩];simp (maxSteps:=1000000) (disch:=first | omega | (simp only [RY] <;> omega) | decide) only [↓RD,RZ,eq_self,Int.reduceToNat,Int.reduceAdd,Int.reduceSub,Int.reduceMul,Nat.reduceAdd,Nat.reduceSub,Nat.reduceMul,Nat.reduceDiv,Nat.reduceMod,Nat.reduceBEq,Nat.reduceLeDiff,hv,d1,d1',hs,ts,ee]
     all_goals rfl
    ·rw [decide_eq_false he] at ee ⊢;rw [if_neg (fun h=>absurd h.2.2 (by decide))];simp (maxSteps:=1000000) (disch:=first | omega | (simp only [RY] <;> omega) | decide) only [↓RD,RZ,eq_self,Int.reduceToNat,Int.reduceAdd,Int.reduceSub,Int.reduceMul,Nat.reduceAdd,Nat.reduceSub,Nat.reduceMul,Nat.reduceDiv,Nat.reduceMod,Nat.reduceBEq,Nat.reduceLeDiff,hv,d1,d1',hs,ts,ee]
     all_goals rfl
   ·have d1:decide ((12:Int) ≤ ((l.length:Nat):Int)) = false:=decide_eq_false (by omega);have d1':decide (12 ≤ l.length) = false:=decide_eq_false h12;rw [d1',Bool.false_and,if_neg (fun h=>absurd h.2.2 (by decide))];simp (maxSteps:=1000000) (disch:=first | omega | (simp only [RY] <;> omega) | decide) only [↓RD,RZ,eq_self,Int.reduceToNat,Int.reduceAdd,Int.reduceSub,Int.reduceMul,Nat.reduceAdd,Nat.reduceSub,Nat.reduceMul,Nat.reduceDiv,Nat.reduceMod,Nat.reduceBEq,Nat.reduceLeDiff,hv,d1,d1']
    all_goals rfl
  ·have c15:(((c:Nat):Int) == 15) = false:=(bc 15).trans (decide_eq_false hc15);have c15':(c == 15) = false:=beq_false_of_ne hc15;rw [if_neg (fun h=>hc15 h.2.1)];simp (maxSteps:=1000000) (disch:=first | omega | (simp only [RY] <;> omega) | decide) only [↓RD,RZ,eq_self,Int.reduceToNat,Int.reduceAdd,Int.reduceSub,Int.reduceMul,Nat.reduceAdd,Nat.reduceSub,Nat.reduceMul,Nat.reduceDiv,Nat.reduceMod,Nat.reduceBEq,Nat.reduceLeDiff,c1,c1',c4,c4',c15,c15']
   all_goals rfl
 ·have b206:(((t:Nat):Int) == 206) = false:=(b 206).trans (decide_eq_false h206);have b206':(t == 206) = false:=beq_false_of_ne h206;rw [if_neg (fun h=>h206 h.1),if_neg (fun h=>h206 h.1),if_neg (fun h=>h206 h.1)];simp (maxSteps:=1000000) (disch:=first | omega | (simp only [RY] <;> omega) | decide) only [↓RD,RZ,eq_self,Int.reduceToNat,Int.reduceAdd,Int.reduceSub,Int.reduceMul,Nat.reduceAdd,Nat.reduceSub,Nat.reduceMul,Nat.reduceDiv,Nat.reduceMod,Nat.reduceBEq,Nat.reduceLeDiff,b200,b200',b201,b201',b205,b205',b206,b206']
  all_goals rfl
set_option maxHeartbeats 1000000 in
theorem bk0_ok {lo q6 p k hd n:Nat} {H0 H:Heap} {v:V} {l:List Nat} {fr ab ntp ts pk oc ex mt ty ct:Int} {pv fv sv bd:V} (hb:By lo H0 v l) (vp:v.pid ≠ some p) (h8:Ok8 l) (hl:l.length ≤ 1200) (h4:l.length = hd + 24 * n) (h:DI H0 H p (rdC k fr ab ntp ts pk oc .nils pv fv ex mt sv ty ct bd)) :
  Ok (M.iter (zbs (sem T) v (.ptr p 0) (.ptr q6 0) (.bool false)) [.int .i64 (hd:Nat)]) H fun r H'=>r = .ex 0 [] ∧ ∃ bl,DI H0 H' p (rdC k fr ab ntp ts pk oc bl pv fv ex mt sv ty ct bd) ∧ Sg bl:=by
 refine zaV (fun j L H'=>L = [.int .i64 (hd + 24 * j:Nat)] ∧ ∃ bl cs,DI H0 H' p (rdC k fr ab ntp ts pk oc bl pv fv ex mt sv ty ct bd) ∧ App zcB 7 H0.next H' bl cs j) n ?_ ?_ ?_
 ·exact ⟨rfl,.nils,[],h,App.nil⟩
 ·rintro j _ H1 hj ⟨rfl,bl,cs,h1,hp1⟩;have hb1:=Lc.atS hb h1.at' fun i hi e=>vp (by rw [List.mem_singleton] at e; rw [hi,e]);have hv:=hb1.vlen;have e0:hd + 24 * j + 24 ≤ l.length:=by omega
  have e24:hd + 24 * j + 24 = hd + 24 * (j + 1):=by omega
  generalize hat:hd + 24 * j = a at *;have d1:decide (((a:Nat):Int) < ((l.length:Nat):Int)) = true:=decide_eq_true (by omega);have d1':decide (a < l.length) = true:=decide_eq_true (by omega);have w4:IntKind.i64.wrap (((a:Nat):Int) + 4) = ((a + 4:Nat):Int):=by rw [wr (by omega) (by omega)]; omega
  have w5:IntKind.i64.wrap (((a:Nat):Int) + 5) = ((a + 5:Nat):Int):=by rw [wr (by omega) (by omega)]; omega
  have w8:IntKind.i64.wrap (((a:Nat):Int) + 8) = ((a + 8:Nat):Int):=by rw [wr (by omega) (by omega)]; omega
  have w12:IntKind.i64.wrap (((a:Nat):Int) + 12) = ((a + 12:Nat):Int):=by rw [wr (by omega) (by omega)]; omega
  have w16:IntKind.i64.wrap (((a:Nat):Int) + 16) = ((a + 16:Nat):Int):=by rw [wr (by omega) (by omega)]; omega
  have w20:IntKind.i64.wrap (((a:Nat):Int) + 20) = ((a + 20:Nat):Int):=by rw [wr (by omega) (by omega)]; omega
  have w24:IntKind.i64.wrap (((a:Nat):Int) + 24) = ((a + 24:Nat):Int):=by rw [wr (by omega) (by omega)]; omega
  have r0:=fun {f Q}=>@dN _ _ _ _ hb1 h8 (by omega) a 4 (by omega) (by decide) ((a:Nat):Int) 4 rfl rfl f Q;have r5:=fun {f Q}=>@dN _ _ _ _ hb1 h8 (by omega) (a + 5) 3 (by omega) (by decide) ((a + 5:Nat):Int) 3 rfl rfl f Q;have r8:=fun {f Q}=>@dN _ _ _ _ hb1 h8 (by omega) (a + 8) 4 (by omega) (by decide) ((a + 8:Nat):Int) 4 rfl rfl f Q;have r12:=fun {f Q}=>@dN _ _ _ _ hb1 h8 (by omega) (a + 12) 4 (by omega) (by decide) ((a + 12:Nat):Int) 4 rfl rfl f Q;have r16:=fun {f Q}=>@dN _ _ _ _ hb1 h8 (by omega) (a + 16) 4 (by omega) (by decide) ((a + 16:Nat):Int) 4 rfl rfl f Q;have r20:=fun {f Q}=>@dN _ _ _ _ hb1 h8 (by omega) (a + 20) 4 (by omega) (by decide) ((a + 20:Nat):Int) 4 rfl rfl f Q;obtain ⟨p4,hp4,ld4,-⟩:=by_at hb1 (i:=(a + 4:Nat)) (by omega) (by omega);rw [Int.toNat_natCast] at ld4;have g1:=h1.g;have n1:=h1.at'.next;have hvn:∀ i,bl.pid = some i → H0.next ≤ i:=fun i hi=>(hp1.lc.own i hi).1;unfold zbs uL uM uT uF uB uI uU uc ub ug;unfold rdC at g1;simp (maxSteps:=1000000) (disch:=first | omega | (simp only [RY] <;> omega) | decide) only [↓RD,RZ,eq_self,Int.reduceToNat,Int.reduceAdd,Int.reduceSub,Int.reduceMul,Nat.reduceAdd,Nat.reduceSub,Nat.reduceMul,Nat.reduceDiv,Nat.reduceMod,Nat.reduceBEq,Nat.reduceLeDiff,hv,d1,d1',g1,w4,w5,w8,w12,w16,w20,r0,r5,r8,r12,r16,r20,hp4,ld4];have s4:=fun b=>Grow.new H1 b;refine zcq (bytes:=28) (hp1.atS ((s4 _).atS []) (by simp)) (by rw [zag]; omega) (zaQ rfl) rfl (by omega) (by omega) fun x H2 hx st=>?_;obtain ⟨g2,put⟩:=h1.put (s4 _) st hvn;have xc:=hx.lc.cells1;have xo:=hx.lc.okc;have put:=put (rdC k fr ab ntp ts pk oc x pv fv ex mt sv ty ct bd);have hp:=h1.hp;have hx':=hx.atS (AtS.set (S:=[p]) (k:=p) H2 (by simp) (some ⟨tyRd,rdC k fr ab ntp ts pk oc x pv fv ex mt sv ty ct bd,none⟩)) fun i hi e=>by have:=(hx.lc.own i hi).1; rw [List.mem_singleton] at e; omega
  unfold rdC at g2;simp (maxSteps:=1000000) (disch:=first | omega | (simp only [RY] <;> omega) | decide) only [↓RD,RZ,eq_self,Int.reduceToNat,Int.reduceAdd,Int.reduceSub,Int.reduceMul,Nat.reduceAdd,Nat.reduceSub,Nat.reduceMul,Nat.reduceDiv,Nat.reduceMod,Nat.reduceBEq,Nat.reduceLeDiff,g2,xc,xo,w24];exact ⟨by rw [e24],x,_,put,hx'⟩
 ·rintro _ H1 ⟨rfl,bl,cs,h1,hp1⟩;have hb1:=Lc.atS hb h1.at' fun i hi e=>vp (by rw [List.mem_singleton] at e; rw [hi,e]);have hv:=hb1.vlen;have d1:decide (((hd + 24 * n:Nat):Int) < ((l.length:Nat):Int)) = false:=decide_eq_false (by omega);have d1':decide (hd + 24 * n < l.length) = false:=decide_eq_false (by omega);unfold zbs uL uM uT uF uB uI uU uc ub ug;simp (maxSteps:=1000000) (disch:=first | omega | (simp only [RY] <;> omega) | decide) only [↓RD,RZ,eq_self,Int.reduceToNat,Int.reduceAdd,Int.reduceSub,Int.reduceMul,Nat.reduceAdd,Nat.reduceSub,Nat.reduceMul,Nat.reduceDiv,Nat.reduceMod,Nat.reduceBEq,Nat.reduceLeDiff,hv,d1,d1'];exact ⟨bl,h1,hp1.lc.cells1,hp1.lc.okc⟩
def rdZ:List V:=rdC 0 0 0 0 0 0 0 .nils .nils .nils 0 0 .nils 0 0 .nils
theorem rdZ_v:DrV rdZ 0 0 0:=⟨0,0,0,0,0,0,.nils,.nils,.nils,0,0,.nils,0,0,.nils,rfl,rfl,rfl,Sg.nil,Sg.nil,Sg.nil,Sg.nil,Sg.nil⟩
def DrQ (H:Heap) (k nf ns:Nat) (ok:Bool) (r:V) (H':Heap):Prop:=Grow H H' ∧ ∃ cells k' nf' ns',r = .tup [.agg cells,.bool ok] ∧ DrV cells k' nf' ns' ∧ (ok = true → k' = k ∧ nf' = nf ∧ ns' = ns)
set_option maxHeartbeats 1000000 in
theorem zqW {lo k c:Nat} {H:Heap} {v:V} {l:List Nat} (hb:By lo H v l) (h8:Ok8 l) (hl:l.length ≤ 1200) (hk:k = 1 ∨ k = 2) (hc:c ≤ 31) :
  Ok (sem T zbw [.int .i64 (k:Nat),.int .i64 (c:Nat),v]) H (DrQ H k 0 0 (decide (l.length = (if k = 1 then 24 else 4) + 24 * c))):=by
 refine zge ?_;unfold zdQ uL uS uT uF uB uO uc uq ug;refine zam (zaR rfl ?_);rw [zai];have s0:=Grow.new H ⟨tyRd,[.int .i64 0,.int .u32 0,.int .u32 0,.int .u64 0,.int .u32 0,.int .u32 0,.int .u32 0,.nils,.nils,.nils,.int .i64 0,.int .u32 0,.nils,.int .i64 0,.int .i64 0,.nils],none⟩;have g0:(H.new ⟨tyRd,[.int .i64 0,.int .u32 0,.int .u32 0,.int .u64 0,.int .u32 0,.int .u32 0,.int .u32 0,.nils,.nils,.nils,.int .i64 0,.int .u32 0,.nils,.int .i64 0,.int .i64 0,.nils],none⟩).get H.next = some ⟨tyRd,rdZ,none⟩:=zad _ _;have n0:(H.new ⟨tyRd,[.int .i64 0,.int .u32 0,.int .u32 0,.int .u64 0,.int .u32 0,.int .u32 0,.int .u32 0,.nils,.nils,.nils,.int .i64 0,.int .u32 0,.nils,.int .i64 0,.int .i64 0,.nils],none⟩).next = H.next + 1:=zag _ _;generalize hq6:H.next = q6 at *;generalize H.new _ = H1 at *;have hb1:=hb.ext s0;have hv:=hb1.vlen;have zl:rdZ.length = 16:=rfl;have zs:splice rdZ 0 rdZ = rdZ:=rfl;have zo:(V.agg rdZ).okc = true:=rfl;have zd:ldc (some 16) rdZ 0 = some (.agg rdZ):=rfl;have m24:IntKind.i64.wrap (24 * ((c:Nat):Int)) = ((24 * c:Nat):Int):=by rw [wr (by omega) (by omega)]; omega
 have hkh:∃ hd:Nat,(if k = 1 then 24 else 4) = hd ∧ (k = 1 ∧ hd = 24 ∨ k = 2 ∧ hd = 4):=⟨_,rfl,by rcases hk with rfl | rfl <;> simp⟩;obtain ⟨hd,ehd,hkd⟩:=hkh;rw [ehd];have ma:IntKind.i64.wrap (((hd:Nat):Int) + ((24 * c:Nat):Int)) = ((hd + 24 * c:Nat):Int):=by rw [wr (by omega) (by omega)]; omega
 by_cases hlen:l.length = hd + 24 * c
 ·have d0:(((l.length:Nat):Int) == ((hd + 24 * c:Nat):Int)) = true:=by rw [hlen]; simp
  have d0':(l.length == hd + 24 * c) = true:=by rw [hlen]; simp
  have r0:=fun {H f Q} (h:By lo H v l)=>@dN _ _ _ _ h h8 (by omega) 0 4 (by omega) (by decide) 0 4 rfl rfl f Q;rw [decide_eq_true hlen];rcases hkd with ⟨rfl,rfl⟩ | ⟨rfl,rfl⟩
  ·simp (maxSteps:=1000000) (disch:=first | omega | (simp only [RY] <;> omega) | decide) only [↓RD,RZ,eq_self,Int.reduceToNat,Int.reduceAdd,Int.reduceSub,Int.reduceMul,Nat.reduceAdd,Nat.reduceSub,Nat.reduceMul,Nat.reduceDiv,Nat.reduceMod,Nat.reduceBEq,Nat.reduceLeDiff,hv,m24,ma,d0,d0',r0 hb1];generalize hHH:Heap.set _ H1.next _ = HH;have sH:Grow H1 HH:=by rw [← hHH]; exact (Grow.new H1 _).set (Nat.le_refl _) _
   have gH:HH.get H1.next = some ⟨tyRd,rdC 1 (IntKind.u32.wrap (be (l.take 4):Nat)) 0 0 0 0 0 .nils .nils .nils 0 0 .nils 0 0 .nils,none⟩:=by rw [← hHH]; exact zak _ _ _
   have nH:HH.next = H1.next + 1:=by rw [← hHH]; rfl
   have hbH:=hb1.ext sH;have r4:=fun {f Q}=>@dN _ _ _ _ hbH h8 (by omega) 4 8 (by omega) (by decide) 4 8 rfl rfl f Q;have r12:=fun {f Q}=>@dN _ _ _ _ hbH h8 (by omega) 12 4 (by omega) (by decide) 12 4 rfl rfl f Q;have r16:=fun {f Q}=>@dN _ _ _ _ hbH h8 (by omega) 16 4 (by omega) (by decide) 16 4 rfl rfl f Q;have r20:=fun {f Q}=>@dN _ _ _ _ hbH h8 (by omega) 20 4 (by omega) (by decide) 20 4 rfl rfl f Q;clear hHH;unfold rdC at gH;simp (maxSteps:=1000000) (disch:=first | omega | (simp only [RY] <;> omega) | decide) only [↓RD,RZ,eq_self,Int.reduceToNat,Int.reduceAdd,Int.reduceSub,Int.reduceMul,Nat.reduceAdd,Nat.reduceSub,Nat.reduceMul,Nat.reduceDiv,Nat.reduceMod,Nat.reduceBEq,Nat.reduceLeDiff,gH,r4,r12,r16,r20];generalize hx1:be ((l.drop 4).take 8) = x1 at *;generalize hx2:be ((l.drop 12).take 4) = x2 at *;generalize hx3:be ((l.drop 16).take 4) = x3 at *;generalize hx4:be ((l.drop 20).take 4) = x4 at *;generalize hHK:Heap.set _ H1.next _ = HK;have aK:AtS [H1.next] HH HK:=by
    rw [← hHK];exact (((AtS.set (k:=H1.next) _ (by simp) _).trans (AtS.set (k:=H1.next) _ (by simp) _)).trans (AtS.set (k:=H1.next) _ (by simp) _)).trans (AtS.set (k:=H1.next) _ (by simp) _)
   have gK:HK.get H1.next = some ⟨tyRd,rdC 1 (IntKind.u32.wrap (be (l.take 4):Nat)) 0 x1 (IntKind.u32.wrap (x2:Nat)) (IntKind.u32.wrap (x3:Nat)) (IntKind.u32.wrap (x4:Nat)) .nils .nils .nils 0 0 .nils 0 0 .nils,none⟩:=by rw [← hHK]; exact zak _ _ _
   have vp:v.pid ≠ some H1.next:=fun e=>by have:=(hb1.own _ e).2; omega
   have hbK:=Lc.atS hbH aK fun i hi e=>vp (by rw [List.mem_singleton] at e; rw [hi,e]);have nK:=aK.next;clear hHK;refine zau (bk0_ok (n:=c) (hd:=24) hbK vp h8 hl hlen ⟨AtS.refl _ _,gK,by omega⟩) ?_;rintro _ H3 ⟨rfl,bl,h3',sbl⟩;have h3:DI HH H3 H1.next _:=⟨aK.trans h3'.at',h3'.g,by omega⟩;have sbl':=sbl;have a3:=h3.at';have g6H:HH.get q6 = _:=(sH.same q6 (by omega)).trans g0;have g63:=(a3.same q6 (by have:=sH.next; omega) (by simp; omega)).trans g6H;have g3:=h3.g;have ok:(V.agg (rdC 1 (IntKind.u32.wrap (be (l.take 4):Nat)) 0 x1 (IntKind.u32.wrap (x2:Nat)) (IntKind.u32.wrap (x3:Nat)) (IntKind.u32.wrap (x4:Nat)) bl .nils .nils 0 0 .nils 0 0 .nils)).okc = true:=by simp [V.okc,rdC,sbl.2]
   have ne:q6 ≠ H1.next:=by omega
   unfold rdC at g3 ok;unfold rdZ rdC at g63;simp (maxSteps:=1000000) (disch:=first | omega | (simp only [RY] <;> omega) | decide) only [↓RD,RZ,eq_self,Int.reduceToNat,Int.reduceAdd,Int.reduceSub,Int.reduceMul,Nat.reduceAdd,Nat.reduceSub,Nat.reduceMul,Nat.reduceDiv,Nat.reduceMod,Nat.reduceBEq,Nat.reduceLeDiff,g3,g63,ok,ne];refine ⟨?_,_,1,0,0,rfl,⟨_,_,_,_,_,_,_,_,_,_,_,_,_,_,_,rfl,rfl,rfl,sbl,Sg.nil,Sg.nil,Sg.nil,Sg.nil⟩,fun _=>⟨rfl,rfl,rfl⟩⟩;exact AtS.new (S:=[q6,H1.next]) (s0.trans sH) ((a3.mono (by simp)).trans (AtS.set (k:=q6) _ (by simp) _)) (by simp; omega)
  ·simp (maxSteps:=1000000) (disch:=first | omega | (simp only [RY] <;> omega) | decide) only [↓RD,RZ,eq_self,Int.reduceToNat,Int.reduceAdd,Int.reduceSub,Int.reduceMul,Nat.reduceAdd,Nat.reduceSub,Nat.reduceMul,Nat.reduceDiv,Nat.reduceMod,Nat.reduceBEq,Nat.reduceLeDiff,hv,m24,ma,d0,d0',r0 hb1];generalize hHH:Heap.set _ H1.next _ = HH;have sH:Grow H1 HH:=by rw [← hHH]; exact (Grow.new H1 _).set (Nat.le_refl _) _
   have gH:HH.get H1.next = some ⟨tyRd,rdC 2 (IntKind.u32.wrap (be (l.take 4):Nat)) 0 0 0 0 0 .nils .nils .nils 0 0 .nils 0 0 .nils,none⟩:=by rw [← hHH]; exact zak _ _ _
   have nH:HH.next = H1.next + 1:=by rw [← hHH]; rfl
   have hbH:=hb1.ext sH;have vp:v.pid ≠ some H1.next:=fun e=>by have:=(hb1.own _ e).2; omega
   clear hHH;refine zau (bk0_ok (n:=c) (hd:=4) hbH vp h8 hl hlen ⟨AtS.refl _ _,gH,by omega⟩) ?_;rintro _ H3 ⟨rfl,bl,h3,sbl⟩;have sbl':=sbl;have a3:=h3.at';have g6H:HH.get q6 = _:=(sH.same q6 (by omega)).trans g0;have g63:=(a3.same q6 (by have:=sH.next; omega) (by simp; omega)).trans g6H;have g3:=h3.g;have ok:(V.agg (rdC 2 (IntKind.u32.wrap (be (l.take 4):Nat)) 0 0 0 0 0 bl .nils .nils 0 0 .nils 0 0 .nils)).okc = true:=by simp [V.okc,rdC,sbl.2]
   have ne:q6 ≠ H1.next:=by omega
   unfold rdC at g3 ok;unfold rdZ rdC at g63;simp (maxSteps:=1000000) (disch:=first | omega | (simp only [RY] <;> omega) | decide) only [↓RD,RZ,eq_self,Int.reduceToNat,Int.reduceAdd,Int.reduceSub,Int.reduceMul,Nat.reduceAdd,Nat.reduceSub,Nat.reduceMul,Nat.reduceDiv,Nat.reduceMod,Nat.reduceBEq,Nat.reduceLeDiff,g3,g63,ok,ne];refine ⟨?_,_,2,0,0,rfl,⟨_,_,_,_,_,_,_,_,_,_,_,_,_,_,_,rfl,rfl,rfl,sbl,Sg.nil,Sg.nil,Sg.nil,Sg.nil⟩,fun _=>⟨rfl,rfl,rfl⟩⟩;exact AtS.new (S:=[q6,H1.next]) (s0.trans sH) ((a3.mono (by simp)).trans (AtS.set (k:=q6) _ (by simp) _)) (by simp; omega)
 ·have d0:(((l.length:Nat):Int) == ((hd + 24 * c:Nat):Int)) = false:=beq_false_of_ne (by omega);have d0':(l.length == hd + 24 * c) = false:=beq_false_of_ne hlen;rw [decide_eq_false hlen];rcases hkd with ⟨rfl,rfl⟩ | ⟨rfl,rfl⟩
  ·simp (maxSteps:=1000000) (disch:=first | omega | (simp only [RY] <;> omega) | decide) only [↓RD,RZ,eq_self,Int.reduceToNat,Int.reduceAdd,Int.reduceSub,Int.reduceMul,Nat.reduceAdd,Nat.reduceSub,Nat.reduceMul,Nat.reduceDiv,Nat.reduceMod,Nat.reduceBEq,Nat.reduceLeDiff,hv,m24,ma,d0,d0',g0,zl];exact ⟨s0.set (by omega) _,rdZ,0,0,0,rfl,rdZ_v,fun h=>by cases h⟩
  ·simp (maxSteps:=1000000) (disch:=first | omega | (simp only [RY] <;> omega) | decide) only [↓RD,RZ,eq_self,Int.reduceToNat,Int.reduceAdd,Int.reduceSub,Int.reduceMul,Nat.reduceAdd,Nat.reduceSub,Nat.reduceMul,Nat.reduceDiv,Nat.reduceMod,Nat.reduceBEq,Nat.reduceLeDiff,hv,m24,ma,d0,d0',g0,zl];exact ⟨s0.set (by omega) _,rdZ,0,0,0,rfl,rdZ_v,fun h=>by cases h⟩
end Go.Ax.SU
/- Rc11 -/
namespace Go.Ax.SU
open Go.Ax
theorem k_205 (l:List Nat):zcD 205 1 l = 3:=rfl
theorem k_206 (l:List Nat):zcD 206 1 l = 4:=rfl
theorem zr5 (l:List Nat):zcD 206 4 l = 5:=rfl
theorem k_206f {l:List Nat} (h:zju l = true):zcD 206 15 l = 6:=by unfold zcD; rw [h]; rfl
theorem k_all {t c:Nat} {l:List Nat} (h:zcD t c l ≠ 7):t = 200 ∨ t = 201 ∨ (t = 205 ∧ c = 1) ∨ (t = 206 ∧ c = 1) ∨ (t = 206 ∧ c = 4) ∨ (t = 206 ∧ c = 15 ∧ zju l = true):=by
 unfold zcD at h;by_cases h1:t = 200
 ·exact .inl h1
 rw [if_neg h1] at h;by_cases h2:t = 201
 ·exact .inr (.inl h2)
 rw [if_neg h2] at h;by_cases h3:t = 205 ∧ c = 1
 ·exact .inr (.inr (.inl h3))
 rw [if_neg h3] at h;by_cases h4:t = 206 ∧ c = 1
 ·exact .inr (.inr (.inr (.inl h4)))
 rw [if_neg h4] at h;by_cases h5:t = 206 ∧ c = 4
 ·exact .inr (.inr (.inr (.inr (.inl h5))))
 rw [if_neg h5] at h;by_cases h6:t = 206 ∧ c = 15 ∧ zju l = true
 ·exact .inr (.inr (.inr (.inr (.inr h6))))
 rw [if_neg h6] at h;exact absurd rfl h
theorem DrQ.mono {H H0:Heap} {k nf ns:Nat} {ok:Bool} {r:V} {H':Heap} (h:DrQ H0 k nf ns ok r H') (s:Grow H H0):DrQ H k nf ns ok r H':=⟨s.trans h.1,h.2⟩
set_option maxHeartbeats 2000000 in
theorem reads_ok {lo t c:Nat} {H:Heap} {v:V} {l:List Nat} (hb:By lo H v l) (h8:Ok8 l) (hl:l.length ≤ 1200) (h4:l.length % 4 = 0) (ht:t < 256) (hc:c ≤ 31) :
  Ok (sem T zbJ [.int .i64 (t:Nat),.int .i64 (c:Nat),v]) H (DrQ H (repX t c l).k (repX t c l).fi.length (repX t c l).ss.length (zed t c l)):=by
 refine zgL ?_;unfold zem uL uS uT uF uE uB uG uH uO uc ub uq;refine zam (zaR rfl ?_);rw [zai];have s0:=Grow.new H ⟨tyRd,[.int .i64 0,.int .u32 0,.int .u32 0,.int .u64 0,.int .u32 0,.int .u32 0,.int .u32 0,.nils,.nils,.nils,.int .i64 0,.int .u32 0,.nils,.int .i64 0,.int .i64 0,.nils],none⟩;have g0:(H.new ⟨tyRd,[.int .i64 0,.int .u32 0,.int .u32 0,.int .u64 0,.int .u32 0,.int .u32 0,.int .u32 0,.nils,.nils,.nils,.int .i64 0,.int .u32 0,.nils,.int .i64 0,.int .i64 0,.nils],none⟩).get H.next = some ⟨tyRd,rdZ,none⟩:=zad _ _;have n0:(H.new ⟨tyRd,[.int .i64 0,.int .u32 0,.int .u32 0,.int .u64 0,.int .u32 0,.int .u32 0,.int .u32 0,.nils,.nils,.nils,.int .i64 0,.int .u32 0,.nils,.int .i64 0,.int .i64 0,.nils],none⟩).next = H.next + 1:=zag _ _;generalize hq6:H.next = q6 at *;generalize H.new _ = H1 at *;have hb1:=hb.ext s0;have hv:=hb1.vlen;have oth:=@zaK _ _ _ _ (other_ok (t:=t) (c:=c) hb1 h8 (by omega));have gz:=g0;unfold rdZ rdC at gz;by_cases h7:zcD t c l = 7
 ·have e1:repX t c l = ⟨7,0,[],[],0,0,[]⟩:=by unfold repX; rw [h7]; rfl
  have e2:zed t c l = true:=by unfold zed; rw [if_pos h7]
  rw [e1,e2];rw [h7] at oth;have dd:decide ((7:Nat) ≠ 7) = false:=rfl;rw [dd] at oth;simp (maxSteps:=1000000) (disch:=first | omega | (simp only [RY] <;> omega) | decide) only [↓RD,RZ,eq_self,Int.reduceToNat,Int.reduceAdd,Int.reduceSub,Int.reduceMul,Nat.reduceAdd,Nat.reduceSub,Nat.reduceMul,Nat.reduceDiv,Nat.reduceMod,Nat.reduceBEq,Nat.reduceLeDiff,oth];have s2:=Grow.new H1 ⟨zaw,[],none⟩;refine zcq (bytes:=1) (lo:=H1.next) (App.lit (zad _ _) (Nat.le_refl _) (by rw [zag]; omega)) (by rw [zag]; omega) (hb1.ext s2).ac (by simp) (by omega) (by omega) fun x H2 hx st=>?_;have xc:=hx.lc.cells1;have xo:=hx.lc.okc;have sH:Grow H1 H2:=⟨Nat.le_trans s2.next st.next,fun i hi=>by
   rw [st.same i (Nat.lt_of_lt_of_le hi s2.next) (by simp [V.pid]; omega)];exact s2.same i hi⟩
  have g2:=(sH.same q6 (by omega)).trans gz;simp (maxSteps:=1000000) (disch:=first | omega | (simp only [RY] <;> omega) | decide) only [↓RD,RZ,eq_self,Int.reduceToNat,Int.reduceAdd,Int.reduceSub,Int.reduceMul,Nat.reduceAdd,Nat.reduceSub,Nat.reduceMul,Nat.reduceDiv,Nat.reduceMod,Nat.reduceBEq,Nat.reduceLeDiff,xc,xo,g2];exact ⟨(s0.trans sH).set (by omega) _,_,7,0,0,rfl,⟨_,_,_,_,_,_,_,_,_,_,_,_,_,_,_,rfl,rfl,rfl,Sg.nil,Sg.nil,Sg.nil,Sg.nil,xc,xo⟩,fun _=>⟨rfl,rfl,rfl⟩⟩
 have dd:decide (zcD t c l ≠ 7) = true:=decide_eq_true h7;rw [dd] at oth;have hcase:=k_all h7;by_cases h12:t = 200 ∨ t = 201
 ·have d201:decide (((t:Nat):Int) ≤ 201) = true:=decide_eq_true (by omega);have d201':decide (t ≤ 201) = true:=decide_eq_true (by omega);have w:IntKind.i64.wrap (((t:Nat):Int) - 199) = ((t - 199:Nat):Int):=by rw [wr (by omega) (by omega)]; omega
  have ek:zcD t c l = t - 199:=by rcases h12 with rfl | rfl <;> rfl
  have hk12:t - 199 = 1 ∨ t - 199 = 2:=by omega
  have e1:repX t c l = ⟨t - 199,0,[],[],0,0,[]⟩:=by unfold repX; rw [ek,if_pos (by omega)]
  have e2:zed t c l = decide (l.length = (if t - 199 = 1 then 24 else 4) + 24 * c):=by
   unfold zed repN;rw [ek,if_neg (by omega)];have:abB (t - 199) (sk 4 l) = false:=by unfold abB; rw [if_neg (by omega)]
   rw [this];rcases hk12 with h | h <;> rw [h] <;> simp
  rw [e1,e2];simp (maxSteps:=1000000) (disch:=first | omega | (simp only [RY] <;> omega) | decide) only [↓RD,RZ,eq_self,Int.reduceToNat,Int.reduceAdd,Int.reduceSub,Int.reduceMul,Nat.reduceAdd,Nat.reduceSub,Nat.reduceMul,Nat.reduceDiv,Nat.reduceMod,Nat.reduceBEq,Nat.reduceLeDiff,oth,d201,d201',w];refine zac (zqW hb1 h8 hl hk12 hc) ?_;rintro _ H2 ⟨s2,cells,k',nf,ns,rfl,hd,hok⟩;have g2:=(s2.same q6 (by omega)).trans gz;have cok:=hd.okc;obtain ⟨fr,ab,ntp,ts,pk,oc,bl,pv,fv,ex,mt,sv,ty,ct,bd,ec,r⟩:=hd;have hd:DrV cells k' nf ns:=⟨fr,ab,ntp,ts,pk,oc,bl,pv,fv,ex,mt,sv,ty,ct,bd,ec,r⟩;have ec':=ec;unfold rdC at ec';subst ec';simp (maxSteps:=1000000) (disch:=first | omega | (simp only [RY] <;> omega) | decide) only [↓RD,RZ,eq_self,Int.reduceToNat,Int.reduceAdd,Int.reduceSub,Int.reduceMul,Nat.reduceAdd,Nat.reduceSub,Nat.reduceMul,Nat.reduceDiv,Nat.reduceMod,Nat.reduceBEq,Nat.reduceLeDiff,g2,cok];exact ⟨(s0.trans s2).set (by omega) _,_,k',nf,ns,rfl,hd,hok⟩
 have hcase:(t = 205 ∧ c = 1) ∨ (t = 206 ∧ c = 1) ∨ (t = 206 ∧ c = 4) ∨ (t = 206 ∧ c = 15 ∧ zju l = true):=(hcase.resolve_left fun h=>h12 (.inl h)).resolve_left fun h=>h12 (.inr h);have d201:decide (((t:Nat):Int) ≤ 201) = false:=decide_eq_false (by omega);have d201':decide (t ≤ 201) = false:=decide_eq_false (by omega);by_cases hl8:l.length < 8
 ·have d8:decide (((l.length:Nat):Int) < 8) = true:=decide_eq_true (by omega);have d8':decide (l.length < 8) = true:=decide_eq_true hl8;have e2:zed t c l = false:=by
   have hN:zed t c l = (!(abB (zcD t c l) (sk 4 l)) && decide (l.length = repN t c l)):=by unfold zed; rw [if_neg h7]
   rw [hN];have:l.length ≠ repN t c l:=by
    unfold repN;have hp:∀ k,4 ≤ abN k (sk 4 l):=fun k=>by
     unfold abN;by_cases h3:k = 3
     ·rw [if_pos h3]; omega
     rw [if_neg h3];by_cases h5:k = 5
     ·rw [if_pos h5]; omega
     rw [if_neg h5];by_cases h6:k = 6
     ·rw [if_pos h6]; omega
     rw [if_neg h6]; omega
    have:=hp (zcD t c l);have k12:zcD t c l ≠ 1 ∧ zcD t c l ≠ 2:=by
     rcases hcase with ⟨rfl,rfl⟩ | ⟨rfl,rfl⟩ | ⟨rfl,rfl⟩ | ⟨rfl,rfl,h⟩
     ·rw [k_205]; exact ⟨by decide,by decide⟩
     ·rw [k_206]; exact ⟨by decide,by decide⟩
     ·rw [zr5]; exact ⟨by decide,by decide⟩
     ·rw [k_206f h]; exact ⟨by decide,by decide⟩
    rw [if_neg k12.1,if_neg k12.2];omega
   rw [decide_eq_false this,Bool.and_false]
  rw [e2];simp (maxSteps:=1000000) (disch:=first | omega | (simp only [RY] <;> omega) | decide) only [↓RD,RZ,eq_self,Int.reduceToNat,Int.reduceAdd,Int.reduceSub,Int.reduceMul,Nat.reduceAdd,Nat.reduceSub,Nat.reduceMul,Nat.reduceDiv,Nat.reduceMod,Nat.reduceBEq,Nat.reduceLeDiff,oth,d201,d201',hv,d8,d8',gz];exact ⟨s0.set (by omega) _,_,0,0,0,rfl,rdZ_v,fun h=>by cases h⟩
 have d8:decide (((l.length:Nat):Int) < 8) = false:=decide_eq_false (by omega);have d8':decide (l.length < 8) = false:=decide_eq_false hl8;have r0:=fun {f Q}=>@dN _ _ _ _ hb1 h8 (by omega) 0 4 (by omega) (by decide) 0 4 rfl rfl f Q;have r4:=fun {f Q}=>@dN _ _ _ _ hb1 h8 (by omega) 4 4 (by omega) (by decide) 4 4 rfl rfl f Q;obtain ⟨rv,-,-,hrs,hrb,hrp⟩:=by_slice hb1 (x:=8) (y:=(l.length:Nat)) (by omega) (by omega) (by omega);have hrs:=fun {k}=>hrs rfl (k:=k);rw [Int.toNat_natCast,show (8:Int).toNat = 8 from rfl,List.take_of_length_le (by rw [List.length_drop]; omega)] at hrb;have hR8:Ok8 (l.drop 8):=h8.drop 8;have hRl:(l.drop 8).length = l.length - 8:=List.length_drop ..;generalize hx0:be ((l.drop 0).take 4) = x0 at *;generalize hx4:be ((l.drop 4).take 4) = x4 at *;simp (maxSteps:=1000000) (disch:=first | omega | (simp only [RY] <;> omega) | decide) only [↓RD,RZ,eq_self,Int.reduceToNat,Int.reduceAdd,Int.reduceSub,Int.reduceMul,Nat.reduceAdd,Nat.reduceSub,Nat.reduceMul,Nat.reduceDiv,Nat.reduceMod,Nat.reduceBEq,Nat.reduceLeDiff,oth,d201,d201',hv,d8,d8',r0,r4,hrs];generalize hHH:Heap.set _ H1.next _ = HH;have sH:Grow H1 HH:=by rw [← hHH]; exact (Grow.new H1 _).set (Nat.le_refl _) _
 have gH:HH.get H1.next = some ⟨tyRd,rdC 3 (IntKind.u32.wrap (x0:Nat)) (IntKind.u32.wrap (x4:Nat)) 0 0 0 0 .nils .nils .nils 0 0 .nils 0 0 .nils,none⟩:=by rw [← hHH]; exact zak _ _ _
 have nH:HH.next = H1.next + 1:=by rw [← hHH]; rfl
 have hbH:=hrb.ext sH;have hvR:=hbH.vlen;rw [hRl] at hvR;have vp:rv.pid ≠ some H1.next:=fun e=>by have:=(hrb.own _ e).2; omega
 have k48:sk 4 (sk 4 l) = l.drop 8:=by rw [zdN]; unfold sk; rw [if_neg (by omega)]
 have k412:sk 8 (sk 4 l) = l.drop 12:=by
  rw [zdN]; unfold sk;by_cases h:l.length < 12
  ·rw [if_pos (by omega),List.drop_eq_nil_of_le (by omega)]
  ·rw [if_neg (by omega)]
 clear hHH;have ne:q6 ≠ H1.next:=by omega
 have gzH:=(sH.same q6 (by omega)).trans gz
 -- the end
 have fin:∀ {H3:Heap} {b:Option Blk},AtS [q6,H1.next] HH H3 → Grow H (H3.set q6 b):=fun {H3 b} a =>
  AtS.new (S:=[q6,H1.next]) (s0.trans sH) (a.trans (AtS.set (k:=q6) _ (by simp) _)) (by simp; omega)
 have hd0:DI HH HH H1.next _:=⟨AtS.refl _ _,gH,by omega⟩;rcases hcase with ⟨rfl,rfl⟩ | ⟨rfl,rfl⟩ | ⟨rfl,rfl⟩ | ⟨rfl,rfl,hrm⟩
 ·have e1:(repX 205 1 l).k = 3 ∧ (repX 205 1 l).fi.length = 0 ∧ (repX 205 1 l).ss.length = 0:=by unfold repX; rw [k_205]; exact ⟨rfl,rfl,rfl⟩
  have e2:zed 205 1 l = decide (0 < l.length - 8):=by
   unfold zed repN;rw [k_205,if_neg (by decide),if_neg (by decide),if_neg (by decide)];show (!false && decide (l.length = 4 + (4 + 4 * rdN 4 (sk 4 (sk 4 l))))) = _;rw [k48];unfold rdN;rw [hRl];by_cases h:0 < l.length - 8
   ·rw [decide_eq_true h,decide_eq_true (by omega)]; rfl
   ·rw [decide_eq_false h,decide_eq_false (by omega)]; rfl
  rw [e1.1,e1.2.1,e1.2.2,e2];have dd:decide ((0:Int) < ((l.length - 8:Nat):Int)) = decide (0 < l.length - 8):=by
   by_cases h:0 < l.length - 8
   ·rw [decide_eq_true h,decide_eq_true (by omega)]
   ·rw [decide_eq_false h,decide_eq_false (by omega)]
  simp (maxSteps:=1000000) (disch:=first | omega | (simp only [RY] <;> omega) | decide) only [↓RD,RZ,eq_self,Int.reduceToNat,Int.reduceAdd,Int.reduceSub,Int.reduceMul,Nat.reduceAdd,Nat.reduceSub,Nat.reduceMul,Nat.reduceDiv,Nat.reduceMod,Nat.reduceBEq,Nat.reduceLeDiff];refine zau (rd0_ok (q6:=q6) hbH vp hR8 (by omega) (by omega) hd0) ?_;rintro _ H3 ⟨rfl,pv,h3,spv⟩;have g3:=h3.g;have g63:=(h3.at'.same q6 (by omega) (by simp; omega)).trans gzH;have ok:(V.agg (rdC 3 (IntKind.u32.wrap (x0:Nat)) (IntKind.u32.wrap (x4:Nat)) 0 0 0 0 .nils pv .nils 0 0 .nils 0 0 .nils)).okc = true:=by simp [V.okc,rdC,spv.2]
  unfold rdC at g3 ok;simp (maxSteps:=1000000) (disch:=first | omega | (simp only [RY] <;> omega) | decide) only [↓RD,RZ,eq_self,Int.reduceToNat,Int.reduceAdd,Int.reduceSub,Int.reduceMul,Nat.reduceAdd,Nat.reduceSub,Nat.reduceMul,Nat.reduceDiv,Nat.reduceMod,Nat.reduceBEq,Nat.reduceLeDiff,g3,g63,ok,ne,hvR,dd];exact ⟨fin (h3.at'.mono (by simp)),_,3,0,0,rfl,⟨_,_,_,_,_,_,_,_,_,_,_,_,_,_,_,rfl,rfl,rfl,Sg.nil,spv,Sg.nil,Sg.nil,Sg.nil⟩,fun _=>⟨rfl,rfl,rfl⟩⟩
 ·have e1:(repX 206 1 l).k = 4 ∧ (repX 206 1 l).fi.length = 0 ∧ (repX 206 1 l).ss.length = 0:=by unfold repX; rw [k_206]; exact ⟨rfl,rfl,rfl⟩
  have e2:zed 206 1 l = decide (l.length - 8 = 0):=by
   unfold zed repN;rw [k_206,if_neg (by decide),if_neg (by decide),if_neg (by decide)];show (!false && decide (l.length = 4 + 4)) = _;by_cases h:l.length - 8 = 0
   ·rw [decide_eq_true h,decide_eq_true (by omega)]; rfl
   ·rw [decide_eq_false h,decide_eq_false (by omega)]; rfl
  rw [e1.1,e1.2.1,e1.2.2,e2];have dd:(((l.length - 8:Nat):Int) == 0) = decide (l.length - 8 = 0):=zm6 _ 0;have dd':((l.length - 8:Nat) == 0) = decide (l.length - 8 = 0):=by by_cases h:l.length - 8 = 0 <;> simp [h]
  have gH':=gH;unfold rdC at gH';simp (maxSteps:=1000000) (disch:=first | omega | (simp only [RY] <;> omega) | decide) only [↓RD,RZ,eq_self,Int.reduceToNat,Int.reduceAdd,Int.reduceSub,Int.reduceMul,Nat.reduceAdd,Nat.reduceSub,Nat.reduceMul,Nat.reduceDiv,Nat.reduceMod,Nat.reduceBEq,Nat.reduceLeDiff,gH',gzH,ne,hvR,dd,dd'];exact ⟨fin ((AtS.set (k:=H1.next) _ (by simp) _)),_,4,0,0,rfl,⟨_,_,_,_,_,_,_,_,_,_,_,_,_,_,_,rfl,rfl,rfl,Sg.nil,Sg.nil,Sg.nil,Sg.nil,Sg.nil⟩,fun _=>⟨rfl,rfl,rfl⟩⟩
 ·have e1:(repX 206 4 l).k = 5 ∧ (repX 206 4 l).fi.length = rdN 8 (l.drop 8) ∧ (repX 206 4 l).ss.length = 0:=by
   unfold repX; rw [zr5];refine ⟨rfl,?_,rfl⟩;show (frs (rdN 8 (sk 4 (sk 4 l))) (sk 4 (sk 4 l))).length = _;rw [zoQ,k48]
  have e2:zed 206 4 l = (!(fbd (rdN 8 (l.drop 8)) (l.drop 8)) && decide (l.length - 8 = 8 * rdN 8 (l.drop 8))):=by
   unfold zed repN;rw [zr5,if_neg (by decide),if_neg (by decide),if_neg (by decide)];show (!(fbd (rdN 8 (sk 4 (sk 4 l))) (sk 4 (sk 4 l))) && decide (l.length = 4 + (4 + 8 * rdN 8 (sk 4 (sk 4 l))))) = _;rw [k48];congr 1;by_cases h:l.length - 8 = 8 * rdN 8 (l.drop 8)
   ·rw [decide_eq_true h,decide_eq_true (by omega)]
   ·rw [decide_eq_false h,decide_eq_false (by omega)]
  rw [e1.1,e1.2.1,e1.2.2,e2];have gH':=gH;unfold rdC at gH';have dd:(((l.length - 8:Nat):Int) == 0) = decide (l.length - 8 = 0):=zm6 _ 0;have dd':((l.length - 8:Nat) == 0) = decide (l.length - 8 = 0):=by by_cases h:l.length - 8 = 0 <;> simp [h]
  have hd5:=hd0.st (rdC 5 (IntKind.u32.wrap (x0:Nat)) (IntKind.u32.wrap (x4:Nat)) 0 0 0 0 .nils .nils .nils 0 0 .nils 0 0 .nils);have g5:=hd5.g;have gz5:=(hd5.at'.same q6 (by omega) (by simp; omega)).trans gzH;unfold rdC at g5;by_cases hz:l.length - 8 = 0
  ·have dt:decide (l.length - 8 = 0) = true:=decide_eq_true hz;have er:(!(fbd (rdN 8 (l.drop 8)) (l.drop 8)) && decide (l.length - 8 = 8 * rdN 8 (l.drop 8))) = false:=by
    rw [decide_eq_false (by unfold rdN; omega),Bool.and_false]
   rw [er];rw [dt] at dd dd';simp (maxSteps:=1000000) (disch:=first | omega | (simp only [RY] <;> omega) | decide) only [↓RD,RZ,eq_self,Int.reduceToNat,Int.reduceAdd,Int.reduceSub,Int.reduceMul,Nat.reduceAdd,Nat.reduceSub,Nat.reduceMul,Nat.reduceDiv,Nat.reduceMod,Nat.reduceBEq,Nat.reduceLeDiff,gH',gzH,ne,hvR,dd,dd'];exact ⟨fin (AtS.set (k:=H1.next) _ (by simp) _),_,5,0,0,rfl,⟨_,_,_,_,_,_,_,_,_,_,_,_,_,_,_,rfl,rfl,rfl,Sg.nil,Sg.nil,Sg.nil,Sg.nil,Sg.nil⟩,fun h=>by cases h⟩
  have dt:decide (l.length - 8 = 0) = false:=decide_eq_false hz;rw [dt] at dd dd';by_cases hm:(l.length - 8) % 8 = 0
  ·have em:Ax.bin .rem (.int .i64 (l.length - 8:Nat)) (.int .i64 8) = some (.int .i64 0):=by
    rw [zoC (by omega) (by decide),show ((l.length - 8:Nat):Int) % 8 = 0 by omega]
   have erd:rdN 8 (l.drop 8) = (l.drop 8).length / 8:=by unfold rdN; omega
   have e8:(l.length - 8 = 8 * rdN 8 (l.drop 8)):=by rw [erd]; omega
   rw [decide_eq_true e8,Bool.and_true,erd];simp (maxSteps:=1000000) (disch:=first | omega | (simp only [RY] <;> omega) | decide) only [↓RD,RZ,eq_self,Int.reduceToNat,Int.reduceAdd,Int.reduceSub,Int.reduceMul,Nat.reduceAdd,Nat.reduceSub,Nat.reduceMul,Nat.reduceDiv,Nat.reduceMod,Nat.reduceBEq,Nat.reduceLeDiff,gH',ne,hvR,dd,dd',em];refine zau (rd1_ok (q6:=q6) hbH vp hR8 (by omega) (by omega) hd5 gzH (by omega) ne (fun {_ _ _ _ _ _ _ _ _ _ _ _ _ _ _ _}=>rfl) rfl Sg.nil Sg.nil Sg.nil Sg.nil) ?_;rintro _ H3 (⟨hf,rfl,fv,h3,sfv,vfv⟩ | ⟨hf,fv,nf,rfl,a3,sfv,vfv⟩)
   ·rw [hf];have g3:=h3.g;have g63:=(h3.at'.same q6 (by omega) (by simp; omega)).trans gzH;have ok:(V.agg (rdC 5 (IntKind.u32.wrap (x0:Nat)) (IntKind.u32.wrap (x4:Nat)) 0 0 0 0 .nils .nils fv 0 0 .nils 0 0 .nils)).okc = true:=by simp [V.okc,rdC,sfv.2]
    unfold rdC at g3 ok;simp (maxSteps:=1000000) (disch:=first | omega | (simp only [RY] <;> omega) | decide) only [↓RD,RZ,eq_self,Int.reduceToNat,Int.reduceAdd,Int.reduceSub,Int.reduceMul,Nat.reduceAdd,Nat.reduceSub,Nat.reduceMul,Nat.reduceDiv,Nat.reduceMod,Nat.reduceBEq,Nat.reduceLeDiff,g3,g63,ok,ne];exact ⟨fin (h3.at'.mono (by simp)),_,5,_,0,rfl,⟨_,_,_,_,_,_,_,_,_,_,_,_,_,_,_,rfl,vfv,rfl,Sg.nil,Sg.nil,sfv,Sg.nil,Sg.nil⟩,fun _=>⟨rfl,rfl,rfl⟩⟩
   ·rw [hf];simp (maxSteps:=1000000) (disch:=first | omega | (simp only [RY] <;> omega) | decide) only [↓RD,RZ,eq_self,Int.reduceToNat,Int.reduceAdd,Int.reduceSub,Int.reduceMul,Nat.reduceAdd,Nat.reduceSub,Nat.reduceMul,Nat.reduceDiv,Nat.reduceMod,Nat.reduceBEq,Nat.reduceLeDiff];exact ⟨AtS.new (S:=[q6,H1.next]) (s0.trans sH) a3 (by simp; omega),_,5,nf,0,rfl,⟨_,_,_,_,_,_,_,_,_,_,_,_,_,_,_,rfl,vfv,rfl,Sg.nil,Sg.nil,sfv,Sg.nil,Sg.nil⟩,fun h=>by cases h⟩
  ·have em:Ax.bin .rem (.int .i64 (l.length - 8:Nat)) (.int .i64 8) = some (.int .i64 ((l.length - 8) % 8:Nat)):=by
    rw [zoC (by omega) (by decide),show ((l.length - 8:Nat):Int) % 8 = (((l.length - 8) % 8:Nat):Int) by omega]
   have nz:((((l.length - 8) % 8:Nat):Int) == 0) = false:=beq_false_of_ne (by omega);have nz':(((l.length - 8) % 8:Nat) == 0) = false:=beq_false_of_ne hm;have er:(!(fbd (rdN 8 (l.drop 8)) (l.drop 8)) && decide (l.length - 8 = 8 * rdN 8 (l.drop 8))) = false:=by
    rw [decide_eq_false (by omega),Bool.and_false]
   rw [er];simp (maxSteps:=1000000) (disch:=first | omega | (simp only [RY] <;> omega) | decide) only [↓RD,RZ,eq_self,Int.reduceToNat,Int.reduceAdd,Int.reduceSub,Int.reduceMul,Nat.reduceAdd,Nat.reduceSub,Nat.reduceMul,Nat.reduceDiv,Nat.reduceMod,Nat.reduceBEq,Nat.reduceLeDiff,gH',gzH,ne,hvR,dd,dd',em,nz,nz'];exact ⟨fin (AtS.set (k:=H1.next) _ (by simp) _),_,5,0,0,rfl,⟨_,_,_,_,_,_,_,_,_,_,_,_,_,_,_,rfl,rfl,rfl,Sg.nil,Sg.nil,Sg.nil,Sg.nil,Sg.nil⟩,fun h=>by cases h⟩
 ·have k6:=k_206f hrm;have l12:12 ≤ l.length:=by
   unfold zju at hrm;rw [Bool.and_eq_true] at hrm;exact of_decide_eq_true hrm.1
  have e1:(repX 206 15 l).k = 6 ∧ (repX 206 15 l).fi.length = 0 ∧ (repX 206 15 l).ss.length = pn 1 (l.drop 12):=by
   unfold repX; rw [k6];refine ⟨rfl,rfl,?_⟩;show (sss (pn 1 (sk 8 (sk 4 l))) (sk 12 (sk 4 l))).length = _;rw [zox,k412]
  have e2:zed 206 15 l = decide (l.length - 8 = 8 + 4 * pn 1 (l.drop 12)):=by
   unfold zed repN;rw [k6,if_neg (by decide),if_neg (by decide),if_neg (by decide)];show (!false && decide (l.length = 4 + (12 + 4 * pn 1 (sk 8 (sk 4 l))))) = _;rw [k412];by_cases h:l.length - 8 = 8 + 4 * pn 1 (l.drop 12)
   ·rw [decide_eq_true h,decide_eq_true (by omega)]; rfl
   ·rw [decide_eq_false h,decide_eq_false (by omega)]; rfl
  rw [e1.1,e1.2.1,e1.2.2,e2];have gH':=gH;unfold rdC at gH';by_cases h16:l.length - 8 < 8
  ·have d16:decide (((l.length - 8:Nat):Int) < 8) = true:=decide_eq_true (by omega);have d16':decide (l.length - 8 < 8) = true:=decide_eq_true h16;rw [decide_eq_false (by omega)];simp (maxSteps:=1000000) (disch:=first | omega | (simp only [RY] <;> omega) | decide) only [↓RD,RZ,eq_self,Int.reduceToNat,Int.reduceAdd,Int.reduceSub,Int.reduceMul,Nat.reduceAdd,Nat.reduceSub,Nat.reduceMul,Nat.reduceDiv,Nat.reduceMod,Nat.reduceBEq,Nat.reduceLeDiff,gH',gzH,ne,hvR,d16,d16'];exact ⟨fin (AtS.set (k:=H1.next) _ (by simp) _),_,6,0,0,rfl,⟨_,_,_,_,_,_,_,_,_,_,_,_,_,_,_,rfl,rfl,rfl,Sg.nil,Sg.nil,Sg.nil,Sg.nil,Sg.nil⟩,fun h=>by cases h⟩
  have d16:decide (((l.length - 8:Nat):Int) < 8) = false:=decide_eq_false (by omega);have d16':decide (l.length - 8 < 8) = false:=decide_eq_false h16;have hd6:DI HH (HH.set H1.next (some ⟨tyRd,[.int .i64 6,.int .u32 (IntKind.u32.wrap (x0:Nat)),.int .u32 (IntKind.u32.wrap (x4:Nat)),.int .u64 0,.int .u32 0,.int .u32 0,.int .u32 0,.nils,.nils,.nils,.int .i64 0,.int .u32 0,.nils,.int .i64 0,.int .i64 0,.nils],none⟩)) H1.next (rdC 6 (IntKind.u32.wrap (x0:Nat)) (IntKind.u32.wrap (x4:Nat)) 0 0 0 0 .nils .nils .nils 0 0 .nils 0 0 .nils):=hd0.st _;have hb6:=Lc.atS hbH hd6.at' fun i hi e=>vp (by rw [List.mem_singleton] at e; rw [hi,e]);obtain ⟨p4,hp4,ld4,-⟩:=by_at hb6 (i:=4) (by decide) (by omega);have ld4:LdR none _ p4 (.int .u8 ((l.drop 8).getD 4 0:Nat)):=ld4;have e12:(l.drop 8).getD 4 0 = pn 1 (l.drop 12):=by
   rw [getD_drop];unfold pn;rw [if_neg (by rw [List.length_drop]; omega)];have:(l.drop 12).take 1 = [l.getD 12 0]:=by
    rw [List.drop_eq_getElem_cons (by omega:12 < l.length)];rw [List.getD_eq_getElem?_getD,List.getElem?_eq_getElem (by omega:12 < l.length)];rfl
   rw [this];simp [be]
  rw [e12] at ld4;have p256:=zko (n:=1) (h8.drop 12);generalize hn:pn 1 (l.drop 12) = n at *;have r5:=fun {f Q}=>@dN _ _ _ _ hb6 hR8 (by omega) 5 3 (by omega) (by decide) 5 3 rfl rfl f Q;have w4:IntKind.i64.wrap (4 * ((n:Nat):Int)) = ((4 * n:Nat):Int):=by rw [wr (by omega) (by omega)]; omega
  have w8:IntKind.i64.wrap (8 + ((4 * n:Nat):Int)) = ((8 + 4 * n:Nat):Int):=by rw [wr (by omega) (by omega)]; omega
  have dn:(((l.length - 8:Nat):Int) == ((8 + 4 * n:Nat):Int)) = decide (l.length - 8 = 8 + 4 * n):=zm6 _ _;have dn':((l.length - 8:Nat) == 8 + 4 * n) = decide (l.length - 8 = 8 + 4 * n):=by by_cases h:l.length - 8 = 8 + 4 * n <;> simp [h]
  by_cases he:l.length - 8 = 8 + 4 * n
  ·rw [decide_eq_true he] at dn dn' ⊢;have y3:=be_take_lt (hR8.drop 5) (show 3 ≤ 3 by omega);generalize hy:be (((l.drop 8).drop 5).take 3) = y at *;have s1:Ax.bin .shr (.int .u64 (y:Nat)) (.int .u64 18) = some (.int .u64 (y / 262144:Nat)):=by
    rw [zoz (by omega) (by omega) (by decide),Int.toNat_natCast];show some (V.int IntKind.u64 ((shr y 18:Nat):Int)) = _;rw [zrx]
   have s2:Ax.bin .and (.int .u64 (y:Nat)) (.int .u64 262143) = some (.int .u64 (y % 262144:Nat)):=by
    rw [zpj (by omega) (by omega) (by decide) (by decide),Int.toNat_natCast];show some (V.int IntKind.u64 ((y &&& 262143:Nat):Int)) = _;rw [show y &&& 262143 = y % 262144 from Nat.and_two_pow_sub_one_eq_mod y 18]
   simp (maxSteps:=1000000) (disch:=first | omega | (simp only [RY] <;> omega) | decide) only [↓RD,RZ,eq_self,Int.reduceToNat,Int.reduceAdd,Int.reduceSub,Int.reduceMul,Nat.reduceAdd,Nat.reduceSub,Nat.reduceMul,Nat.reduceDiv,Nat.reduceMod,Nat.reduceBEq,Nat.reduceLeDiff,gH',ne,hvR,d16,d16',hp4,ld4,w4,w8,dn,dn',r5,s1,s2];generalize hHK:Heap.set _ H1.next _ = HK;have hdK:DI HH HK H1.next (rdC 6 (IntKind.u32.wrap (x0:Nat)) (IntKind.u32.wrap (x4:Nat)) 0 0 0 0 .nils .nils .nils (y / 262144:Nat) (y % 262144:Nat) .nils 0 0 .nils):=by
    rw [← hHK];exact (hd6.st (rdC 6 (IntKind.u32.wrap (x0:Nat)) (IntKind.u32.wrap (x4:Nat)) 0 0 0 0 .nils .nils .nils (y / 262144:Nat) 0 .nils 0 0 .nils)).st _
   clear hHK;refine zau (rd2_ok (q6:=q6) hbH vp hR8 (by omega) (by omega) (by omega) hdK) ?_;rintro _ H3 ⟨rfl,sv,h3,ssv,vsv⟩;have en:((l.drop 8).length - 8) / 4 = n:=by omega
   rw [en] at vsv;have g3:=h3.g;have g63:=(h3.at'.same q6 (by omega) (by simp; omega)).trans gzH;have ok:(V.agg (rdC 6 (IntKind.u32.wrap (x0:Nat)) (IntKind.u32.wrap (x4:Nat)) 0 0 0 0 .nils .nils .nils (y / 262144:Nat) (y % 262144:Nat) sv 0 0 .nils)).okc = true:=by simp [V.okc,rdC,ssv.2]
   unfold rdC at g3 ok;simp (maxSteps:=1000000) (disch:=first | omega | (simp only [RY] <;> omega) | decide) only [↓RD,RZ,eq_self,Int.reduceToNat,Int.reduceAdd,Int.reduceSub,Int.reduceMul,Nat.reduceAdd,Nat.reduceSub,Nat.reduceMul,Nat.reduceDiv,Nat.reduceMod,Nat.reduceBEq,Nat.reduceLeDiff,g3,g63,ok,ne];exact ⟨fin (h3.at'.mono (by simp)),_,6,0,n,rfl,⟨_,_,_,_,_,_,_,_,_,_,_,_,_,_,_,rfl,rfl,vsv,Sg.nil,Sg.nil,Sg.nil,ssv,Sg.nil⟩,fun _=>⟨rfl,rfl,rfl⟩⟩
  ·rw [decide_eq_false he] at dn dn' ⊢;simp (maxSteps:=1000000) (disch:=first | omega | (simp only [RY] <;> omega) | decide) only [↓RD,RZ,eq_self,Int.reduceToNat,Int.reduceAdd,Int.reduceSub,Int.reduceMul,Nat.reduceAdd,Nat.reduceSub,Nat.reduceMul,Nat.reduceDiv,Nat.reduceMod,Nat.reduceBEq,Nat.reduceLeDiff,gH',gzH,ne,hvR,d16,d16',hp4,ld4,w4,w8,dn,dn'];exact ⟨fin (AtS.set (k:=H1.next) _ (by simp) _),_,6,0,0,rfl,⟨_,_,_,_,_,_,_,_,_,_,_,_,_,_,_,rfl,rfl,rfl,Sg.nil,Sg.nil,Sg.nil,Sg.nil,Sg.nil⟩,fun h=>by cases h⟩
end Go.Ax.SU
/- Rc12 -/
namespace Go.Ax.SU
open Go.Ax
structure Drs (lo:Nat) (H:Heap) (v:V) (xs:List Rp):Prop where
 ex:∃ css:List (List V),App tyRd 16 lo H v css.flatten xs.length ∧ css.length = xs.length ∧ ∀ j,j < xs.length → DrV (css.getD j []) (xs.getD j default).k (xs.getD j default).fi.length (xs.getD j default).ss.length
theorem Drs.nil {lo:Nat} {H:Heap}:Drs lo H .nils []:=⟨[],App.nil,rfl,fun j hj=>absurd hj (by simp)⟩
theorem be_take2 {l:List Nat} (h:2 ≤ l.length):be (l.take 2) = l.getD 0 0 * 256 + l.getD 1 0:=by
 rw [show l.take 2 = l.take 1 ++ [l.getD 1 0] from take_snoc (by omega),be_snoc,show l.take 1 = l.take 0 ++ [l.getD 0 0] from take_snoc (by omega),be_snoc];simp [be]
theorem Is_d_ok {lo:Nat} {H:Heap} {v:V} {l:List Nat} (hb:By lo H v l) (hl:l.length ≤ 1000000):Ok (sem T zcu [v]) H fun r H'=>r = .bool (decide (2 ≤ l.length) && (decide (192 ≤ l.getD 1 0) && decide (l.getD 1 0 ≤ 223))) ∧ H' = H:=by
 refine zhK ?_;unfold zfn uL uB uG uH uc ub;have hv:=hb.vlen;by_cases h:2 ≤ l.length
 ·have d1:decide ((2:Int) ≤ ((l.length:Nat):Int)) = true:=decide_eq_true (by omega);have d1':decide (2 ≤ l.length) = true:=decide_eq_true h;obtain ⟨p,hp,hld,-⟩:=by_at hb (i:=1) (by decide) (by omega);have hld:LdR none H p (.int .u8 (l.getD 1 0:Nat)):=hld;rw [d1',Bool.true_and];generalize l.getD 1 0 = x at *;by_cases h1:192 ≤ x
  ·have d2:decide ((192:Int) ≤ ((x:Nat):Int)) = true:=decide_eq_true (by omega);have d2':decide (192 ≤ x) = true:=decide_eq_true h1;have d3:decide (((x:Nat):Int) ≤ 223) = decide (x ≤ 223):=by
    by_cases h2:x ≤ 223
    ·rw [decide_eq_true h2,decide_eq_true (by omega:((x:Nat):Int) ≤ 223)]
    ·rw [decide_eq_false h2,decide_eq_false (by omega:¬ ((x:Nat):Int) ≤ 223)]
   rw [d2',Bool.true_and];simp (maxSteps:=1000000) (disch:=first | omega | (simp only [RY] <;> omega) | decide) only [↓RD,RZ,eq_self,Int.reduceToNat,Int.reduceAdd,Int.reduceSub,Int.reduceMul,Nat.reduceAdd,Nat.reduceSub,Nat.reduceMul,Nat.reduceDiv,Nat.reduceMod,Nat.reduceBEq,Nat.reduceLeDiff,hv,d1,d1',hp,hld,d2,d2',d3]
  ·have d2:decide ((192:Int) ≤ ((x:Nat):Int)) = false:=decide_eq_false (by omega);have d2':decide (192 ≤ x) = false:=decide_eq_false h1;rw [d2',Bool.false_and];simp (maxSteps:=1000000) (disch:=first | omega | (simp only [RY] <;> omega) | decide) only [↓RD,RZ,eq_self,Int.reduceToNat,Int.reduceAdd,Int.reduceSub,Int.reduceMul,Nat.reduceAdd,Nat.reduceSub,Nat.reduceMul,Nat.reduceDiv,Nat.reduceMod,Nat.reduceBEq,Nat.reduceLeDiff,hv,d1,d1',hp,hld,d2,d2']
 ·have d1:decide ((2:Int) ≤ ((l.length:Nat):Int)) = false:=decide_eq_false (by omega);have d1':decide (2 ≤ l.length) = false:=decide_eq_false h;rw [d1',Bool.false_and];simp (maxSteps:=1000000) (disch:=first | omega | (simp only [RY] <;> omega) | decide) only [↓RD,RZ,eq_self,Int.reduceToNat,Int.reduceAdd,Int.reduceSub,Int.reduceMul,Nat.reduceAdd,Nat.reduceSub,Nat.reduceMul,Nat.reduceDiv,Nat.reduceMod,Nat.reduceBEq,Nat.reduceLeDiff,hv,d1,d1']
set_option maxHeartbeats 2000000 in
theorem ztb {lo:Nat} {H:Heap} {v:V} {l:List Nat} (hb:By lo H v l) (h8:Ok8 l) (hl:l.length ≤ 1200) (h0:0 < l.length) :
  Ok (sem T za2 [v]) H fun r H'=>Grow H H' ∧ ∃ v e,r = .tup [v,.int .i64 e] ∧ (reps l.length l = none → e ≠ 0 ∧ v = .nils) ∧ ∀ xs,reps l.length l = some xs → e = 0 ∧ Drs H.next H' v xs:=by
 refine zer ?_;unfold zcK uL uB uc ug;have hv:=hb.vlen;have d1:decide ((1200:Int) < ((l.length:Nat):Int)) = false:=decide_eq_false (by omega);have d1':decide (1200 < l.length) = false:=decide_eq_false (by omega);have d2:(((l.length:Nat):Int) == 0) = false:=beq_false_of_ne (by omega);have d2':(l.length == 0) = false:=beq_false_of_ne (by omega);simp (maxSteps:=1000000) (disch:=first | omega | (simp only [RY] <;> omega) | decide) only [↓RD,RZ,eq_self,Int.reduceToNat,Int.reduceAdd,Int.reduceSub,Int.reduceMul,Nat.reduceAdd,Nat.reduceSub,Nat.reduceMul,Nat.reduceDiv,Nat.reduceMod,Nat.reduceBEq,Nat.reduceLeDiff,hv,d1,d1',d2,d2'];refine zh8 (fun L H' n=>∃ av a xs,L = [av,.int .i64 (a:Nat)] ∧ a ≤ l.length ∧ Drs H.next H' av xs ∧ Grow H H' ∧ (l.drop a).length ≤ n ∧ n ≤ 1200 ∧ xs.length + n ≤ 1200 ∧ reps l.length l = (reps n (l.drop a)).map (xs ++ ·)) l.length ?_ ?_
 ·exact ⟨.nils,0,[],rfl,Nat.zero_le _,Drs.nil,Grow.refl _,Nat.le_refl _,hl,by simpa using hl,by rw [List.drop_zero]; cases reps l.length l <;> rfl⟩
 rintro _ H1 n ⟨av,a,xs,rfl,hal,hx,s1,hn,hn2,hn3,er⟩;unfold zcp uL uS uT uE uB uIM uG uH uO uc ub uq ug;have hb1:=hb.ext s1;have hml:(l.drop a).length = l.length - a:=List.length_drop ..;by_cases hm0:(l.drop a).length = 0
 ·have d3:decide (((a:Nat):Int) < ((l.length:Nat):Int)) = false:=decide_eq_false (by omega);have d3':decide (a < l.length) = false:=decide_eq_false (by omega);have er':reps l.length l = some xs:=by
   rw [er];cases n with
   | zero=>simp [reps]
   | succ n=>unfold reps; rw [if_pos hm0]; simp
  rw [er'];simp (maxSteps:=1000000) (disch:=first | omega | (simp only [RY] <;> omega) | decide) only [↓RD,RZ,eq_self,Int.reduceToNat,Int.reduceAdd,Int.reduceSub,Int.reduceMul,Nat.reduceAdd,Nat.reduceSub,Nat.reduceMul,Nat.reduceDiv,Nat.reduceMod,Nat.reduceBEq,Nat.reduceLeDiff,hv,d3,d3'];exact ⟨s1,av,0,rfl,(fun h=>by cases h),fun ys h=>by cases h; exact ⟨rfl,hx⟩⟩
 obtain ⟨n,rfl⟩:∃ k,n = k + 1:=⟨n - 1,by omega⟩;rw [reps,if_neg hm0] at er;have d3:decide (((a:Nat):Int) < ((l.length:Nat):Int)) = true:=decide_eq_true (by omega);have d3':decide (a < l.length) = true:=decide_eq_true (by omega);have w0:IntKind.i64.wrap (((l.length:Nat):Int) - ((a:Nat):Int)) = ((l.length - a:Nat):Int):=by rw [wr (by omega) (by omega)]; omega
 by_cases h4:(l.drop a).length < 4
 ·have d4:decide (((l.length - a:Nat):Int) < 4) = true:=decide_eq_true (by omega);have d4':decide (l.length - a < 4) = true:=decide_eq_true (by omega);rw [if_pos h4] at er;rw [show reps l.length l = none from er];simp (maxSteps:=1000000) (disch:=first | omega | (simp only [RY] <;> omega) | decide) only [↓RD,RZ,eq_self,Int.reduceToNat,Int.reduceAdd,Int.reduceSub,Int.reduceMul,Nat.reduceAdd,Nat.reduceSub,Nat.reduceMul,Nat.reduceDiv,Nat.reduceMod,Nat.reduceBEq,Nat.reduceLeDiff,hv,d3,d3',d4,d4',w0];exact ⟨s1,.nils,3,rfl,(fun _=>⟨by decide,rfl⟩),fun xs e=>by cases e⟩
 have d4:decide (((l.length - a:Nat):Int) < 4) = false:=decide_eq_false (by omega);have d4':decide (l.length - a < 4) = false:=decide_eq_false (by omega);rw [if_neg h4] at er;obtain ⟨p0,hp0,ld0,-⟩:=by_at hb1 (i:=(a:Nat)) (by omega) (by omega);obtain ⟨p1,hp1,ld1,-⟩:=by_at hb1 (i:=(a + 1:Nat)) (by omega) (by omega);rw [Int.toNat_natCast] at ld0 ld1;have m0:(l.drop a).getD 0 0 = l.getD a 0:=getD_drop;have m1:(l.drop a).getD 1 0 = l.getD (a + 1) 0:=getD_drop;have lt0:=getD_lt h8 a;have lt1:=getD_lt h8 (a + 1);have w1:IntKind.i64.wrap (((a:Nat):Int) + 1) = ((a + 1:Nat):Int):=by rw [wr (by omega) (by omega)]; omega
 have w2:IntKind.i64.wrap (((a:Nat):Int) + 2) = ((a + 2:Nat):Int):=by rw [wr (by omega) (by omega)]; omega
 have w4:IntKind.i64.wrap (((a:Nat):Int) + 4) = ((a + 4:Nat):Int):=by rw [wr (by omega) (by omega)]; omega
 have sh5:Ax.bin .shr (.int .u8 (l.getD a 0:Nat)) (.int .u64 5) = some (.int .u8 (l.getD a 0 / 32:Nat)):=by
  rw [shr_u8 (by omega) (by omega) (by decide),Int.toNat_natCast];show some (V.int IntKind.u8 ((shr (l.getD a 0) 5:Nat):Int)) = _;rw [shr_5]
 have r31:=and31 lt0;have rN:=fun {f Q}=>@dN _ _ _ _ hb1 h8 (by omega) (a + 2) 2 (by omega) (by decide) ((a + 2:Nat):Int) 2 rfl rfl f Q;have eN:be ((l.drop (a + 2)).take 2) = rwl (l.drop a):=by
  rw [be_take2 (by rw [List.length_drop]; omega),getD_drop,getD_drop];unfold rwl;rw [getD_drop,getD_drop]
 rw [eN] at rN;unfold rhd at er;rw [m0,m1] at er;have lw:rwl (l.drop a) < 65536:=by
  unfold rwl;have:=getD_lt (h8.drop a) 2;have:=getD_lt (h8.drop a) 3;omega
 generalize hb0:l.getD a 0 = b0 at *;generalize hb1':l.getD (a + 1) 0 = b1 at *;by_cases h2:b0 / 32 = 4
 ·have n1:(((b0 / 32:Nat):Int) == 4) = true:=by rw [h2]; rfl
  have n1':(b0 / 32 == 4) = true:=by rw [h2]; rfl
  rw [decide_eq_true h2,Bool.true_and] at er;by_cases h192:192 ≤ b1
  ·have l192:decide (((b1:Nat):Int) < 192) = false:=decide_eq_false (by omega);have l192':decide (b1 < 192) = false:=decide_eq_false (by omega);rw [decide_eq_true h192,Bool.true_and] at er;by_cases h223:b1 ≤ 223
   ·have l223:decide ((223:Int) < ((b1:Nat):Int)) = false:=decide_eq_false (by omega);have l223':decide (223 < b1) = false:=decide_eq_false (by omega);rw [decide_eq_true h223,if_neg (by decide)] at er;have cn:IntKind.i64.wrap ((rwl (l.drop a):Nat):Int) = ((rwl (l.drop a):Nat):Int):=wr (by omega) (by omega);generalize hw:rwl (l.drop a) = w at *;have w4n:IntKind.i64.wrap (4 * ((w:Nat):Int)) = ((4 * w:Nat):Int):=by rw [wr (by omega) (by omega)]; omega
    have w44:IntKind.i64.wrap (((a + 4:Nat):Int) + ((4 * w:Nat):Int)) = ((a + 4 + 4 * w:Nat):Int):=by rw [wr (by omega) (by omega)]; omega
    by_cases hlen:(l.drop a).length < 4 + 4 * w
    ·have g5:decide (((l.length:Nat):Int) < ((a + 4 + 4 * w:Nat):Int)) = true:=decide_eq_true (by omega);have g5':decide (l.length < a + 4 + 4 * w) = true:=decide_eq_true (by omega);rw [if_pos hlen] at er;rw [show reps l.length l = none from er];simp (maxSteps:=1000000) (disch:=first | omega | (simp only [RY] <;> omega) | decide) only [↓RD,RZ,eq_self,Int.reduceToNat,Int.reduceAdd,Int.reduceSub,Int.reduceMul,Nat.reduceAdd,Nat.reduceSub,Nat.reduceMul,Nat.reduceDiv,Nat.reduceMod,Nat.reduceBEq,Nat.reduceLeDiff,hv,d3,d3',d4,d4',w0,w1,w2,w4,hp0,ld0,hp1,ld1,sh5,n1,n1',l192,l192',l223,l223',rN,cn,w4n,w44,g5,g5'];exact ⟨s1,.nils,3,rfl,(fun _=>⟨by decide,rfl⟩),fun xs e=>by cases e⟩
    have g5:decide (((l.length:Nat):Int) < ((a + 4 + 4 * w:Nat):Int)) = false:=decide_eq_false (by omega);have g5':decide (l.length < a + 4 + 4 * w) = false:=decide_eq_false (by omega);rw [if_neg hlen] at er;obtain ⟨bv,hbs,-,-,hbb,hbp⟩:=by_slice hb1 (x:=(a + 4:Nat)) (y:=(a + 4 + 4 * w:Nat)) (by omega) (by omega) (by omega);rw [Int.toNat_natCast,Int.toNat_natCast,show a + 4 + 4 * w - (a + 4) = 4 * w by omega] at hbb;have ebd:rbd (l.drop a) = (l.drop (a + 4)).take (4 * w):=by unfold rbd; rw [hw,List.drop_drop]
    have lb:(rbd (l.drop a)).length = 4 * w:=by rw [ebd,List.length_take,List.length_drop]; omega
    rw [← ebd] at hbb;have hbb:By lo H1 bv (rbd (l.drop a)):=hbb;have hb8:Ok8 (rbd (l.drop a)):=(h8.drop a |>.drop 4).take _;generalize hB:rbd (l.drop a) = B at *;simp (maxSteps:=1000000) (disch:=first | omega | (simp only [RY] <;> omega) | decide) only [↓RD,RZ,eq_self,Int.reduceToNat,Int.reduceAdd,Int.reduceSub,Int.reduceMul,Nat.reduceAdd,Nat.reduceSub,Nat.reduceMul,Nat.reduceDiv,Nat.reduceMod,Nat.reduceBEq,Nat.reduceLeDiff,hv,d3,d3',d4,d4',w0,w1,w2,w4,hp0,ld0,hp1,ld1,sh5,n1,n1',l192,l192',l223,l223',rN,cn,w4n,w44,g5,g5',r31,hbs];refine zac (reads_ok hbb hb8 (by omega) (by omega) (by omega) (by omega)) ?_;rintro _ H2 ⟨s2,cells,k',nf,ns,rfl,hd,hok⟩;have n2:=s2.next;have c16:=hd.len;have cok:=hd.okc;have cag:(V.agg cells).cells = cells:=zai _;refine zao rfl ?_;refine zam (zaR rfl ?_);rw [zai];have s3:=Grow.new H2 ⟨tyRd,[.int .i64 0,.int .u32 0,.int .u32 0,.int .u64 0,.int .u32 0,.int .u32 0,.int .u32 0,.nils,.nils,.nils,.int .i64 0,.int .u32 0,.nils,.int .i64 0,.int .i64 0,.nils],none⟩;have g3:(H2.new ⟨tyRd,[.int .i64 0,.int .u32 0,.int .u32 0,.int .u64 0,.int .u32 0,.int .u32 0,.int .u32 0,.nils,.nils,.nils,.int .i64 0,.int .u32 0,.nils,.int .i64 0,.int .i64 0,.nils],none⟩).get H2.next = some ⟨tyRd,rdZ,none⟩:=zad _ _;have n3:(H2.new ⟨tyRd,[.int .i64 0,.int .u32 0,.int .u32 0,.int .u64 0,.int .u32 0,.int .u32 0,.int .u32 0,.nils,.nils,.nils,.int .i64 0,.int .u32 0,.nils,.int .i64 0,.int .i64 0,.nils],none⟩).next = H2.next + 1:=zag _ _;generalize hq:H2.next = q at *;generalize H2.new _ = H3 at *;have z16:rdZ.length = 16:=rfl;have spl:splice rdZ 0 cells = cells:=by
     obtain ⟨_,_,_,_,_,_,_,_,_,_,_,_,_,_,_,e,-⟩:=hd;rw [e]; rfl
    have ldl:ldc (some 16) cells 0 = some (.agg cells):=by
     obtain ⟨_,_,_,_,_,_,_,_,_,_,_,_,_,_,_,e,-⟩:=hd;rw [e]; rfl
    by_cases hk:zed b1 (b0 % 32) B = false
    ·rw [if_pos hk] at er;rw [show reps l.length l = none from er,hk];simp (maxSteps:=1000000) (disch:=first | omega | (simp only [RY] <;> omega) | decide) only [↓RD,RZ,eq_self,Int.reduceToNat,Int.reduceAdd,Int.reduceSub,Int.reduceMul,Nat.reduceAdd,Nat.reduceSub,Nat.reduceMul,Nat.reduceDiv,Nat.reduceMod,Nat.reduceBEq,Nat.reduceLeDiff,g3,cok,cag,c16,z16,spl];exact ⟨(s1.trans (s2.trans s3)).set (by have:=s1.next; omega) _,.nils,2,rfl,(fun _=>⟨by decide,rfl⟩),fun xs e=>by cases e⟩
    rw [if_neg hk] at er;have hk:zed b1 (b0 % 32) B = true:=by cases h:zed b1 (b0 % 32) B with | true=>rfl | false=>exact absurd h hk
    obtain ⟨rfl,rfl,rfl⟩:=hok hk;rw [hk];have spl2:splice [.int .i64 0,.int .u32 0,.int .u32 0,.int .u64 0,.int .u32 0,.int .u32 0,.int .u32 0,.nils,.nils,.nils,.int .i64 0,.int .u32 0,.nils,.int .i64 0,.int .i64 0,.nils] 0 cells = cells:=spl;simp (maxSteps:=1000000) (disch:=first | omega | (simp only [RY] <;> omega) | decide) only [↓RD,RZ,eq_self,Int.reduceToNat,Int.reduceAdd,Int.reduceSub,Int.reduceMul,Nat.reduceAdd,Nat.reduceSub,Nat.reduceMul,Nat.reduceDiv,Nat.reduceMod,Nat.reduceBEq,Nat.reduceLeDiff,g3,cok,cag,c16,z16,spl,ldl,List.append_nil,spl2];obtain ⟨css,ha,hcl,hcw⟩:=hx;have s4:Grow H1 (H3.set q (some ⟨tyRd,cells,none⟩)):=(s2.trans s3).set (by omega) _;have s5:=s4.trans (Grow.new (H3.set q (some ⟨tyRd,cells,none⟩)) ⟨tyRd,cells,none⟩);have avl:=ha.lc.own;have l5:H.next ≤ ((H3.set q (some ⟨tyRd,cells,none⟩)).new ⟨tyRd,cells,none⟩).next:=Nat.le_trans s1.next s5.next;refine zcq (bytes:=192) (ha.atS (s5.atS []) (by simp)) l5 (zaQ (by rw [c16])) (by rw [c16]) (by omega) (by omega) fun x H6 hx6 st=>?_;have sT:Grow H H6:=⟨Nat.le_trans l5 st.next,fun i hi=>by
     rw [st.same i (Nat.lt_of_lt_of_le hi l5) fun hm=>by have:=(avl i (by simpa [zbe] using hm)).1; omega];exact (s1.trans s5).same i hi⟩
    simp (maxSteps:=1000000) (disch:=first | omega | (simp only [RY] <;> omega) | decide) only [↓RD,RZ,eq_self,Int.reduceToNat,Int.reduceAdd,Int.reduceSub,Int.reduceMul,Nat.reduceAdd,Nat.reduceSub,Nat.reduceMul,Nat.reduceDiv,Nat.reduceMod,Nat.reduceBEq,Nat.reduceLeDiff,w4,w44];refine ⟨n,Nat.lt_succ_self n,x,a + 4 + 4 * w,xs ++ [repX b1 (b0 % 32) B],rfl,by omega,⟨css ++ [cells],?_,?_,?_⟩,sT,by rw [List.length_drop]; omega,by omega,by rw [List.length_append]; simp; omega,?_⟩
    ·rw [List.flatten_append,List.length_append];simpa using hx6
    ·rw [List.length_append,List.length_append,hcl]; rfl
    ·intro j hj;rw [List.length_append] at hj;have hj:j < xs.length + 1:=hj;by_cases hjl:j < xs.length
     ·rw [zis (by omega),zis hjl];exact hcw j hjl
     ·obtain rfl:j = xs.length:=by omega
      rw [ziu,← hcl,ziu];exact hd
    ·rw [er,List.drop_drop,show a + (4 + 4 * w) = a + 4 + 4 * w by omega];cases reps n (l.drop (a + 4 + 4 * w)) <;> simp
   ·have l223:decide ((223:Int) < ((b1:Nat):Int)) = true:=decide_eq_true (by omega);have l223':decide (223 < b1) = true:=decide_eq_true (by omega);rw [decide_eq_false h223,if_pos rfl] at er;rw [show reps l.length l = none from er];simp (maxSteps:=1000000) (disch:=first | omega | (simp only [RY] <;> omega) | decide) only [↓RD,RZ,eq_self,Int.reduceToNat,Int.reduceAdd,Int.reduceSub,Int.reduceMul,Nat.reduceAdd,Nat.reduceSub,Nat.reduceMul,Nat.reduceDiv,Nat.reduceMod,Nat.reduceBEq,Nat.reduceLeDiff,hv,d3,d3',d4,d4',w0,w1,hp0,ld0,hp1,ld1,sh5,n1,n1',l192,l192',l223,l223'];exact ⟨s1,.nils,2,rfl,(fun _=>⟨by decide,rfl⟩),fun xs e=>by cases e⟩
  ·have l192:decide (((b1:Nat):Int) < 192) = true:=decide_eq_true (by omega);have l192':decide (b1 < 192) = true:=decide_eq_true (by omega);rw [decide_eq_false h192,Bool.false_and,if_pos rfl] at er;rw [show reps l.length l = none from er];simp (maxSteps:=1000000) (disch:=first | omega | (simp only [RY] <;> omega) | decide) only [↓RD,RZ,eq_self,Int.reduceToNat,Int.reduceAdd,Int.reduceSub,Int.reduceMul,Nat.reduceAdd,Nat.reduceSub,Nat.reduceMul,Nat.reduceDiv,Nat.reduceMod,Nat.reduceBEq,Nat.reduceLeDiff,hv,d3,d3',d4,d4',w0,w1,hp0,ld0,hp1,ld1,sh5,n1,n1',l192,l192'];exact ⟨s1,.nils,2,rfl,(fun _=>⟨by decide,rfl⟩),fun xs e=>by cases e⟩
 ·have n1:(((b0 / 32:Nat):Int) == 4) = false:=beq_false_of_ne (by omega);have n1':(b0 / 32 == 4) = false:=beq_false_of_ne h2;rw [decide_eq_false h2,Bool.false_and,if_pos rfl] at er;rw [show reps l.length l = none from er];simp (maxSteps:=1000000) (disch:=first | omega | (simp only [RY] <;> omega) | decide) only [↓RD,RZ,eq_self,Int.reduceToNat,Int.reduceAdd,Int.reduceSub,Int.reduceMul,Nat.reduceAdd,Nat.reduceSub,Nat.reduceMul,Nat.reduceDiv,Nat.reduceMod,Nat.reduceBEq,Nat.reduceLeDiff,hv,d3,d3',d4,d4',w0,hp0,ld0,sh5,n1,n1'];exact ⟨s1,.nils,2,rfl,(fun _=>⟨by decide,rfl⟩),fun xs e=>by cases e⟩
end Go.Ax.SU
/- Rc13 -/
namespace Go.Ax.SU
open Go.Ax
def ZK (K:Kd):Prop:=K.ot = fun k=>(dkJ K.d K.C 64)[k]?
theorem zrF {α:Type} {l:List α} {m n i j:Nat} (hl:l.length = m) (hi:i < n) (hj:j < m):((List.replicate n l).flatten)[i * m + j]? = l[j]?:=by
 induction n generalizing i with
 | zero=>omega
 | succ n ih =>
  rw [List.replicate_succ,List.flatten_cons];cases i with
  | zero=>rw [Nat.zero_mul,Nat.zero_add,List.getElem?_append_left (by omega)]
  | succ i =>
   rw [List.getElem?_append_right (by rw [hl,Nat.succ_mul]; omega),hl,Nat.succ_mul,show i * m + m + j - m = i * m + j by omega];exact ih (by omega)
theorem zpL {d C i j:Nat} (hi:i < 4) (hj:j < 367):(dkJ d C 64)[i * 367 + j]? = zkd[j]?:=by
 unfold dkJ;rw [List.getElem?_append_left (by rw [zg0]; omega),zrF zh5 hi hj]
theorem otr_of {i m k:Nat} (hi:i < 4) (h:39 ≤ m) (hm:m < 367) (e:k = i * 367 + m):otr k:=by
 subst e;refine .inl ⟨?_,by omega⟩;rw [Nat.mul_comm,Nat.mul_add_mod,Nat.mod_eq_of_lt hm];exact h
theorem zkc:zSt.length = 33:=rfl
theorem zpl:((List.replicate 8 zSt).flatten).length = 264:=by rw [List.length_flatten]; simp [zkc]
theorem zp0 {j:Nat} (hj:j < 64):zkd[303 + j]? = some .nilp:=by
 unfold zkd;rw [zdA (i:=303) (by rw [List.length_append,zpl]; rfl),List.getElem?_replicate,if_pos hj]
theorem zHall_st {s j:Nat} (hs:s < 8) (hj:j < 33):zkd[39 + s * 33 + j]? = zSt[j]?:=by
 unfold zkd;rw [List.getElem?_append_left (by rw [List.length_append,zpl,show zRm.length = 39 from rfl]; omega),show 39 + s * 33 + j = 39 + (s * 33 + j) by omega,zdA (i:=39) rfl,zrF zkc hs hj]
theorem DA.lan {K:Kd} {H:Heap} {L:Nat → V} {D:List V} {rm:Nat → Rm} {q:Nat → List (V × Ot)} {ns:List Nat} {nw:Int} (h:DA K H L D rm q ns nw) (hz:ZK K) {i s:Nat} (hi:i < 4) (hs:s < 8):ldc (some 8) D (i * 367 + 303 + s * 8) = some (.agg (List.replicate 8 .nilp)):=by
 have hl:=h.len;simp only [ldc];rw [if_pos (by omega)];congr 2;apply List.ext_getElem?;intro j;rw [List.getElem?_take,List.getElem?_replicate];by_cases hj:j < 8
 ·rw [if_pos hj,if_pos hj,List.getElem?_drop];refine h.ot _ _ ?_ (otr_of (m:=303 + s * 8 + j) hi (by omega) (by omega) (by omega));rw [hz,show i * 367 + 303 + s * 8 + j = i * 367 + (303 + (s * 8 + j)) by omega];show (dkJ K.d K.C 64)[_]? = _;rw [zpL hi (by omega),zp0 (by omega)]
 ·rw [if_neg hj,if_neg hj]
theorem DA.sts {K:Kd} {H:Heap} {L:Nat → V} {D:List V} {rm:Nat → Rm} {q:Nat → List (V × Ot)} {ns:List Nat} {nw:Int} (h:DA K H L D rm q ns nw) (hz:ZK K) {i s:Nat} (hi:i < 4) (hs:s < 8):ldc (some 33) D (i * 367 + 39 + s * 33) = some (.agg zSt):=by
 have hl:=h.len;simp only [ldc];rw [if_pos (by omega)];congr 2;apply List.ext_getElem?;intro j;rw [List.getElem?_take];by_cases hj:j < 33
 ·rw [if_pos hj,List.getElem?_drop];have e:(dkJ K.d K.C 64)[i * 367 + 39 + s * 33 + j]? = zSt[j]?:=by
   rw [show i * 367 + 39 + s * 33 + j = i * 367 + (39 + s * 33 + j) by omega,zpL hi (by omega),zHall_st hs hj]
  rw [List.getElem?_eq_getElem (l:=zSt) (by rw [zkc]; exact hj)] at e;rw [List.getElem?_eq_getElem (l:=zSt) (by rw [zkc]; exact hj)];refine h.ot _ _ ?_ (otr_of (m:=39 + s * 33 + j) hi (by omega) (by omega) (by omega));rw [hz];exact e
 ·rw [if_neg hj,List.getElem?_eq_none (by rw [zkc]; omega)]
theorem nil_at {j:Nat} (hj:j < 8):Ax.index 8 1 none (.agg (List.replicate 8 .nilp)) (.int .i64 (j:Nat)) = some .nilp:=by
 simp only [Ax.index];rw [if_pos (by omega),Int.toNat_natCast,Nat.mul_one];simp only [ldc];rw [List.getElem?_replicate,if_pos hj]
theorem ia8m {d o s m:Nat} (hs:s < 8) {k:IntKind}:Ax.iaddr (some 8) m (.ptr d o) (.int k (s:Nat)) = some (.ptr d (o + s * m)):=by
 simp only [Ax.iaddr];rw [if_pos (by omega),Int.toNat_natCast]
theorem zr4 {K:Kd} {H:Heap} {L:Nat → V} {rm:Nat → Rm} {Q:Nat → List Ot} {ns:List Nat} {nw:Int} (hh:DW K H L rm Q ns nw) (hz:ZK K) {i s:Nat} (hi:i < 4) (hs:s < 8) (x:V) :
  Ok (sem T zbF [.ptr K.d (i * 367),.int .i64 (s:Nat),x]) H fun r H'=>r = .tup [.int .i64 0,.bool false] ∧ H' = H:=by
 refine zi0 ?_;unfold zgF uS uNF uI uc;obtain ⟨D,q,h,hQ⟩:=hh;have g:=h.blk;have hl:=h.lan hz hi hs;have ia:=fun {k}=>@ia8m K.d (i * 367 + 303) s 8 hs k;simp (maxSteps:=1000000) (disch:=first | omega | (simp only [RY] <;> omega) | decide) only [↓RD,RZ,eq_self,Int.reduceToNat,Int.reduceAdd,Int.reduceSub,Int.reduceMul,Nat.reduceAdd,Nat.reduceSub,Nat.reduceMul,Nat.reduceDiv,Nat.reduceMod,Nat.reduceBEq,Nat.reduceLeDiff,g,hl,ia];refine zau (Q:=fun r H'=>r = .ex 0 [] ∧ H' = H) ?_ ?_
 ·refine zaV (fun j L H'=>L = [.int .i64 (j:Nat)] ∧ H' = H) 8 ⟨rfl,rfl⟩ ?_ ?_
  ·rintro j _ H' hj ⟨rfl,rfl⟩;have d1:decide (((j:Nat):Int) < 8) = true:=decide_eq_true (by omega);have d1':decide (j < 8) = true:=decide_eq_true hj;have w1:IntKind.i64.wrap (((j:Nat):Int) + 1) = ((j + 1:Nat):Int):=by rw [wrap_i64 (by omega) (by omega)]; omega
   have n:=nil_at hj;have e:Ax.eqr .ptr true .nilp .nilp = some (.bool false):=rfl;unfold zdK uL uB uG uH uc ug;simp (maxSteps:=1000000) (disch:=first | omega | (simp only [RY] <;> omega) | decide) only [↓RD,RZ,eq_self,Int.reduceToNat,Int.reduceAdd,Int.reduceSub,Int.reduceMul,Nat.reduceAdd,Nat.reduceSub,Nat.reduceMul,Nat.reduceDiv,Nat.reduceMod,Nat.reduceBEq,Nat.reduceLeDiff,d1,d1',n,e,w1]
  ·rintro _ H' ⟨rfl,rfl⟩;unfold zdK uL uB uG uH uc ug;simp (maxSteps:=1000000) (disch:=first | omega | (simp only [RY] <;> omega) | decide) only [↓RD,RZ,eq_self,Int.reduceToNat,Int.reduceAdd,Int.reduceSub,Int.reduceMul,Nat.reduceAdd,Nat.reduceSub,Nat.reduceMul,Nat.reduceDiv,Nat.reduceMod,Nat.reduceBEq,Nat.reduceLeDiff]
 ·rintro _ H' ⟨rfl,rfl⟩;simp (maxSteps:=1000000) (disch:=first | omega | (simp only [RY] <;> omega) | decide) only [↓RD,RZ,eq_self,Int.reduceToNat,Int.reduceAdd,Int.reduceSub,Int.reduceMul,Nat.reduceAdd,Nat.reduceSub,Nat.reduceMul,Nat.reduceDiv,Nat.reduceMod,Nat.reduceBEq,Nat.reduceLeDiff]
theorem lost_z {K:Kd} {H:Heap} {L:Nat → V} {rm:Nat → Rm} {Q:Nat → List Ot} {ns:List Nat} {nw:Int} (hh:DW K H L rm Q ns nw) (hz:ZK K) {i s:Nat} (hi:i < 4) (hs:s < 8) (x:V) (hn:ns.getD 4 0 + 1 < 4611686018427387904) :
  Ok (sem T zck [.ptr K.d 0,.ptr K.d (i * 367),.int .i64 (s:Nat),x]) H fun r H'=>r = .tup [] ∧ AtS [K.cs] H H' ∧ DW K H' L rm Q (ns.set 4 (ns.getD 4 0 + 1)) nw:=by
 refine zi3 ?_;unfold zgI uL uNFM uE uc;have w:=@zaK _ _ _ _ (zr4 hh hz hi hs x);obtain ⟨D,q,h,hQ⟩:=id hh;have g:=h.blk;have hco:=h.co;simp (maxSteps:=1000000) (disch:=first | omega | (simp only [RY] <;> omega) | decide) only [↓RD,RZ,eq_self,Int.reduceToNat,Int.reduceAdd,Int.reduceSub,Int.reduceMul,Nat.reduceAdd,Nat.reduceSub,Nat.reduceMul,Nat.reduceDiv,Nat.reduceMod,Nat.reduceBEq,Nat.reduceLeDiff,w,g,hco];refine zac (zjO (i:=4) h.cm h.Cc (by decide) hn) ?_;rintro _ H2 ⟨rfl,a2,hc2⟩;simp (maxSteps:=1000000) (disch:=first | omega | (simp only [RY] <;> omega) | decide) only [↓RD,RZ,eq_self,Int.reduceToNat,Int.reduceAdd,Int.reduceSub,Int.reduceMul,Nat.reduceAdd,Nat.reduceSub,Nat.reduceMul,Nat.reduceDiv,Nat.reduceMod,Nat.reduceBEq,Nat.reduceLeDiff];exact ⟨rfl,a2,hh.one a2 hc2⟩
theorem room_z {K:Kd} {H:Heap} {L:Nat → V} {rm:Nat → Rm} {Q:Nat → List Ot} {ns:List Nat} {nw:Int} (hh:DW K H L rm Q ns nw) (hz:ZK K) {i s:Nat} (hi:i < 4) (hs:s < 8) (x y:V) (hn:ns.getD 4 0 + 1 < 4611686018427387904) :
  Ok (sem T zc2 [.ptr K.d 0,.ptr K.d (i * 367),.int .i64 (s:Nat),x,y]) H fun r H'=>r = .tup [] ∧ AtS [K.cs] H H' ∧ DW K H' L rm Q (ns.set 4 (ns.getD 4 0 + 1)) nw:=by
 refine zi2 ?_;unfold zgH uL uM uS uNFM uNF uE uI uU uc ug;have w:=@zaK _ _ _ _ (zr4 hh hz hi hs x);obtain ⟨D,q,h,hQ⟩:=id hh;have g:=h.blk;have hco:=h.co;simp (maxSteps:=1000000) (disch:=first | omega | (simp only [RY] <;> omega) | decide) only [↓RD,RZ,eq_self,Int.reduceToNat,Int.reduceAdd,Int.reduceSub,Int.reduceMul,Nat.reduceAdd,Nat.reduceSub,Nat.reduceMul,Nat.reduceDiv,Nat.reduceMod,Nat.reduceBEq,Nat.reduceLeDiff,w,g,hco];refine zac (zjO (i:=4) h.cm h.Cc (by decide) hn) ?_;rintro _ H2 ⟨rfl,a2,hc2⟩;simp (maxSteps:=1000000) (disch:=first | omega | (simp only [RY] <;> omega) | decide) only [↓RD,RZ,eq_self,Int.reduceToNat,Int.reduceAdd,Int.reduceSub,Int.reduceMul,Nat.reduceAdd,Nat.reduceSub,Nat.reduceMul,Nat.reduceDiv,Nat.reduceMod,Nat.reduceBEq,Nat.reduceLeDiff];exact ⟨rfl,a2,hh.one a2 hc2⟩
theorem again_z {K:Kd} {H:Heap} {L:Nat → V} {rm:Nat → Rm} {Q:Nat → List Ot} {ns:List Nat} {nw:Int} (hh:DW K H L rm Q ns nw) (hz:ZK K) {i s lo:Nat} {av:Option Nat} {cells:List V} {x:Rp} (hi:i < 4) (hs:s < 8) (hx:RpW lo av H cells x) (hn:ns.getD 4 0 + 1 < 4611686018427387904) :
  Ok (sem T zcJ [.ptr K.d 0,.ptr K.d (i * 367),.int .i64 (s:Nat),.agg cells]) H fun r H'=>r = .tup [] ∧ AtS [K.cs] H H' ∧ DW K H' L rm Q (ns.set 4 (ns.getD 4 0 + 1)) nw:=by
 refine zih ?_;unfold zf4 uL uFM uNFM uNF uE uI uIM uO uc;refine zam (zaR hx.okc.1 ?_);rw [zai];have s0:=Grow.new H ⟨tyRp,cells,none⟩;have g0:(H.new ⟨tyRp,cells,none⟩).get H.next = some ⟨tyRp,cells,none⟩:=zad _ _;generalize hq:H.next = q at *;generalize H.new _ = H1 at *;have c2:cells[2]? = some (.int .u32 (x.ab:Nat)):=by
  obtain ⟨_,_,_,_,_,_,_,_,_,_,_,_,rfl,-⟩:=hx;rfl
 have h1:=hh.grow s0;have w:=@zaK _ _ _ _ (zr4 h1 hz hi hs (.int .u32 (x.ab:Nat)));obtain ⟨D,q,h,hQ⟩:=id h1;have g:=h.blk;have hco:=h.co;simp (maxSteps:=1000000) (disch:=first | omega | (simp only [RY] <;> omega) | decide) only [↓RD,RZ,eq_self,Int.reduceToNat,Int.reduceAdd,Int.reduceSub,Int.reduceMul,Nat.reduceAdd,Nat.reduceSub,Nat.reduceMul,Nat.reduceDiv,Nat.reduceMod,Nat.reduceBEq,Nat.reduceLeDiff,g0,c2,w,g,hco];refine zac (zjO (i:=4) h.cm h.Cc (by decide) hn) ?_;rintro _ H2 ⟨rfl,a2,hc2⟩;simp (maxSteps:=1000000) (disch:=first | omega | (simp only [RY] <;> omega) | decide) only [↓RD,RZ,eq_self,Int.reduceToNat,Int.reduceAdd,Int.reduceSub,Int.reduceMul,Nat.reduceAdd,Nat.reduceSub,Nat.reduceMul,Nat.reduceDiv,Nat.reduceMod,Nat.reduceBEq,Nat.reduceLeDiff];exact ⟨rfl,(s0.atS _).trans a2,h1.one a2 hc2⟩
end Go.Ax.SU
/- Rc14 -/
namespace Go.Ax.SU
open Go.Ax
def bl (n:Nat):Nat:=if n = 0 then 0 else n.log2 + 1
theorem bl_div (n:Nat) (h:0 < n):bl n = bl (n / 2) + 1:=by
 unfold bl;rw [if_neg (by omega)];by_cases e:n / 2 = 0
 ·rw [if_pos e];have:n = 1:=by omega
  subst this; rfl
 ·rw [if_neg e,Nat.log2_def,if_pos (by omega)]
theorem lt_bl (n:Nat):n < 2 ^ bl n:=by
 unfold bl;split
 ·omega
 ·exact Nat.lt_log2_self
theorem bl_le (n:Nat) (h:0 < n):2 ^ (bl n - 1) ≤ n:=by
 unfold bl;rw [if_neg (by omega)];exact Nat.log2_self_le (by omega)
theorem zdM (n k:Nat):bl n ≤ k ↔ n < 2 ^ k:=by
 constructor
 ·intro h; exact Nat.lt_of_lt_of_le (lt_bl n) (Nat.pow_le_pow_right (by decide) h)
 ·intro h;by_cases h0:n = 0
  ·subst h0; simp [bl]
  ·by_cases hk:bl n ≤ k
   ·exact hk
   ·have h1:=bl_le n (by omega);have:2 ^ k ≤ 2 ^ (bl n - 1):=Nat.pow_le_pow_right (by decide) (by omega);omega
theorem zjn (x:Nat) (h:x < 256):Ax.sindex (.str zbP) (.int .u8 (x:Int)) = some (.int .u8 (bl x:Nat)):=by
 have key:∀ y:Fin 256,(zbP[y.val]?).map UInt8.toNat = some (bl y.val):=by decide +kernel
 have:=key ⟨x,h⟩;simp only [Ax.sindex];rw [if_pos (by omega)];simp only [Int.toNat_natCast];cases ht:zbP[x]? with
 | none=>rw [ht] at this; cases this
 | some b=>rw [ht] at this; simp only [Option.map_some,Option.some.injEq] at this ⊢; rw [this]
theorem zpe (n k m:Nat) (hm:m = 2 ^ k) (h:0 < n / m):bl n = bl (n / m) + k:=by
 subst hm
 induction k with
 | zero=>simp
 | succ k ih =>
  have e:n / 2 ^ (k + 1) = (n / 2 ^ k) / 2:=by rw [Nat.pow_succ,Nat.div_div_eq_div_mul]
  rw [e] at h ⊢;have h':0 < n / 2 ^ k:=by omega
  rw [ih h',bl_div _ h']; omega
theorem len64 (n:Nat) (h:n < 18446744073709551616):sem T zcI [.int .u64 n] = M.pure (.int .i64 (bl n:Nat)):=by
 refine zqe fun H=>?_;refine zid ?_;unfold zf0 uL uB uc uq ug;simp (maxSteps:=1000000) (disch:=first | omega | (simp only [RY] <;> omega) | decide) only [↓RD,RZ,eq_self,Int.reduceToNat,Int.reduceAdd,Int.reduceSub,Int.reduceMul,Nat.reduceAdd,Nat.reduceSub,Nat.reduceMul,Nat.reduceDiv,Nat.reduceMod,Nat.reduceBEq,Nat.reduceLeDiff];refine zgk (fun h1=>?_) (fun h1=>?_)
 ·have b1:=zpe n 32 4294967296 rfl (by omega);simp (maxSteps:=1000000) (disch:=first | omega | (simp only [RY] <;> omega) | decide) only [↓RD,RZ,eq_self,Int.reduceToNat,Int.reduceAdd,Int.reduceSub,Int.reduceMul,Nat.reduceAdd,Nat.reduceSub,Nat.reduceMul,Nat.reduceDiv,Nat.reduceMod,Nat.reduceBEq,Nat.reduceLeDiff];refine zgk (fun h2=>?_) (fun h2=>?_)
  ·have b2:=zpe (n / 4294967296) 16 65536 rfl (by omega);simp (maxSteps:=1000000) (disch:=first | omega | (simp only [RY] <;> omega) | decide) only [↓RD,RZ,eq_self,Int.reduceToNat,Int.reduceAdd,Int.reduceSub,Int.reduceMul,Nat.reduceAdd,Nat.reduceSub,Nat.reduceMul,Nat.reduceDiv,Nat.reduceMod,Nat.reduceBEq,Nat.reduceLeDiff];refine zgk (fun h3=>?_) (fun h3=>?_)
   ·have b3:=zpe (n / 4294967296 / 65536) 8 256 rfl (by omega);have b8:bl (n / 4294967296 / 65536 / 256) ≤ 8:=(zdM _ 8).2 (by omega);simp (maxSteps:=1000000) (disch:=first | omega | (simp only [RY] <;> omega) | decide) only [↓RD,RZ,eq_self,Int.reduceToNat,Int.reduceAdd,Int.reduceSub,Int.reduceMul,Nat.reduceAdd,Nat.reduceSub,Nat.reduceMul,Nat.reduceDiv,Nat.reduceMod,Nat.reduceBEq,Nat.reduceLeDiff,zjn];congr 1; omega
   ·have b8:bl (n / 4294967296 / 65536) ≤ 8:=(zdM _ 8).2 (by omega);simp (maxSteps:=1000000) (disch:=first | omega | (simp only [RY] <;> omega) | decide) only [↓RD,RZ,eq_self,Int.reduceToNat,Int.reduceAdd,Int.reduceSub,Int.reduceMul,Nat.reduceAdd,Nat.reduceSub,Nat.reduceMul,Nat.reduceDiv,Nat.reduceMod,Nat.reduceBEq,Nat.reduceLeDiff,zjn];congr 1; omega
  ·simp (maxSteps:=1000000) (disch:=first | omega | (simp only [RY] <;> omega) | decide) only [↓RD,RZ,eq_self,Int.reduceToNat,Int.reduceAdd,Int.reduceSub,Int.reduceMul,Nat.reduceAdd,Nat.reduceSub,Nat.reduceMul,Nat.reduceDiv,Nat.reduceMod,Nat.reduceBEq,Nat.reduceLeDiff];refine zgk (fun h3=>?_) (fun h3=>?_)
   ·have b3:=zpe (n / 4294967296) 8 256 rfl (by omega);have b8:bl (n / 4294967296 / 256) ≤ 8:=(zdM _ 8).2 (by omega);simp (maxSteps:=1000000) (disch:=first | omega | (simp only [RY] <;> omega) | decide) only [↓RD,RZ,eq_self,Int.reduceToNat,Int.reduceAdd,Int.reduceSub,Int.reduceMul,Nat.reduceAdd,Nat.reduceSub,Nat.reduceMul,Nat.reduceDiv,Nat.reduceMod,Nat.reduceBEq,Nat.reduceLeDiff,zjn];congr 1; omega
   ·have b8:bl (n / 4294967296) ≤ 8:=(zdM _ 8).2 (by omega);simp (maxSteps:=1000000) (disch:=first | omega | (simp only [RY] <;> omega) | decide) only [↓RD,RZ,eq_self,Int.reduceToNat,Int.reduceAdd,Int.reduceSub,Int.reduceMul,Nat.reduceAdd,Nat.reduceSub,Nat.reduceMul,Nat.reduceDiv,Nat.reduceMod,Nat.reduceBEq,Nat.reduceLeDiff,zjn];congr 1; omega
 ·simp (maxSteps:=1000000) (disch:=first | omega | (simp only [RY] <;> omega) | decide) only [↓RD,RZ,eq_self,Int.reduceToNat,Int.reduceAdd,Int.reduceSub,Int.reduceMul,Nat.reduceAdd,Nat.reduceSub,Nat.reduceMul,Nat.reduceDiv,Nat.reduceMod,Nat.reduceBEq,Nat.reduceLeDiff];refine zgk (fun h2=>?_) (fun h2=>?_)
  ·have b2:=zpe n 16 65536 rfl (by omega);simp (maxSteps:=1000000) (disch:=first | omega | (simp only [RY] <;> omega) | decide) only [↓RD,RZ,eq_self,Int.reduceToNat,Int.reduceAdd,Int.reduceSub,Int.reduceMul,Nat.reduceAdd,Nat.reduceSub,Nat.reduceMul,Nat.reduceDiv,Nat.reduceMod,Nat.reduceBEq,Nat.reduceLeDiff];refine zgk (fun h3=>?_) (fun h3=>?_)
   ·have b3:=zpe (n / 65536) 8 256 rfl (by omega);have b8:bl (n / 65536 / 256) ≤ 8:=(zdM _ 8).2 (by omega);simp (maxSteps:=1000000) (disch:=first | omega | (simp only [RY] <;> omega) | decide) only [↓RD,RZ,eq_self,Int.reduceToNat,Int.reduceAdd,Int.reduceSub,Int.reduceMul,Nat.reduceAdd,Nat.reduceSub,Nat.reduceMul,Nat.reduceDiv,Nat.reduceMod,Nat.reduceBEq,Nat.reduceLeDiff,zjn];congr 1; omega
   ·have b8:bl (n / 65536) ≤ 8:=(zdM _ 8).2 (by omega);simp (maxSteps:=1000000) (disch:=first | omega | (simp only [RY] <;> omega) | decide) only [↓RD,RZ,eq_self,Int.reduceToNat,Int.reduceAdd,Int.reduceSub,Int.reduceMul,Nat.reduceAdd,Nat.reduceSub,Nat.reduceMul,Nat.reduceDiv,Nat.reduceMod,Nat.reduceBEq,Nat.reduceLeDiff,zjn];congr 1; omega
  ·simp (maxSteps:=1000000) (disch:=first | omega | (simp only [RY] <;> omega) | decide) only [↓RD,RZ,eq_self,Int.reduceToNat,Int.reduceAdd,Int.reduceSub,Int.reduceMul,Nat.reduceAdd,Nat.reduceSub,Nat.reduceMul,Nat.reduceDiv,Nat.reduceMod,Nat.reduceBEq,Nat.reduceLeDiff];refine zgk (fun h3=>?_) (fun h3=>?_)
   ·have b3:=zpe n 8 256 rfl (by omega);have b8:bl (n / 256) ≤ 8:=(zdM _ 8).2 (by omega);simp (maxSteps:=1000000) (disch:=first | omega | (simp only [RY] <;> omega) | decide) only [↓RD,RZ,eq_self,Int.reduceToNat,Int.reduceAdd,Int.reduceSub,Int.reduceMul,Nat.reduceAdd,Nat.reduceSub,Nat.reduceMul,Nat.reduceDiv,Nat.reduceMod,Nat.reduceBEq,Nat.reduceLeDiff,zjn];congr 1; omega
   ·have b8:bl (n) ≤ 8:=(zdM _ 8).2 (by omega);simp (maxSteps:=1000000) (disch:=first | omega | (simp only [RY] <;> omega) | decide) only [↓RD,RZ,eq_self,Int.reduceToNat,Int.reduceAdd,Int.reduceSub,Int.reduceMul,Nat.reduceAdd,Nat.reduceSub,Nat.reduceMul,Nat.reduceDiv,Nat.reduceMod,Nat.reduceBEq,Nat.reduceLeDiff,zjn];congr 1; omega
theorem shl_u64 {a k:Nat}:Ax.bin .shl (.int .u64 (a:Nat)) (.int .u64 (k:Nat)) = some (.int .u64 (a * 2 ^ min k 64 % 18446744073709551616:Nat)):=by
 have h0:¬ ((k:Nat):Int) < 0:=by omega
 simp only [Ax.bin,if_neg h0,wrap_u64,Int.toNat_natCast];have:((a:Nat):Int) * 2 ^ min k 64 = ((a * 2 ^ min k 64:Nat):Int):=by push_cast; rfl
 show some (V.int .u64 (((a:Nat):Int) * 2 ^ min k 64 % 18446744073709551616)) = _;rw [this];rfl
theorem mmx0 (a:Nat):Ax.minmax true (.int .i64 (a:Nat)) [.int .i64 0] = some (.int .i64 (a:Nat)):=by
 simp [Ax.minmax,Ax.min2];omega
theorem mmn64 {a:Nat} (h:a ≤ 64):Ax.minmax false (.int .i64 (a:Nat)) [.int .i64 64] = some (.int .i64 (a:Nat)):=by
 simp [Ax.minmax,Ax.min2];omega
structure RpO (x:Rp):Prop where
 ex:x.ex < 64
 mt:x.mt < 262144
 fi:x.k ≠ 5 → x.fi = []
 ss:x.k ≠ 6 → x.ss = []
 k:1 ≤ x.k ∧ x.k ≤ 7
 fl:x.fi.length ≤ 1200
 sl:x.ss.length ≤ 1200
theorem repX_o {t c:Nat} {l:List Nat} (h8:Ok8 l) (hl:l.length ≤ 1200):RpO (repX t c l):=by
 have hk:=zpz t c l;unfold repX;generalize zcD t c l = k at *;have p3:=zko (n:=3) (sk_8 (n:=9) (sk_8 (n:=4) h8));have p1:=zko (n:=1) (sk_8 (n:=8) (sk_8 (n:=4) h8));by_cases h:k ≤ 2 ∨ k = 7
 ·rw [if_pos h];exact ⟨Nat.zero_lt_succ _,Nat.zero_lt_succ _,fun _=>rfl,fun _=>rfl,hk,Nat.zero_le _,Nat.zero_le _⟩
 rw [if_neg h];refine ⟨?_,?_,fun h5=>?_,fun h6=>?_,hk,?_,?_⟩
 ·show abE k (sk 4 l) < 64;unfold abE; split <;> omega
 ·show abM k (sk 4 l) < 262144;unfold abM; split <;> omega
 ·show abF k (sk 4 l) = [];unfold abF; rw [if_neg h5]
 ·show abS k (sk 4 l) = [];unfold abS; rw [if_neg h6]
 ·show (abF k (sk 4 l)).length ≤ 1200;unfold abF;split
  ·rw [zoQ]; unfold rdN; rw [zgy,zgy]; omega
  ·exact Nat.zero_le _
 ·show (abS k (sk 4 l)).length ≤ 1200;unfold abS;split
  ·rw [zox]; omega
  ·exact Nat.zero_le _
theorem zrC {n:Nat} {m:List Nat} {xs:List Rp} (h8:Ok8 m) (hl:m.length ≤ 1200) (h:reps n m = some xs):xs.length ≤ n ∧ ∀ x ∈ xs,RpO x:=by
 induction n generalizing m xs with
 | zero=>unfold reps at h; cases h; exact ⟨Nat.le_refl _,fun x hx=>by cases hx⟩
 | succ n ih =>
  unfold reps at h;by_cases h0:m.length = 0
  ·rw [if_pos h0] at h; cases h; exact ⟨Nat.zero_le _,fun x hx=>by cases hx⟩
  rw [if_neg h0] at h;by_cases h4:m.length < 4
  ·rw [if_pos h4] at h; cases h
  rw [if_neg h4] at h;by_cases h1:rhd m = false
  ·rw [if_pos h1] at h; cases h
  rw [if_neg h1] at h;by_cases h2:m.length < 4 + 4 * rwl m
  ·rw [if_pos h2] at h; cases h
  rw [if_neg h2] at h;by_cases h3:zed (m.getD 1 0) (m.getD 0 0 % 32) (rbd m) = false
  ·rw [if_pos h3] at h; cases h
  rw [if_neg h3] at h;cases e:reps n (m.drop (4 + 4 * rwl m)) with
  | none=>rw [e] at h; cases h
  | some ys =>
   rw [e] at h;cases h;obtain ⟨i1,i2⟩:=ih (h8.drop _) (by rw [List.length_drop]; omega) e;refine ⟨by simpa using i1,fun x hx=>?_⟩;rcases List.mem_cons.1 hx with rfl | hx
   ·exact repX_o ((h8.drop 4).take _) (by unfold rbd; rw [List.length_take,List.length_drop]; omega)
   ·exact i2 x hx
theorem Rate_ok {H:Heap} {lo:Nat} {av:Option Nat} {cells:List V} {x:Rp} (hx:RpW lo av H cells x) (ho:RpO x):Ok (sem T zfg [.agg cells]) H fun r H'=>Grow H H':=by
 refine znC ?_;unfold zkY uL uFM uB uO uc uq;refine zam (zaR hx.okc.1 ?_);rw [zai];have s0:=Grow.new H ⟨tyRp,cells,none⟩;have g0:(H.new ⟨tyRp,cells,none⟩).get H.next = some ⟨tyRp,cells,none⟩:=zad _ _;generalize hq:H.next = q at *;generalize H.new _ = H1 at *;have c:cells[11]? = some (.int .u32 (x.mt:Nat)) ∧ cells[10]? = some (.int .i64 (x.ex:Nat)):=by
  obtain ⟨_,_,_,_,_,_,_,_,_,_,_,_,rfl,-⟩:=hx;exact ⟨rfl,rfl⟩
 have hm:=ho.mt;have he:=ho.ex;generalize x.mt = m at *;generalize x.ex = e at *;have cm:IntKind.u64.wrap ((m:Nat):Int) = ((m:Nat):Int):=by rw [wrap_u64]; omega
 have e1:=mmx0 e;have e2:=mmn64 (a:=e) (by omega);have lb:=(zdM m 18).2 (by omega);have l64:=len64 m (by omega);have sh:=@shl_u64 m e;generalize bl m = b at *;by_cases hz:m = 0
 ·subst hz;simp (maxSteps:=1000000) (disch:=first | omega | (simp only [RY] <;> omega) | decide) only [↓RD,RZ,eq_self,Int.reduceToNat,Int.reduceAdd,Int.reduceSub,Int.reduceMul,Nat.reduceAdd,Nat.reduceSub,Nat.reduceMul,Nat.reduceDiv,Nat.reduceMod,Nat.reduceBEq,Nat.reduceLeDiff,g0,c.1,c.2,cm,e1,e2];exact s0
 ·have z:(((m:Nat):Int) == 0) = false:=beq_false_of_ne (by omega);have z':(m == 0) = false:=beq_false_of_ne hz;have w1:IntKind.i64.wrap (((b:Nat):Int) + ((e:Nat):Int)) = ((b + e:Nat):Int):=by rw [wrap_i64 (by omega) (by omega)]; omega
  by_cases h64:64 < b + e
  ·have d:decide ((64:Int) < ((b + e:Nat):Int)) = true:=decide_eq_true (by omega);have d':decide (64 < b + e) = true:=decide_eq_true h64;simp (maxSteps:=1000000) (disch:=first | omega | (simp only [RY] <;> omega) | decide) only [↓RD,RZ,eq_self,Int.reduceToNat,Int.reduceAdd,Int.reduceSub,Int.reduceMul,Nat.reduceAdd,Nat.reduceSub,Nat.reduceMul,Nat.reduceDiv,Nat.reduceMod,Nat.reduceBEq,Nat.reduceLeDiff,g0,c.1,c.2,cm,e1,e2,z,z',l64,w1,d,d'];exact s0
  ·have d:decide ((64:Int) < ((b + e:Nat):Int)) = false:=decide_eq_false (by omega);have d':decide (64 < b + e) = false:=decide_eq_false h64;simp (maxSteps:=1000000) (disch:=first | omega | (simp only [RY] <;> omega) | decide) only [↓RD,RZ,eq_self,Int.reduceToNat,Int.reduceAdd,Int.reduceSub,Int.reduceMul,Nat.reduceAdd,Nat.reduceSub,Nat.reduceMul,Nat.reduceDiv,Nat.reduceMod,Nat.reduceBEq,Nat.reduceLeDiff,g0,c.1,c.2,cm,e1,e2,z,z',l64,w1,d,d',sh];exact s0
end Go.Ax.SU
/- Rc15 -/
namespace Go.Ax.SU
open Go.Ax
def wtR (x:Rp):Nat:=(if x.k = 3 ∨ x.k = 4 then 1 else 0) + x.fi.length + x.ss.length
def wtL (xs:List Rp):Nat:=(xs.map wtR).sum
theorem wtR_le {x:Rp} (h:RpO x):wtR x ≤ 2401:=by
 have:=h.fl;have:=h.sl;unfold wtR;split <;> omega
def nsC (ns:List Nat) (c:Nat):List Nat:=ns.set 4 (ns.getD 4 0 + c)
theorem nsC_0 (ns:List Nat):nsC ns 0 = ns:=by
 unfold nsC;apply List.ext_getElem?;intro j;rw [List.getElem?_set];by_cases h:4 = j
 ·subst h;rw [if_pos rfl];by_cases h4:4 < ns.length
  ·rw [if_pos h4,List.getD_eq_getElem?_getD,List.getElem?_eq_getElem h4]; rfl
  ·rw [if_neg h4,List.getElem?_eq_none (by omega)]
 ·rw [if_neg h]
theorem nsC_c {ns:List Nat} (h:4 < ns.length) (a b:Nat):(nsC ns a).set 4 ((nsC ns a).getD 4 0 + b) = nsC ns (a + b) ∧ (nsC ns a).getD 4 0 = ns.getD 4 0 + a:=by
 have e:(nsC ns a).getD 4 0 = ns.getD 4 0 + a:=by
  unfold nsC;rw [List.getD_eq_getElem?_getD,List.getElem?_set,if_pos rfl,if_pos h]; rfl
 refine ⟨?_,e⟩;rw [e];unfold nsC;rw [List.set_set,Nat.add_assoc]
theorem DW.n11 {K:Kd} {H:Heap} {L:Nat → V} {rm:Nat → Rm} {Q:Nat → List Ot} {ns:List Nat} {nw:Int} (h:DW K H L rm Q ns nw):ns.length = 11:=by
 obtain ⟨D,q,h1,h2⟩:=h;exact h1.cm.len
structure RI (K:Kd) (L:Nat → V) (rm:Nat → Rm) (Q:Nat → List Ot) (ns:List Nat) (nw:Int) (H0 H:Heap) (c:Nat):Prop where
 dw:DW K H L rm Q (nsC ns c) nw
 at':AtS [K.cs] H0 H
theorem RI.one {K:Kd} {L:Nat → V} {rm:Nat → Rm} {Q:Nat → List Ot} {ns:List Nat} {nw:Int} {H0 H H':Heap} {c:Nat} (h:RI K L rm Q ns nw H0 H c) (h4:4 < ns.length) (a:AtS [K.cs] H H') (d:DW K H' L rm Q ((nsC ns c).set 4 ((nsC ns c).getD 4 0 + 1)) nw):RI K L rm Q ns nw H0 H' (c + 1) :=
 ⟨by rw [(nsC_c h4 c 1).1] at d; exact d,h.at'.trans a⟩
theorem RI.grow {K:Kd} {L:Nat → V} {rm:Nat → Rm} {Q:Nat → List Ot} {ns:List Nat} {nw:Int} {H0 H H':Heap} {c:Nat} (h:RI K L rm Q ns nw H0 H c) (s:Grow H H'):RI K L rm Q ns nw H0 H' c:=⟨h.dw.grow s,h.at'.trans (s.atS _)⟩
theorem firs_z {K:Kd} {L:Nat → V} {rm:Nat → Rm} {Q:Nat → List Ot} {ns:List Nat} {nw:Int} {H0 H:Heap} {c i s lo:Nat} {fv:V} {fi:List (Nat × Nat)} (h:RI K L rm Q ns nw H0 H c) (hz:ZK K) (hi:i < 4) (hs:s < 8) (hf:Lc 2 lo H fv (frC fi) fi.length) (hl:fi.length ≤ 1200) (hlo:K.lo ≤ lo) (h4:ns.length = 11) (hc:ns.getD 4 0 + c + fi.length < 4611686018427387904) (hcs:K.cs < K.lo) :
  Ok (M.iter (zb1 (sem T) (.int .i64 (fi.length:Nat)) fv (.ptr K.d 0) (.ptr K.d (i * 367)) (.int .i64 (s:Nat))) [.int .i64 0]) H fun r H'=>r = .ex 3 [] ∧ RI K L rm Q ns nw H0 H' (c + fi.length) ∧ AtS [K.cs] H H':=by
 refine zaV (fun j L0 H'=>L0 = [.int .i64 (j:Nat)] ∧ RI K L rm Q ns nw H0 H' (c + j) ∧ AtS [K.cs] H H') fi.length ⟨rfl,h,AtS.refl _ _⟩ ?_ ?_
 ·rintro j _ H1 hj ⟨rfl,h1,a1⟩;have hf1:=Lc.atS hf a1 fun k hk e=>by have:=(hf.own k hk).1; rw [List.mem_singleton] at e; omega
  have d1:decide (((j:Nat):Int) < ((fi.length:Nat):Int)) = true:=decide_eq_true (by omega);have d1':decide (j < fi.length) = true:=decide_eq_true hj;have w1:IntKind.i64.wrap (((j:Nat):Int) + 1) = ((j + 1:Nat):Int):=by rw [wrap_i64 (by omega) (by omega)]; omega
  obtain ⟨p,hp,hpl⟩:=hf1.at (i:=(j:Nat)) (by omega) (by omega);have e:=(zmX (k:=2) (fi.map fun p=>[V.int .u32 (p.1:Nat),V.int .u8 (p.2:Nat)]) (fun x hx=>by
   obtain ⟨w,hw,rfl⟩:=List.mem_map.1 hx;rfl) j [V.int .u32 (fi[j].1:Nat),V.int .u8 (fi[j].2:Nat)] (by rw [List.getElem?_map,List.getElem?_eq_getElem hj]; rfl)).1
  rw [Int.toNat_natCast] at hpl;have hpl:Pl H1 p [V.int .u32 (fi[j].1:Nat),V.int .u8 (fi[j].2:Nat)] fv.pid:=e ▸ hpl;have la:LdR (some 2) H1 p (.agg [V.int .u32 (fi[j].1:Nat),V.int .u8 (fi[j].2:Nat)]):=hpl.all;have n4:=(nsC_c (by omega:4 < ns.length) (c + j) 1);unfold zb1 uS uT uFM uB uI uO uc ub ug;simp (maxSteps:=1000000) (disch:=first | omega | (simp only [RY] <;> omega) | decide) only [↓RD,RZ,eq_self,Int.reduceToNat,Int.reduceAdd,Int.reduceSub,Int.reduceMul,Nat.reduceAdd,Nat.reduceSub,Nat.reduceMul,Nat.reduceDiv,Nat.reduceMod,Nat.reduceBEq,Nat.reduceLeDiff,d1,d1',hp,la];generalize hHH:Heap.set _ H1.next _ = HH;have sH:Grow H1 HH:=by rw [← hHH]; exact (Grow.new H1 _).set (Nat.le_refl _) _
  clear hHH;have h2:=h1.grow sH;refine zac (lost_z h2.dw hz hi hs _ (by rw [n4.2]; omega)) ?_;rintro _ H3 ⟨rfl,a3,d3⟩;simp (maxSteps:=1000000) (disch:=first | omega | (simp only [RY] <;> omega) | decide) only [↓RD,RZ,eq_self,Int.reduceToNat,Int.reduceAdd,Int.reduceSub,Int.reduceMul,Nat.reduceAdd,Nat.reduceSub,Nat.reduceMul,Nat.reduceDiv,Nat.reduceMod,Nat.reduceBEq,Nat.reduceLeDiff,w1];exact ⟨h2.one (by omega) a3 d3,a1.trans ((sH.atS _).trans a3)⟩
 ·rintro _ H1 ⟨rfl,h1,a1⟩;have d1:decide (((fi.length:Nat):Int) < ((fi.length:Nat):Int)) = false:=decide_eq_false (by omega);have d1':decide (fi.length < fi.length) = false:=decide_eq_false (by omega);unfold zb1 uS uT uFM uB uI uO uc ub ug;simp (maxSteps:=1000000) (disch:=first | omega | (simp only [RY] <;> omega) | decide) only [↓RD,RZ,eq_self,Int.reduceToNat,Int.reduceAdd,Int.reduceSub,Int.reduceMul,Nat.reduceAdd,Nat.reduceSub,Nat.reduceMul,Nat.reduceDiv,Nat.reduceMod,Nat.reduceBEq,Nat.reduceLeDiff,d1,d1'];exact ⟨h1,a1⟩
theorem rembs_z {K:Kd} {L:Nat → V} {rm:Nat → Rm} {Q:Nat → List Ot} {ns:List Nat} {nw:Int} {H0 H:Heap} {c i s lo q:Nat} {av:Option Nat} {cells:List V} {x:Rp} {sv:V} (h:RI K L rm Q ns nw H0 H c) (hz:ZK K) (hi:i < 4) (hs:s < 8) (hf:Lc 1 lo H sv (ssC x.ss) x.ss.length) (hx:RpW lo av H cells x) (ho:RpO x) (hlo:K.lo ≤ lo) (h4:ns.length = 11) (hc:ns.getD 4 0 + c + x.ss.length < 4611686018427387904) (hcs:K.cs < K.lo)
  (g:H.get q = some ⟨tyRp,cells,none⟩) (hq:q < H.next) (hq2:K.lo ≤ q) :
  Ok (M.iter (zb0 (sem T) (.int .i64 (x.ss.length:Nat)) sv (.ptr K.d 0) (.ptr K.d (i * 367)) (.int .i64 (s:Nat)) (.ptr q 0)) [.int .i64 0]) H fun r H'=>r = .ex 5 [] ∧ RI K L rm Q ns nw H0 H' (c + x.ss.length) ∧ AtS [K.cs] H H':=by
 have hsl:=ho.sl;refine zaV (fun j L0 H'=>L0 = [.int .i64 (j:Nat)] ∧ RI K L rm Q ns nw H0 H' (c + j) ∧ AtS [K.cs] H H') x.ss.length ⟨rfl,h,AtS.refl _ _⟩ ?_ ?_
 ·rintro j _ H1 hj ⟨rfl,h1,a1⟩;have hf1:=Lc.atS hf a1 fun k hk e=>by have:=(hf.own k hk).1; rw [List.mem_singleton] at e; omega
  have hx1:=hx.atS (av':=none) a1 (fun k hk=>.inr (by rw [List.mem_singleton] at hk; omega)) fun k hk=>by cases hk
  have g1:=(a1.same q hq (by simp; omega)).trans g;have d1:decide (((j:Nat):Int) < ((x.ss.length:Nat):Int)) = true:=decide_eq_true (by omega);have d1':decide (j < x.ss.length) = true:=decide_eq_true hj;have w1:IntKind.i64.wrap (((j:Nat):Int) + 1) = ((j + 1:Nat):Int):=by rw [wrap_i64 (by omega) (by omega)]; omega
  obtain ⟨p,hp,hpl⟩:=hf1.at (i:=(j:Nat)) (by omega) (by omega);rw [Int.toNat_natCast,Nat.mul_one] at hpl;have e:((ssC x.ss).drop j).take 1 = [V.int .u32 (x.ss[j]:Nat)]:=by
   unfold ssC;rw [List.drop_eq_getElem_cons (by rw [List.length_map]; exact hj),List.getElem_map];rfl
  rw [e] at hpl;have l0:=fun {f Q}=>hpl.ld0 (Nat.zero_lt_succ _) (f:=f) (Q:=Q);have ld:ldc (some 16) cells 0 = some (.agg cells):=by
   obtain ⟨_,_,_,_,_,_,_,_,_,_,_,_,rfl,-⟩:=hx;rfl
  have n4:=(nsC_c (by omega:4 < ns.length) (c + j) 1);have i0:([V.int .u32 (x.ss[j]:Nat)]:List V)[0]? = some (V.int .u32 (x.ss[j]:Nat)):=rfl;unfold zb0 uS uB uIM uc ug;simp (maxSteps:=1000000) (disch:=first | omega | (simp only [RY] <;> omega) | decide) only [↓RD,RZ,eq_self,Int.reduceToNat,Int.reduceAdd,Int.reduceSub,Int.reduceMul,Nat.reduceAdd,Nat.reduceSub,Nat.reduceMul,Nat.reduceDiv,Nat.reduceMod,Nat.reduceBEq,Nat.reduceLeDiff,d1,d1',hp,l0,i0,g1,ld];refine zac (Rate_ok hx1 ho) ?_;rintro y H2 sH;have h2:=h1.grow sH;refine zac (room_z h2.dw hz hi hs _ _ (by rw [n4.2]; omega)) ?_;rintro _ H3 ⟨rfl,a3,d3⟩;simp (maxSteps:=1000000) (disch:=first | omega | (simp only [RY] <;> omega) | decide) only [↓RD,RZ,eq_self,Int.reduceToNat,Int.reduceAdd,Int.reduceSub,Int.reduceMul,Nat.reduceAdd,Nat.reduceSub,Nat.reduceMul,Nat.reduceDiv,Nat.reduceMod,Nat.reduceBEq,Nat.reduceLeDiff,w1];exact ⟨h2.one (by omega) a3 d3,a1.trans ((sH.atS _).trans a3)⟩
 ·rintro _ H1 ⟨rfl,h1,a1⟩;have d1:decide (((x.ss.length:Nat):Int) < ((x.ss.length:Nat):Int)) = false:=decide_eq_false (by omega);have d1':decide (x.ss.length < x.ss.length) = false:=decide_eq_false (by omega);unfold zb0 uS uB uIM uc ug;simp (maxSteps:=1000000) (disch:=first | omega | (simp only [RY] <;> omega) | decide) only [↓RD,RZ,eq_self,Int.reduceToNat,Int.reduceAdd,Int.reduceSub,Int.reduceMul,Nat.reduceAdd,Nat.reduceSub,Nat.reduceMul,Nat.reduceDiv,Nat.reduceMod,Nat.reduceBEq,Nat.reduceLeDiff,d1,d1'];exact ⟨h1,a1⟩
end Go.Ax.SU
/- Rc16 -/
namespace Go.Ax.SU
open Go.Ax
theorem zpm {xs:List Rp} {j:Nat} (h:j < xs.length):wtL (xs.take (j + 1)) = wtL (xs.take j) + wtR (xs.getD j default):=by
 unfold wtL;rw [List.take_add_one,List.map_append,List.sum_append,List.getD_eq_getElem?_getD,List.getElem?_eq_getElem h];simp
theorem zpn {xs:List Rp} (h:∀ x ∈ xs,RpO x):wtL xs ≤ xs.length * 2401:=by
 induction xs with
 | nil=>exact Nat.zero_le _
 | cons x xs ih =>
  have h1:=wtR_le (h x (by simp));have h2:=ih fun y hy=>h y (by simp [hy]);unfold wtL at *;rw [List.map_cons,List.sum_cons,List.length_cons];omega
set_option maxHeartbeats 2000000 in
theorem zno {K:Kd} {L:Nat → V} {rm:Nat → Rm} {Q:Nat → List Ot} {ns:List Nat} {nw:Int} {H:Heap} {i s lo:Nat} {v:V} {xs:List Rp} (h:DW K H L rm Q ns nw) (hz:ZK K) (hi:i < 4) (hs:s < 8) (hv:Rps lo H v xs) (ho:∀ x ∈ xs,RpO x) (hxl:xs.length ≤ 1200) (hlo:K.lo ≤ lo) (hc:ns.getD 4 0 < 1000000) :
  Ok (M.iter (zbZ (sem T) (.int .i64 (xs.length:Nat)) v (.ptr K.d 0) (.ptr K.d (i * 367)) (.int .i64 (s:Nat))) [.int .i64 0]) H fun r H'=>r = .ex 0 [] ∧ RI K L rm Q ns nw H H' (wtL xs):=by
 have n11:=h.n11;have hcs:K.cs < K.lo:=by obtain ⟨D,q,h1,-⟩:=h; exact h1.cl
 obtain ⟨css,ha,hcl,hcw⟩:=hv.ex;have hcl16:∀ c ∈ css,c.length = 16:=fun c hc=>by
  obtain ⟨j,hj,rfl⟩:=List.getElem_of_mem hc;have:=(hcw j (by omega)).len
  rwa [List.getD_eq_getElem?_getD,List.getElem?_eq_getElem hj] at this
 have hall:=zpn ho;refine zaV (fun j L0 H'=>L0 = [.int .i64 (j:Nat)] ∧ RI K L rm Q ns nw H H' (wtL (xs.take j))) xs.length ⟨rfl,by rw [List.take_zero]; show DW K H L rm Q (nsC ns 0) nw; rw [nsC_0]; exact h,AtS.refl _ _⟩ ?_ ?_
 ·rintro j _ H1 hj ⟨rfl,h1⟩;have a1:=h1.at';have hle:wtL (xs.take j) ≤ 1200 * 2401:=by
   have:=zpn (xs:=xs.take j) fun x hx=>ho x (List.mem_of_mem_take hx);rw [List.length_take] at this;omega
  have hw1:=zpm hj;have hoj:RpO (xs.getD j default):=by
   rw [List.getD_eq_getElem?_getD,List.getElem?_eq_getElem hj]; exact ho _ (List.getElem_mem hj)
  have hwj:=wtR_le hoj;have wr1:wtR (xs.getD j default) = (if (xs.getD j default).k = 3 ∨ (xs.getD j default).k = 4 then 1 else 0) + (xs.getD j default).fi.length + (xs.getD j default).ss.length:=rfl;have hx:=(hcw j hj).atS (av':=none) a1 (fun k hk=>.inr (by rw [List.mem_singleton] at hk; omega)) fun k hk=>by cases hk
  have hf1:=Lc.atS ha.lc a1 fun k hk e=>by have:=(ha.lc.own k hk).1; rw [List.mem_singleton] at e; omega
  obtain ⟨p,hp,hpl⟩:=hf1.at (i:=(j:Nat)) (by omega) (by omega);have e:=(zmX (k:=16) css hcl16 j (css.getD j []) (by rw [List.getD_eq_getElem?_getD,List.getElem?_eq_getElem (by omega)]; rfl)).1;rw [Int.toNat_natCast] at hpl;have hpl:Pl H1 p (css.getD j []) v.pid:=e ▸ hpl;have la:=hpl.all;rw [hx.len] at la;generalize css.getD j [] = cs at *;generalize xs.getD j default = x at *;generalize hW:wtL (xs.take j) = W at *;rw [hw1];have d1:decide (((j:Nat):Int) < ((xs.length:Nat):Int)) = true:=decide_eq_true (by omega);have d1':decide (j < xs.length) = true:=decide_eq_true hj;have w1:IntKind.i64.wrap (((j:Nat):Int) + 1) = ((j + 1:Nat):Int):=by rw [wrap_i64 (by omega) (by omega)]; omega
  have hxb:=hx;obtain ⟨fr,ntp,ts,pk,oc,bl,pv,fv,sv,ty,ct,bd,ec,lf,ls,-,-,bb,-⟩:=hxb;have spl:splice [.int .i64 0,.int .u32 0,.int .u32 0,.int .u64 0,.int .u32 0,.int .u32 0,.int .u32 0,.nils,.nils,.nils,.int .i64 0,.int .u32 0,.nils,.int .i64 0,.int .i64 0,.nils] 0 cs = cs:=by rw [ec]; rfl
  have c0:cs[0]? = some (.int .i64 (x.k:Nat)):=by rw [ec]; rfl
  have c2:cs[2]? = some (.int .u32 (x.ab:Nat)):=by rw [ec]; rfl
  have c9:cs[9]? = some fv:=by rw [ec]; rfl
  have c12:cs[12]? = some sv:=by rw [ec]; rfl
  have c16:=hx.len;have cok:=hx.okc.1;have cag:=hx.okc.2;have ld:ldc (some 16) cs 0 = some (.agg cs):=by rw [ec]; rfl
  have b (n:Nat):(((x.k:Nat):Int) == ((n:Nat):Int)) = decide (x.k = n):=zm6 x.k n;have hk:=hoj.k;have sHH:∀ {bb:Blk} {b':Option Blk},Grow H1 ((H1.new bb).set H1.next b'):=fun {bb b'}=>(Grow.new H1 bb).set (Nat.le_refl _) _;have n4:=(nsC_c (by omega:4 < ns.length) W 1);have n1:=a1.next;have htop:K.lo ≤ H.next:=by obtain ⟨D,q,h1,-⟩:=h; exact h1.pm.top
  unfold zbZ uL uS uT uFM uB uI uO uc uq ug;by_cases h3:x.k = 3
  ·have b3:(((x.k:Nat):Int) == 3) = true:=(b 3).trans (decide_eq_true h3);have b3':(x.k == 3) = true:=by rw [h3]; rfl
   have ew:wtR x = 1:=by rw [wr1,if_pos (.inl h3),hoj.fi (by omega),hoj.ss (by omega)]; rfl
   rw [ew];simp (maxSteps:=1000000) (disch:=first | omega | (simp only [RY] <;> omega) | decide) only [↓RD,RZ,eq_self,Int.reduceToNat,Int.reduceAdd,Int.reduceSub,Int.reduceMul,Nat.reduceAdd,Nat.reduceSub,Nat.reduceMul,Nat.reduceDiv,Nat.reduceMod,Nat.reduceBEq,Nat.reduceLeDiff,d1,d1',hp,la,spl,c0,c16,cok,cag,b3,b3',ld];generalize hHH:Heap.set _ H1.next _ = HH;have sH:Grow H1 HH:=by rw [← hHH]; exact sHH
   clear hHH;have h2:=h1.grow sH;refine zac (again_z h2.dw hz hi hs (hx.atS (av':=none) (sH.atS []) (by simp) fun k hk=>by cases hk) (by rw [n4.2]; omega)) ?_;rintro _ H3 ⟨rfl,a3,d3⟩;simp (maxSteps:=1000000) (disch:=first | omega | (simp only [RY] <;> omega) | decide) only [↓RD,RZ,eq_self,Int.reduceToNat,Int.reduceAdd,Int.reduceSub,Int.reduceMul,Nat.reduceAdd,Nat.reduceSub,Nat.reduceMul,Nat.reduceDiv,Nat.reduceMod,Nat.reduceBEq,Nat.reduceLeDiff,w1];exact h2.one (by omega) a3 d3
  have b3:(((x.k:Nat):Int) == 3) = false:=(b 3).trans (decide_eq_false h3);have b3':(x.k == 3) = false:=beq_false_of_ne h3;by_cases h4:x.k = 4
  ·have b4:(((x.k:Nat):Int) == 4) = true:=(b 4).trans (decide_eq_true h4);have b4':(x.k == 4) = true:=by rw [h4]; rfl
   have ew:wtR x = 1:=by rw [wr1,if_pos (.inr h4),hoj.fi (by omega),hoj.ss (by omega)]; rfl
   rw [ew];simp (maxSteps:=1000000) (disch:=first | omega | (simp only [RY] <;> omega) | decide) only [↓RD,RZ,eq_self,Int.reduceToNat,Int.reduceAdd,Int.reduceSub,Int.reduceMul,Nat.reduceAdd,Nat.reduceSub,Nat.reduceMul,Nat.reduceDiv,Nat.reduceMod,Nat.reduceBEq,Nat.reduceLeDiff,d1,d1',hp,la,spl,c0,c2,c16,cok,cag,b3,b3',b4,b4',ld];generalize hHH:Heap.set _ H1.next _ = HH;have sH:Grow H1 HH:=by rw [← hHH]; exact sHH
   clear hHH;have h2:=h1.grow sH;refine zac (lost_z h2.dw hz hi hs _ (by rw [n4.2]; omega)) ?_;rintro _ H3 ⟨rfl,a3,d3⟩;simp (maxSteps:=1000000) (disch:=first | omega | (simp only [RY] <;> omega) | decide) only [↓RD,RZ,eq_self,Int.reduceToNat,Int.reduceAdd,Int.reduceSub,Int.reduceMul,Nat.reduceAdd,Nat.reduceSub,Nat.reduceMul,Nat.reduceDiv,Nat.reduceMod,Nat.reduceBEq,Nat.reduceLeDiff,w1];exact h2.one (by omega) a3 d3
  have b4:(((x.k:Nat):Int) == 4) = false:=(b 4).trans (decide_eq_false h4);have b4':(x.k == 4) = false:=beq_false_of_ne h4;have n34:¬ (x.k = 3 ∨ x.k = 4):=by omega
  rw [if_neg n34,Nat.zero_add] at wr1;by_cases h5:x.k = 5
  ·have b5:(((x.k:Nat):Int) == 5) = true:=(b 5).trans (decide_eq_true h5);have b5':(x.k == 5) = true:=by rw [h5]; rfl
   rw [hoj.ss (by omega)] at wr1;have ew:wtR x = x.fi.length:=wr1;rw [ew];have vf:=lf.vlen;simp (maxSteps:=1000000) (disch:=first | omega | (simp only [RY] <;> omega) | decide) only [↓RD,RZ,eq_self,Int.reduceToNat,Int.reduceAdd,Int.reduceSub,Int.reduceMul,Nat.reduceAdd,Nat.reduceSub,Nat.reduceMul,Nat.reduceDiv,Nat.reduceMod,Nat.reduceBEq,Nat.reduceLeDiff,d1,d1',hp,la,spl,c0,c9,c16,cok,cag,b3,b3',b4,b4',b5,b5',ld,vf];generalize hHH:Heap.set _ H1.next _ = HH;have sH:Grow H1 HH:=by rw [← hHH]; exact sHH
   clear hHH;have h2:=h1.grow sH;refine zau (firs_z h2 hz hi hs (Lc.atS lf (sH.atS []) (by simp)) hoj.fl hlo n11 (by omega) hcs) ?_;rintro _ H3 ⟨rfl,h3,-⟩;simp (maxSteps:=1000000) (disch:=first | omega | (simp only [RY] <;> omega) | decide) only [↓RD,RZ,eq_self,Int.reduceToNat,Int.reduceAdd,Int.reduceSub,Int.reduceMul,Nat.reduceAdd,Nat.reduceSub,Nat.reduceMul,Nat.reduceDiv,Nat.reduceMod,Nat.reduceBEq,Nat.reduceLeDiff,w1];exact h3
  have b5:(((x.k:Nat):Int) == 5) = false:=(b 5).trans (decide_eq_false h5);have b5':(x.k == 5) = false:=beq_false_of_ne h5;rw [hoj.fi h5] at wr1;by_cases h6:x.k = 6
  ·have b6:(((x.k:Nat):Int) == 6) = true:=(b 6).trans (decide_eq_true h6);have b6':(x.k == 6) = true:=by rw [h6]; rfl
   have ew:wtR x = x.ss.length:=by rw [wr1]; simp
   rw [ew];have vs:=ls.vlen;have:=hoj.sl;simp (maxSteps:=1000000) (disch:=first | omega | (simp only [RY] <;> omega) | decide) only [↓RD,RZ,eq_self,Int.reduceToNat,Int.reduceAdd,Int.reduceSub,Int.reduceMul,Nat.reduceAdd,Nat.reduceSub,Nat.reduceMul,Nat.reduceDiv,Nat.reduceMod,Nat.reduceBEq,Nat.reduceLeDiff,d1,d1',hp,la,spl,c0,c12,c16,cok,cag,b3,b3',b4,b4',b5,b5',b6,b6',ld,vs];generalize hHH:Heap.set _ H1.next _ = HH;have sH:Grow H1 HH:=by rw [← hHH]; exact sHH
   have gH:HH.get H1.next = some ⟨tyRp,cs,none⟩:=by rw [← hHH]; exact zak _ _ _
   have nH:HH.next = H1.next + 1:=by rw [← hHH]; rfl
   clear hHH;have h2:=h1.grow sH;refine zau (rembs_z h2 hz hi hs (Lc.atS ls (sH.atS []) (by simp)) (hx.atS (av':=none) (sH.atS []) (by simp) fun k hk=>by cases hk) hoj hlo n11 (by omega) hcs gH (by omega) (by omega)) ?_;rintro _ H3 ⟨rfl,h3,-⟩;simp (maxSteps:=1000000) (disch:=first | omega | (simp only [RY] <;> omega) | decide) only [↓RD,RZ,eq_self,Int.reduceToNat,Int.reduceAdd,Int.reduceSub,Int.reduceMul,Nat.reduceAdd,Nat.reduceSub,Nat.reduceMul,Nat.reduceDiv,Nat.reduceMod,Nat.reduceBEq,Nat.reduceLeDiff,w1];exact h3
  have b6:(((x.k:Nat):Int) == 6) = false:=(b 6).trans (decide_eq_false h6);have b6':(x.k == 6) = false:=beq_false_of_ne h6;have ew:wtR x = 0:=by rw [wr1,hoj.ss h6]; rfl
  rw [ew];simp (maxSteps:=1000000) (disch:=first | omega | (simp only [RY] <;> omega) | decide) only [↓RD,RZ,eq_self,Int.reduceToNat,Int.reduceAdd,Int.reduceSub,Int.reduceMul,Nat.reduceAdd,Nat.reduceSub,Nat.reduceMul,Nat.reduceDiv,Nat.reduceMod,Nat.reduceBEq,Nat.reduceLeDiff,d1,d1',hp,la,spl,c0,c16,cok,cag,b3,b3',b4,b4',b5,b5',b6,b6',ld,w1];exact h1.grow sHH
 ·rintro _ H1 ⟨rfl,h1⟩;have d1:decide (((xs.length:Nat):Int) < ((xs.length:Nat):Int)) = false:=decide_eq_false (by omega);have d1':decide (xs.length < xs.length) = false:=decide_eq_false (by omega);rw [List.take_length] at h1;unfold zbZ uL uS uT uFM uB uI uO uc uq ug;simp (maxSteps:=1000000) (disch:=first | omega | (simp only [RY] <;> omega) | decide) only [↓RD,RZ,eq_self,Int.reduceToNat,Int.reduceAdd,Int.reduceSub,Int.reduceMul,Nat.reduceAdd,Nat.reduceSub,Nat.reduceMul,Nat.reduceDiv,Nat.reduceMod,Nat.reduceBEq,Nat.reduceLeDiff,d1,d1'];exact h1
def repsN (ns:List Nat) (b:List Nat):List Nat:=match reps b.length b with | none=>ns.set 3 (ns.getD 3 0 + 1) | some xs=>nsC ns (wtL xs)
theorem zrD {K:Kd} {L:Nat → V} {rm:Nat → Rm} {Q:Nat → List Ot} {ns:List Nat} {nw:Int} {H:Heap} {i s lb:Nat} {bv:V} {b:List Nat} (h:DW K H L rm Q ns nw) (hz:ZK K) (hi:i < 4) (hs:s < 8) (hb:By lb H bv b) (h8:Ok8 b) (hl:b.length ≤ 1200) (h0:0 < b.length) (hc:ns.getD 4 0 < 1000000) (hc3:ns.getD 3 0 < 1000000) :
  Ok (sem T zcb [.ptr K.d 0,.ptr K.d (i * 367),.int .i64 (s:Nat),bv]) H fun r H'=>r = .tup [] ∧ FrD K.lo L L H H' ∧ DW K H' L rm Q (repsN ns b) nw:=by
 refine zhq ?_;unfold ze4 uL uNFM uE uB uc;refine zac (zs8 hb h8 hl h0) ?_;rintro _ H1 ⟨s1,v,e,rfl,he0,he1⟩;have h1:=h.grow s1;obtain ⟨D,q,hd,hQ⟩:=id h1;have g:=hd.blk;have hco:=hd.co;have hcl:=hd.cl;unfold repsN;cases hr:reps b.length b with
 | none =>
  have ne:(e == 0) = false:=beq_false_of_ne (he0 hr);simp (maxSteps:=1000000) (disch:=first | omega | (simp only [RY] <;> omega) | decide) only [↓RD,RZ,eq_self,Int.reduceToNat,Int.reduceAdd,Int.reduceSub,Int.reduceMul,Nat.reduceAdd,Nat.reduceSub,Nat.reduceMul,Nat.reduceDiv,Nat.reduceMod,Nat.reduceBEq,Nat.reduceLeDiff,ne,g,hco];refine zac (zjO (i:=3) hd.cm hd.Cc (by decide) (by omega)) ?_;rintro _ H2 ⟨rfl,a2,hc2⟩;simp (maxSteps:=1000000) (disch:=first | omega | (simp only [RY] <;> omega) | decide) only [↓RD,RZ,eq_self,Int.reduceToNat,Int.reduceAdd,Int.reduceSub,Int.reduceMul,Nat.reduceAdd,Nat.reduceSub,Nat.reduceMul,Nat.reduceDiv,Nat.reduceMod,Nat.reduceBEq,Nat.reduceLeDiff];exact ⟨rfl,(s1.frD _ _).trans (FrD.low a2 L fun k hk=>by simp only [List.mem_singleton] at hk; subst hk; exact hcl),h1.one a2 hc2⟩
 | some xs =>
  obtain ⟨rfl,hR⟩:=he1 xs hr;obtain ⟨x1,x2⟩:=zrC h8 hl hr;obtain ⟨css,ha,-⟩:=hR.ex;have vl:=ha.lc.vlen;simp (maxSteps:=1000000) (disch:=first | omega | (simp only [RY] <;> omega) | decide) only [↓RD,RZ,eq_self,Int.reduceToNat,Int.reduceAdd,Int.reduceSub,Int.reduceMul,Nat.reduceAdd,Nat.reduceSub,Nat.reduceMul,Nat.reduceDiv,Nat.reduceMod,Nat.reduceBEq,Nat.reduceLeDiff,vl];refine zau (zno h1 hz hi hs hR x2 (by omega) h.lo hc) ?_;rintro _ H2 ⟨rfl,h2⟩;simp (maxSteps:=1000000) (disch:=first | omega | (simp only [RY] <;> omega) | decide) only [↓RD,RZ,eq_self,Int.reduceToNat,Int.reduceAdd,Int.reduceSub,Int.reduceMul,Nat.reduceAdd,Nat.reduceSub,Nat.reduceMul,Nat.reduceDiv,Nat.reduceMod,Nat.reduceBEq,Nat.reduceLeDiff];exact ⟨rfl,(s1.frD _ _).trans (FrD.low h2.at' L fun k hk=>by simp only [List.mem_singleton] at hk; subst hk; exact hcl),h2.dw⟩
end Go.Ax.SU
