/-
  Texts of mine, put together by program (wip/slim.py), for law_seatFresh: part 13.
-/
import Derived.Test.YtboeopafnogfmaaGreatZf12
noncomputable section
set_option linter.unusedVariables false
set_option linter.unusedSimpArgs false
set_option linter.defProp false
set_option maxRecDepth 100000
/- Rtp15 -/
namespace Go.Ax.R7
open Go.Ax
def b0(p:Pkt):Nat:=128+p.csrc.length+(if 0<p.pad then 32 else 0)+(if p.prof=0 then 0 else 16)
def b1(p:Pkt):Nat:=p.typ.toNat+(if p.mark=true then 128 else 0)
def xb(prof:Int)(x:X):List Nat:=(if prof=48862 then [16*x.1.toNat+(x.2.length-1)] else [x.1.toNat,x.2.length])++x.2
def xsb(p:Pkt):List Nat:=(p.exts.map (xb p.prof)).flatten
def padn(n:Nat):Nat:=(4-n%4)%4
def elems(p:Pkt):List Nat:=xsb p++List.replicate (padn (xsb p).length) 0
structure Gd (p:Pkt):Prop where
 a:(0<=p.typ/\p.typ<=127)/\p.csrc.length<=15/\(0<=p.pad/\p.pad<=255)
 b:p.prof=0->p.exts=[]
 c:p.prof=0\/p.prof=48862\/p.prof=4096
 d:∀x∈p.exts,goodX p.prof x=true
def zsX{p:Pkt}(h:good p=true):Gd p:=by
 have ha:(0<=p.typ/\p.typ<=127)/\p.csrc.length<=15/\(0<=p.pad/\p.pad<=255):=by
  refine ycF λe=>?_;rw[zln e]at h;cases h
 rw[zuk ha]at h;by_cases hz:p.prof=0
 ·rw[if_pos hz]at h;have hn:=yay (of_decide_eq_true h);exact⟨ha,λ_=>hn,.inl hz,λx hx=>by rw[hn]at hx;cases hx⟩
 ·rw[if_neg hz]at h;obtain⟨h1,h2⟩:=Bool.and_eq_true_iff.1 h;exact⟨ha,λe=>absurd e hz,.inr (of_decide_eq_true h1),yaz.1 h2⟩
def zp6{x:X}(h:goodX 48862 x=true):1<=x.1/\x.1<=14/\1<=x.2.length/\x.2.length<=16:=by
 unfold goodX at h;rw[if_pos rfl]at h;exact of_decide_eq_true h
def zp5{x:X}(h:goodX 4096 x=true):1<=x.1/\x.1<=255/\x.2.length<=255:=by
 unfold goodX at h;rw[if_neg (by decide)]at h;exact of_decide_eq_true h
def or_a:∀c,c<=15->128 ||| c=128+c/\(128+c) ||| 32=160+c/\(128+c) ||| 16=144+c/\(160+c) ||| 16=176+c:=by
 intro c hc;have:∀c,c<16->128 ||| c=128+c/\(128+c) ||| 32=160+c/\(128+c) ||| 16=144+c/\(160+c) ||| 16=176+c:=by decide
 exact this c (by omega)
def or_b:∀t,t<=127->t ||| 128=t+128:=by
 intro t ht;have:∀t,t<128->t ||| 128=t+128:=by decide
 exact this t (by omega)
def or_c(i n:Nat)(h:n<16):(16*i) ||| n=16*i+n:=by
 have:=ybP (i:=4) (b:=n) h i;rw[ybl,ycz]at this;exact this.symm
def ab_lit{H:Heap}{l:List Nat}{lo:Nat}(h:lo<=H.next):Ab lo (H.new ⟨zab,l.map by8,none⟩) (.sl H.next 0 l.length (.fix l.length)) l:=
 .full (zaf _ _) (by simp) h (by rw[zae];omega)
def first_ok{lo:Nat}{H:Heap}{v:V}{p:Pkt}(h:PkR lo H v p)(hg:Gd p):Ok (sem T zgb [v]) H λr H'=>Ab H.next H' r [b0 p,b1 p]/\Grow H H':=by
 obtain⟨cv,xv,pv,rfl,hc,hx,hp⟩:=h;obtain⟨⟨⟨ht0,ht1⟩,hcl,hp0,hp1⟩,-,-,-⟩:=hg;refine zro ?_;unfold znw uL uFM uB uO uR uK uc ub ug;unfold pcells;obtain⟨t,ht⟩:=ya3 ht0;obtain⟨o1,o2,o3,o4⟩:=or_a _ hcl;have o5:=or_b t (by omega);have mm:(128+p.csrc.length)%256=128+p.csrc.length:=by omega
 have mt:t%256=t:=by omega
 have ec:=(hc.newn ⟨zaq,pcells p cv xv pv,none⟩).vlen;have fin:∀x y:Nat,Ab H.next ((H.new ⟨zaq,[.bool p.mark,.int .i64 t,.int .u16 p.seq,.int .u32 p.ts,.int .u32 p.ssrc,cv,.int .i64 p.prof,xv,.int .i64 p.pad,pv],none⟩).new ⟨zab,[.int .u8 x,.int .u8 y],none⟩) (.sl (H.next+1) 0 2 (.fix 2)) [x,y]/\Grow H ((H.new ⟨zaq,[.bool p.mark,.int .i64 t,.int .u16 p.seq,.int .u32 p.ts,.int .u32 p.ssrc,cv,.int .i64 p.prof,xv,.int .i64 p.pad,pv],none⟩).new ⟨zab,[.int .u8 x,.int .u8 y],none⟩):=λx y=>
  ⟨ab_lit (H:=H.new _) (l:=[x,y]) (by rw[zae];omega),(Grow.new _ _).trans (Grow.new _ _)⟩
 by_cases c1:0<p.pad<;>by_cases c2:p.prof=0
 ·have e0:b0 p=160+p.csrc.length:=by unfold b0;rw[if_pos c1,if_pos c2];omega
  rw[e0];rw[c2]at fin;cases c3:p.mark
  ·have e1:b1 p=t:=by unfold b1;rw[c3,ht,yan];rfl
   rw[e1];rw[c3]at fin;simp(disch:=omega)only[↓RD,RZ,eq_self,seval,hc.cells1,hx.cells1,hp.cells1,hc.okc,hx.okc,hp.okc,hc.vlen,o1,o2,o3,o4,o5,mm,mt,c2,ht,c3];exact fin _ _
  ·have e1:b1 p=t+128:=by unfold b1;rw[c3,ht,yan];rfl
   rw[e1];rw[c3]at fin;simp(disch:=omega)only[↓RD,RZ,eq_self,seval,hc.cells1,hx.cells1,hp.cells1,hc.okc,hx.okc,hp.okc,hc.vlen,o1,o2,o3,o4,o5,mm,mt,c2,ht,c3];exact fin _ _
 ·have e0:b0 p=176+p.csrc.length:=by unfold b0;rw[if_pos c1,if_neg c2];omega
  rw[e0];cases c3:p.mark
  ·have e1:b1 p=t:=by unfold b1;rw[c3,ht,yan];rfl
   rw[e1];rw[c3]at fin;simp(disch:=omega)only[↓RD,RZ,eq_self,seval,hc.cells1,hx.cells1,hp.cells1,hc.okc,hx.okc,hp.okc,hc.vlen,o1,o2,o3,o4,o5,mm,mt,c2,ht,c3];exact fin _ _
  ·have e1:b1 p=t+128:=by unfold b1;rw[c3,ht,yan];rfl
   rw[e1];rw[c3]at fin;simp(disch:=omega)only[↓RD,RZ,eq_self,seval,hc.cells1,hx.cells1,hp.cells1,hc.okc,hx.okc,hp.okc,hc.vlen,o1,o2,o3,o4,o5,mm,mt,c2,ht,c3];exact fin _ _
 ·have e0:b0 p=128+p.csrc.length:=by unfold b0;rw[if_neg c1,if_pos c2];omega
  rw[e0];rw[c2]at fin;cases c3:p.mark
  ·have e1:b1 p=t:=by unfold b1;rw[c3,ht,yan];rfl
   rw[e1];rw[c3]at fin;simp(disch:=omega)only[↓RD,RZ,eq_self,seval,hc.cells1,hx.cells1,hp.cells1,hc.okc,hx.okc,hp.okc,hc.vlen,o1,o2,o3,o4,o5,mm,mt,c2,ht,c3];exact fin _ _
  ·have e1:b1 p=t+128:=by unfold b1;rw[c3,ht,yan];rfl
   rw[e1];rw[c3]at fin;simp(disch:=omega)only[↓RD,RZ,eq_self,seval,hc.cells1,hx.cells1,hp.cells1,hc.okc,hx.okc,hp.okc,hc.vlen,o1,o2,o3,o4,o5,mm,mt,c2,ht,c3];exact fin _ _
 ·have e0:b0 p=144+p.csrc.length:=by unfold b0;rw[if_neg c1,if_neg c2];omega
  rw[e0];cases c3:p.mark
  ·have e1:b1 p=t:=by unfold b1;rw[c3,ht,yan];rfl
   rw[e1];rw[c3]at fin;simp(disch:=omega)only[↓RD,RZ,eq_self,seval,hc.cells1,hx.cells1,hp.cells1,hc.okc,hx.okc,hp.okc,hc.vlen,o1,o2,o3,o4,o5,mm,mt,c2,ht,c3];exact fin _ _
  ·have e1:b1 p=t+128:=by unfold b1;rw[c3,ht,yan];rfl
   rw[e1];rw[c3]at fin;simp(disch:=omega)only[↓RD,RZ,eq_self,seval,hc.cells1,hx.cells1,hp.cells1,hc.okc,hx.okc,hp.okc,hc.vlen,o1,o2,o3,o4,o5,mm,mt,c2,ht,c3];exact fin _ _
def xb_len{prof:Int}{x:X}(h:goodX prof x=true)(hp:prof=48862\/prof=4096):(xb prof x).length<=257:=by
 unfold xb;rcases hp with rfl|rfl
 ·have:=zp6 h;rw[if_pos rfl];simp;omega
 ·have:=zp5 h;rw[if_neg (by decide)];simp;omega
def xsk(p:Pkt)(k:Nat):List Nat:=((p.exts.take k).map (xb p.prof)).flatten
def ztw{p:Pkt}{k:Nat}(h:k<p.exts.length):xsk p (k+1)=xsk p k++xb p.prof p.exts[k]:=by
 unfold xsk;rw[yda h,yaC,ybx];simp
def zsc(p:Pkt):xsk p p.exts.length=xsb p:=by unfold xsk xsb;rw[ya2]
def zsb{p:Pkt}(hg:Gd p)(hp:p.prof≠0):∀k,k<=p.exts.length->(xsk p k).length<=257*k:=by
 intro k
 induction k with
 | zero=>intro _;simp[xsk]
 | succ k ih=>
  intro hk;rw[ztw (by omega),yaf];have h1:=xb_len (hg.d _ (yaV (show k<p.exts.length by omega))) (hg.c.resolve_left hp);have:=ih (by omega);omega
def shl4{i:Nat}(h:i<=15):Ax.bin .shl (.int .i64 (i:Nat)) (.int .u64 4)=some (.int .i64 ((16*i:Nat):Int)):=by
 have:∀i:Nat,i<16->Ax.bin .shl (.int .i64 (i:Nat)) (.int .u64 4)=some (.int .i64 ((16*i:Nat):Int)):=by
  intro i hi;rw[zqB (by omega)];simp only[IntKind.wrap,IntKind.bits,IntKind.signed];have h4:(4:Int).toNat=4:=rfl;rw[h4];congr 2;simp;omega
 exact this i (by omega)
def Exs.at0{lo:Nat}{H H2:Heap}{v:V}{xs:List X}(h:Exs lo H v xs)(g:Grow H H2){i:Nat}(hi:i<xs.length):∃p bv,(∀{k:IntKind},Ax.iaddr none 2 v (.int k i)=some p)/\Pl H2 p [.int .i64 xs[i].1,bv] v.pid/\By lo H bv xs[i].2:=by
 obtain⟨ws,rfl,h2,h3⟩:=h;rw[yah]at hi;obtain⟨p,hp,hl⟩:=(h2.ext g).at (i:=(i:Nat)) (by omega) (by omega);have e:((ws.map xc).flatten.drop (i*2)).take 2=[.int .i64 ws[i].1.1,ws[i].2]:=by
  rw[zlx _ (xc_len ws) i (by rw[yah];exact hi),ybQ];rfl
 rw[yan,e]at hl;refine⟨p,ws[i].2,hp,?_,?_⟩
 ·simpa using hl
 ·simpa using h3 _ (yaV hi)
def pad_ok{lo:Nat}{H:Heap}{w:V}{l:List Nat}(t2:V)(h:Ab lo H w l)(hlo:lo<=H.next)(hl:l.length<=549755813888){Q:Res->Heap->Prop} (k:∀w' H',Ab lo H' w' (l++List.replicate (padn l.length) 0)->Bel lo H H'->Q (.ex 2 [w']) H') :
  Ok (M.iter (zdt (sem T) t2) [w]) H Q:=by
 refine zaS (λm L H'=>∃w',L=[w']/\Ab lo H' w' (l++List.replicate m 0)/\Bel lo H H') (padn l.length) ?_ ?_ ?_
 ·exact⟨w,rfl,by simpa using h,Bel.refl _ _⟩
 ·rintro m L H1 hm ⟨w',rfl,ha,hb⟩;have hv:=ha.lc.vlen;rw[yaf,yaF]at hv;have n1:=hb.next;have hne:(l.length+m)%4≠0:=by unfold padn at hm;omega
  unfold zdt uL uB uK uc ub ug;simp(disch:=omega)only[↓RD,RZ,hv];refine okb_ab (m:=[0]) (ha.keep ((Grow.new _ _).keep _)) (by rw[zae];omega) (zcF rfl) (by simp;unfold padn at hm;omega) λw2 H2 h2 hb2=>?_;simp(disch:=omega)only[↓RD,RZ];refine⟨w2,rfl,?_,hb.trans (((Grow.new _ _).bel7 (by omega)).trans hb2)⟩;rw[ycY,<-yaI];exact h2
 ·rintro L H1 ⟨w',rfl,ha,hb⟩;have hv:=ha.lc.vlen;rw[yaf,yaF]at hv;have hne:(l.length+padn l.length)%4=0:=by unfold padn;omega
  have hb3:padn l.length<=3:=by unfold padn;omega
  unfold zdt uL uB uK uc ub ug;simp(disch:=omega)only[↓RD,RZ,hv,hne];exact k _ _ ha hb
def zyh{lo:Nat}{H:Heap}{v:V}{p:Pkt}(h:PkR lo H v p)(hs:Sml p)(hg:Gd p)(hp0:p.prof≠0):Ok (sem T zdU [v]) H λr H'=>By H.next H' r (elems p)/\Grow H H':=by
 obtain⟨cv,xv,pv,rfl,hc,hx,hp⟩:=h;have hb:=hs.b;refine zm7 ?_;unfold zjv uL uFM uO uR uc ug;unfold pcells;simp(disch:=omega)only[↓RD,RZ,eq_self,seval,hc.cells1,hx.cells1,hp.cells1,hc.okc,hx.okc,hp.okc,hx.vlen];generalize hH1:Heap.new H _=H1;have n1:H1.next=H.next+1:=by rw[<-hH1];rfl
 have s1:Grow H H1:=by rw[<-hH1];exact Grow.new _ _
 have g1:H1.get H.next=some ⟨zaq,pcells p cv xv pv,none⟩:=by rw[<-hH1];exact zaf _ _
 clear hH1;unfold pcells at g1;refine zaS (λk L H'=>∃w,L=[w,.int .i64 (k:Nat)]/\Ab H1.next H' w (xsk p k)/\Grow H1 H') p.exts.length ?_ ?_ ?_
 ·exact⟨.nils,rfl,Apf.app App.nil,Grow.refl _⟩
 ·rintro k L H2 hk ⟨w,rfl,ha,s2⟩;have g2:H2.get H.next = _:=(s2.same _ (by omega)).trans g1;have n2:=s2.next;have s02:=s1.trans s2;obtain⟨q,bv,i1,l1,w1⟩:=hx.at0 s02 hk;have l2:=l1.all;dsimp only[List.length_cons,List.length_nil]at l2;have hlen:=zsb hg hp0 k (by omega);have hgx:=hg.d _ (yaV hk);generalize hxe:p.exts[k]=x at *;have hsx:xsk p (k+1)=xsk p k++xb p.prof x:=by rw[ztw hk,hxe]
  obtain⟨x1,x2⟩:=x;dsimp only at l2 w1 l1;unfold zeL uL uS uT uFM uB uI uO uK uc ub uq ug;rcases hg.c.resolve_left hp0 with hpf|hpf
  ·rw[hpf]at g2 hgx hsx;obtain⟨c1,c2,c3,c4⟩:=zp6 hgx;dsimp only at c1 c2 c3 c4;obtain⟨i,rfl⟩:=ya3 (show 0<=x1 by omega);have e1:((x2.length:Nat):Int)-1=((x2.length-1:Nat):Int):=by omega
   have e2:=or_c i (x2.length-1) (by omega);have e3:=shl4 (i:=i) (by omega);have e4:(16*i+(x2.length-1))%256=16*i+(x2.length-1):=by omega
   simp(disch:=omega)only[↓RD,RZ,eq_self,seval,g2,i1,l2,w1.cells1,w1.okc,w1.vlen,e1,e2,e3,e4];generalize hH3:Heap.set _ _ _=H3;have n3:H3.next=H2.next+1:=by rw[<-hH3];rfl
   have s3:Grow H2 H3:=by rw[<-hH3];exact(Grow.new _ _).set (yag _) _
   have g3:H3.get H2.next=some ⟨zaU,[.int .i64 (i:Nat),bv],none⟩:=by rw[<-hH3];exact zai _ _ _
   clear hH3;refine okb_ab' (m:=[16*i+(x2.length-1)]) (ha.keep ((s3.trans (Grow.new _ _)).keep _)) (by rw[zae];omega) (zn0 (by omega) rfl) (by simp;omega) λw' H4 h4 hb4 k4=>?_;have g4:H4.get H2.next = _:=(k4.same _ (by rw[zae];omega) (λe=>by have:=(ha.lc.own _ (by simpa [zbP]using e)).2;omega)).trans ((zas _ _ (by omega)).trans g3);have n4:=hb4.next;rw[zae]at n4;have s4:Grow H1 H4:=Grow.bel7' ((s2.trans s3).trans (Grow.new _ _)) (yag _) hb4;have w4:=w1.ext (s1.trans s4);simp(disch:=omega)only[↓RD,RZ,eq_self,seval,g4];refine okb_ab (m:=x2) h4 (by omega) w4.ac (by simp;omega) λw5 H5 h5 hb5=>?_;simp(disch:=omega)only[↓RD,RZ,eq_self,seval];refine⟨w5,by rfl,?_,Grow.bel7' s4 (yag _) hb5⟩;rw[hsx];unfold xb;rw[if_pos rfl];rw[yaI]at h5;exact h5
  ·rw[hpf]at g2 hgx hsx;obtain⟨c1,c2,c4⟩:=zp5 hgx;dsimp only at c1 c2 c4;obtain⟨i,rfl⟩:=ya3 (show 0<=x1 by omega);have e4:i%256=i:=by omega
   have e5:x2.length%256=x2.length:=by omega
   simp(disch:=omega)only[↓RD,RZ,eq_self,seval,g2,i1,l2,w1.cells1,w1.okc,w1.vlen,e4,e5];generalize hH3:Heap.set _ _ _=H3;have n3:H3.next=H2.next+1:=by rw[<-hH3];rfl
   have s3:Grow H2 H3:=by rw[<-hH3];exact(Grow.new _ _).set (yag _) _
   have g3:H3.get H2.next=some ⟨zaU,[.int .i64 (i:Nat),bv],none⟩:=by rw[<-hH3];exact zai _ _ _
   clear hH3;refine okb_ab' (m:=[i,x2.length]) (ha.keep ((s3.trans (Grow.new _ _)).keep _)) (by rw[zae];omega) (zn0 (by omega) rfl) (by simp;omega) λw' H4 h4 hb4 k4=>?_;have g4:H4.get H2.next = _:=(k4.same _ (by rw[zae];omega) (λe=>by have:=(ha.lc.own _ (by simpa [zbP]using e)).2;omega)).trans ((zas _ _ (by omega)).trans g3);have n4:=hb4.next;rw[zae]at n4;have s4:Grow H1 H4:=Grow.bel7' ((s2.trans s3).trans (Grow.new _ _)) (yag _) hb4;have w4:=w1.ext (s1.trans s4);simp(disch:=omega)only[↓RD,RZ,eq_self,seval,g4];refine okb_ab (m:=x2) h4 (by omega) w4.ac (by simp;omega) λw5 H5 h5 hb5=>?_;simp(disch:=omega)only[↓RD,RZ,eq_self,seval];refine⟨w5,by rfl,?_,Grow.bel7' s4 (yag _) hb5⟩;rw[hsx];unfold xb;rw[if_neg (by decide)];rw[yaI]at h5;exact h5
 ·rintro L H2 ⟨w,rfl,ha,s2⟩;rw[zsc]at ha;have hlen:=zsb hg hp0 p.exts.length (yag _);rw[zsc]at hlen;unfold zeL uL uS uT uFM uB uI uO uK uc ub uq ug;simp(disch:=omega)only[↓RD,RZ,eq_self,seval];refine pad_ok _ ha s2.next (by omega) λw' H3 h3 hb3=>?_;simp(disch:=omega)only[↓RD,RZ,eq_self,seval];exact⟨h3.by.low (by omega),s1.trans (Grow.bel7' s2 (yag _) hb3)⟩
def csb(p:Pkt):List Nat:=(p.csrc.map (bn 4)).flatten
def extb(p:Pkt):List Nat:=if p.prof=0 then [] else bn 2 p.prof.toNat++bn 2 ((elems p).length/4)++elems p
def hb0(p:Pkt):List Nat:=[b0 p,b1 p]++bn 2 p.seq++bn 4 p.ts++bn 4 p.ssrc++csb p
def hb(p:Pkt):List Nat:=hb0 p++extb p
def padb(n:Nat):List Nat:=if n=0 then [] else List.replicate (n-1) 0++[n]
def bytes(p:Pkt):Except Int (List Nat):=
 if good p=false then .error 1
 else if 1200<(hb p).length+p.pay.length+p.pad.toNat then .error 4
 else .ok (hb p++p.pay++padb p.pad.toNat)
structure Num (p:Pkt):Prop where
 seq:p.seq<65536
 ts:p.ts<4294967296
 ssrc:p.ssrc<4294967296
 csrc:∀x∈p.csrc,x<4294967296
def BytesQ(H:Heap) (o:Except Int (List Nat)) (r:V) (H':Heap):Prop:=
 Grow H H'/\match o with
  | .error e=>r = .tup [.nils,.int .i64 e]
  | .ok l=>∃w,r = .tup [w,.int .i64 0]/\By H.next H' w l
def csk(p:Pkt)(k:Nat):List Nat:=((p.csrc.take k).map (bn 4)).flatten
def zus{p:Pkt}{k:Nat}(h:k<p.csrc.length):csk p (k+1)=csk p k++bn 4 p.csrc[k]:=by
 unfold csk;rw[yda h,yaC,ybx];simp
def zs9{p:Pkt}:∀k,k<=p.csrc.length->(csk p k).length=4*k:=by
 intro k
 induction k with
 | zero=>intro _;simp[csk]
 | succ k ih=>intro hk;rw[zus (by omega),yaf,ih (by omega),bn_len];omega
def zta(p:Pkt):csk p p.csrc.length=csb p:=by unfold csk csb;rw[ya2]
def hb0_len(p:Pkt):(hb0 p).length=12+4*p.csrc.length:=by
 unfold hb0;have:=zs9 (p:=p) p.csrc.length (yag _);rw[zta]at this;simp only[yaf,bn_len,this,List.length_cons,List.length_nil]
def zrX{p:Pkt}(hg:Gd p)(hp:p.prof≠0):(elems p).length<=257*p.exts.length+3:=by
 have:=zsb hg hp p.exts.length (yag _);rw[zsc]at this;unfold elems padn;rw[yaf,yaF];omega
def Ab.mem{lo:Nat}{H:Heap}{v:V}{l:List Nat}(h:Ab lo H v l)(hl:0<l.length):∃id cap o,v = .sl id 0 l.length cap/\H.get id=some ⟨zab,l.map by8,o⟩/\lo<=id/\id<H.next/\V.capOk 1 v:=by
 unfold Ab at h;generalize hc:l.map by8=cells at h;generalize hn:l.length=n at h hl;cases h with
 | app h=>
  cases h with
  | opn h ho=>
   rcases h with⟨rfl,_,h0⟩|⟨id,rfl,hb,_⟩
   ·omega
   ·obtain⟨h1,h2⟩:=ho id rfl;exact⟨id,_,_,rfl,hb,h1,h2,rfl⟩
  | lit h h0 h1=>omega
 | full h hl h0 h1=>exact⟨_,_,_,rfl,h,h0,h1,yag _⟩
def zsh(m:List Nat)(x y:Nat):splice ((m++[x]).map by8) m.length [by8 y]=(m++[y]).map by8:=by
 unfold splice;simp[ybm]
def PB(lo:Nat)(H:Heap)(p:Pkt)(r:Res)(H':Heap):Prop:=∃w,r = .nrm [w]/\Ab lo H' w (hb p)/\Bel lo H H'
def Bytes_ok{lo:Nat}{H:Heap}{v:V}{p:Pkt}(h:PkR lo H v p)(hs:Sml p)(hn:Num p):Ok (sem T zgd [v]) H (BytesQ H (bytes p)):=by
 have h0:=h;obtain⟨cv,xv,pv,rfl,hc,hx,hp⟩:=h;obtain⟨q1,q2,q3,q4⟩:=hs;obtain⟨m1,m2,m3,m4⟩:=hn;refine zrq ?_;unfold zny uL uM uS uT uF uFM uB uI uO uU uA uZ uR uK uc ub ug;unfold bytes;unfold pcells;simp(disch:=first|omega|(simp only[RY]<;>omega)|decide)only[↓RD,RZ,eq_self,seval,hc.cells1,hx.cells1,hp.cells1,hc.okc,hx.okc,hp.okc];generalize hH1:Heap.new H _=H1;have n1:H1.next=H.next+1:=by rw[<-hH1];rfl
 have s1:Grow H H1:=by rw[<-hH1];exact Grow.new _ _
 have g1:H1.get H.next=some ⟨zaq,pcells p cv xv pv,none⟩:=by rw[<-hH1];exact zaf _ _
 clear hH1;unfold pcells at g1;refine zad (Good_ok (h0.ext s1) ⟨q1,q2,q3,q4⟩) ?_;rintro _ H2 ⟨rfl,s2⟩;have n2:=s2.next;have s02:=s1.trans s2;have g2:H2.get H.next = _:=(s2.same _ (by omega)).trans g1;cases hgd:good p with
 | false=>
  simp(disch:=first|omega|(simp only[RY]<;>omega)|decide)only[↓RD,RZ,eq_self,seval];exact⟨s02,rfl⟩
 | true=>
  have hg:=zsX hgd;obtain⟨⟨ht,hcl,hpd0,hpd1⟩,-,-,-⟩:=id hg;have e1:p.seq%4294967296=p.seq:=by omega
  rw[if_neg (by decide)];simp(disch:=first|omega|(simp only[RY]<;>omega)|decide)only[↓RD,RZ,eq_self,seval,g2,e1];refine zad (first_ok (h0.ext s02) hg) ?_;rintro w3 H3 ⟨a3,s3⟩;have n3:=s3.next;have g3:H3.get H.next = _:=(s3.same _ (by omega)).trans g2;have k3:Bel H2.next H2 H3:=s3.bel7 (yag _);simp(disch:=first|omega|(simp only[RY]<;>omega)|decide)only[↓RD,RZ,eq_self,seval,g2,g3];refine zad (zoQ a3 k3.next (by simp) p.seq 2 (by omega) (by omega)) ?_;rintro w4 H4 ⟨a4,b4,-⟩;have k4:=k3.trans b4;have g4:H4.get H.next = _:=(k4.same _ (by omega)).trans g2;simp(disch:=first|omega|(simp only[RY]<;>omega)|decide)only[↓RD,RZ,eq_self,seval,g4];refine zad (zoQ a4 k4.next (by simp[bn_len]) p.ts 4 m2 (by omega)) ?_;rintro w5 H5 ⟨a5,b5,-⟩;have k5:=k4.trans b5;have g5:H5.get H.next = _:=(k5.same _ (by omega)).trans g2;simp(disch:=first|omega|(simp only[RY]<;>omega)|decide)only[↓RD,RZ,eq_self,seval,g4,g5];refine zad (zoQ a5 k5.next (by simp[bn_len]) p.ssrc 4 m3 (by omega)) ?_;rintro w6 H6 ⟨a6,b6,-⟩;have k6:=k5.trans b6;have g6:H6.get H.next = _:=(k6.same _ (by omega)).trans g2;simp(disch:=first|omega|(simp only[RY]<;>omega)|decide)only[↓RD,RZ,eq_self,seval,g6,hc.vlen];refine zaS (λk L H'=>∃w,L=[w,.int .i64 (k:Nat)]/\Ab H2.next H' w ([b0 p,b1 p]++bn 2 p.seq++bn 4 p.ts++bn 4 p.ssrc++csk p k)/\Bel H2.next H2 H') p.csrc.length ?_ ?_ ?_
  ·exact⟨w6,rfl,by simpa [csk]using a6,k6⟩
  ·rintro k L H7 hk ⟨w,rfl,a7,k7⟩;have s7:Grow H H7:=Grow.bel7' s02 (by omega) k7;obtain⟨q,i1,l1⟩:=w_at (hc.ext s7) hk;have hlen:=zs9 (p:=p) k (by omega);unfold zhy uB uIM uA uK uc ug;simp(disch:=first|omega|(simp only[RY]<;>omega)|decide)only[↓RD,RZ,eq_self,seval,i1,l1];refine zad (zoQ a7 k7.next (by simp[bn_len,hlen];omega) p.csrc[k] 4 (m4 _ (yaV hk)) (by omega)) ?_;rintro w8 H8 ⟨a8,b8,-⟩;simp(disch:=first|omega|(simp only[RY]<;>omega)|decide)only[↓RD,RZ,eq_self,seval];refine⟨w8,by rfl,?_,k7.trans b8⟩;rw[zus hk,<-yaI];exact a8
  ·rintro L H7 ⟨w7,rfl,a7,k7⟩;rw[zta]at a7;have a7':Ab H2.next H7 w7 (hb0 p):=a7;have g7:H7.get H.next = _:=(k7.same _ (by omega)).trans g2;have s7:Grow H H7:=Grow.bel7' s02 (by omega) k7;have hl0:=hb0_len p;unfold zhy uB uIM uA uK uc ug;simp(disch:=first|omega|(simp only[RY]<;>omega)|decide)only[↓RD,RZ,eq_self,seval,g7];refine zao (Q:=PB H2.next H2 p) ?_ ?_
   ·by_cases hz:p.prof=0
    ·simp(disch:=first|omega|(simp only[RY]<;>omega)|decide)only[↓RD,RZ,eq_self,seval,hz];refine⟨w7,rfl,?_,k7⟩;unfold hb extb;rw[if_pos hz,yaK];exact a7'
    ·have hel:=zrX hg hz;simp(disch:=first|omega|(simp only[RY]<;>omega)|decide)only[↓RD,RZ,eq_self,seval,hz,g7];refine zad (zyh (h0.ext s7) ⟨q1,q2,q3,q4⟩ hg hz) ?_;rintro ev H8 ⟨he8,s8⟩;have n8:=s8.next;have k8:=k7.trans (s8.bel7 k7.next);have g8:H8.get H.next = _:=(k8.same _ (by omega)).trans g2;have a8:Ab H2.next H8 w7 (hb0 p):=Apf.keep a7' (s8.keep _);obtain⟨f,hf,hf2⟩:∃f:Nat,p.prof=(f:Int)/\f<65536:=by
      rcases hg.c.resolve_left hz with e|e
      ·exact⟨48862,e,by omega⟩
      ·exact⟨4096,e,by omega⟩
     have e2:f%4294967296=f:=by omega
     have hpid8:∀id,ev.pid=some id->H7.next<=id/\id<H8.next:=λid hi=>he8.own id hi;rw[hf]at g8;simp(disch:=first|omega|(simp only[RY]<;>omega)|decide)only[↓RD,RZ,eq_self,seval,g8,e2];refine zad (zoQ a8 k8.next (by omega) f 2 (by omega) (by omega)) ?_;rintro w9 H9 ⟨a9,b9,st9⟩;have e3:(elems p).length/4%4294967296=(elems p).length/4:=by omega
     have he9:By H7.next H9 ev (elems p):=he8.step st9 λid hi hF=>by
      have h1:=(a7'.lc.own id (by simpa [zbP]using hF)).2;have h2:=(hpid8 id hi).1;omega
     have k9:=k8.trans b9;simp(disch:=first|omega|(simp only[RY]<;>omega)|decide)only[↓RD,RZ,eq_self,seval,he9.vlen,e3];refine zad (zoQ a9 k9.next (by simp[bn_len,hl0];omega) ((elems p).length/4) 2 (by omega) (by omega)) ?_;rintro w10 H10 ⟨a10,b10,st10⟩;have he10:By H7.next H10 ev (elems p):=he9.step st10 λid hi hF=>by
      have h2:=hpid8 id hi;rcases st9.own id hF with h|h
      ·have h1:=(a7'.lc.own id (by simpa [zbP]using h)).2;omega
      ·omega
     have k10:=k9.trans b10;simp(disch:=first|omega|(simp only[RY]<;>omega)|decide)only[↓RD,RZ,eq_self,seval];refine okb_ab a10 k10.next he10.ac (by simp[bn_len,hl0];omega) λw11 H11 a11 b11=>?_;simp(disch:=first|omega|(simp only[RY]<;>omega)|decide)only[↓RD,RZ,eq_self,seval];refine⟨w11,rfl,?_,k10.trans b11⟩;have ehb:hb p=hb0 p++bn 2 f++bn 2 ((elems p).length/4)++elems p:=by
      unfold hb extb;rw[if_neg hz,hf,yan];simp only[yaI]
     rw[ehb];exact a11
   ·rintro r H8 ⟨w8,rfl,a8,k8⟩;have g8:H8.get H.next = _:=(k8.same _ (by omega)).trans g2;have s8:Grow H H8:=Grow.bel7' s02 (by omega) k8;have hpl:=(hp.ext s8).vlen;obtain⟨d,hd⟩:=ya3 hpd0;rw[hd]at g8 hpd1;have hdt:p.pad.toNat=d:=by rw[hd];rfl
    rw[hdt];have hhl:(hb p).length<=549755813888:=by
     unfold hb extb;rw[yaf,hl0];split
     ·simp;omega
     ·rename_i hz;have:=zrX hg hz;simp only[yaf,bn_len];omega
    have e1:((hb p).length:Int)+(p.pay.length:Nat)=(((hb p).length+p.pay.length:Nat):Int):=rfl;have e2:(((hb p).length+p.pay.length:Nat):Int)+(d:Nat)=(((hb p).length+p.pay.length+d:Nat):Int):=rfl;by_cases hbig:1200<(hb p).length+p.pay.length+d
    ·rw[if_pos hbig];simp(disch:=first|omega|(simp only[RY]<;>omega)|decide)only[↓RD,RZ,eq_self,seval,a8.lc.vlen,g8,hpl,e1,e2];exact⟨s8,rfl⟩
    ·rw[if_neg hbig];simp(disch:=first|omega|(simp only[RY]<;>omega)|decide)only[↓RD,RZ,eq_self,seval,a8.lc.vlen,g8,hpl,e1,e2];refine okb_ab a8 k8.next (hp.ext s8).ac (by omega) λw9 H9 a9 b9=>?_;have k9:=k8.trans b9;have s9:Grow H H9:=Grow.bel7' s02 (by omega) k9;have g9:H9.get H.next = _:=(b9.same _ (by omega)).trans g8;by_cases hd0:d=0
     ·subst hd0;simp(disch:=first|omega|(simp only[RY]<;>omega)|decide)only[↓RD,RZ,eq_self,seval,g9];refine⟨s9,w9,rfl,?_⟩;unfold padb;rw[if_pos rfl,yaK];exact a9.by.low (by omega)
     ·simp(disch:=first|omega|(simp only[RY]<;>omega)|decide)only[↓RD,RZ,eq_self,seval,g9];refine okb_apfz (m:=d) a9 k9.next (by simp;omega) (by simp;omega) λw10 H10 a10 b10=>?_;obtain⟨c,rfl⟩:∃c,d=c+1:=⟨d-1,by omega⟩;have ea:Ab H2.next H10 w10 ((hb p++p.pay++List.replicate c 0)++[0]):=by
       have e1:(hb p++p.pay++List.replicate c 0)++[0]=(hb p++p.pay)++List.replicate (c+1) 0:=by
        rw[yaI (hb p++p.pay),<-ycY]
       show Apf _ _ _ _ _ _ _;rw[e1,yaC,yaf,ycB,yaF];exact a10
      have k10:=k9.trans b10;have g10:H10.get H.next = _:=(b10.same _ (by omega)).trans g9;have s10:Grow H H10:=Grow.bel7' s02 (by omega) k10;generalize hlm:hb p++p.pay++List.replicate c 0=lm at *;have hll:lm.length<=1200:=by rw[<-hlm];simp only[yaf,yaF];omega
      have hvl:=ea.lc.vlen;obtain⟨id,cap,o,rfl,hb10,h1,h2,hcap⟩:=ea.mem (by simp);rw[yaf,yci]at hvl hcap ⊢;have e5:((lm.length+1:Nat):Int)-1=(lm.length:Nat):=by omega
      have hia:∀{k:IntKind},Ax.iaddr none 1 (.sl id 0 (lm.length+1) cap) (.int k (lm.length:Nat))=some (.ptr id lm.length):=λ{k}=>by
       have:=zp4 (id:=id) (off:=0) (len:=lm.length+1) (c:=cap) (k:=k) (i:=((lm.length:Nat):Int)) (e:=1) (by omega) (by omega);simpa using this
      have e6:(c+1)%256=c+1:=by omega
      simp(disch:=first|omega|(simp only[RY]<;>omega)|decide)only[↓RD,RZ,eq_self,seval,hvl,e5,g10,hia,e6];refine zsI (size:=1) (off:=lm.length) (cells':=(lm++[c+1]).map by8) hb10 ⟨by rfl,by simp,by rfl⟩ (zsh lm 0 (c+1)) ?_;simp(disch:=first|omega|(simp only[RY]<;>omega)|decide)only[↓RD,RZ,eq_self,seval];refine⟨s10.set (by omega) _,_,rfl,?_⟩;have efin:hb p++p.pay++padb (c+1)=lm++[c+1]:=by
       unfold padb;rw[if_neg (by omega),<-hlm];simp
      rw[efin];refine⟨?_,λi hi=>?_,by simpa using hcap⟩
      ·simp only[rcells,zai,Option.bind_some];rw[if_pos (by simp),yaA,yaj (by simp)];simp
      ·simp only[V.pid,yaa]at hi;subst hi;exact⟨by omega,by rw[zam];omega⟩
def o1(b:Bool):Nat:=if b=true then 1 else 0
end Go.Ax.R7
/- Rtp20 -/
namespace Go.Ax.R7
open Go.Ax
end Go.Ax.R7
namespace Go.Ax
open R7
end Go.Ax
/- Rtp21 -/
namespace Go.Ax.R7
open Go.Ax
def bytes_good{p:Pkt}{l:List Nat}(h:bytes p = .ok l):good p=true/\(hb p).length+p.pay.length+p.pad.toNat<=1200/\l=hb p++p.pay++padb p.pad.toNat:=by
 unfold bytes at h;split at h
 ·cases h
 ·rename_i hg;split at h
  ·cases h
  ·rename_i hl;cases h;exact⟨by simpa using hg,by omega,rfl⟩
def ztS(n:Nat):(padb n).length=n:=by
 unfold padb;split
 ·rename_i e;rw[e];rfl
 ·simp;omega
end Go.Ax.R7
namespace Go.Ax
open R7
end Go.Ax
/- Rtp22 -/
namespace Go.Ax.R7
open Go.Ax
def zfl{a m c:List Nat}{i n:Nat}(hi:a.length=i)(hn:m.length=n):piece (a++(m++c)) i n=m:=by
 unfold piece;rw[ycb hi,ybU hn]
def bn_succ(k n:Nat):bn (k+1) n=bn k (n/256)++[n%256]:=by
 unfold bn;rw[ycr,yaC];congr 1
 ·refine yct λi hi=>?_;have:=yaZ.1 hi;have e:k+1-1-i=(k-1-i)+1:=by omega
  rw[e,ybu,ycz,ycc]
 ·simp
def zvX : ∀ (k n : Nat), n < 256 ^ k -> be (bn k n) = n:= by
  intro k
  induction k with
  | zero => intro n h; have : n = 0 := by simpa using h
            subst this;rfl
  | succ k ih=>
    intro n h
    rw [bn_succ, be_snoc, ih _ (by rw [ydz (by decide)];rw [ybu] at h;exact h)]
    omega
def zsC(one:Bool)(m:Nat):zfV one (List.replicate m 0)=some []:=by
 induction m with
 | zero=>rw[zfV,dif_pos (by simp)]
 | succ m ih=>
  rw[zfV,dif_neg (by simp),if_pos (by simp[yb4])];simpa [yb4]using ih
def zu8{prof:Int}{x:X}{r:List Nat}(hg:goodX prof x=true)(hp:prof=48862\/prof=4096):zfV (decide (prof=48862)) (xb prof x++r)=(zfV (decide (prof=48862)) r).map (x :: ·):=by
 obtain⟨x1,x2⟩:=x;rcases hp with rfl|rfl
 ·obtain⟨c1,c2,c3,c4⟩:=zp6 hg;dsimp only at c1 c2 c3 c4;obtain⟨i,rfl⟩:=ya3 (show 0<=x1 by omega);have hx:xb 48862 ((i:Int),x2)++r=(16*i+(x2.length-1))::(x2++r):=by
   unfold xb;rw[if_pos rfl];rfl
  rw[hx];have d:decide ((48862:Int)=48862)=true:=rfl;rw[d];have e1:(16*i+(x2.length-1))/16=i:=by omega
  have e2:(16*i+(x2.length-1))%16+1=x2.length:=by omega
  generalize hb:16*i+(x2.length-1)=b at *;rw[zfV,dif_neg (by simp),if_neg (by simp;omega),if_neg (by simp;omega),if_neg ?_]
  ·have h1:zoz true (b::(x2++r))=((i:Int),x2):=by
    unfold zoz eid enum zfe;simp only[if_true,yc3,e1,e2,ybO,yaA,ybU]
   have h2:(b::(x2++r)).drop (elen true (b::(x2++r)))=r:=by
    unfold elen enum zfe;simp only[if_true,yc3,e2];rw[ycQ 1,ybO,ycb rfl]
   rw[h1,h2]
  ·unfold ebad eid enum zfe;simp only[if_true,yc3,e1,e2,List.length_cons,yaf];omega
 ·obtain⟨c1,c2,c4⟩:=zp5 hg;dsimp only at c1 c2 c4;obtain⟨i,rfl⟩:=ya3 (show 0<=x1 by omega);have hx:xb 4096 ((i:Int),x2)++r=i::x2.length::(x2++r):=by
   unfold xb;rw[if_neg (by decide)];rfl
  rw[hx];have d:decide ((4096:Int)=48862)=false:=rfl;rw[d];rw[zfV,dif_neg (by simp),if_neg (by simp;omega),if_neg (by simp),if_neg ?_]
  ·have h1:zoz false (i::x2.length::(x2++r))=((i:Int),x2):=by
    unfold zoz eid enum zfe;simp
   have h2:(i::x2.length::(x2++r)).drop (elen false (i::x2.length::(x2++r)))=r:=by
    unfold elen enum zfe;have:(if false=true then 1 else 2)+(if false=true then (i::x2.length::(x2++r)).getD 0 0%16+1 else (i::x2.length::(x2++r)).getD 1 0)=x2.length+1+1:=by simp;omega
    rw[this,ybO,ybO,ycb rfl]
   rw[h1,h2]
  ·unfold ebad eid enum zfe;simp;omega
def pexts_xs{prof:Int}(hp:prof=48862\/prof=4096)(m:Nat):∀xs:List X,(∀x∈xs,goodX prof x=true)->zfV (decide (prof=48862)) ((xs.map (xb prof)).flatten++List.replicate m 0)=some xs:=by
 intro xs
 induction xs with
 | nil=>intro _;exact zsC _ _
 | cons x xs ih=>
  intro h;rw[yaR,ybe,yaI,zu8 (h x (by simp)) hp,ih λy hy=>h y (by simp[hy])];rfl
def parse_bytes{p:Pkt}{b:List Nat}(h:bytes p = .ok b)(hn:Num p):parse b = .ok p:=by
 obtain⟨hgd,hlen,hbe⟩:=bytes_good h;have hg:=zsX hgd;obtain⟨⟨⟨ht0,ht1⟩,hcl,hpd0,hpd1⟩,hz0,hpf,hgx⟩:=id hg;obtain⟨m1,m2,m3,m4⟩:=hn;obtain⟨c,hcd⟩:=ya3 hpd0;obtain⟨t,htd⟩:=ya3 ht0;have hct:p.pad.toNat=c:=by rw[hcd];rfl
 have htt:p.typ.toNat=t:=by rw[htd];rfl
 rw[hct]at hlen hbe;have hl0:=hb0_len p;have hlc:=zs9 (p:=p) p.csrc.length (yag _);rw[zta]at hlc;have hbl:b.length=(hb p).length+p.pay.length+c:=by rw[hbe,yaf,yaf,ztS]
 have hhl:(hb p).length=12+4*p.csrc.length+(extb p).length:=by unfold hb;rw[yaf,hl0]
 generalize htl:extb p++p.pay++padb c=tl;have eb:b=b0 p::b1 p::(bn 2 p.seq++(bn 4 p.ts++(bn 4 p.ssrc++(csb p++tl)))):=by
  rw[hbe,<-htl];unfold hb hb0;simp[yaI]
 have g0:b.getD 0 0=b0 p:=by rw[eb];rfl
 have g1:b.getD 1 0=b1 p:=by rw[eb];rfl
 have q0:b0 p/64=2/\b0 p%16=p.csrc.length/\(b0 p/16%2=1<->p.prof≠0)/\(b0 p/32%2=1<->0<c):=by
  unfold b0;rw[hcd];by_cases e1:0<c<;>by_cases e2:p.prof=0
  ·rw[if_pos (by omega),if_pos e2];refine⟨by omega,by omega,by omega,by omega⟩
  ·rw[if_pos (by omega),if_neg e2];refine⟨by omega,by omega,by omega,by omega⟩
  ·rw[if_neg (by omega),if_pos e2];refine⟨by omega,by omega,by omega,by omega⟩
  ·rw[if_neg (by omega),if_neg e2];refine⟨by omega,by omega,by omega,by omega⟩
 obtain⟨q01,q02,q03,q04⟩:=q0;have q1:decide (b1 p/128%2=1)=p.mark/\b1 p%128=t:=by
  unfold b1;rw[htt];cases p.mark
  ·rw[if_neg (by decide)];exact⟨decide_eq_false (by omega),by omega⟩
  ·rw[if_pos rfl];exact⟨decide_eq_true (by omega),by omega⟩
 have k1:be (piece b 2 2)=p.seq:=by
  rw[eb,show b0 p::b1 p::(bn 2 p.seq++(bn 4 p.ts++(bn 4 p.ssrc++(csb p++tl))))=[b0 p,b1 p]++(bn 2 p.seq++(bn 4 p.ts++(bn 4 p.ssrc++(csb p++tl)))) from rfl,zfl (i:=2) rfl (bn_len _ _),zvX _ _ (by omega)]
 have k2:be (piece b 4 4)=p.ts:=by
  rw[eb,show b0 p::b1 p::(bn 2 p.seq++(bn 4 p.ts++(bn 4 p.ssrc++(csb p++tl))))=([b0 p,b1 p]++bn 2 p.seq)++(bn 4 p.ts++(bn 4 p.ssrc++(csb p++tl))) by simp,zfl (by simp[bn_len]) (bn_len _ _),zvX _ _ (by omega)]
 have k3:be (piece b 8 4)=p.ssrc:=by
  rw[eb,show b0 p::b1 p::(bn 2 p.seq++(bn 4 p.ts++(bn 4 p.ssrc++(csb p++tl))))=([b0 p,b1 p]++bn 2 p.seq++bn 4 p.ts)++(bn 4 p.ssrc++(csb p++tl)) by simp,zfl (by simp[bn_len]) (bn_len _ _),zvX _ _ (by omega)]
 have ed12:b.drop 12=csb p++tl:=by
  rw[eb,show b0 p::b1 p::(bn 2 p.seq++(bn 4 p.ts++(bn 4 p.ssrc++(csb p++tl))))=([b0 p,b1 p]++bn 2 p.seq++bn 4 p.ts++bn 4 p.ssrc)++(csb p++tl) by simp,ycb (by simp[bn_len])]
 have hcsn:csn b=p.csrc.length:=by unfold csn;rw[g0];exact q02
 have kc:zg1 b=p.csrc:=by
  unfold zg1;rw[hcsn];refine ycN (by simp) λi h1 h2=>?_;rw[ybQ,yc7];have e1:piece b (12+4*i) 4=bn 4 p.csrc[i]:=by
   unfold piece;rw[<-ya9,ed12,ybR (by omega),ybm (by rw[yas];omega)];have:=zlx (k:=4) (p.csrc.map (bn 4)) (λx hx=>by obtain⟨y,_,rfl⟩:=yaW.1 hx;exact bn_len _ _) i (by rw[yah];exact h2);rw[ybQ,ycz]at this;exact this
  rw[e1,zvX _ _ (by have:=m4 _ (yaV h2);omega)]
 have edx:b.drop (12+4*p.csrc.length)=tl:=by
  rw[<-ya9,ed12,ycb hlc]
 have kx:zkj b = .ok (p.prof,p.exts,(extb p).length):=by
  unfold zkj;rw[g0,hcsn,edx];by_cases hz:p.prof=0
  ·rw[if_neg (by rw[q03];omega),hz,hz0 hz];unfold extb;rw[if_pos hz];first|done|rfl
  ·rw[if_pos (by rw[q03];exact hz)];have hpf':=hpf.resolve_left hz;obtain⟨f,hf,hf2⟩:∃f:Nat,p.prof=(f:Int)/\(f=48862\/f=4096):=by
    rcases hpf' with e|e
    ·exact⟨48862,e,.inl rfl⟩
    ·exact⟨4096,e,.inr rfl⟩
   have hft:p.prof.toNat=f:=by rw[hf];rfl
   have e4:(elems p).length%4=0:=by unfold elems padn;rw[yaf,yaF];omega
   have hxe:extb p=bn 2 f++bn 2 ((elems p).length/4)++elems p:=by unfold extb;rw[if_neg hz,hft]
   have hxl:(extb p).length=4+(elems p).length:=by rw[hxe];simp only[yaf,bn_len]
   have et:tl=bn 2 f++(bn 2 ((elems p).length/4)++(elems p++(p.pay++padb c))):=by rw[<-htl,hxe];simp[yaI]
   have f1:be (piece tl 0 2)=f:=by
    have:=@zfl [] (bn 2 f) (bn 2 ((elems p).length/4)++(elems p++(p.pay++padb c))) 0 2 rfl (bn_len _ _);rw[et];rw[yaU]at this;rw[this,zvX _ _ (by omega)]
   have f2:be (piece tl 2 2)=(elems p).length/4:=by rw[et,zfl (bn_len _ _) (bn_len _ _),zvX _ _ (by omega)]
   have f3:piece tl 4 (elems p).length=elems p:=by
    rw[et,<-yaI,zfl (by simp[bn_len]) rfl]
   have f4:4*((elems p).length/4)=(elems p).length:=by omega
   have ftl:tl.length=4+(elems p).length+p.pay.length+c:=by rw[<-htl,yaf,yaf,ztS,hxl]
   unfold pext;rw[f1,f2,f4,f3,if_neg (by omega),if_neg (by omega),if_neg (by omega),<-hf];have:=pexts_xs hpf' (padn (xsb p).length) p.exts hgx;have e5:elems p=(p.exts.map (xb p.prof)).flatten++List.replicate (padn (xsb p).length) 0:=rfl;rw[e5,this,<-e5,hxl]
 unfold parse;rw[if_neg (by omega),if_neg (by omega),g0,if_neg (by omega),hcsn,if_neg (by omega),kx];dsimp only;have hat:12+4*p.csrc.length+(extb p).length=(hb p).length:=hhl.symm;rw[hat];have hp:piece b (hb p).length p.pay.length=p.pay:=by rw[hbe,yaI,zfl rfl rfl]
 have hh:zor b=⟨p.mark,p.typ,p.seq,p.ts,p.ssrc,[],0,[],0,[]⟩:=by
  unfold zor;rw[g1,q1.1,q1.2,k1,k2,k3,htd]
 by_cases hc0:0<c
 ·have hlast:b.getD (b.length-1) 0=c:=by
   have e1:b=(hb p++p.pay++List.replicate (c-1) 0)++[c]:=by
    rw[hbe];unfold padb;rw[if_neg (by omega)];simp
   have e2:b.length-1=(hb p++p.pay++List.replicate (c-1) 0).length:=by
    rw[hbl];simp only[yaf,yaF];omega
   have e3:b[(hb p++p.pay++List.replicate (c-1) 0).length]?=some c:=by
    generalize hb p++p.pay++List.replicate (c-1) 0=m at *;rw[e1];simp
   rw[e2,yak,e3];rfl
  rw[if_pos (q04.2 hc0),hlast,if_neg (by omega),hbl,show(hb p).length+p.pay.length+c-(hb p).length-c=p.pay.length by omega,hp,hh,kc,<-hcd]
 ·rw[if_neg (λe=>hc0 (q04.1 e)),hbl,show(hb p).length+p.pay.length+c-(hb p).length=p.pay.length by omega,hp,hh,kc];have:p.pad=0:=by omega
  rw[<-this]
end Go.Ax.R7
/- Rtp25 -/
namespace Go.Ax.R7
open Go.Ax
def bytes_8{p:Pkt}{b:List Nat}(h:bytes p = .ok b)(h1:Ok8 p.pay)(h2:∀x∈p.exts,Ok8 x.2):Ok8 b:=by
 obtain⟨hgd,hlen,rfl⟩:=bytes_good h;have hg:=zsX hgd;obtain⟨⟨⟨ht0,ht1⟩,hcl,hpd0,hpd1⟩,hz0,hpf,hgx⟩:=id hg;have hx:Ok8 (extb p):=by
  unfold extb;split
  ·intro x hx;cases hx
  ·rename_i hz;have hpf':=hpf.resolve_left hz;intro x hx;simp only[yaG]at hx;rcases hx with(hx|hx)|hx
   ·exact bn_8 _ _ x hx
   ·exact bn_8 _ _ x hx
   ·unfold elems xsb at hx;rcases yaG.1 hx with hx|hx
    ·obtain⟨l,hl,hx⟩:=ycl.1 hx;obtain⟨y,hy,rfl⟩:=yaW.1 hl;have hgy:=hgx y hy;unfold xb at hx;rcases yaG.1 hx with hx|hx
     ·rcases hpf' with e|e
      ·rw[e]at hgy hx;have:=zp6 hgy;rw[if_pos rfl]at hx;simp only[yar]at hx;omega
      ·rw[e]at hgy hx;have:=zp5 hgy;rw[if_neg (by decide)]at hx;simp only[yao,yap,or_false]at hx;omega
     ·exact h2 y hy x hx
    ·have:=ybA hx;omega
 intro x hx';simp only[hb,hb0,yaG]at hx';rcases hx' with((((((h|h)|h)|h)|h)|h)|h)|h
 ·simp only[yao,yap,or_false]at h;unfold b0 b1 at h;rcases h with rfl|rfl
  ·split<;>split<;>omega
  ·split<;>omega
 ·exact bn_8 _ _ x h
 ·exact bn_8 _ _ x h
 ·exact bn_8 _ _ x h
 ·unfold csb at h;obtain⟨l,hl,h⟩:=ycl.1 h;obtain⟨y,_,rfl⟩:=yaW.1 hl;exact bn_8 _ _ x h
 ·exact hx x h
 ·exact h1 x h
 ·unfold padb at h;split at h
  ·cases h
  ·rcases yaG.1 h with h|h
   ·have:=ybA h;omega
   ·simp only[yar]at h;omega
end Go.Ax.R7
namespace Go.Ax
open R7
end Go.Ax
/- St10 -/
namespace Go.Ax.SU
open Go.Ax Go.Proofs
structure AppS (lo:Nat) (P:Nat->Prop) (H:Heap) (v:V) (ls:List (List Nat)):Prop where
 ex:∃ws:List (List Nat×V),ws.map (·.1)=ls/\App zal 1 lo H v (ws.map (·.2)) ws.length/\∀w∈ws,By 0 H w.2 w.1/\∀id,w.2.pid=some id->v.pid≠some id/\P id
def AppS.nil{lo:Nat}{P:Nat->Prop}{H:Heap}:AppS lo P H .nils []:=⟨[],rfl,App.nil,λw h=>by cases h⟩
def AppS.grow{lo:Nat}{P:Nat->Prop}{H H':Heap}{v:V} {ls:List (List Nat)} (h:AppS lo P H v ls) (g:Grow H H'):AppS lo P H' v ls:=by
 obtain⟨ws,h1,h2,h3⟩:=h;exact⟨ws,h1,R7.App.keep h2 (g.keep lo),λw hw=>⟨(h3 w hw).1.ext g,(h3 w hw).2⟩⟩
def zpN{β:Type}{bytes lo:Nat}{P:Nat->Prop}{H:Heap}{x y bv:V} {ls:List (List Nat)} {b:List Nat} {f:V->M β} {Q:β->Heap->Prop} (hx:AppS lo P H x ls) (hlo:lo<=H.next) (hy:acells 1 H y=some ([bv],1)) (hbv:By 0 H bv b) (hd:∀id,bv.pid=some id->x.pid≠some id/\P id)
  (hb:(ls.length+1)*bytes<=140737488355328) (hm:ls.length+1<=140737488355328)
  (k:∀x' H',AppS lo P H' x' (ls++[b])->Step H H' x.pid.toList x'.pid.toList->Ok (f x') H' Q):Ok ((mappend zal 1 bytes x y).bind f) H Q:=by
 obtain⟨ws,rfl,h2,h3⟩:=hx;rw[yah]at hb hm;refine zig h2 hlo hy rfl hb hm λx' H' h s=>k x' H' ⟨ws++[(b,bv)],by simp,?_,?_⟩ s
 ·simpa using h
 ·have hpid:∀id,x'.pid=some id->x.pid=some id\/H.next<=id:=λid hi=>by
   rcases s.own id (by simp[hi]) with h|h
   ·exact .inl (by simpa [zbP]using h)
   ·exact .inr h.1
  have key:∀(u:V) (l:List Nat),By 0 H u l->(∀id,u.pid=some id->x.pid≠some id/\P id)->By 0 H' u l/\∀id,u.pid=some id->x'.pid≠some id/\P id:=by
   intro u l hu hn;refine⟨Lc.step hu s λid hi hF=>(hn id hi).1 (by simpa [zbP]using hF),λid hi=>⟨λhe=>?_,(hn id hi).2⟩⟩;rcases hpid id he with h|h
   ·exact(hn id hi).1 h
   ·have:=(hu.own id hi).2;omega
  intro w hw;rcases yaG.1 hw with hw|hw
  ·exact key _ _ (h3 w hw).1 (h3 w hw).2
  ·simp only[yar]at hw;subst hw;exact key _ _ hbv hd
def AppS.low{lo:Nat}{P:Nat->Prop}{H:Heap}{v:V} {ls:List (List Nat)} (h:AppS lo P H v ls) {i:Nat} (hi:v.pid=some i):lo<=i/\i<H.next:=by
 obtain⟨ws,h1,h2,h3⟩:=h;exact h2.lc.own i hi
def AppS.vlen{lo:Nat}{P:Nat->Prop}{H:Heap}{v:V} {ls:List (List Nat)} (h:AppS lo P H v ls):Ax.vlen v=some (.int .i64 (ls.length:Nat)):=by
 obtain⟨ws,rfl,h2,h3⟩:=h;rw[yah];exact h2.lc.vlen
def bind_pure'{α:Type}(x:M α):x.bind M.pure=x:=by
 funext H;unfold M.bind M.pure;cases x H with
 | none=>rfl
 | some q=>rfl
def zxn{bytes lo:Nat}{P:Nat->Prop}{H:Heap}{x y bv:V} {ls:List (List Nat)} {b:List Nat} (hc:H.Cl) (hx:AppS lo P H x ls) (hlo:lo<=H.next) (hy:acells 1 H y=some ([bv],1)) (hbv:By 0 H bv b) (hd:∀id,bv.pid=some id->x.pid≠some id/\P id)
  (hb:(ls.length+1)*bytes<=140737488355328) (hm:ls.length+1<=140737488355328):Ok (mappend zal 1 bytes x y) H λx' H'=>AppS lo P H' x' (ls++[b])/\Step H H' x.pid.toList x'.pid.toList/\H'.Cl:=by
 have h:Ok ((mappend zal 1 bytes x y).bind M.pure) H λx' H'=>AppS lo P H' x' (ls++[b])/\Step H H' x.pid.toList x'.pid.toList:=zpN hx hlo hy hbv hd hb hm λx' H' h s=>zha ⟨h,s⟩;rw[bind_pure']at h;obtain⟨r,H',e,h1,h2⟩:=h;exact⟨r,H',e,h1,h2,(znU (G:=⟨0⟩) _ _ _ _ _ H r H' ⟨hc,yaD _⟩ e).2.cl⟩
def pcz(b:List Nat)(k:Nat):List (List Nat):=(List.range k).map λj=>(b.drop (100*j)).take 100
def ztN(b:List Nat)(k:Nat):pcz b (k+1)=pcz b k++[(b.drop (100*k)).take 100]:=by
 unfold pcz;rw[ycr,yaC];rfl
def pcsL(b:List Nat):List (List Nat):=pcz b ((b.length-1)/100)++[b.drop (100*((b.length-1)/100))]
def zqD{H:Heap}{v:V}:acells 1 (H.new ⟨zal,[v],none⟩) (.sl H.next 0 1 (.fix 1))=some ([v],1):=by
 simp only[acells,rcells,zaf,Option.bind_some];rfl
def grow_step{H H1 H':Heap}{F F':List Nat}(g:Grow H H1)(s:Step H1 H' F F')(hF:∀i∈F,H.next<=i):Grow H H':=
 ⟨yax g.next s.next,λi hi=>(s.same i (yai hi g.next) λe=>by have:=hF i e;omega).trans (g.same i hi)⟩
def ztM{lo:Nat}{H:Heap}{v:V}{b:List Nat}(hv:By lo H v b)(hl:b.length<=1048576) :
  Ok (sem T zep [v]) H λr H'=>AppS H.next (λi=>v.pid=some i) H' r (pcsL b)/\Grow H H':=by
 refine zof ?_;unfold zkN uR ug;have hvp:∀i,v.pid=some i->i<H.next:=λi hi=>(hv.own i hi).2;have loop:Ok (M.iter (zdZ (sem T) .nils) [v,.nils]) H λr H'=>∃v' x,r = .ex 0 [v',x]/\v'.pid=v.pid/\By lo H' v' (b.drop (100*((b.length-1)/100)))/\AppS H.next (λi=>v.pid=some i) H' x (pcz b ((b.length-1)/100))/\Grow H H':=by
  refine zaS (λj L H'=>∃v' x,L=[v',x]/\v'.pid=v.pid/\By lo H' v' (b.drop (100*j))/\AppS H.next (λi=>v.pid=some i) H' x (pcz b j)/\Grow H H') ((b.length-1)/100) ?_ ?_ ?_
  ·exact⟨v,.nils,rfl,rfl,by simpa using hv,AppS.nil,Grow.refl _⟩
  ·rintro j L H1 hj ⟨v1,x1,rfl,p1,b1,a1,s1⟩;have n1:=s1.next;have hlen:(b.drop (100*j)).length=b.length-100*j:=yas;obtain⟨va,-,ha,-,hva,pa⟩:=by_slice b1 (x:=0) (y:=100) (by omega) (by omega) (by omega);have ha2:∀{k':IntKind},zat .sl 1 v1 none (some (.int k' 100)) none=some va:=ha rfl;obtain⟨vb,-,-,hb,hvb,pb⟩:=by_slice b1 (x:=100) (y:=((b.drop (100*j)).length:Nat)) (by omega) (by omega) (by omega);have hb2:∀{k':IntKind},zat .sl 1 v1 (some (.int k' 100)) none none=some vb:=hb rfl;have hvl:=b1.vlen;have hle:(100:Int)<((b.drop (100*j)).length:Nat):=by omega
   have e100:(100:Int).toNat=100:=rfl;have e0:(0:Int).toNat=0:=rfl;rw[e100,e0,yaA,ych]at hva;rw[e100,yan,ya9,yaj (by rw[yas,hlen];omega)]at hvb;have vc:=hva.cells1;have vo:=hva.okc;unfold zdZ uL uB uK uc ug;simp(disch:=omega)only[↓RD,RZ,eq_self,seval,hvl,hle,ha2,vc,vo];rw[za2];have s2:=Grow.new H1 ⟨zal,[va],none⟩;have hpz:(pcz b j).length=j:=by unfold pcz;rw[yah,ybZ]
   refine zpN (a1.grow s2) (by rw[zae];omega) zqD ((hva.ext s2).low (yaD _)) (λi hi=>⟨λe=>?_,by rw[<-p1,<-pa];exact hi⟩) (by omega) (by omega) λx2 H2 a2 s3=>?_
   ·rw[pa,p1]at hi;have:=hvp i hi;have:=(a1.low e).1;omega
   have sT:Grow H H2:=grow_step (s1.trans s2) s3 λi hi=>(a1.low (by simpa [zbP]using hi)).1;simp(disch:=omega)only[↓RD,RZ,eq_self,seval,hb2];refine⟨vb,x2,rfl,pb.trans p1,?_,by rw[ztN];exact a2,sT⟩;have:By lo H2 vb (b.drop (100*j+100)):=Lc.step (hvb.ext s2) s3 λi hi e=>by
    rw[pb,p1]at hi;have:=hvp i hi;have:=(a1.low (by simpa [zbP]using e)).1;omega
   exact this
  ·rintro L H1 ⟨v1,x1,rfl,p1,b1,a1,s1⟩;have hlen:(b.drop (100*((b.length-1)/100))).length=b.length-100*((b.length-1)/100):=yas;have hvl:=b1.vlen;have hle:¬(100:Int)<((b.drop (100*((b.length-1)/100))).length:Nat):=by omega
   unfold zdZ uL uB uK uc ug;simp(disch:=omega)only[↓RD,RZ,eq_self,seval,hvl,hle,decide_eq_false hle];exact⟨v1,x1,rfl,p1,b1,a1,s1⟩
 refine ztZ (zao loop ?_);rintro _ H1 ⟨v1,x1,rfl,p1,b1,a1,s1⟩;have n1:=s1.next;have vc:=b1.cells1;have vo:=b1.okc;have hpz:(pcz b ((b.length-1)/100)).length=(b.length-1)/100:=by unfold pcz;rw[yah,ybZ]
 show Ok _ H1 _;simp(disch:=omega)only[↓RD,RZ,eq_self,seval,vc,vo];rw[za2];have s2:=Grow.new H1 ⟨zal,[v1],none⟩;refine zpN (a1.grow s2) (by rw[zae];omega) zqD ((b1.ext s2).low (yaD _)) (λi hi=>⟨λe=>?_,by rw[<-p1];exact hi⟩) (by omega) (by omega) λx2 H2 a2 s3=>?_
 ·rw[p1]at hi;have:=hvp i hi;have:=(a1.low e).1;omega
 simp(disch:=omega)only[↓RD,RZ,eq_self,seval];exact⟨a2,grow_step (s1.trans s2) s3 λi hi=>(a1.low (by simpa [zbP]using hi)).1⟩
structure KeepB (lo:Nat) (S:List Nat) (H H':Heap):Prop where
 next:H.next<=H'.next
 same:∀i,i<lo->i∉S->H'.get i=H.get i
def KeepB.refl(lo:Nat)(S:List Nat)(H:Heap):KeepB lo S H H:=⟨yag _,λ_ _ _=>rfl⟩
def KeepB.trans{lo:Nat}{S:List Nat}{H H1 H2:Heap}(h:KeepB lo S H H1)(k:KeepB lo S H1 H2):KeepB lo S H H2:=⟨yax h.next k.next,λi hi hn=>(k.same i hi hn).trans (h.same i hi hn)⟩
def KeepB.ofAtS{lo:Nat}{S S':List Nat}{H H':Heap}(h:AtS S' H H')(hl:lo<=H.next)(hs:∀i∈S',i∈S\/lo<=i):KeepB lo S H H':=⟨h.next,λi hi hn=>h.same i (by omega) λe=>by rcases hs i e with h|h;exact hn h;omega⟩
def KeepB.ofGrow{lo:Nat}{S:List Nat}{H H':Heap}(h:Grow H H')(hl:lo<=H.next):KeepB lo S H H':=⟨h.next,λi hi hn=>h.same i (by omega)⟩
def AppS.keepB{lo l0:Nat}{P:Nat->Prop}{S:List Nat}{H H':Heap}{v:V} {ls:List (List Nat)} (h:AppS lo P H v ls) (hl:H.next<=l0) (k:KeepB l0 S H H') (hv:∀i,v.pid=some i->i∉S) (hP:∀i,P i->i∉S):AppS lo P H' v ls:=by
 obtain⟨ws,h1,h2,h3⟩:=h;refine⟨ws,h1,?_,λw hw=>⟨?_,(h3 w hw).2⟩⟩
 ·have ho:=h2.lc.own;generalize hcs:ws.map (·.2)=cs at h2;generalize ws.length=m at h2;cases h2 with
  | opn h ho=>exact .opn (h.to λi hi=>k.same i (yai (ho i hi).2 hl) (hv i hi)) λi hi=>⟨(ho i hi).1,yai (ho i hi).2 k.next⟩
  | lit h h0 h1=>exact .lit (by rw[k.same _ (by omega) (hv _ rfl),h]) h0 (yai h1 k.next)
 ·have hb:=(h3 w hw).1;exact⟨by rw[zc2 λi hi=>k.same i (yai (hb.own i hi).2 hl) (hP i ((h3 w hw).2 i hi).2)];exact hb.rc,λi hi=>⟨(hb.own i hi).1,yai (hb.own i hi).2 k.next⟩,hb.cap⟩
def AppS.at{lo:Nat}{P:Nat->Prop}{H:Heap}{v:V} {ls:List (List Nat)} (h:AppS lo P H v ls) {i:Nat} (hi:i<ls.length):∃p bv,(∀{k:IntKind},Ax.iaddr none 1 v (.int k i)=some p)/\Pl H p [bv] v.pid/\By 0 H bv ls[i]/\∀id,bv.pid=some id->v.pid≠some id/\P id:=by
 obtain⟨ws,rfl,h2,h3⟩:=h;rw[yah]at hi;obtain⟨p,hp,hl⟩:=h2.lc.at (i:=(i:Nat)) (by omega) (by omega);have e:((ws.map (·.2)).drop (i*1)).take 1=[ws[i].2]:=by
  rw[ya5,yaM (by rw[yah];exact hi),ybQ];rfl
 rw[yan,e]at hl;have h4:=h3 _ (yaV hi);refine⟨p,ws[i].2,hp,?_,?_,h4.2⟩
 ·simpa using hl
 ·simpa using h4.1
def pktF(mk:Bool)(q ts ssrc:Nat)(dd pay:List Nat):R7.Pkt:=⟨mk,96,q,ts,ssrc,[],48862,[(1,dd)],0,pay⟩
def zw3{mk:Bool}{q ts ssrc:Nat}{dd pay:List Nat}(h1:1<=dd.length)(h2:dd.length<=16)(hp:pay.length<=1000):R7.bytes (pktF mk q ts ssrc dd pay) = .ok (R7.hb (pktF mk q ts ssrc dd pay)++pay):=by
 have hg:R7.good (pktF mk q ts ssrc dd pay)=true:=by
  simp[R7.good,pktF,R7.goodX,h1,h2]
 have hx:(R7.xsb (pktF mk q ts ssrc dd pay)).length=1+dd.length:=by
  simp[R7.xsb,pktF,R7.xb];omega
 have hl:(R7.hb (pktF mk q ts ssrc dd pay)).length<=100:=by
  unfold R7.hb R7.extb R7.elems;rw[yaf,R7.hb0_len,if_neg (by show ¬((48862:Int)=0);decide)];simp only[yaf,yaF,hx,R7.bn_len];have:R7.padn (1+dd.length)<=3:=by unfold R7.padn;omega
  show 12+4*0 + _<=100;omega
 unfold R7.bytes;rw[if_neg (by rw[hg];decide),if_neg (by show ¬(1200 < _+pay.length+(0:Int).toNat);have:(0:Int).toNat=0:=rfl;omega)];congr 1;show _++pay++R7.padb 0 = _;rw[show R7.padb 0=[] from rfl,yaK]
def exs_1{H:Heap}{x:Nat}{bv:V}{b:List Nat} (g:H.get x=some ⟨zaU,[.int .i64 1,bv],none⟩) (hx:x<H.next) (hb:By 0 H bv b):R7.Exs 0 H (.sl x 0 1 (.fix 1)) [(1,b)]:=by
 refine⟨[((1,b),bv)],rfl,⟨?_,λi hi=>?_,yag _⟩,λw hw=>?_⟩
 ·simp only[rcells,g,Option.bind_some];rfl
 ·injection hi with hi;subst hi;exact⟨yaD _,hx⟩
 ·simp only[yar]at hw;subst hw;exact hb
def wq(n:Nat):WS:=if n=0 then (false,0,0) else (true,n-1,2 ^ n-1)
def wq_all:((List.range 60).all λn=>(mayW (wq n) n==0)&&decide (zhY (wq n) n=wq (n+1)))=true:=by kernel_rfl
def wq_n{n:Nat}(h:n<60):mayW (wq n) n=0/\zhY (wq n) n=wq (n+1):=by
 have:=yaz.1 wq_all n (yaZ.2 h);simp only[yam,beq_iff_eq,decide_eq_true_eq]at this;exact this
structure Rdy (R:Rc) (n t:Nat) (K:Ky) (e st sl c:Nat):Prop where
 kid:K.kid=256*e+8*st+sl
 e0:e<65536
 st0:st<32
 sl0:sl<8
 ch:∃s0 base,look ((e:Int),(sl:Int)) R.ch=some (s0,base)/\s0<=st/\keyR R n t K.kid (zd4 base (st-s0))=K
 win:winR R K.kid=wq c
def gotR(R:Rc)(n t:Nat)(K:Ky)(e st sl c:Nat):Rc:={ ze1 R n t K.kid (zd4 ((look ((e:Int),(sl:Int)) R.ch).getD (0,[])).2 (st-((look ((e:Int),(sl:Int)) R.ch).getD (0,[])).1)) with win:=putl K.kid (wq (c+1)) R.win }
def zmr{R:Rc}{n t e st sl c:Nat}{K:Ky}(h:Rdy R n t K e st sl c)(hc:c<60)(ht:K.t<=32){p:List Nat}(hp:p.length<=1000) :
  zeY R n t [] (zcd K c [] p)=(gotR R n t K e st sl c,.got e st sl c p)/\Rdy (gotR R n t K e st sl c) n t K e st sl (c+1)/\(gotR R n t K e st sl c).id=R.id/\(gotR R n t K e st sl c).ch=R.ch:=by
 obtain⟨hkid,h1,h2,h3,⟨s0,base,hl,hs,hk⟩,hw⟩:=h;have hpar:parse (zcd K c [] p) = .ok K.kid c (hdr K.kid c).length:=by
  unfold zcd;rw[yaI];exact zmZ (by omega) (by omega) _
 obtain⟨w1,w2⟩:=wq_n hc;have hgr:gotR R n t K e st sl c = { ze1 R n t K.kid (zd4 base (st-s0)) with win:=putl K.kid (wq (c+1)) R.win }:=by
  unfold gotR;rw[hl];rfl
 refine⟨?_,⟨hkid,h1,h2,h3,⟨s0,base,?_,hs,?_⟩,?_⟩,?_,?_⟩
 ·unfold zeY;rw[hpar];dsimp only;rw[if_neg (by omega),show K.kid/256=e by omega,show K.kid%8=sl by omega,show K.kid%256/8=st by omega,hl];dsimp only;rw[if_neg (by omega),hw,w1,if_neg (λh=>h rfl),hk,zri ht (by omega) (by omega) hp];dsimp only;rw[w2,hgr]
 ·rw[hgr];show look _ (ze1 R n t K.kid _).ch = _;rw[zud];exact hl
 ·rw[hgr];unfold keyR at hk ⊢;show(look K.kid (ze1 R n t K.kid (zd4 base (st-s0))).ks).getD (drv (ze1 R n t K.kid (zd4 base (st-s0))).id K.kid n t _)=K;rw[zuc];unfold ze1;cases hq:look K.kid R.ks with
  | some k=>rw[hq]at hk;dsimp only;rw[hq];exact hk
  | none=>
   rw[hq]at hk;dsimp only;rw[zt6,if_pos rfl];exact hk
 ·rw[hgr];show(look K.kid (putl K.kid (wq (c+1)) R.win)).getD _ = _;rw[zt6,if_pos rfl];rfl
 ·rw[hgr];exact zuc _ _ _ _ _
 ·rw[hgr];exact zud _ _ _ _ _
def gotN(R:Rc)(n t:Nat)(K:Ky)(e st sl c:Nat):Nat->Rc
 | 0=>R
 | k+1=>gotR (gotN R n t K e st sl c k) n t K e st sl (c+k)
def rdy_n{R:Rc}{n t e st sl c:Nat}{K:Ky}(h:Rdy R n t K e st sl c)(ht:K.t<=32):∀k,c+k<=60->Rdy (gotN R n t K e st sl c k) n t K e st sl (c+k)/\(gotN R n t K e st sl c k).id=R.id/\(gotN R n t K e st sl c k).ch=R.ch
 | 0,_=>⟨h,rfl,rfl⟩
 | k+1,hk=>by
  obtain⟨h1,h2,h3⟩:=rdy_n h ht k (by omega);obtain⟨-,h4,h5,h6⟩:=zmr h1 (by omega) ht (p:=[]) (by decide);exact⟨h4,h5.trans h2,h6.trans h3⟩
def zw2{mk:Bool}{q ts ssrc:Nat}{dd pay:List Nat}(h1:1<=dd.length)(h2:dd.length<=16)(hp:pay.length<=1000)(p8:Ok8 pay)(d8:Ok8 dd)(hq:q<65536)(hts:ts<4294967296)(hss:ssrc<4294967296) :
  R7.parse (R7.hb (pktF mk q ts ssrc dd pay)++pay) = .ok (pktF mk q ts ssrc dd pay)/\Ok8 (R7.hb (pktF mk q ts ssrc dd pay)++pay)/\(R7.hb (pktF mk q ts ssrc dd pay)++pay).length<=1200:=by
 have hb:=zw3 (mk:=mk) (q:=q) (ts:=ts) (ssrc:=ssrc) h1 h2 hp;refine⟨R7.parse_bytes hb ⟨by show((q:Nat):_) < _;omega,by show((ts:Nat):_) < _;omega,by show((ssrc:Nat):_) < _;omega,λx hx=>by cases hx⟩,R7.bytes_8 hb p8 (λx hx=>?_),?_⟩
 ·have:x=(1,dd):=by simpa [pktF]using hx
  subst this;exact d8
 ·obtain⟨-,hl,-⟩:=R7.bytes_good hb;simp only[pktF]at hl ⊢;rw[yaf];have:(0:Int).toNat=0:=rfl;omega
def ztO(b:List Nat):∀k,(pcz b k).flatten=b.take (100*k)
 | 0=>by simp[pcz]
 | k+1=>by
  rw[ztN,ybx,ztO b k];simp only[ybe,ycm,yaK];rw[show 100*(k+1)=100*k+100 by omega,ydu]
def zrd(b:List Nat):(pcsL b).flatten=b:=by
 unfold pcsL;rw[ybx,ztO];simp
end Go.Ax.SU
/- Lp1 -/
namespace Go.Ax.SU
open Go.Ax
def SndP(kp lo:Nat)(H:Heap)(s:Nat)(id slot:Int)(x:SS):Prop:=s<H.next /\
 match x with
 | none=>False
 | some (K,e,st,c)=>c<18446744073709551616/\H.get s=some ⟨zaA,sndC id slot (.ptr kp 0) e st K.kid c,none⟩/\KeyM H kp K/\zoH lo H kp
def SndP.grow{kp lo:Nat}{H H':Heap}{s:Nat}{id slot:Int}{x:SS}(h:SndP kp lo H s id slot x)(g:Grow H H'):SndP kp lo H' s id slot x:=by
 obtain⟨h0,h1⟩:=h;refine⟨yai h0 g.next,?_⟩;cases x with
 | none=>exact h1
 | some q=>
  obtain⟨K,e,st,c⟩:=q;obtain⟨h2,h3,h4,h5⟩:=h1;exact⟨h2,(g.same s h0).trans h3,h4.grow g,h5.to (g.same kp h4.low)⟩
def SndP.atS{kp lo:Nat}{S:List Nat}{H H':Heap}{s:Nat}{id slot:Int}{x:SS}(h:SndP kp lo H s id slot x)(g:AtS S H H')(hs:s∉S)(hS:∀i∈S,∃b,H.get i=some b/\Odd b):SndP kp lo H' s id slot x:=by
 obtain⟨h0,h1⟩:=h;refine⟨yai h0 g.next,?_⟩;cases x with
 | none=>exact h1
 | some q=>
  obtain⟨K,e,st,c⟩:=q;obtain⟨h2,h3,h4,h5⟩:=h1;have hk:kp∉S:=λe=>by
   obtain⟨a,av,sv,m1,_⟩:=h4.mem;obtain⟨b,hb,ho⟩:=hS kp e;rw[m1]at hb;injection hb with hb;subst hb;exact ho.1 rfl
  exact⟨h2,(g.same s h0 hs).trans h3,h4.atS g hS,h5.to (g.same kp h4.low hk)⟩
def SndP.atL{kp lo:Nat}{S:List Nat}{H H':Heap}{s:Nat}{id slot:Int}{x:SS}(h:SndP kp lo H s id slot x)(g:AtS S H H')(hs:s∉S)(hS:∀i∈S,i<lo/\∃b,H.get i=some b/\b.ty≠zaR/\b.ty≠zaT/\b.ty≠zaw):SndP kp lo H' s id slot x:=by
 obtain⟨h0,h1⟩:=h;refine⟨yai h0 g.next,?_⟩;cases x with
 | none=>exact h1
 | some q=>
  obtain⟨K,e,st,c⟩:=q;obtain⟨h2,h3,h4,h5⟩:=h1;obtain⟨h6,h7⟩:=h4.atL h5 g hS;exact⟨h2,(g.same s h0 hs).trans h3,h6,h5.to h7⟩
def SealP_ok{kp ll lo1 lo2 s:Nat}{H:Heap}{id slot:Int}{x:SS}{mv pv:V}{m p:List Nat}(hx:SndP kp ll H s id slot x)(hm:By lo1 H mv m)(m8:Ok8 m)(hp:By lo2 H pv p)(p8:Ok8 p)(hml:m.length<=274877906944)(hpl:p.length<=1099511627776) :
  Ok (sem T zcJ [.ptr s 0,mv,pv]) H λr H'=>SndP kp ll H' s id slot (sealS x p)/\AtS [s] H H' /\
   match x with
   | none=>r = .tup [.nils,.int .i64 10]
   | some (K,e,st,c)=>if 1000<p.length then r = .tup [.nils,.int .i64 4] else ∃v,r = .tup [v,.int .i64 0]/\By H.next H' v (zcd K c m p):=by
 refine zjL ?_;unfold zgk uL uT uNFM uNF uE uB uA uR uK uc uq;obtain⟨x0,hx1⟩:=hx;cases x with
 | none=>exact hx1.elim
 | some q=>
  obtain⟨K,e0,st0,c0⟩:=q;obtain⟨hc,hx1,hkm,hkl⟩:=hx1;have hx2:=hx1;unfold sndC at hx1;simp(maxSteps:=1000000) (disch:=first|omega|(simp only[RY]<;>omega)|decide)only[↓RD,RZ,eq_self,Int.reduceToNat,Int.reduceAdd,Int.reduceSub,Int.reduceMul,Nat.reduceAdd,Nat.reduceSub,Nat.reduceMul,Nat.reduceDiv,Nat.reduceMod,Nat.reduceBEq,Nat.reduceLeDiff,hx1];refine zad (Seal_ok hkm hc hm m8 hp p8 hml hpl) ?_;rintro _ H1 ⟨s1,h1⟩;have g1:=(s1.same s x0).trans hx1;have g2:=(s1.same s x0).trans hx2;have n1:=s1.next;split at h1
  ·rename_i h3;subst h1;simp(maxSteps:=1000000) (disch:=first|omega|(simp only[RY]<;>omega)|decide)only[↓RD,RZ,eq_self,Int.reduceToNat,Int.reduceAdd,Int.reduceSub,Int.reduceMul,Nat.reduceAdd,Nat.reduceSub,Nat.reduceMul,Nat.reduceDiv,Nat.reduceMod,Nat.reduceBEq,Nat.reduceLeDiff];refine⟨?_,Grow.atS s1 _,?_⟩
   ·unfold sealS;dsimp only;rw[if_pos h3];exact⟨by omega,hc,g2,hkm.grow s1,hkl.to (s1.same kp hkm.low)⟩
   ·rw[if_pos h3];trivial
  ·rename_i h3;obtain⟨v,rfl,hv⟩:=h1;have w1:IntKind.u64.wrap (((c0:Nat):Int)+1)=(((c0+1)%18446744073709551616:Nat):Int):=by rw[wrap_u64];omega
   simp(maxSteps:=1000000) (disch:=first|omega|(simp only[RY]<;>omega)|decide)only[↓RD,RZ,eq_self,Int.reduceToNat,Int.reduceAdd,Int.reduceSub,Int.reduceMul,Nat.reduceAdd,Nat.reduceSub,Nat.reduceMul,Nat.reduceDiv,Nat.reduceMod,Nat.reduceBEq,Nat.reduceLeDiff,g1,w1];have a1:AtS [s] H (H1.set s (some ⟨zaA,sndC id slot (.ptr kp 0) e0 st0 K.kid ((c0+1)%18446744073709551616),none⟩)):=(Grow.atS s1 _).trans (AtS.set _ (by simp) _);refine⟨?_,a1,?_⟩
   ·unfold sealS;dsimp only;rw[if_neg h3];have hks:kp≠s:=λe=>by
     obtain⟨a,av,sv,m1,_⟩:=hkm.mem;rw[e,hx2]at m1;injection m1 with m1
     injection m1 with m1
     exact absurd m1 (show zaA≠zaR by decide)
    refine⟨by rw[zam];omega,ybc _ (by decide),zai _ _ _,?_,hkl.to ((zaj _ _ hks).trans (s1.same kp hkm.low))⟩;exact(hkm.grow s1).atS (AtS.set (S:=[s]) H1 (by simp) _) λi hi=>by
     simp only[yar]at hi;subst hi;exact⟨_,g2,odd_snd _ _ _ _ _ _ (.inr ⟨kp,rfl⟩)⟩
   ·rw[if_neg h3];exact⟨v,rfl,Lc.atS hv (AtS.set (S:=[s]) H1 (by simp) _) λi hi e=>by
     simp only[yar]at e;subst e;have:=(hv.own i hi).1;omega⟩
end Go.Ax.SU
/- Fq12 -/
namespace Go.Ax.SU
open Go.Ax Go.Proofs
def zrc{H:Heap}{p bv:V}{own:Option Nat} (h:Pl H p [bv] own):LdR none H p bv:=λf Q=>by rw[h.ld0 (by simp)];exact zpl
def By.not_u8{lo:Nat}{H:Heap}{v:V}{l:List Nat}(h:By lo H v l):∀n,v≠.int .u8 n:=λn e=>by
 have:=h.rc;rw[e]at this;cases this
def AppS.odd{lo:Nat}{P:Nat->Prop}{H:Heap}{v:V} {ls:List (List Nat)} (h:AppS lo P H v ls):∀i,v.pid=some i->∃b,H.get i=some b/\Odd b:=λi hi=>by
 obtain⟨ws,h1,h2,h3⟩:=h;generalize hcs:ws.map (·.2)=cs at h2;generalize ws.length=m at h2;have hcell:∀w∈cs,∀n,w≠.int .u8 n:=λw hw=>by
  rw[<-hcs]at hw;obtain⟨u,hu,rfl⟩:=yaW.1 hw;exact By.not_u8 (h3 u hu).1
 cases h2 with
 | opn h ho=>
  rcases h with⟨rfl,_⟩|⟨j,rfl,hg,_⟩
  ·cases hi
  ·injection hi with hi
   subst hi;exact⟨_,hg,by show zal≠_;decide,by show zal≠_;decide,by show zal≠_;decide,hcell⟩
 | lit h h0 h1=>
  injection hi with hi
  subst hi;exact⟨_,h,by show zal≠_;decide,by show zal≠_;decide,by show zal≠_;decide,λw hw=>by cases hw⟩
set_option maxHeartbeats 4000000 in
def fbody{kp:Nat}{s sn fq a id sl f q n j ts ssrc:Nat}{W:Nat->V}{sv rv rcv pl ov:V}{o st en nw nw':Bool}{idv fnv x1 x2 x3 x4 x5 x6 z1 z2 z3 z4 z5 z6 y1 y2 y3:V}{lp lo:Nat}{P:Nat->Prop} {ls out:List (List Nat)} {dd:List Nat} {L:List (Nat×Blk)} {H:Heap} {K:Ky} {se ss c:Nat}
  (hc:H.Cl) (hg:H.get s=some ⟨zah,stX a id sv rv W (.ptr sn 0) rcv f q true o,none⟩)
  (hs:SndP kp (s+1) H sn (id:Nat) (sl:Nat) (some (K,(se:Nat),(ss:Nat),c)))
  (hf:H.get fq=some ⟨zaO,[.bool st,.bool en,idv,fnv,.bool nw,x1,x2,x3,x4,x5,x6,.bool false,.int .u32 0,.bool false,.bool false,.bool false,y1,y2,y3],none⟩)
  (hp:AppS lp P H pl ls) (hn:ls.length=n) (hn8:n<=1000) (hj:j<n) (h8:∀l∈ls,Ok8 l/\l.length<=100)
  (ns:sn≠s) (nf:sn≠fq) (sf:s≠fq) (hl:Has H L) (hlf:fq∉L.map Prod.fst) (hls:s∉L.map Prod.fst) (hln:sn∉L.map Prod.fst)
  (ho:AppS lo (λi=>lo<=i) H ov out) (hlo:lo<=H.next) (hos:∀i,i=s\/i=sn\/i=fq->i<lo) (hout:out.length<=1000)
  (hx8:∀v∈[idv,fnv,x1,x2,x3,x4,x5,x6,y1,y2,y3],∀n,v≠.int .u8 n) (hq:q<65535) (hts:ts<4294967296) (hsr:ssrc<4294967296) (hKt:K.t<=32) (hKw:∀w∈K.ws,Word w)
  (hz:(j=0/\nw'=nw/\[z1,z2,z3,z4,z5,z6]=[x1,x2,x3,x4,x5,x6])\/(0<j/\nw'=false/\[z1,z2,z3,z4,z5,z6]=nS))
  (hss:∀{H:Heap},H.get s=some ⟨zah,stX a id sv rv W (.ptr sn 0) rcv f q true o,none⟩->Ok (sem T za5 [.ptr s 0,.int .i64 0]) H λv H'=>v = .int .u32 (ssrc:Nat)/\H'=H)
  (hd1:1<=dd.length) (hd2:dd.length<=16)
  (hdd:∀{H:Heap} {k':Nat},H.Cl->Has H L->(∀i∈L.map Prod.fst,i<k')->Has H (strL k')->Ok (sem T zbI [.agg [.bool (decide (j=0)),.bool (decide (j+1=n)),idv,fnv,.bool nw',z1,z2,z3,z4,z5,z6,.bool false,.int .u32 0,.bool false,.bool false,.bool false,y1,y2,y3],.agg (strV k')]) H λr H'=>∃v,r = .tup [v,.int .i64 0]/\By H.next H' v dd/\Grow H H'/\H'.Cl) :
  Ok (zb4 (sem T) (.int .i64 (n:Nat)) pl pl (.ptr fq 0) (.int .u32 (ts:Nat)) (.ptr s 0) (.int .i64 0) (.ptr s 24) [ov,.int .i64 (j:Nat)]) H λr H'=>∃ov',r = .nrm [ov',.int .i64 ((j:Nat)+1)] /\
   H'.get s=some ⟨zah,stX a id sv rv W (.ptr sn 0) rcv f (q+1) true o,none⟩ /\
   SndP kp (s+1) H' sn (id:Nat) (sl:Nat) (some (K,(se:Nat),(ss:Nat),(c+1)%18446744073709551616)) /\
   H'.get fq=some ⟨zaO,[.bool (decide (j=0)),.bool (decide (j+1=n)),idv,fnv,.bool nw',z1,z2,z3,z4,z5,z6,.bool false,.int .u32 0,.bool false,.bool false,.bool false,y1,y2,y3],none⟩ /\
   AppS lo (λi=>lo<=i) H' ov' (out++[R7.hb (pktF (decide (j+1=n)) q ts ssrc dd (zcd K c [] (ls[j]'(by omega))))++zcd K c [] (ls[j]'(by omega))]) /\
   KeepB lo [s,sn,fq] H H'/\H'.Cl:=by
 have ls':=zbQ hc hg;have lf:=zbQ hc hf;have lsn:=hs.1;have hlt:((j:Nat):Int)<(n:Nat):=by omega
 obtain⟨p,bv,hp1,hp2,hbv,hpd⟩:=hp.at (i:=j) (by omega);have ld:=zrc hp2;have h8j:=h8 _ (yaV (by omega:j<ls.length));unfold zb4 uL uM uS uT uF uNFM uNF uE uB uIM uO uU uA uZ uR uK uc ug;have hg':=hg;unfold stX at hg';simp(maxSteps:=1000000) (disch:=first|omega|(simp only[RY]<;>omega)|decide)only[↓RD,RZ,eq_self,Int.reduceToNat,Int.reduceAdd,Int.reduceSub,Int.reduceMul,Nat.reduceAdd,Nat.reduceSub,Nat.reduceMul,Nat.reduceDiv,Nat.reduceMod,Nat.reduceBEq,Nat.reduceLeDiff,hlt,hp1,ld,hg'];rw[za2];refine zad (zko hc (SealP_ok hs (Lc.nil:By 0 _ .nils []) Ok8.nil hbv h8j.1 (by decide) (by omega))) ?_;rintro r1 H1 ⟨⟨hs1,a1,h1⟩,c1⟩;have hne:¬1000<ls[j].length:=by omega
 dsimp only at h1;rw[if_neg hne]at h1;obtain⟨v1,rfl,hv1⟩:=h1;unfold sealS at hs1;dsimp only at hs1;rw[if_neg hne]at hs1;have n1:=a1.next;have g1f:=(a1.same fq lf (by simp;exact nf.symm)).trans hf;have g1s:=(a1.same s ls' (by simp;exact ns.symm)).trans hg;have hpv:=hp.vlen;rw[hn]at hpv;have w:IntKind.i64.wrap (((n:Nat):Int)-1)=(n:Nat)-1:=wrap_i64 (by omega) (by omega);have d1:(((j:Nat):Int)==((n:Nat):Int)-1)=decide (j+1=n):=by
  rw[ycU];simp;omega
 have hsl:(zcd K c [] ls[j]).length<=1000:=by
  rw[zf4 hKt];have:=zjR K.kid c;omega
 have hs8:Ok8 (zcd K c [] ls[j]):=zoM hKw h8j.1;generalize zcd K c [] ls[j]=sealed at *;have wj:IntKind.i64.wrap (((j:Nat):Int)+1)=(j:Nat)+1:=wrap_i64 (by omega) (by omega);have wq:IntKind.u16.wrap (((q:Nat):Int)+1)=((q+1:Nat):Int):=by rw[wrap_u16];omega
 have hodd1:∃b,H1.get fq=some b/\Odd b:=⟨_,g1f,by show zaO≠_;decide,by show zaO≠_;decide,by show zaO≠_;decide,by
  intro v hv;simp only[yao,yap,or_false]at hv hx8;rcases hv with rfl|rfl|h|h|rfl|h|h|h|h|h|h|rfl|rfl|rfl|rfl|rfl|h|h|h<;>first|(intro n e;cases e;done)|exact hx8 v (by simp[h])⟩
 rcases hz with⟨hj0,rfl,hz⟩|⟨hj0,rfl,hz⟩
 all_goals
  simp only[nS,ybs,and_true]at hz;obtain⟨e1,e2,e3,e4,e5,e6⟩:=hz;subst e1 e2 e3 e4 e5 e6
 case inl=>
  have hjn:¬(0:Int)<(j:Nat):=by omega
  have d0:(((j:Nat):Int)==0)=decide (j=0):=by rw[ycU];simp
  simp(maxSteps:=1000000) (disch:=first|omega|(simp only[RY]<;>omega)|decide)only[↓RD,RZ,eq_self,Int.reduceToNat,Int.reduceAdd,Int.reduceSub,Int.reduceMul,Nat.reduceAdd,Nat.reduceSub,Nat.reduceMul,Nat.reduceDiv,Nat.reduceMod,Nat.reduceBEq,Nat.reduceLeDiff,g1f,hpv,zbF,d0,d1,w,hjn,decide_eq_false hjn];rw[za2];generalize hX:Heap.set H1 fq _=H2;have g2f:H2.get fq=some ⟨zaO,[.bool (decide (j=0)),.bool (decide (j+1=n)),idv,fnv,.bool nw',z1,z2,z3,z4,z5,z6,.bool false,.int .u32 0,.bool false,.bool false,.bool false,y1,y2,y3],none⟩:=by rw[<-hX];exact zai _ _ _
  have a2:AtS [fq] H1 H2:=by rw[<-hX];exact AtS.set _ (by simp) _
  have n2:H2.next=H1.next:=by rw[<-hX];rfl
  have c2:H2.Cl:=by rw[<-hX];exact zcE c1 (by omega) _
  clear hX;have g2s:=(a2.same s (by omega) (by simp;exact sf)).trans g1s;have hs2:=hs1.atS a2 (by simp;exact nf) (by intro i hi;rw[yar]at hi;subst hi;exact hodd1);have hl2:=(hl.atS hc a1 (by intro i hi;rw[yar]at hi;subst hi;exact hln)).atS c1 a2 (by intro i hi;rw[yar]at hi;subst hi;exact hlf);refine zad (zic c2) ?_;rintro _ H3 ⟨k',rfl,lk,hk,s3,c3⟩;have n3:=s3.next;have g3f:=(s3.same fq (by omega)).trans g2f;have g3s:=(s3.same s (by omega)).trans g2s;have hl3:=hl2.grow c2 s3;simp(maxSteps:=1000000) (disch:=first|omega|(simp only[RY]<;>omega)|decide)only[↓RD,RZ,eq_self,Int.reduceToNat,Int.reduceAdd,Int.reduceSub,Int.reduceMul,Nat.reduceAdd,Nat.reduceSub,Nat.reduceMul,Nat.reduceDiv,Nat.reduceMod,Nat.reduceBEq,Nat.reduceLeDiff,g2f,g3f];refine zad (hdd c3 hl3 (λi hi=>by have:=hl2.lt c2 i hi;omega) hk) ?_;rintro _ H4 ⟨ddv,rfl,hd4,s4,c4⟩;have n4:=s4.next;have g4f:=(s4.same fq (by omega)).trans g3f;have g4s:=(s4.same s (by omega)).trans g3s;have g4s':=g4s;unfold stX at g4s';have dc:=hd4.cells1;have dk:=hd4.okc;have vc:=hv1.cells1;have vk:=hv1.okc;simp(maxSteps:=1000000) (disch:=first|omega|(simp only[RY]<;>omega)|decide)only[↓RD,RZ,eq_self,Int.reduceToNat,Int.reduceAdd,Int.reduceSub,Int.reduceMul,Nat.reduceAdd,Nat.reduceSub,Nat.reduceMul,Nat.reduceDiv,Nat.reduceMod,Nat.reduceBEq,Nat.reduceLeDiff,g4f,g4s',dc,dk];refine zad (hss g4s) ?_;rintro _ H4b ⟨rfl,e4⟩;rw[e4];clear e4 H4b;have l4:s<H4.next:=by omega
  have l4':fq<H4.next:=by omega
  simp(maxSteps:=1000000) (disch:=first|omega|(simp only[RY]<;>omega)|decide)only[↓RD,RZ,eq_self,Int.reduceToNat,Int.reduceAdd,Int.reduceSub,Int.reduceMul,Nat.reduceAdd,Nat.reduceSub,Nat.reduceMul,Nat.reduceDiv,Nat.reduceMod,Nat.reduceBEq,Nat.reduceLeDiff,g4f,g4s',dc,dk,vc,vk,wq,zbF];rw[za2];have hs4:=(hs2.grow s3).grow s4;have hv2:=((Lc.atS hv1 a2 (λi hi=>by simp only[yar];have:=(hv1.own i hi).1;omega)).ext s3).ext s4;generalize hX:Heap.set (Heap.set (Heap.new (Heap.new H4 _) _) _ _) s _=H5;have n5:H5.next=H4.next+2:=by rw[<-hX];rfl
  have g5s:H5.get s=some ⟨zah,stX a id sv rv W (.ptr sn 0) rcv f (q+1) true o,none⟩:=by rw[<-hX];exact zai _ _ _
  have a5:AtS [s] H4 H5:=by rw[<-hX];exact(Grow.atS (((Grow.new _ _).trans (Grow.new _ _)).set (by omega) _) _).trans (AtS.set _ (by simp) _)
  have g5x:H5.get H4.next=some ⟨zaU,[.int .i64 1,ddv],none⟩:=by rw[<-hX,zaj _ _ (by omega),zaj _ _ (by omega),zas _ _ (by rw[zae];omega)];exact zaf _ _
  have c5:H5.Cl:=by rw[<-hX];exact zcE (zcE (zd7 (zd7 c4 _) _) (by rw[zae,zae];omega) _) (by rw[zam,zae,zae];omega) _
  clear hX;have g5f:=(a5.same fq l4' (by simp;exact sf.symm)).trans g4f;have hs5:=hs4.atL a5 (by simp;exact ns) (by intro i hi;rw[yar]at hi;subst hi;exact⟨by omega,_,g4s,by show zah≠_;decide,by show zah≠_;decide,by show zah≠_;decide⟩);have hv5:=Lc.atS hv2 a5 (λi hi=>by simp only[yar];have:=(hv2.own i hi).1;omega);have hd5:=Lc.atS hd4 a5 (λi hi=>by simp only[yar];have:=(hd4.own i hi).1;omega);refine zad (zko c5 (R7.Bytes_ok (lo:=0) (p:=pktF (decide (j+1=n)) q ts ssrc dd sealed) ⟨.nils,_,v1,rfl,Lc.nil,exs_1 g5x (by omega) (hd5.low (yaD _)),hv5.low (yaD _)⟩ ⟨by show 0<=_;omega,by show 1<=_;omega,by show sealed.length<=_;omega,by intro x hx;rw[show(pktF (decide (j+1=n)) q ts ssrc dd sealed).exts=[(1,dd)] from rfl,yar]at hx;subst hx;show dd.length<=_;omega⟩ ⟨by show q<65536;omega,hts,hsr,by intro x hx;cases hx⟩)) ?_;rintro r6 H6 ⟨⟨s6,h6⟩,c6⟩;rw[zw3 hd1 hd2 hsl]at h6;obtain⟨wv,rfl,hw⟩:=h6;have n6:=s6.next;have wc:=hw.cells1;have wo:=hw.okc;simp(maxSteps:=1000000) (disch:=first|omega|(simp only[RY]<;>omega)|decide)only[↓RD,RZ,eq_self,Int.reduceToNat,Int.reduceAdd,Int.reduceSub,Int.reduceMul,Nat.reduceAdd,Nat.reduceSub,Nat.reduceMul,Nat.reduceDiv,Nat.reduceMod,Nat.reduceBEq,Nat.reduceLeDiff,wc,wo];rw[za2];have s7:=Grow.new H6 ⟨zal,[wv],none⟩;have k6:KeepB H.next [s,sn,fq] H H6:=(((((KeepB.ofAtS a1 (yag _) (by simp)).trans (KeepB.ofAtS a2 (by omega) (by simp))).trans (KeepB.ofGrow s3 (by omega))).trans (KeepB.ofGrow s4 (by omega))).trans (KeepB.ofAtS a5 (by omega) (by simp))).trans (KeepB.ofGrow s6 (by omega));have ho6:=ho.keepB (yag _) k6 (λi hi=>by have h1:=(ho.low hi).1;have:=hos i;simp only[yao,yap,or_false];omega) (λi hi=>by have hi:lo<=i:=hi;have:=hos i;simp only[yao,yap,or_false];omega);refine zad (zxn (zd7 c6 _) (ho6.grow s7) (by rw[zae];omega) zqD ((hw.ext s7).low (yaD _)) (λi hi=>⟨λe=>?_,?_⟩) (by omega) (by omega)) ?_
  ·have h1:=(hw.own i hi).1;have:=(ho.low e).2;omega
  ·have h1:=(hw.own i hi).1;show lo<=i;omega
  rintro ov' H8 ⟨ho8,s8,c8⟩;have hF:∀i∈ov.pid.toList,lo<=i/\i<H.next:=λi hi=>ho.low (by simpa [zbP]using hi);have hF':∀i,i<lo->i∉ov.pid.toList:=λi hi e=>by have:=(hF i e).1;omega
  have t8:∀i,i<lo->H8.get i=H6.get i:=λi hi=>(s8.same i (by rw[zae];omega) (hF' i hi)).trans (s7.same i (by omega));have os1:=hos s (.inl rfl);have os2:=hos sn (.inr (.inl rfl));have os3:=hos fq (.inr (.inr rfl));have hs7:=(hs5.grow s6).grow s7;have hs8':=hs7.atS (S:=ov.pid.toList) ⟨s8.next,λi hi hn=>s8.same i hi hn⟩ (hF' sn os2) (λi hi=>(ho6.grow s7).odd i (by simpa [zbP]using hi));simp(maxSteps:=1000000) (disch:=first|omega|(simp only[RY]<;>omega)|decide)only[↓RD,RZ,eq_self,Int.reduceToNat,Int.reduceAdd,Int.reduceSub,Int.reduceMul,Nat.reduceAdd,Nat.reduceSub,Nat.reduceMul,Nat.reduceDiv,Nat.reduceMod,Nat.reduceBEq,Nat.reduceLeDiff,wj];refine⟨ov',rfl,(t8 s os1).trans ((s6.same s (by omega)).trans g5s),hs8',(t8 fq os3).trans ((s6.same fq (by omega)).trans g5f),ho8,⟨by have:=s8.next;rw[zae]at this;omega,λi hi hn=>(t8 i hi).trans (k6.same i (by omega) hn)⟩,c8⟩
 case inr=>
  have hjn:(0:Int)<(j:Nat):=by omega
  have d0:(((j:Nat):Int)==0)=decide (j=0):=by rw[ycU];simp
  simp(maxSteps:=1000000) (disch:=first|omega|(simp only[RY]<;>omega)|decide)only[↓RD,RZ,eq_self,Int.reduceToNat,Int.reduceAdd,Int.reduceSub,Int.reduceMul,Nat.reduceAdd,Nat.reduceSub,Nat.reduceMul,Nat.reduceDiv,Nat.reduceMod,Nat.reduceBEq,Nat.reduceLeDiff,g1f,hpv,zbF,d0,d1,w,hjn,decide_eq_true hjn];rw[za2];generalize hX:Heap.set H1 fq _=H2;have g2f:H2.get fq=some ⟨zaO,[.bool (decide (j=0)),.bool (decide (j+1=n)),idv,fnv,.bool false,.int .i64 0,.int .i64 0,.nils,.int .i64 0,.nils,.nils,.bool false,.int .u32 0,.bool false,.bool false,.bool false,y1,y2,y3],none⟩:=by rw[<-hX];exact zai _ _ _
  have a2:AtS [fq] H1 H2:=by rw[<-hX];exact AtS.set _ (by simp) _
  have n2:H2.next=H1.next:=by rw[<-hX];rfl
  have c2:H2.Cl:=by rw[<-hX];exact zcE c1 (by omega) _
  clear hX;have g2s:=(a2.same s (by omega) (by simp;exact sf)).trans g1s;have hs2:=hs1.atS a2 (by simp;exact nf) (by intro i hi;rw[yar]at hi;subst hi;exact hodd1);have hl2:=(hl.atS hc a1 (by intro i hi;rw[yar]at hi;subst hi;exact hln)).atS c1 a2 (by intro i hi;rw[yar]at hi;subst hi;exact hlf);refine zad (zic c2) ?_;rintro _ H3 ⟨k',rfl,lk,hk,s3,c3⟩;have n3:=s3.next;have g3f:=(s3.same fq (by omega)).trans g2f;have g3s:=(s3.same s (by omega)).trans g2s;have hl3:=hl2.grow c2 s3;simp(maxSteps:=1000000) (disch:=first|omega|(simp only[RY]<;>omega)|decide)only[↓RD,RZ,eq_self,Int.reduceToNat,Int.reduceAdd,Int.reduceSub,Int.reduceMul,Nat.reduceAdd,Nat.reduceSub,Nat.reduceMul,Nat.reduceDiv,Nat.reduceMod,Nat.reduceBEq,Nat.reduceLeDiff,g2f,g3f];refine zad (hdd c3 hl3 (λi hi=>by have:=hl2.lt c2 i hi;omega) hk) ?_;rintro _ H4 ⟨ddv,rfl,hd4,s4,c4⟩;have n4:=s4.next;have g4f:=(s4.same fq (by omega)).trans g3f;have g4s:=(s4.same s (by omega)).trans g3s;have g4s':=g4s;unfold stX at g4s';have dc:=hd4.cells1;have dk:=hd4.okc;have vc:=hv1.cells1;have vk:=hv1.okc;simp(maxSteps:=1000000) (disch:=first|omega|(simp only[RY]<;>omega)|decide)only[↓RD,RZ,eq_self,Int.reduceToNat,Int.reduceAdd,Int.reduceSub,Int.reduceMul,Nat.reduceAdd,Nat.reduceSub,Nat.reduceMul,Nat.reduceDiv,Nat.reduceMod,Nat.reduceBEq,Nat.reduceLeDiff,g4f,g4s',dc,dk];refine zad (hss g4s) ?_;rintro _ H4b ⟨rfl,e4⟩;rw[e4];clear e4 H4b;have l4:s<H4.next:=by omega
  have l4':fq<H4.next:=by omega
  simp(maxSteps:=1000000) (disch:=first|omega|(simp only[RY]<;>omega)|decide)only[↓RD,RZ,eq_self,Int.reduceToNat,Int.reduceAdd,Int.reduceSub,Int.reduceMul,Nat.reduceAdd,Nat.reduceSub,Nat.reduceMul,Nat.reduceDiv,Nat.reduceMod,Nat.reduceBEq,Nat.reduceLeDiff,g4f,g4s',dc,dk,vc,vk,wq,zbF];rw[za2];have hs4:=(hs2.grow s3).grow s4;have hv2:=((Lc.atS hv1 a2 (λi hi=>by simp only[yar];have:=(hv1.own i hi).1;omega)).ext s3).ext s4;generalize hX:Heap.set (Heap.set (Heap.new (Heap.new H4 _) _) _ _) s _=H5;have n5:H5.next=H4.next+2:=by rw[<-hX];rfl
  have g5s:H5.get s=some ⟨zah,stX a id sv rv W (.ptr sn 0) rcv f (q+1) true o,none⟩:=by rw[<-hX];exact zai _ _ _
  have a5:AtS [s] H4 H5:=by rw[<-hX];exact(Grow.atS (((Grow.new _ _).trans (Grow.new _ _)).set (by omega) _) _).trans (AtS.set _ (by simp) _)
  have g5x:H5.get H4.next=some ⟨zaU,[.int .i64 1,ddv],none⟩:=by rw[<-hX,zaj _ _ (by omega),zaj _ _ (by omega),zas _ _ (by rw[zae];omega)];exact zaf _ _
  have c5:H5.Cl:=by rw[<-hX];exact zcE (zcE (zd7 (zd7 c4 _) _) (by rw[zae,zae];omega) _) (by rw[zam,zae,zae];omega) _
  clear hX;have g5f:=(a5.same fq l4' (by simp;exact sf.symm)).trans g4f;have hs5:=hs4.atL a5 (by simp;exact ns) (by intro i hi;rw[yar]at hi;subst hi;exact⟨by omega,_,g4s,by show zah≠_;decide,by show zah≠_;decide,by show zah≠_;decide⟩);have hv5:=Lc.atS hv2 a5 (λi hi=>by simp only[yar];have:=(hv2.own i hi).1;omega);have hd5:=Lc.atS hd4 a5 (λi hi=>by simp only[yar];have:=(hd4.own i hi).1;omega);refine zad (zko c5 (R7.Bytes_ok (lo:=0) (p:=pktF (decide (j+1=n)) q ts ssrc dd sealed) ⟨.nils,_,v1,rfl,Lc.nil,exs_1 g5x (by omega) (hd5.low (yaD _)),hv5.low (yaD _)⟩ ⟨by show 0<=_;omega,by show 1<=_;omega,by show sealed.length<=_;omega,by intro x hx;rw[show(pktF (decide (j+1=n)) q ts ssrc dd sealed).exts=[(1,dd)] from rfl,yar]at hx;subst hx;show dd.length<=_;omega⟩ ⟨by show q<65536;omega,hts,hsr,by intro x hx;cases hx⟩)) ?_;rintro r6 H6 ⟨⟨s6,h6⟩,c6⟩;rw[zw3 hd1 hd2 hsl]at h6;obtain⟨wv,rfl,hw⟩:=h6;have n6:=s6.next;have wc:=hw.cells1;have wo:=hw.okc;simp(maxSteps:=1000000) (disch:=first|omega|(simp only[RY]<;>omega)|decide)only[↓RD,RZ,eq_self,Int.reduceToNat,Int.reduceAdd,Int.reduceSub,Int.reduceMul,Nat.reduceAdd,Nat.reduceSub,Nat.reduceMul,Nat.reduceDiv,Nat.reduceMod,Nat.reduceBEq,Nat.reduceLeDiff,wc,wo];rw[za2];have s7:=Grow.new H6 ⟨zal,[wv],none⟩;have k6:KeepB H.next [s,sn,fq] H H6:=(((((KeepB.ofAtS a1 (yag _) (by simp)).trans (KeepB.ofAtS a2 (by omega) (by simp))).trans (KeepB.ofGrow s3 (by omega))).trans (KeepB.ofGrow s4 (by omega))).trans (KeepB.ofAtS a5 (by omega) (by simp))).trans (KeepB.ofGrow s6 (by omega));have ho6:=ho.keepB (yag _) k6 (λi hi=>by have h1:=(ho.low hi).1;have:=hos i;simp only[yao,yap,or_false];omega) (λi hi=>by have hi:lo<=i:=hi;have:=hos i;simp only[yao,yap,or_false];omega);refine zad (zxn (zd7 c6 _) (ho6.grow s7) (by rw[zae];omega) zqD ((hw.ext s7).low (yaD _)) (λi hi=>⟨λe=>?_,?_⟩) (by omega) (by omega)) ?_
  ·have h1:=(hw.own i hi).1;have:=(ho.low e).2;omega
  ·have h1:=(hw.own i hi).1;show lo<=i;omega
  rintro ov' H8 ⟨ho8,s8,c8⟩;have hF:∀i∈ov.pid.toList,lo<=i/\i<H.next:=λi hi=>ho.low (by simpa [zbP]using hi);have hF':∀i,i<lo->i∉ov.pid.toList:=λi hi e=>by have:=(hF i e).1;omega
  have t8:∀i,i<lo->H8.get i=H6.get i:=λi hi=>(s8.same i (by rw[zae];omega) (hF' i hi)).trans (s7.same i (by omega));have os1:=hos s (.inl rfl);have os2:=hos sn (.inr (.inl rfl));have os3:=hos fq (.inr (.inr rfl));have hs7:=(hs5.grow s6).grow s7;have hs8':=hs7.atS (S:=ov.pid.toList) ⟨s8.next,λi hi hn=>s8.same i hi hn⟩ (hF' sn os2) (λi hi=>(ho6.grow s7).odd i (by simpa [zbP]using hi));simp(maxSteps:=1000000) (disch:=first|omega|(simp only[RY]<;>omega)|decide)only[↓RD,RZ,eq_self,Int.reduceToNat,Int.reduceAdd,Int.reduceSub,Int.reduceMul,Nat.reduceAdd,Nat.reduceSub,Nat.reduceMul,Nat.reduceDiv,Nat.reduceMod,Nat.reduceBEq,Nat.reduceLeDiff,wj];refine⟨ov',rfl,(t8 s os1).trans ((s6.same s (by omega)).trans g5s),hs8',(t8 fq os3).trans ((s6.same fq (by omega)).trans g5f),ho8,⟨by have:=s8.next;rw[zae]at this;omega,λi hi hn=>(t8 i hi).trans (k6.same i (by omega) hn)⟩,c8⟩
def pkJ(n q ts ssrc:Nat)(dd0 ddS:Bool->List Nat)(K:Ky)(c:Nat) (ls:List (List Nat)) (j:Nat):List Nat:=
 R7.hb (pktF (decide (j+1=n)) (q+j) ts ssrc (if j=0 then dd0 (decide (j+1=n)) else ddS (decide (j+1=n))) (zcd K (c+j) [] (ls.getD j [])))++zcd K (c+j) [] (ls.getD j [])
def floop{kp:Nat}{s sn fq a id sl f q n ts ssrc:Nat}{W:Nat->V}{sv rv rcv pl:V}{o nw:Bool}{idv fnv u1 u2 u3 u4 u5 u6 y1 y2 y3:V}{lp:Nat}{P:Nat->Prop} {ls:List (List Nat)} {dd0 ddS:Bool->List Nat} {L:List (Nat×Blk)} {H:Heap} {K:Ky} {se ss c:Nat}
  (hc:H.Cl) (hg:H.get s=some ⟨zah,stX a id sv rv W (.ptr sn 0) rcv f q true o,none⟩)
  (hs:SndP kp (s+1) H sn (id:Nat) (sl:Nat) (some (K,(se:Nat),(ss:Nat),c))) (hcn:c+1000<18446744073709551616)
  (hf:H.get fq=some ⟨zaO,[.bool false,.bool false,idv,fnv,.bool nw,u1,u2,u3,u4,u5,u6,.bool false,.int .u32 0,.bool false,.bool false,.bool false,y1,y2,y3],none⟩)
  (hp:AppS lp P H pl ls) (hpv:∀i,pl.pid=some i->i∉[s,sn,fq]) (hP:∀i,P i->i∉[s,sn,fq]) (hn:ls.length=n) (hn8:n<=1000) (h8:∀l∈ls,Ok8 l/\l.length<=100)
  (ns:sn≠s) (nf:sn≠fq) (sf:s≠fq) (hl:Has H L) (hlf:fq∉L.map Prod.fst) (hls:s∉L.map Prod.fst) (hln:sn∉L.map Prod.fst)
  (hx8:∀v∈[idv,fnv,u1,u2,u3,u4,u5,u6,y1,y2,y3],∀n,v≠.int .u8 n) (hq:q+n<65535) (hts:ts<4294967296) (hsr:ssrc<4294967296) (hKt:K.t<=32) (hKw:∀w∈K.ws,Word w)
  (hss:∀{H:Heap} {q:Nat},H.get s=some ⟨zah,stX a id sv rv W (.ptr sn 0) rcv f q true o,none⟩->Ok (sem T za5 [.ptr s 0,.int .i64 0]) H λv H'=>v = .int .u32 (ssrc:Nat)/\H'=H)
  (hd0:∀b,1<=(dd0 b).length/\(dd0 b).length<=16) (hdS:∀b,1<=(ddS b).length/\(ddS b).length<=16)
  (hdd0:∀{H:Heap} {k':Nat} {en:Bool},H.Cl->Has H L->(∀i∈L.map Prod.fst,i<k')->Has H (strL k')->Ok (sem T zbI [.agg [.bool true,.bool en,idv,fnv,.bool nw,u1,u2,u3,u4,u5,u6,.bool false,.int .u32 0,.bool false,.bool false,.bool false,y1,y2,y3],.agg (strV k')]) H λr H'=>∃v,r = .tup [v,.int .i64 0]/\By H.next H' v (dd0 en)/\Grow H H'/\H'.Cl)
  (hddS:∀{H:Heap} {k':Nat} {en:Bool},1<n->H.Cl->Has H L->(∀i∈L.map Prod.fst,i<k')->Has H (strL k')->Ok (sem T zbI [.agg [.bool false,.bool en,idv,fnv,.bool false,.int .i64 0,.int .i64 0,.nils,.int .i64 0,.nils,.nils,.bool false,.int .u32 0,.bool false,.bool false,.bool false,y1,y2,y3],.agg (strV k')]) H λr H'=>∃v,r = .tup [v,.int .i64 0]/\By H.next H' v (ddS en)/\Grow H H'/\H'.Cl) :
  Ok (M.iter (zb4 (sem T) (.int .i64 (n:Nat)) pl pl (.ptr fq 0) (.int .u32 (ts:Nat)) (.ptr s 0) (.int .i64 0) (.ptr s 24)) [.nils,.int .i64 0]) H λr H'=>∃ov',r = .ex 1 [ov'] /\
   H'.get s=some ⟨zah,stX a id sv rv W (.ptr sn 0) rcv f (q+n) true o,none⟩ /\
   SndP kp (s+1) H' sn (id:Nat) (sl:Nat) (some (K,(se:Nat),(ss:Nat),c+n)) /\
   AppS H.next (λi=>H.next<=i) H' ov' ((List.range n).map (pkJ n q ts ssrc dd0 ddS K c ls)) /\
   KeepB H.next [s,sn,fq] H H'/\H'.Cl:=by
 have hlo:=hl.lt hc;have l1:=zbQ hc hg;have l2:=zbQ hc hf;have l3:=hs.1;refine zaS (λj R H'=>∃ov,R=[ov,.int .i64 (j:Nat)] /\
   H'.get s=some ⟨zah,stX a id sv rv W (.ptr sn 0) rcv f (q+j) true o,none⟩ /\
   SndP kp (s+1) H' sn (id:Nat) (sl:Nat) (some (K,(se:Nat),(ss:Nat),c+j)) /\
   (∃st en nwj x1 x2 x3 x4 x5 x6,H'.get fq=some ⟨zaO,[.bool st,.bool en,idv,fnv,.bool nwj,x1,x2,x3,x4,x5,x6,.bool false,.int .u32 0,.bool false,.bool false,.bool false,y1,y2,y3],none⟩/\(j=0->nwj=nw/\[u1,u2,u3,u4,u5,u6]=[x1,x2,x3,x4,x5,x6])/\∀v∈[x1,x2,x3,x4,x5,x6],∀n,v≠.int .u8 n) /\
   AppS H.next (λi=>H.next<=i) H' ov ((List.range j).map (pkJ n q ts ssrc dd0 ddS K c ls)) /\
   KeepB H.next [s,sn,fq] H H'/\H'.Cl) n ?_ ?_ ?_
 ·refine⟨.nils,rfl,hg,hs,⟨false,false,nw,u1,u2,u3,u4,u5,u6,hf,λ_=>⟨rfl,rfl⟩,λv hv=>hx8 v ?_⟩,AppS.nil,KeepB.refl _ _ _,hc⟩;simp only[yao,yap,or_false]at hv ⊢;rcases hv with h|h|h|h|h|h<;>simp[h]
 ·rintro j R H1 hj ⟨ov,rfl,g1,s1,⟨st,en,nwj,x1,x2,x3,x4,x5,x6,g1f,h0,hx1⟩,ho,k1,c1⟩;have n1:=k1.next;have hl1:Has H1 L:=λp hp=>(k1.same p.1 (hlo _ (ycs hp)) (by
   have hm:=ycs (f:=Prod.fst) hp;simp only[yao,yap,or_false];rintro(h|h|h)
   ·exact hls (h ▸ hm)
   ·exact hln (h ▸ hm)
   ·exact hlf (h ▸ hm))).trans (hl p hp)
  have hp1:=hp.keepB (yag _) k1 hpv hP;have hxx:∀v∈[idv,fnv,x1,x2,x3,x4,x5,x6,y1,y2,y3],∀n,v≠.int .u8 n:=λv hv=>by
   simp only[yao,yap,or_false]at hv hx1 hx8;rcases hv with h|h|h|h|h|h|h|h|h|h|h
   ·exact hx8 v (by simp[h])
   ·exact hx8 v (by simp[h])
   ·exact hx1 v (by simp[h])
   ·exact hx1 v (by simp[h])
   ·exact hx1 v (by simp[h])
   ·exact hx1 v (by simp[h])
   ·exact hx1 v (by simp[h])
   ·exact hx1 v (by simp[h])
   ·exact hx8 v (by simp[h])
   ·exact hx8 v (by simp[h])
   ·exact hx8 v (by simp[h])
  have hgj:ls.getD j []=ls[j]'(by omega):=by rw[yak,yae (by omega)];rfl
  have hlen:((List.range j).map (pkJ n q ts ssrc dd0 ddS K c ls)).length<=1000:=by rw[yah,ybZ];omega
  have hmod:(c+j+1)%18446744073709551616=c+(j+1):=by omega
  have hosl:∀i,i=s\/i=sn\/i=fq->i<H.next:=by rintro i (rfl|rfl|rfl)<;>assumption
  by_cases hj0:j=0
  ·obtain⟨e1,e2⟩:=h0 hj0;have:=fbody (j:=j) (nw':=nw) (z1:=u1) (z2:=u2) (z3:=u3) (z4:=u4) (z5:=u5) (z6:=u6) (dd:=dd0 (decide (j+1=n))) c1 g1 s1 g1f hp1 hn hn8 hj h8 ns nf sf hl1 hlf hls hln ho (by omega) hosl hlen hxx (by omega) hts hsr hKt hKw (.inl ⟨hj0,e1.symm,e2⟩) hss (hd0 _).1 (hd0 _).2 (λa b c d=>by
    have:=hdd0 (en:=decide (j+1=n)) a b c d;rw[decide_eq_true hj0];exact this)
   refine zao this ?_;rintro _ H2 ⟨ov',rfl,g2,s2,g2f,ho2,k2,c2⟩;refine⟨ov',rfl,g2,hmod ▸ s2,⟨_,_,_,_,_,_,_,_,_,g2f,λh=>by omega,λv hv=>hx8 v ?_⟩,?_,k1.trans k2,c2⟩
   ·simp only[yao,yap,or_false]at hv ⊢;rcases hv with h|h|h|h|h|h<;>simp[h]
   ·rw[ycr,yaC];unfold pkJ at ho2 ⊢;simp only[yaR,ybC,hgj,if_pos hj0];exact ho2
  ·have:=fbody (j:=j) (nw':=false) (z1:=.int .i64 0) (z2:=.int .i64 0) (z3:=.nils) (z4:=.int .i64 0) (z5:=.nils) (z6:=.nils) (dd:=ddS (decide (j+1=n))) c1 g1 s1 g1f hp1 hn hn8 hj h8 ns nf sf hl1 hlf hls hln ho (by omega) hosl hlen hxx (by omega) hts hsr hKt hKw (.inr ⟨by omega,rfl,rfl⟩) hss (hdS _).1 (hdS _).2 (λa b c d=>by
    have:=hddS (en:=decide (j+1=n)) (by omega) a b c d;rw[decide_eq_false hj0];exact this)
   refine zao this ?_;rintro _ H2 ⟨ov',rfl,g2,s2,g2f,ho2,k2,c2⟩;refine⟨ov',rfl,g2,hmod ▸ s2,⟨_,_,_,_,_,_,_,_,_,g2f,λh=>by omega,λv hv=>?_⟩,?_,k1.trans k2,c2⟩
   ·simp only[yao,yap,or_false]at hv;rcases hv with rfl|rfl|rfl|rfl|rfl|rfl<;>(intro n e;cases e)
   ·rw[ycr,yaC];unfold pkJ at ho2 ⊢;simp only[yaR,ybC,hgj,if_neg hj0];exact ho2
 ·rintro R H1 ⟨ov,rfl,g1,s1,-,ho,k1,c1⟩;have hlt:¬((n:Nat):Int)<(n:Nat):=by omega
  unfold zb4 uL uM uS uT uF uNFM uNF uE uB uIM uO uU uA uZ uR uK uc ug;simp(disch:=omega)only[↓RD,RZ,hlt,decide_eq_false hlt];exact⟨ov,rfl,g1,s1,ho,k1,c1⟩
def AppS.mono{lo lo':Nat}{P P':Nat->Prop}{H:Heap}{v:V} {ls:List (List Nat)} (h:AppS lo P H v ls) (hl:lo'<=lo) (hP:∀i,P i->P' i):AppS lo' P' H v ls:=by
 obtain⟨ws,h1,h2,h3⟩:=h;refine⟨ws,h1,?_,λw hw=>⟨(h3 w hw).1,λi hi=>⟨((h3 w hw).2 i hi).1,hP i ((h3 w hw).2 i hi).2⟩⟩⟩;generalize ws.map (·.2)=cs at h2;generalize ws.length=m at h2;cases h2 with
 | opn h ho=>exact .opn h λi hi=>⟨yax hl (ho i hi).1,(ho i hi).2⟩
 | lit h h0 h1=>exact .lit h (yax hl h0) h1
def ziX(b:List Nat):(pcsL b).length=(b.length-1)/100+1:=by
 unfold pcsL pcz;rw[yaf,yah,ybZ];rfl
def zre{b:List Nat}(h8:Ok8 b):∀l∈pcsL b,Ok8 l/\l.length<=100:=λl hl=>by
 unfold pcsL pcz at hl;rcases yaG.1 hl with hl|hl
 ·obtain⟨j,-,rfl⟩:=yaW.1 hl;exact⟨(h8.drop _).take _,by rw[yaq];omega⟩
 ·rw[yar]at hl;subst hl;exact⟨h8.drop _,by rw[yas];omega⟩
def zlA(st en:Bool)(id f:Nat)(new:Bool):1<=(ddB st en id f new).length/\(ddB st en id f new).length<=16:=by
 unfold ddB;cases new<;>simp
def zxX{kp:Nat}{s sn a id sl f q c:Nat}{W:Nat->V}{sv rv rcv v:V}{b0 o key:Bool}{lo ssrc:Nat}{b:List Nat}{H:Heap}{K:Ky}{se ss:Nat}
  (hc:H.Cl) (hg:H.get s=some ⟨zah,stX a id sv rv W (.ptr sn 0) rcv f q b0 o,none⟩) (hk:key=true\/b0=false) (hf:f=0\/f=1)
  (hs:SndP kp (s+1) H sn (id:Nat) (sl:Nat) (some (K,(se:Nat),(ss:Nat),c))) (hcn:c+1000<18446744073709551616) (ns:sn≠s)
  (hv:By lo H v b) (h8:Ok8 b) (hb:b.length<=800) (hvs:∀i,v.pid=some i->i≠s/\i≠sn) (hq:q<60000) (hsr:ssrc<4294967296) (hKt:K.t<=32) (hKw:∀w∈K.ws,Word w)
  (hss:∀{H:Heap} {f q:Nat} {b0 o:Bool},H.get s=some ⟨zah,stX a id sv rv W (.ptr sn 0) rcv f q b0 o,none⟩->Ok (sem T za5 [.ptr s 0,.int .i64 0]) H λv H'=>v = .int .u32 (ssrc:Nat)/\H'=H) :
  Ok (sem T zbc [.ptr s 0,.int .i64 0,.bool key,v]) H λr H'=>∃ov,r = .tup [ov,.int .i64 0] /\
   H'.get s=some ⟨zah,stX a id sv rv W (.ptr sn 0) rcv (f+1) (q+(pcsL b).length) true false,none⟩ /\
   SndP kp (s+1) H' sn (id:Nat) (sl:Nat) (some (K,(se:Nat),(ss:Nat),c+(pcsL b).length)) /\
   AppS H.next (λi=>H.next<=i) H' ov ((List.range (pcsL b).length).map (pkJ (pcsL b).length q (3000*f) ssrc (λen=>ddB true en 0 f true) (λen=>ddB false en 0 f false) K c (pcsL b))) /\
   KeepB H.next [s,sn] H H'/\H'.Cl:=by
 have hlt:=zbQ hc hg;have lsn:=hs.1;refine zf6 ?_;unfold zef uL uT uNFM uNF uB uI uO uA uR uK uc ug;refine ztZ ?_;refine zad (zwk (k:=0) (.inl rfl)) ?_;rintro _ H ⟨rfl,rfl⟩;have hg':=hg;unfold stX at hg';have hvl:=hv.vlen;have hle:¬(800:Int)<(b.length:Nat):=by omega
 simp(disch:=omega)only[↓RD,RZ,eq_self,seval,hg',hvl,hle,decide_eq_false hle];rw[za2];refine zad (zsr hc hg hk hf) ?_;rintro _ H1 ⟨k,i,j,rfl,g1,lk,lki,lij,hk1,hij1,a1,c1⟩;have n1:=a1.next;have hs1:=hs.atL a1 (by simp;exact ns) (by intro x hx;rw[yar]at hx;subst hx;exact⟨by omega,_,hg,by show zah≠_;decide,by show zah≠_;decide,by show zah≠_;decide⟩);have hv1:=Lc.atS hv a1 (λx hx=>by simp only[yar];exact(hvs x hx).1);refine zrn c1 rfl rfl λfq H2 e2 g2 s2 n2 c2=>?_;have g2s:=(s2.same s (by omega)).trans g1;have hs2:=hs1.grow s2;have hv2:=hv1.ext s2;have hl2:=(hk1.app hij1).grow c1 s2;have g2s':=g2s;unfold stX at g2s';have wf:IntKind.u32.wrap ((f:Nat):Int)=(f:Nat):=by rcases hf with rfl|rfl<;>rfl
 have w3:IntKind.u32.wrap (3000*((f:Nat):Int))=((3000*f:Nat):Int):=by rcases hf with rfl|rfl<;>rfl
 have w1:IntKind.i64.wrap (((f:Nat):Int)+1)=((f+1:Nat):Int):=by rcases hf with rfl|rfl<;>rfl
 simp(disch:=omega)only[↓RD,RZ,eq_self,seval,g2s',wf,w3,w1,zbF];rw[za2];generalize hX:Heap.set H2 s _=H3;have g3s:H3.get s=some ⟨zah,stX a id sv rv W (.ptr sn 0) rcv (f+1) q true false,none⟩:=by rw[<-hX];exact zai _ _ _
 have a3:AtS [s] H2 H3:=by rw[<-hX];exact AtS.set _ (by simp) _
 have n3:H3.next=H2.next:=by rw[<-hX];rfl
 have c3:H3.Cl:=by rw[<-hX];exact zcE c2 (by omega) _
 clear hX;have hs3:=hs2.atL a3 (by simp;exact ns) (by intro x hx;rw[yar]at hx;subst hx;exact⟨by omega,_,g2s,by show zah≠_;decide,by show zah≠_;decide,by show zah≠_;decide⟩);have hv3:=Lc.atS hv2 a3 (λx hx=>by simp only[yar];exact(hvs x hx).1);have hbig:∀x∈(strL k++frL i j).map Prod.fst,H.next<=x:=λx hx=>by
  rw[yaC,yaG]at hx;rcases hx with hx|hx
  ·have:=zg6 x hx;omega
  ·simp[frL]at hx;omega
 have hl3:=hl2.atS c2 a3 (by intro x hx hx';rw[yar]at hx;have:=hbig x hx';omega);have g3f:=(a3.same fq (by omega) (by simp;omega)).trans g2;refine zad (zko c3 (ztM hv3 (by omega))) ?_;rintro pl H4 ⟨⟨hp4,s4⟩,c4⟩;have n4:=s4.next;have hpl:=hp4.vlen;have hl4:=hl3.grow c3 s4;have g4f:=(s4.same fq (by omega)).trans g3f;have hlen:=ziX b;have hlf:fq∉(strL k++frL i j).map Prod.fst:=λhx=>by have:=(hk1.app hij1).lt c1 fq hx;omega
 simp(disch:=omega)only[↓RD,RZ,eq_self,seval,hpl];unfold OkS;refine zao (floop (se:=se) (ss:=ss) (n:=(pcsL b).length) (ts:=3000*f) (P:=λx=>v.pid=some x) (ls:=pcsL b) (dd0:=λen=>ddB true en 0 f true) (ddS:=λen=>ddB false en 0 f false) (L:=(strL k++frL i j))
  c4 ((s4.same s (by omega)).trans g3s) (hs3.grow s4) hcn g4f hp4 (λx hx=>?_) (λx hx=>?_) rfl (by omega) (zre h8) ns (by have:=hs2.1;have:=hs1.1;omega) (by omega) hl4 hlf (λhx=>by have:=hbig s hx;omega) (λhx=>by have:=hbig sn hx;omega)
  ?_ (by omega) (by omega) hsr hKt hKw hss (λen=>zlA _ _ _ _ _) (λen=>zlA _ _ _ _ _) ?_ ?_) ?_
 ·have h1:=(hp4.low hx).1;have:=hs3.1;simp only[yao,yap,or_false];omega
 ·have h1:=hvs x hx;have h2:=(hv.own x hx).2;simp only[yao,yap,or_false];omega
 ·intro w hw n e;simp only[strV,nS,yao,yap,or_false]at hw;rw[e]at hw;simp at hw
 ·intro H k' en hc hL hi hk';exact ddb_new hc (λp hp=>hL p (yco _ hp)) (λp hp=>hL p (ycR _ hp)) hk' lki lij (hi j (by simp[frL])) hf
 ·intro H k' en _ hc hL hi hk';exact ddb_mid hc (λp hp=>hL p (ycR _ hp)) hk' lij (hi j (by simp[frL])) hf
 ·rintro _ H5 ⟨ov,rfl,g5,s5,ho5,k5,c5⟩;show Ok _ H5 _;simp(disch:=omega)only[↓RD,RZ,eq_self,seval];refine⟨ov,rfl,g5,s5,ho5.mono (by omega) (λx hx=>by have hx:H4.next<=x:=hx;show H.next<=x;omega),⟨by have:=k5.next;omega,λx hx hn=>?_⟩,c5⟩;simp only[yao,yap,or_false,not_or]at hn;rw[k5.same x (by omega) (by simp only[yao,yap,or_false];omega),s4.same x (by omega),a3.same x (by omega) (by simp;omega),s2.same x (by omega),a1.same x (by omega) (by simp;omega)]
def zxW{kp:Nat}{s sn a id sl q c:Nat}{W:Nat->V}{sv rv rcv v:V}{key:Bool}{lo ssrc:Nat}{b:List Nat}{H:Heap}{K:Ky}{se ss:Nat}
  (hc:H.Cl) (hg:H.get s=some ⟨zah,stX a id sv rv W (.ptr sn 0) rcv 1 q true false,none⟩)
  (hs:SndP kp (s+1) H sn (id:Nat) (sl:Nat) (some (K,(se:Nat),(ss:Nat),c))) (hcn:c+1000<18446744073709551616) (ns:sn≠s)
  (hv:By lo H v b) (h8:Ok8 b) (hb:b.length<=800) (hvs:∀i,v.pid=some i->i≠s/\i≠sn) (hq:q<60000) (hsr:ssrc<4294967296) (hKt:K.t<=32) (hKw:∀w∈K.ws,Word w)
  (hss:∀{H:Heap} {f q:Nat} {b0 o:Bool},H.get s=some ⟨zah,stX a id sv rv W (.ptr sn 0) rcv f q b0 o,none⟩->Ok (sem T za5 [.ptr s 0,.int .i64 0]) H λv H'=>v = .int .u32 (ssrc:Nat)/\H'=H) :
  Ok (sem T zbc [.ptr s 0,.int .i64 0,.bool false,v]) H λr H'=>∃ov,r = .tup [ov,.int .i64 0] /\
   H'.get s=some ⟨zah,stX a id sv rv W (.ptr sn 0) rcv (1+1) (q+(pcsL b).length) true true,none⟩ /\
   SndP kp (s+1) H' sn (id:Nat) (sl:Nat) (some (K,(se:Nat),(ss:Nat),c+(pcsL b).length)) /\
   AppS H.next (λi=>H.next<=i) H' ov ((List.range (pcsL b).length).map (pkJ (pcsL b).length q (3000*1) ssrc (λen=>ddB true en 2 1 false) (λen=>ddB false en 2 1 false) K c (pcsL b))) /\
   KeepB H.next [s,sn] H H'/\H'.Cl:=by
 have hlt:=zbQ hc hg;have lsn:=hs.1;refine zf6 ?_;unfold zef uL uT uNFM uNF uB uI uO uA uR uK uc ug;refine ztZ ?_;refine zad (zwk (k:=0) (.inl rfl)) ?_;rintro _ H ⟨rfl,rfl⟩;have hg':=hg;unfold stX at hg';have hvl:=hv.vlen;have hle:¬(800:Int)<(b.length:Nat):=by omega
 simp(disch:=omega)only[↓RD,RZ,eq_self,seval,hg',hvl,hle,decide_eq_false hle];rw[za2];refine zad (zsq hc hg) ?_;rintro _ H1 ⟨i,j,l,rfl,g1,lk,lij,ljl,hij1,a1,c1⟩;have n1:=a1.next;have hs1:=hs.atL a1 (by simp;exact ns) (by intro x hx;rw[yar]at hx;subst hx;exact⟨by omega,_,hg,by show zah≠_;decide,by show zah≠_;decide,by show zah≠_;decide⟩);have hv1:=Lc.atS hv a1 (λx hx=>by simp only[yar];exact(hvs x hx).1);refine zrn c1 rfl rfl λfq H2 e2 g2 s2 n2 c2=>?_;have g2s:=(s2.same s (by omega)).trans g1;have hs2:=hs1.grow s2;have hv2:=hv1.ext s2;have hl2:=hij1.grow c1 s2;have g2s':=g2s;unfold stX at g2s';have wf:IntKind.u32.wrap ((1:Nat):Int)=(1:Nat):=rfl;have w3:IntKind.u32.wrap (3000*((1:Nat):Int))=((3000*1:Nat):Int):=rfl;have w1:IntKind.i64.wrap (((1:Nat):Int)+1)=((1+1:Nat):Int):=rfl;simp(disch:=omega)only[↓RD,RZ,eq_self,seval,g2s',wf,w3,w1,zbF];rw[za2];generalize hX:Heap.set H2 s _=H3;have g3s:H3.get s=some ⟨zah,stX a id sv rv W (.ptr sn 0) rcv (1+1) q true true,none⟩:=by rw[<-hX];exact zai _ _ _
 have a3:AtS [s] H2 H3:=by rw[<-hX];exact AtS.set _ (by simp) _
 have n3:H3.next=H2.next:=by rw[<-hX];rfl
 have c3:H3.Cl:=by rw[<-hX];exact zcE c2 (by omega) _
 clear hX;have hs3:=hs2.atL a3 (by simp;exact ns) (by intro x hx;rw[yar]at hx;subst hx;exact⟨by omega,_,g2s,by show zah≠_;decide,by show zah≠_;decide,by show zah≠_;decide⟩);have hv3:=Lc.atS hv2 a3 (λx hx=>by simp only[yar];exact(hvs x hx).1);have hbig:∀x∈(frL2 i j l).map Prod.fst,H.next<=x:=λx hx=>by
  simp[frL2]at hx;omega
 have hl3:=hl2.atS c2 a3 (by intro x hx hx';rw[yar]at hx;have:=hbig x hx';omega);have g3f:=(a3.same fq (by omega) (by simp;omega)).trans g2;refine zad (zko c3 (ztM hv3 (by omega))) ?_;rintro pl H4 ⟨⟨hp4,s4⟩,c4⟩;have n4:=s4.next;have hpl:=hp4.vlen;have hl4:=hl3.grow c3 s4;have g4f:=(s4.same fq (by omega)).trans g3f;have hlen:=ziX b;have hlf:fq∉(frL2 i j l).map Prod.fst:=λhx=>by have:=hij1.lt c1 fq hx;omega
 simp(disch:=omega)only[↓RD,RZ,eq_self,seval,hpl];unfold OkS;refine zao (floop (se:=se) (ss:=ss) (n:=(pcsL b).length) (ts:=3000*1) (P:=λx=>v.pid=some x) (ls:=pcsL b) (dd0:=λen=>ddB true en 2 1 false) (ddS:=λen=>ddB false en 2 1 false) (L:=(frL2 i j l))
  c4 ((s4.same s (by omega)).trans g3s) (hs3.grow s4) hcn g4f hp4 (λx hx=>?_) (λx hx=>?_) rfl (by omega) (zre h8) ns (by have:=hs2.1;have:=hs1.1;omega) (by omega) hl4 hlf (λhx=>by have:=hbig s hx;omega) (λhx=>by have:=hbig sn hx;omega)
  ?_ (by omega) (by omega) hsr hKt hKw hss (λen=>zlA _ _ _ _ _) (λen=>zlA _ _ _ _ _) ?_ ?_) ?_
 ·have h1:=(hp4.low hx).1;have:=hs3.1;simp only[yao,yap,or_false];omega
 ·have h1:=hvs x hx;have h2:=(hv.own x hx).2;simp only[yao,yap,or_false];omega
 ·intro w hw n e;simp only[strV,nS,yao,yap,or_false]at hw;rw[e]at hw;simp at hw
 ·intro H k' en hc hL hi hk';exact zym hc hL hk' lij ljl (hi l (by simp[frL2]))
 ·intro H k' en _ hc hL hi hk';exact zym hc hL hk' lij ljl (hi l (by simp[frL2]))
 ·rintro _ H5 ⟨ov,rfl,g5,s5,ho5,k5,c5⟩;show Ok _ H5 _;simp(disch:=omega)only[↓RD,RZ,eq_self,seval];refine⟨ov,rfl,g5,s5,ho5.mono (by omega) (λx hx=>by have hx:H4.next<=x:=hx;show H.next<=x;omega),⟨by have:=k5.next;omega,λx hx hn=>?_⟩,c5⟩;simp only[yao,yap,or_false,not_or]at hn;rw[k5.same x (by omega) (by simp only[yao,yap,or_false];omega),s4.same x (by omega),a3.same x (by omega) (by simp;omega),s2.same x (by omega),a1.same x (by omega) (by simp;omega)]
structure Pr (H:Heap) (S sn c a id slot:Nat) (W:Nat->V) (K:Ky) (e sp ct:Nat) (R:Rc) (f q:Nat) (b o:Bool) (sv rv:V) (kp:Nat):Prop where
 svn:∀n,sv≠.int .u8 n
 rvn:∀n,rv≠.int .u8 n
 seat:H.get S=some ⟨zah,stX a id sv rv W (.ptr sn 0) (.ptr (c+3) 0) f q b o,none⟩
 wn:∀i n,W i≠.int .u8 n
 snd:SndP kp (S+1) H sn (id:Nat) (slot:Nat) (some (K,(e:Nat),(sp:Nat),ct))
 rcv:RcM H c R
section
variable {H H':Heap} {S sn c a id slot:Nat} {W:Nat->V} {K:Ky} {e sp ct:Nat} {R:Rc} {f q:Nat} {b o:Bool} {sv rv:V} {kp:Nat}
def odd_seat{snd rcv:V}(h1:∀n,sv≠.int .u8 n)(h2:∀n,rv≠.int .u8 n)(h3:∀i n,W i≠.int .u8 n)(h4:∀n,snd≠.int .u8 n)(h5:∀n,rcv≠.int .u8 n):OddR ⟨zah,stX a id sv rv W snd rcv f q b o,none⟩:=by
 refine⟨⟨show zah≠zaR by decide,show zah≠zaT by decide,show zah≠zaw by decide,λv hv n e=>?_⟩,show zah≠zab by decide,show zah≠zav by decide⟩;subst e;simp only[stX,yao,yap,or_false]at hv;rcases hv with hv|hv|hv|hv|hv|hv|hv|hv|hv|hv|hv|hv|hv|hv|hv|hv|hv|hv|hv|hv|hv|hv|hv|hv|hv|hv|hv|hv|hv|hv|hv|hv|hv|hv|hv|hv <;>
  first|(cases hv;done)|exact h1 _ hv.symm|exact h2 _ hv.symm|exact h3 _ _ hv.symm|exact h4 _ hv.symm|exact h5 _ hv.symm
def Pr.oddS(h:Pr H S sn c a id slot W K e sp ct R f q b o sv rv kp):∃x,H.get S=some x/\OddR x:=by
 have h1:=h.svn;have h2:=h.rvn;have h3:=h.seat;exact⟨_,h3,odd_seat h1 h2 h.wn (λn e=>by cases e) (λn e=>by cases e)⟩
def Pr.oddN(h:Pr H S sn c a id slot W K e sp ct R f q b o sv rv kp):∃x,H.get sn=some x/\OddR x:=by
 obtain⟨h1,h2,h3,-,-⟩:=h.snd;refine⟨_,h3,⟨show zaA≠zaR by decide,show zaA≠zaT by decide,show zaA≠zaw by decide,λv hv n e=>?_⟩,show zaA≠zab by decide,show zaA≠zav by decide⟩;subst e;simp only[sndC,yao,yap,or_false]at hv;rcases hv with hv|hv|hv|hv|hv|hv|hv<;>cases hv
def Pr.ltS(h:Pr H S sn c a id slot W K e sp ct R f q b o sv rv kp)(hc:H.Cl):S<H.next:=by
 have h1:=h.svn;have h2:=h.rvn;have h3:=h.seat;exact zbQ hc h3
def Pr.atS{T':List Nat}(h:Pr H S sn c a id slot W K e sp ct R f q b o sv rv kp)(hc:H.Cl)(s:AtS T' H H')(h1:S∉T')(h2:sn∉T')(h3:∀i∈T',i<c\/c+4<=i)(h4:∀i∈T',∃x,H.get i=some x/\OddR x):Pr H' S sn c a id slot W K e sp ct R f q b o sv rv kp:=by
 have h5:=h.svn;have h6:=h.rvn;have h7:=h.seat;exact⟨h5,h6,(s.same S (zbQ hc h7) h1).trans h7,h.wn,h.snd.atS s h2 (λi hi=>by
  obtain⟨x,hx,ho⟩:=h4 i hi;exact⟨x,hx,ho.1⟩),h.rcv.atS s h3 h4⟩
end
def ssrc_x{H:Heap}{s a:Nat}{cs:List V}(ha:a=1\/a=2\/a=3) (hg:H.get s=some ⟨zah,cs,none⟩) (h0:cs[0]?=some (.int .i64 (a:Nat))):Ok (sem T za5 [.ptr s 0,.int .i64 0]) H λv H'=>v = .int .u32 ((1000+100*a:Nat):Nat)/\H'=H:=by
 refine zlj ?_;unfold zhQ uL uNFM uB uA uR uc;refine zad (zwk (k:=0) (.inl rfl)) ?_;rintro _ H ⟨rfl,rfl⟩;rcases ha with rfl|rfl|rfl
 ·have h0:cs[0]?=some (.int .i64 1):=h0;simp(disch:=omega)only[↓RD,RZ,hg,h0];rfl
 ·have h0:cs[0]?=some (.int .i64 2):=h0;simp(disch:=omega)only[↓RD,RZ,hg,h0];rfl
 ·have h0:cs[0]?=some (.int .i64 3):=h0;simp(disch:=omega)only[↓RD,RZ,hg,h0];rfl
def AppS.top{lo:Nat}{P:Nat->Prop}{H:Heap}{v:V} {ls:List (List Nat)} (h:AppS lo P H v ls):AppS lo (λi=>P i/\i<H.next) H v ls:=by
 obtain⟨ws,h1,h2,h3⟩:=h;exact⟨ws,h1,h2,λw hw=>⟨(h3 w hw).1,λi hi=>⟨((h3 w hw).2 i hi).1,((h3 w hw).2 i hi).2,((h3 w hw).1.own i hi).2⟩⟩⟩
def PkS(K:Ky)(ct:Nat) (pcs:List (List Nat)) (j:Nat) (b:List Nat):Prop:=∃p,R7.parse b = .ok p/\p.pay=zcd K (ct+j) [] (pcs.getD j [])/\Ok8 b/\b.length<=1200
def pkj_s{n q ts ssrc:Nat}{dd0 ddS:Bool->List Nat}{K:Ky}{ct:Nat} {pcs:List (List Nat)} (h0:∀b,1<=(dd0 b).length/\(dd0 b).length<=16/\Ok8 (dd0 b)) (hS:∀b,1<=(ddS b).length/\(ddS b).length<=16/\Ok8 (ddS b)) (hp:∀l∈pcs,Ok8 l/\l.length<=100) (ht:K.t<=32) (hw:∀w∈K.ws,Word w) (hn:pcs.length=n) (hq:q+n<65536) (hts:ts<4294967296) (hss:ssrc<4294967296) {j:Nat} (hj:j<n) :
  PkS K ct pcs j (pkJ n q ts ssrc dd0 ddS K ct pcs j):=by
 have hpj:Ok8 (pcs.getD j [])/\(pcs.getD j []).length<=100:=by
  rw[yak,yae (by omega)];exact hp _ (yaV _)
 have hl:=zf4 ht (ct+j) [] (pcs.getD j []);have hh:=zjR K.kid (ct+j);have hd:1<=(if j=0 then dd0 (decide (j+1=n)) else ddS (decide (j+1=n))).length/\(if j=0 then dd0 (decide (j+1=n)) else ddS (decide (j+1=n))).length<=16/\Ok8 (if j=0 then dd0 (decide (j+1=n)) else ddS (decide (j+1=n))):=by
  split
  ·exact h0 _
  ·exact hS _
 obtain⟨e1,e2,e3⟩:=zw2 (mk:=decide (j+1=n)) (q:=q+j) (ts:=ts) (ssrc:=ssrc) hd.1 hd.2.1 (pay:=zcd K (ct+j) [] (pcs.getD j [])) (by omega) (zoM hw hpj.1) hd.2.2 (by omega) hts hss;exact⟨_,e1,rfl,e2,e3⟩
def ddB_8{st en:Bool}{id f:Nat}{new:Bool}(hi:id<64)(hf:f<256):Ok8 (ddB st en id f new):=by
 intro x hx;unfold ddB at hx;cases new<;>cases st<;>cases en<;>simp at hx<;>omega
def zue{S:List Nat}{H H':Heap}(h:KeepB H.next S H H'):AtS S H H':=⟨h.next,λi hi hn=>h.same i hi hn⟩
def znn{sv rv:V}{kp:Nat}{S sn c a id slot:Nat}{W:Nat->V}{K:Ky}{e sp ct:Nat}{R:Rc}{f q:Nat}{bo o key:Bool}{H:Heap}{v:V}{b:List Nat}{lo:Nat}(hc:H.Cl)(h:Pr H S sn c a id slot W K e sp ct R f q bo o sv rv kp)
  (hk:((key=true\/bo=false)/\(f=0\/f=1))\/(key=false/\f=1/\bo=true/\o=false)) (ha:a=1\/a=2\/a=3) (hcn:ct+1000<18446744073709551616) (ns:S<sn/\S<c/\(sn<c\/c+4<=sn)) (hv:By lo H v b) (h8:Ok8 b) (hb:b.length<=800) (hvs:∀i,v.pid=some i->i≠S/\i≠sn) (hq:q<60000) (hKt:K.t<=32) (hKw:∀w∈K.ws,Word w) :
  Ok (sem T zbc [.ptr S 0,.int .i64 0,.bool key,v]) H λr H'=>∃ov PK o',r = .tup [ov,.int .i64 0]/\AppS H.next (λi=>H.next<=i) H' ov PK/\PK.length=(pcsL b).length/\(∀j (hj:j<PK.length),PkS K ct (pcsL b) j PK[j]) /\
   Pr H' S sn c a id slot W K e sp (ct+(pcsL b).length) R (f+1) (q+(pcsL b).length) true o' sv rv kp/\(f=0\/key=true->o'=false)/\AtS [S,sn] H H'/\H'.Cl:=by
 have h1:=h.svn;have h2:=h.rvn;have h3:=h.seat;have hp8:=zre h8;have hpl:=ziX b;have fin:∀{r:V} {H':Heap} {ov:V} {o':Bool} {ts:Nat} {dd0 ddS:Bool->List Nat},r = .tup [ov,.int .i64 0]->H'.get S=some ⟨zah,stX a id sv rv W (.ptr sn 0) (.ptr (c+3) 0) (f+1) (q+(pcsL b).length) true o',none⟩->SndP kp (S+1) H' sn (id:Nat) (slot:Nat) (some (K,(e:Nat),(sp:Nat),ct+(pcsL b).length)) ->
   AppS H.next (λi=>H.next<=i) H' ov ((List.range (pcsL b).length).map (pkJ (pcsL b).length q ts (1000+100*a) dd0 ddS K ct (pcsL b)))->KeepB H.next [S,sn] H H'->H'.Cl->(∀b,1<=(dd0 b).length/\(dd0 b).length<=16/\Ok8 (dd0 b))->(∀b,1<=(ddS b).length/\(ddS b).length<=16/\Ok8 (ddS b))->ts<4294967296->(f=0\/key=true->o'=false) ->
   ∃ov PK o',r = .tup [ov,.int .i64 0]/\AppS H.next (λi=>H.next<=i) H' ov PK/\PK.length=(pcsL b).length/\(∀j (hj:j<PK.length),PkS K ct (pcsL b) j PK[j]) /\
   Pr H' S sn c a id slot W K e sp (ct+(pcsL b).length) R (f+1) (q+(pcsL b).length) true o' sv rv kp/\(f=0\/key=true->o'=false)/\AtS [S,sn] H H'/\H'.Cl:=λe1 e2 e3 e4 e5 e6 e7 e8 e9 e10=>
  ⟨_,_,_,e1,e4,by simp,λj hj=>by
   simp only[ybQ,yc7];exact pkj_s e7 e8 hp8 hKt hKw rfl (by omega) e9 (by omega) (by simpa using hj),⟨h1,h2,e2,h.wn,e3,h.rcv.atS (zue e5) (by simp;omega) (by
    intro i hi;simp only[yao,yap,or_false]at hi;rcases hi with rfl|rfl
    ·exact h.oddS
    ·exact h.oddN)⟩,e10,zue e5,e6⟩
 have d8:∀{st:Bool} {id f:Nat} {new:Bool},id<64->f<256->∀en,1<=(ddB st en id f new).length/\(ddB st en id f new).length<=16/\Ok8 (ddB st en id f new):=λhi hf en=>⟨(zlA _ _ _ _ _).1,(zlA _ _ _ _ _).2,ddB_8 hi hf⟩;have hss:∀{H:Heap} {f q:Nat} {b0 o:Bool},H.get S=some ⟨zah,stX a id sv rv W (.ptr sn 0) (.ptr (c+3) 0) f q b0 o,none⟩->Ok (sem T za5 [.ptr S 0,.int .i64 0]) H λv H'=>v = .int .u32 ((1000+100*a:Nat):Nat)/\H'=H:=λhg=>ssrc_x ha hg rfl;rcases hk with⟨hk,hf⟩|⟨rfl,rfl,rfl,rfl⟩
 ·refine zao (zxX hc h3 hk hf h.snd hcn (by omega) hv h8 hb hvs hq (by omega) hKt hKw hss) ?_;rintro r H' ⟨ov,e1,e2,e3,e4,e5,e6⟩;exact fin e1 e2 e3 e4 e5 e6 (d8 (by decide) (by omega)) (d8 (by decide) (by omega)) (by omega) λ_=>rfl
 ·refine zao (zxW (key:=false) hc h3 h.snd hcn (by omega) hv h8 hb hvs hq (by omega) hKt hKw hss) ?_;rintro r H' ⟨ov,e1,e2,e3,e4,e5,e6⟩;exact fin e1 e2 e3 e4 e5 e6 (d8 (by decide) (by decide)) (d8 (by decide) (by decide)) (by decide) λh=>by rcases h with h|h<;>cases h
section
variable {t:Tabs} {s:Nat->Nat} {q:Nat->List Nat} {g:Y.Sg} {h K:Heap}
def sndP_at(ht:TabV t s q) (st:Y.St (tbOf t s q) g h K) {i m n0 id slot e sp kid c a:Nat} {bl:List V} (hb:h.get i=some ⟨zaA,sndC (id:Nat) (slot:Nat) (.ptr m 0) (e:Nat) (sp:Nat) kid c,none⟩) (hm:t.ks[m]?=some (n0,.key id kid bl)) (hc:c<18446744073709551616)
  {n tg:Nat} (hs:szs id=some (n,tg)) (ha:t.ks.length<=a) (han:a<n0) (hna:g.nf a):SndP (g.e.f m) (g.e.f a+1) K (g.e.f i) (id:Nat) (slot:Nat) (some (drv id kid n tg (iv s q bl),(e:Nat),(sp:Nat),c)):=by
 obtain⟨h1,h2,h3,h4⟩:=zd8 st hb;obtain⟨n',tg',lo,k1,k2,k3⟩:=key_at ht st hb (k:=2) rfl hm;rw[hs]at k1;simp only[yaa,yad]at k1;obtain⟨rfl,rfl⟩:=k1;refine⟨h3,hc,h1,k2.m,k2.kl.low ?_⟩;have:=k3 a ha han hna;omega
def chain_at(ht:TabV t s q) (st:Y.St (tbOf t s q) g h K) {lo j sp ib ic:Nat} {b:Bd} (h4:h.get ib=some ⟨zab,syms j 0 32,some 1⟩) (h5:h.get ic=some ⟨zav,[.int .i64 (sp:Nat),.sl ib 0 32 (.opn 1)],none⟩)
  (hi:lo<=g.e.f ib) (hic:lo<=g.e.f ic) (hb:t.bs[j]?=some b) (hl:(val s q b).length=32) (h8:Ok8 (val s q b)) (hsp:sp<=31):ChainM lo K (g.e.f ic) sp (val s q b):=by
 obtain⟨a4,b4,d4,l4⟩:=zd8 st h4;obtain⟨a5,b5,d5,l5⟩:=zd8 st h5;have hsy:=zmH ht (d:=g.e) st.s hb (o:=0) (n:=32) (by omega) (by decide);rw[yaA]at hsy;have a4':K.get (g.e.f ib)=some ⟨zab,(val s q b).map by8,some 1⟩:=by
  rw[a4];unfold Y.shB;rw[hsy]
 have hby:By lo K (.sl (g.e.f ib) 0 32 (.opn 1)) (val s q b):=by
  refine⟨?_,λi hi=>by injection hi with hi;subst hi;omega,rfl⟩;simp only[rcells,a4',Option.bind_some];rw[if_pos (by rw[yah];omega),yaA,yaj (by rw[yah];omega),hl]
 refine⟨d5,hic,⟨.sl (g.e.f ib) 0 32 (.opn 1),a5,hby,λi hi=>?_⟩,h8,by omega,hsp⟩;injection hi with hi
 subst hi;exact⟨_,a4',rfl⟩
def seq3 (st:Y.St (tbOf t s q) g h K) {c:Nat} {x0 x1 x2 x3:Blk} (h0:h.get c=some x0) (h1:h.get (c+1)=some x1) (h2:h.get (c+2)=some x2) (h3:h.get (c+3)=some x3):g.e.f (c+3)=g.e.f c+3:=by
 obtain⟨a0,b0,d0,l0⟩:=zd8 st h0;obtain⟨a1,b1,d1,l1⟩:=zd8 st h1;obtain⟨a2,b2,d2,l2⟩:=zd8 st h2;obtain⟨a3,b3,d3,l3⟩:=zd8 st h3;have e1:g.e.f (c+1)=g.e.f c+1:=st.seq c l0 b0 b1;have e2:g.e.f (c+2)=g.e.f (c+1)+1:=st.seq (c+1) l1 b1 b2;have e3:g.e.f (c+3)=g.e.f (c+2)+1:=st.seq (c+2) l2 b2 b3;omega
def zop (st:Y.St (tbOf t s q) g h K) {i j:Nat} {x y:Blk} (hi:h.get i=some x) (hj:h.get j=some y) (hl:i<j):g.e.f i<g.e.f j:=st.mono i j (zd8 st hi).2.2.2 hl (zd8 st hi).2.1 (zd8 st hj).2.1
def mark_n8(ht:TabV t s q) (st:Y.St (tbOf t s q) g h K) {i k m:Nat} {b:Blk} {l:List V} (h1:h.get i=some b) (h2:b.cells[k]?=some (.lit (.int .i64 (m:Nat)))) (h3:rd t.fnd h (.lit (.int .i64 (m:Nat)))=some l):∀n,Y.sh g.e (.lit (.int .i64 (m:Nat)))≠.int .u8 n:=λn e=>by
 have:=(zmV ht st h3 (ztf st h1 h2)).1.rc;rw[e]at this;cases this
end
def ztx{s:Nat->Nat}{q:Nat->List Nat}{a b:List V}:(val s q (.ex a b 32)).length=32/\Ok8 (val s q (.ex a b 32)):=⟨by
 show((hkdf kc (iv s _ a) (iv s _ b) ((32+31)/32)).1.take 32).length = _;rw[yaq,zga];decide,Ok8.take (zjQ kc _ _ _).1 _⟩
def AppS.kp{lo:Nat}{P:Nat->Prop}{H H':Heap}{v:V} {ls:List (List Nat)} (h:AppS lo P H v ls) (hP:∀i,P i->lo<=i) (hn:H.next<=H'.next) (hs:∀i,lo<=i->i<H.next->H'.get i=H.get i):AppS lo P H' v ls:=by
 obtain⟨ws,h1,h2,h3⟩:=h;refine⟨ws,h1,R7.App.keep h2 ⟨hn,hs⟩,λw hw=>⟨?_,(h3 w hw).2⟩⟩;obtain⟨b1,b2⟩:=h3 w hw;have b3:By lo H w.2 w.1:=⟨b1.rc,λi hi=>⟨hP i (b2 i hi).2,(b1.own i hi).2⟩,b1.cap⟩;exact(b3.keep ⟨hn,hs⟩).low (yaD _)
def u8(l:List Nat):List V:=l.map by8
def awT:Tabs:=⟨[.hm (u8 [111,119,110]) (u8 [115]),.ex (syms 0 0 32) (u8 [0,0,0,1,0,3]) 32],[(76,.key 1 768 (syms 1 0 32))]⟩
def aw_run:Ax.look [] (Y.cdo T selO (orc awT.fnd) 60 zbR [] (Cc.hp (List.replicate 1 none)))=some (.bool true,[]):=by kernel_rfl
def awake_s{H:Heap}(hc:H.Cl):Ok (sem T zbR []) H λr H'=>r = .bool true/\Grow H H'/\H'.Cl:=by
 obtain⟨s,ht⟩:=tab_ex (t:=awT) (q:=λ_=>[]) (by kernel_rfl) (λ_=>Ok8.nil) (λ_=>yaD _);refine zao (sym_ok ht (ws:=[]) (λm v hm=>by cases hm) (by decide) aw_run (args':=[]) (λd hd=>rfl) hc) ?_;rintro r H' ⟨g,h,st,rfl,-,gr,cl,-⟩;exact⟨rfl,gr,cl⟩
end Go.Ax.SU
/- Ax59 -/
namespace Go.Ax.Y
structure Way (tb:Tb) (g0:Sg) (c0:Cc.Heap) (K0:Heap) (g:Sg) (c:Cc.Heap) (K:Heap):Prop where
 s0:St tb g0 c0.abs K0
 st:St tb g c.abs K
 fr:Frm g0 c0.abs K0 g c.abs K
section
variable {tb:Tb} {g0 g:Sg} {c0 c:Cc.Heap} {K0 K K':Heap}
def St.way(s:St tb g c.abs K):Way tb g c K g c K:=⟨s,s,Frm.refl _ _ _⟩
variable {T:FuncId->Option Fn'} {sel:FuncId->List V->Bool} {O:Orc} {m:Nat} {l:List Step} {v:V} {vs:List V} {c2:Cc.Heap} {args args' env env':List V}
def Way.call(r:Way tb g0 c0 K0 g c K)(hT:∀f ir,T f=some ir->ir.body.still=true)(hO:OrS tb T sel O){f:FuncId} (h:runs T sel O m (.call f args::l) c=some (v::vs,c2)) (ha:Rl g shL args args') (he:Rl g shL env env') :
  Ok (sem T f args') K λb K'=>∃g' c',Way tb g0 c0 K0 g' c' K'/\runs T sel O m l c'=some (vs,c2)/\Rl g' shL (v::env) (b::env'):=by
 obtain⟨c1,h1,h2⟩:=zq4 h;obtain⟨g',b,K',e1,s1,f1,r1⟩:=run_ok hT hO h1 r.st ha;exact⟨b,K',e1,g',c1,⟨r.s0,s1,Frm.trans r.s0 r.st r.fr f1⟩,h2,rl_c r1 (he.mono f1.ex)⟩
def Way.ins(r:Way tb g0 c0 K0 g c K){i:I}(hs:i.still=true) (h:runs T sel O m (.ins i args::l) c=some (v::vs,c2)) (ha:Rl g shL args args') (he:Rl g shL env env') :
  Ok (i.run (sem T) (params 0 args')) K λb K'=>∃g' c',Way tb g0 c0 K0 g' c' K'/\runs T sel O m l c'=some (vs,c2)/\Rl g' shL (v::env) (b::env'):=by
 obtain⟨c1,h1,h2⟩:=zq4 h;have h3:=Cc.sim_run (G:=λ_ _=>M.fail) (g:=fl) (λ_ _=>Cc.sim_fail) (params 0 args) i c v c1 h1;have hA:Rl g shF (params 0 args) (params 0 args'):=λd hd=>by rw[ha d hd,zoL]
 obtain⟨g',b,K',e1,s1,f1,r1⟩:=s_run (G:=λ_ _=>M.fail) (G':=sem T) (λf args args' g h K _ _=>zcV) r.st hA i hs v c1.abs h3;exact⟨b,K',e1,g',c1,⟨r.s0,s1,Frm.trans r.s0 r.st r.fr f1⟩,h2,rl_c r1 (he.mono f1.ex)⟩
def Way.same{n:Nat} {lc lu:List (Nat×Blk)} (r:Way tb g0 (mkc (lc++lu) n) K0 g c K) {ch:List Nat} (hc:(lc.all λp=>ch.any λj=>Nat.beq j p.1)=true) (hu:∀p∈lu,c.abs.get p.1=some p.2):∀i,i<K0.next->i∉ch.map g0.e.f->K.get i=K0.get i:=by
 intro i hi hn;by_cases h:∃j b,(mkc (lc++lu) n).abs.get j=some b/\g0.e.f j=i
 ·obtain⟨j,b,hj,e⟩:=h;rcases yaG.1 ((mkc_get n _ j).1 b hj) with hm|hm
  ·obtain⟨k,hk,ek⟩:=ybG.1 (yaz.1 hc _ hm);have:=yaJ ek;exact absurd (yaW.2 ⟨k,hk,by rw[this];exact e⟩) hn
  ·have h1:=r.st.em _ (Ag.self g) j b (hu _ hm);have h2:=r.s0.em _ ((Ag.self g).mono r.fr.ex) j b hj;rw[(r.fr.ex.f j (r.s0.kn j b hj).1).2,e]at h1 h2;rw[h1,h2]
 ·exact r.fr.fr i hi λj b hj e=>h ⟨j,b,hj,e⟩
def lits:Nat->List V->List V
 | _,[]=>[]
 | m,_::l=>.lit (.int .i64 (m:Nat))::lits (m+1) l
def St.marks:∀(vs:List V) {m:Nat} {c:Cc.Heap} {g:Sg} {env env':List V},St tb g c.abs K->(∀i,i<vs.length->m+i<tb.R/\tb.t (m+i)=c.next+i/\∀v,tb.Pw (m+i) K.next K v)->(vs.all V.one)=true->Rl g shL env env' ->
  ∃g',St tb g' (⟨c.t,c.next+vs.length⟩:Cc.Heap).abs K/\Frm g c.abs K g' (⟨c.t,c.next+vs.length⟩:Cc.Heap).abs K/\Rl g' shL ((lits m vs).reverse++env) (vs.reverse++env')
 | [],m,c,g,_,_,s,_,_,he=>⟨g,s,Frm.refl _ _ _,he⟩
 | v::vs,m,c,g,env,env',s,h,h1,he=>by
  simp only[yba,yam]at h1;obtain⟨q1,q2,q3⟩:=h 0 (by simp);obtain⟨g1,s1,f1,w1,w2⟩:=s.val (m:=m) (v:=v) (K':=K) (Grow.refl K) s.cl q1 q2 (q3 v);have h0:(⟨c.t,c.next+1⟩:Cc.Heap).abs=news c.abs [none]:=rfl;rw[<-h0]at s1 f1;obtain⟨g2,s2,n3,r2⟩:=St.marks vs (m:=m+1) (c:=⟨c.t,c.next+1⟩) (env:=.lit (.int .i64 (m:Nat))::env) (env':=v::env') s1 (λi hi=>by
   obtain⟨a1,a2,a3⟩:=h (i+1) (by rw[List.length_cons];omega);have e:m+1+i=m+(i+1):=by omega
   rw[e];exact⟨a1,by rw[a2];show c.next+(i+1)=c.next+1+i;omega,a3⟩) h1.2 (rl_c (λd hd=>by
    have:=hd.2.2 m w1;show v=okw (d.w (((m:Nat):Int).toNat));rw[yan,this,w2];unfold okw;rw[if_pos h1.1]) (he.mono f1.ex))
  have e:(⟨c.t,c.next+(v::vs).length⟩:Cc.Heap)=⟨c.t,c.next+1+vs.length⟩:=by rw[List.length_cons];congr 1;omega
  rw[e];refine⟨g2,s2,Frm.trans s s1 f1 n3,?_⟩;simp only[lits,ycf,yaI,ybF,yaU];exact r2
def St.turn(s:St tb g c.abs K) {l:List (Nat×Blk)} {ch:List Nat} {n:Nat} (hc:K'.Cl) (hn:K.next<=K'.next) (hch:∀j∈ch,∃b,c.abs.get j=some b) (hf:∀i,i<K.next->i∉ch.map g.e.f->K'.get i=K.get i)
  (hl:∀p∈l,(p.1∈ch/\∀d,Ag g d->K'.get (d.f p.1)=some (shB d p.2))\/(c.abs.get p.1=some p.2/\(ch.all λj=>!(Nat.beq j p.1))=true)) (ok:okC tb.R n l=true) (ht:∀m,m<tb.R->tb.t m<c.next->tb.t m<n) (he:Rl g shL env env') (oe:okNL (inl tb.R l) env=true) :
  ∃g',St tb g' (mkc l n).abs K'/\g'.e=g.e/\Rl g' shL env env':=by
 obtain⟨g',s1,h1,h2,h3⟩:=s.upd (K':=K') (l:=l) (n:=n) hc hn (S:=ch.map g.e.f) (λi hi=>by
  obtain⟨j,hj,e⟩:=yaW.1 hi;obtain⟨b,hb⟩:=hch j hj;exact⟨j,b,hb,e⟩) hf (λp hp=>by
  rcases hl p hp with⟨q1,q2⟩|⟨hg,dis⟩
  ·exact⟨hch _ q1,.inr q2⟩
  ·refine⟨⟨_,hg⟩,.inl ⟨hg,λhx=>?_⟩⟩;obtain⟨j,hj,e⟩:=yaW.1 hx;obtain⟨b,hb⟩:=hch j hj;have:=s.inj j p.1 (s.kn j b hb).1 (s.kn _ _ hg).1 e;have h4:=yaz.1 dis j hj;rw[this,Nat.beq_refl]at h4;cases h4) ok ht
 exact⟨g',s1,h1,rl_keep h1 h2 h3 he oe⟩
def rl_at{l l':List V}(r:Rl g shL l l')(i:Nat){v v':V} (h:l[i]?=some v:=by rfl) (h':l'[i]?=some v':=by rfl):Rl g sh v v':=λd hd=>by
 rw[r d hd,zpC,h]at h';exact(ycq h').symm
end
end Go.Ax.Y
/- Fr1 -/
namespace Go.Ax.SU
open Go.Ax Go.Proofs
def lp0:V:=.lit (.int .i64 0)
def seR(n k slot m a b c e nx st:Nat)(sd:Int):Nat->V
 | 4=>.int .i64 (n:Nat)|5=>.int .u64 (k:Nat)|8=>.int .i64 (slot:Nat)|9=>.int .i64 (m:Nat)|10=>.int .i64 (a:Nat)|11=>.int .i64 (b:Nat)|12=>.int .i64 (c:Nat)|18=>.int .i64 (e:Nat)|19=>.int .i64 (nx:Nat)|20=>.int .i64 (st:Nat)|21=>.int .i64 sd
 | _=>.int .i64 0
def stY(a id:Nat)(sv rv:V)(W:Nat->V)(snd rcv:V)(f:Nat)(q:V)(b o:Bool):List V:=[.int .i64 (a:Nat),.int .i64 (id:Nat),sv,rv,W 4,W 5,.bool true,W 7,W 8,W 9,W 10,W 11,W 12,W 13,W 14,W 15,W 16,W 17,W 18,W 19,W 20,W 21,snd,rcv,.int .i64 (f:Nat),q,.bool b,.bool o,.int .i64 0,.int .u16 0,.bool false,.bool false,.int .i64 0,.int .u16 0,.bool false,.bool false]
def sndY(id slot:Nat)(kv:V)(e st kid:Nat)(c:V):List V:=[.int .i64 (id:Nat),.int .i64 (slot:Nat),kv,.int .i64 (e:Nat),.int .i64 (st:Nat),.int .u64 (kid:Nat),c]
def rcvC(id c:Nat):List V:=[.int .i64 (id:Nat),.mp c,.mp (c+1),.mp (c+2)]
def seR_n(n k slot m a b c e nx st:Nat)(sd:Int):∀i v,seR n k slot m a b c e nx st sd i≠.int .u8 v:=λi v e=>by
 unfold seR at e;split at e<;>cases e
def rl_k{g:Y.Sg}{k:IntKind}{n:Int}:Y.Rl g Y.sh (.int k n) (.int k n):=λ_ _=>rfl
def rl_a{g:Y.Sg}{l l':List V}(r:Y.Rl g Y.shL l l'):Y.Rl g Y.sh (.agg l) (.agg l'):=λd hd=>congrArg V.agg (r d hd)
def zwN{g:Y.Sg}{a id n k slot m x y z e nx st f:Nat}{sd:Int}{sv rv sv' rv' snd rcv snd' rcv' q q':V}{b o:Bool}(h1:Y.Rl g Y.sh sv sv')(h2:Y.Rl g Y.sh rv rv')(h3:Y.Rl g Y.sh snd snd')(h4:Y.Rl g Y.sh rcv rcv')(h5:Y.Rl g Y.sh q q') :
  Y.Rl g Y.shL (stY a id sv rv (seR n k slot m x y z e nx st sd) snd rcv f q b o) (stY a id sv' rv' (seR n k slot m x y z e nx st sd) snd' rcv' f q' b o):=λd hd=>by
 rw[h1 d hd,h2 d hd,h3 d hd,h4 d hd,h5 d hd];rfl
def zbB {l:List (Nat×Blk)} {f:Nat->Option Blk} (h:∀p∈l,f p.1=some p.2) (i:Nat) {j:Nat} {b:Blk} (e:l[i]?=some (j,b)):f j=some b:=h _ (ybb e)
def zpk{g:Y.Sg}{K:Heap}{i j:Nat}{ty:TypeId}{cs cs':List V}{op:Option Nat}(hi:∀d,Y.Ag g d->d.f j=i) (hg:K.get i=some ⟨ty,cs',op⟩) (r:Y.Rl g Y.shL cs cs'):∀d,Y.Ag g d->K.get (d.f j)=some (Y.shB d ⟨ty,cs,op⟩):=λd hd=>by
 rw[hi d hd,hg,r d hd];rfl
def al_map{α β β' γ:Type}{f:β->β'}{P:β'->γ->Prop}:∀{l:List (α×β)} {m:List (α×γ)},Al (λx y=>P (f x) y) l m->Al P (l.map λp=>(p.1,f p.2)) m
 | [],[],_=>trivial
 | _ :: _,_ :: _,h=>⟨h.1,h.2.1,al_map h.2.2⟩
section
variable {t:Tabs} {s:Nat->Nat} {q:Nat->List Nat} {g:Y.Sg} {h K:Heap}
def enc_ch{d:Y.Nm}:∀lc:List ((Int×Int)×Nat),Y.shL d (encM eplc (mapv ptrv lc))=encM eplc (mapv ptrv (lc.map λp=>(p.1,d.f p.2)))
 | []=>rfl
 | p::l=>by
  show eplc p.1::ptrv (d.f p.2)::Y.shL d (encM eplc (mapv ptrv l)) = _;rw[enc_ch l];rfl
def zq9 (st:Y.St (tbOf t s q) g h K) {c id:Nat} {lc:List ((Int×Int)×Nat)} {chs:List ((Int×Int)×(Nat×List Nat))} {b1 b2:Blk} {ws:List (Nat×WS)} {lk:List (Nat×Nat)} {ks:List (Nat×Ky)}
  (h0:h.get c=some ⟨tyC,encM eplc (mapv ptrv lc),none⟩) (h1:h.get (c+1)=some b1) (h2:h.get (c+2)=some b2) (h3:h.get (c+3)=some ⟨zbw,rcvC id c,none⟩) (k0:Al (λq x=>ChainM (g.e.f c+4) K (g.e.f q) x.1 x.2) lc chs)
  (w1:Y.shB g.e b1=⟨tyW,encM ekid (mapv wsv ws),none⟩) (w2:Y.shB g.e b2=⟨tyK,encM ekid (mapv ptrv lk),none⟩) (wr:∀p∈ws,wsR p.2) (k2:Al (λq x=>KeyM K q x) lk ks):RcM K (g.e.f c) ⟨id,chs,ws,ks⟩:=by
 obtain⟨a0,n0,d0,l0⟩:=zd8 st h0;obtain⟨a1,n1,d1,l1⟩:=zd8 st h1;obtain⟨a2,n2,d2,l2⟩:=zd8 st h2;obtain⟨a3,n3,d3,l3⟩:=zd8 st h3;have e1:g.e.f (c+1)=g.e.f c+1:=st.seq c l0 n0 n1;have e2:g.e.f (c+2)=g.e.f (c+1)+1:=st.seq (c+1) l1 n1 n2;have e3:g.e.f (c+3)=g.e.f (c+2)+1:=st.seq (c+2) l2 n2 n3;refine⟨by show g.e.f c+4<=K.next;omega,?_,⟨lc.map λp=>(p.1,g.e.f p.2),by rw[a0,<-enc_ch];rfl,al_map k0⟩,?_,wr,⟨lk,?_,k2⟩⟩
 ·rw[show g.e.f c+3=g.e.f (c+3) by omega,a3];show some (Blk.mk zbw (rcvC id (g.e.f c) |>.set 1 (.mp (g.e.f c)) |>.set 2 (.mp (g.e.f (c+1))) |>.set 3 (.mp (g.e.f (c+2)))) none) = _;rw[e2,e1];rfl
 ·rw[<-e1,a1,w1]
 ·rw[show g.e.f c+2=g.e.f (c+2) by omega,a2,w2]
def zeN(ht:TabV t s q) (st:Y.St (tbOf t s q) g h K) {c j sp ib ic:Nat} {x0 x1 x2 x3:Blk} {a b:List V} (h0:h.get c=some x0) (h1:h.get (c+1)=some x1) (h2:h.get (c+2)=some x2) (h3:h.get (c+3)=some x3) (h4:h.get ib=some ⟨zab,syms j 0 32,some 1⟩) (h5:h.get ic=some ⟨zav,[.int .i64 (sp:Nat),.sl ib 0 32 (.opn 1)],none⟩)
  (hb:t.bs[j]?=some (.ex a b 32)) (l4:c+3<ib) (l5:c+3<ic) (hsp:sp<=31):ChainM (g.e.f c+4) K (g.e.f ic) sp (val s q (.ex a b 32)):=by
 have s3:=seq3 st h0 h1 h2 h3;have m1:=zop st h3 h4 l4;have m2:=zop st h3 h5 l5;exact chain_at ht st h4 h5 (by omega) (by omega) hb ztx.1 ztx.2 hsp
end
def zuj{id n t e st sl s0:Nat} {ch:List ((Int×Int)×(Nat×List Nat))} {base:List Nat} {K:Ky} (hl:look ((e:Int),(sl:Int)) ch=some (s0,base)) (hk:drv id K.kid n t (zd4 base (st-s0))=K):∀k,gotN ⟨id,ch,[],[]⟩ n t K e st sl 0 (k+1)=⟨id,ch,[(K.kid,wq (k+1))],[(K.kid,K)]⟩
 | 0=>by
  show gotR ⟨id,ch,[],[]⟩ n t K e st sl 0 = _;unfold gotR ze1;rw[hl];dsimp only[look,Option.getD_some,putl];rw[hk]
 | k+1=>by
  show gotR (gotN ⟨id,ch,[],[]⟩ n t K e st sl 0 (k+1)) n t K e st sl (0+(k+1)) = _;rw[zuj hl hk k];unfold gotR ze1;rw[hl];simp only[look,if_true,putl,ya8]
def zxf{R:Rc}{n t e st sl c:Nat}{K:Ky}(hkid:K.kid=256*e+8*st+sl)(h1:e<65536)(h2:st<32)(h3:sl<8) (hl:look ((e:Int),(sl:Int)) R.ch=none) (hc:c<18446744073709551616) (p:List Nat) :
  zeY R n t [] (zcd K c [] p)=(R,.err 10):=by
 have hpar:parse (zcd K c [] p) = .ok K.kid c (hdr K.kid c).length:=by
  unfold zcd;rw[yaI];exact zmZ (by omega) (by omega) _
 unfold zeY;rw[hpar];dsimp only;rw[if_neg (by omega),show K.kid/256=e by omega,show K.kid%8=sl by omega,hl]
-- hand: [39,44,89,91,92,158];by the machine too: [39,44,89,158];marked: [91,92];by the machine only: [90,159]
def frT:Tabs:=⟨[
 .hm (u8 [111,119,110]) (u8 [97]),
 .ex (syms 0 0 32) (u8 [0,0,0,1,0,0]) 32,
 .hm (u8 [111,119,110]) (u8 [98]),
 .ex (syms 2 0 32) (u8 [0,0,0,1,0,0]) 32,
 .hm (u8 [112,97,105,114]) ([.lit (.int .u64 0)]),
 .ex (syms 4 0 32) (u8 [1,2]) 32,
 .se 1 1 (syms 5 0 32) 0 (u8 [2,1]) (syms 3 0 32),
 .hm ([]) (syms 1 0 32),
 .ex (syms 7 0 32) (u8 [83,70,114,97,109,101,32,49,46,48,32,82,97,116,99,104,101,116]) 32,
 .se 1 8 (syms 5 0 32) 0 (u8 [1,2]) (syms 8 0 32),
 .hm (u8 [111,119,110]) (u8 [99]),
 .ex (syms 10 0 32) (u8 [0,0,0,1,0,0]) 32,
 .ex (syms 4 0 32) (u8 [1,3]) 32,
 .se 1 2 (syms 12 0 32) 0 (u8 [3,1]) (syms 11 0 32),
 .ex (syms 4 0 32) (u8 [2,3]) 32,
 .se 1 2 (syms 14 0 32) 1 (u8 [3,2]) (syms 11 0 32),
 .hm ([]) (syms 8 0 32),
 .ex (syms 16 0 32) (u8 [83,70,114,97,109,101,32,49,46,48,32,82,97,116,99,104,101,116]) 32,
 .se 1 16 (syms 12 0 32) 1 (u8 [1,3]) (syms 17 0 32),
 .hm ([]) (syms 3 0 32),
 .ex (syms 19 0 32) (u8 [83,70,114,97,109,101,32,49,46,48,32,82,97,116,99,104,101,116]) 32,
 .se 1 9 (syms 14 0 32) 1 (u8 [2,3]) (syms 20 0 32),
 .ex (syms 0 0 32) (u8 [0,0,0,1,0,1]) 32,
 .se 1 256 (syms 5 0 32) 2 (u8 [1,2]) (syms 22 0 32),
 .ex (syms 2 0 32) (u8 [0,0,0,1,0,1]) 32,
 .se 1 257 (syms 5 0 32) 2 (u8 [2,1]) (syms 24 0 32)],[
 (0,.sl ([.lit (.int .u64 0)])),
 (38,.sl ([.lit (.int .u64 0)])),
 (43,.sl ([.lit (.int .u64 0)])),
 (113,.key 1 0 (syms 1 0 32)),
 (182,.key 1 1 (syms 3 0 32)),
 (211,.key 1 1 (syms 5 0 32)),
 (300,.key 1 8 (syms 8 0 32)),
 (335,.key 1 8 (syms 5 0 32)),
 (413,.key 1 1 (syms 5 0 32)),
 (475,.key 1 8 (syms 5 0 32)),
 (486,.sl ([.lit (.int .u64 0)])),
 (557,.key 1 2 (syms 11 0 32)),
 (588,.key 1 2 (syms 12 0 32)),
 (621,.key 1 2 (syms 14 0 32)),
 (734,.key 1 16 (syms 17 0 32)),
 (775,.key 1 16 (syms 12 0 32)),
 (835,.key 1 9 (syms 20 0 32)),
 (870,.key 1 9 (syms 14 0 32)),
 (954,.key 1 2 (syms 12 0 32)),
 (1022,.key 1 2 (syms 14 0 32)),
 (1122,.key 1 16 (syms 12 0 32)),
 (1147,.key 1 9 (syms 14 0 32)),
 (1155,.any),
 (1156,.any),
 (1157,.any),
 (1158,.any),
 (1159,.any),
 (1160,.any),
 (1161,.any),
 (1228,.key 1 256 (syms 5 0 32)),
 (1292,.key 1 257 (syms 5 0 32)),
 (1373,.key 1 257 (syms 5 0 32)),
 (1456,.key 1 256 (syms 5 0 32)),
 (1568,.key 1 256 (syms 22 0 32)),
 (1624,.key 1 257 (syms 24 0 32))]⟩
def fsA:List (Nat×Blk):=[
 (37,⟨zab,[.int .u8 97],some 1⟩),
 (39,⟨zah,stY 1 1 (.sl 37 0 1 (.opn 1)) (.lit (.int .i64 1)) (seR 1 1 0 3 1 2 0 0 0 1 (-1)) (.ptr 89 0) (.ptr 93 0) 0 (.int .u16 0) false false,none⟩),
 (42,⟨zab,[.int .u8 98],some 1⟩),
 (44,⟨zah,stY 2 1 (.sl 42 0 1 (.opn 1)) (.lit (.int .i64 2)) (seR 1 1 1 3 1 2 0 0 0 0 (-1)) (.ptr 158 0) (.ptr 162 0) 0 (.int .u16 0) false false,none⟩),
 (89,⟨zaA,sndY 1 0 (.ptr 6 0) 0 1 8 (.int .u64 0),none⟩),
 (90,⟨tyC,[.agg [.int .i64 0,.int .i64 1],.ptr 420 0],none⟩),
 (91,⟨tyW,[],none⟩),
 (92,⟨tyK,[],none⟩),
 (93,⟨zbw,rcvC 1 90,none⟩),
 (158,⟨zaA,sndY 1 1 (.ptr 4 0) 0 0 1 (.int .u64 0),none⟩),
 (159,⟨tyC,[.agg [.int .i64 0,.int .i64 0],.ptr 482 0],none⟩),
 (160,⟨tyW,[],none⟩),
 (161,⟨tyK,[],none⟩),
 (162,⟨zbw,rcvC 1 159,none⟩),
 (419,⟨zab,(syms 3 0 32),some 1⟩),
 (420,⟨zav,[.int .i64 0,.sl 419 0 32 (.opn 1)],none⟩),
 (481,⟨zab,(syms 8 0 32),some 1⟩),
 (482,⟨zav,[.int .i64 1,.sl 481 0 32 (.opn 1)],none⟩),
 (485,⟨zab,[.int .u8 99],some 1⟩),
 (487,⟨zah,[.int .i64 3,.int .i64 1,.sl 485 0 1 (.opn 1),.lit (.int .i64 10),.int .i64 0,.int .u64 0,.bool false,.int .i64 0,.int .i64 0,.int .i64 0,.int .i64 0,.int .i64 0,.int .i64 0,.int .i64 0,.int .i64 0,.int .i64 0,.int .i64 0,.int .i64 0,.int .i64 0,.int .i64 0,.int .i64 0,.int .i64 0,.nilp,.nilp,.int .i64 0,.int .u16 0,.bool false,.bool false,.int .i64 0,.int .u16 0,.bool false,.bool false,.int .i64 0,.int .u16 0,.bool false,.bool false],none⟩)]
def frP:List (Nat×Blk):=[
 (90,⟨tyC,[.agg [.int .i64 0,.int .i64 1],.ptr 420 0,.agg [.int .i64 0,.int .i64 2],.ptr 961 0],none⟩),
 (159,⟨tyC,[.agg [.int .i64 0,.int .i64 0],.ptr 482 0,.agg [.int .i64 0,.int .i64 2],.ptr 1029 0],none⟩)]
def frU:List (Nat×Blk):=[
 (37,⟨zab,[.int .u8 97],some 1⟩),
 (42,⟨zab,[.int .u8 98],some 1⟩),
 (93,⟨zbw,rcvC 1 90,none⟩),
 (160,⟨tyW,[],none⟩),
 (161,⟨tyK,[],none⟩),
 (162,⟨zbw,rcvC 1 159,none⟩),
 (419,⟨zab,(syms 3 0 32),some 1⟩),
 (420,⟨zav,[.int .i64 0,.sl 419 0 32 (.opn 1)],none⟩),
 (481,⟨zab,(syms 8 0 32),some 1⟩),
 (482,⟨zav,[.int .i64 1,.sl 481 0 32 (.opn 1)],none⟩),
 (960,⟨zab,(syms 11 0 32),some 1⟩),
 (961,⟨zav,[.int .i64 0,.sl 960 0 32 (.opn 1)],none⟩),
 (1028,⟨zab,(syms 11 0 32),some 1⟩),
 (1029,⟨zav,[.int .i64 0,.sl 1028 0 32 (.opn 1)],none⟩)]
def frM:List (Nat×Blk):=[
 (91,⟨tyW,[.int .u64 2,.agg [.bool true,.lit (.int .i64 24),.lit (.int .i64 25)]],none⟩),
 (92,⟨tyK,[.int .u64 2,.lit (.int .i64 26)],none⟩)]
def frB0:List (Nat×Blk):=[
 (39,⟨zah,stY 1 1 (.sl 37 0 1 (.opn 1)) (.lit (.int .i64 1)) (seR 1 2 0 7 1 2 3 0 0 2 (-1)) (.ptr 89 0) (.ptr 93 0) 0 (.int .u16 0) false false,none⟩),
 (44,⟨zah,stY 2 1 (.sl 42 0 1 (.opn 1)) (.lit (.int .i64 2)) (seR 1 2 1 7 1 2 3 0 0 1 (-1)) (.ptr 158 0) (.ptr 162 0) 0 (.int .u16 0) false false,none⟩),
 (89,⟨zaA,sndY 1 0 (.ptr 14 0) 0 2 16 (.int .u64 0),none⟩),
 (91,⟨tyW,[],none⟩),
 (92,⟨tyK,[],none⟩),
 (158,⟨zaA,sndY 1 1 (.ptr 16 0) 0 1 9 (.int .u64 0),none⟩),
 (485,⟨zab,[.int .u8 99],some 1⟩),
 (487,⟨zah,stY 3 1 (.sl 485 0 1 (.opn 1)) (.lit (.int .i64 10)) (seR 1 2 2 7 1 2 3 0 0 0 (-1)) (.ptr 533 0) (.ptr 537 0) 0 (.int .u16 0) false false,none⟩),
 (533,⟨zaA,sndY 1 2 (.ptr 11 0) 0 0 2 (.int .u64 0),none⟩),
 (534,⟨tyC,[.agg [.int .i64 0,.int .i64 0],.ptr 1129 0,.agg [.int .i64 0,.int .i64 1],.ptr 1154 0],none⟩),
 (535,⟨tyW,[],none⟩),
 (536,⟨tyK,[],none⟩),
 (537,⟨zbw,rcvC 1 534,none⟩),
 (1128,⟨zab,(syms 17 0 32),some 1⟩),
 (1129,⟨zav,[.int .i64 2,.sl 1128 0 32 (.opn 1)],none⟩),
 (1153,⟨zab,(syms 20 0 32),some 1⟩),
 (1154,⟨zav,[.int .i64 1,.sl 1153 0 32 (.opn 1)],none⟩)]
def frB1:List (Nat×Blk):=[
 (39,⟨zah,stY 1 1 (.sl 37 0 1 (.opn 1)) (.lit (.int .i64 1)) (seR 1 2 0 7 1 2 3 0 0 2 (-1)) (.ptr 89 0) (.ptr 93 0) 1 (.lit (.int .i64 22)) true false,none⟩),
 (44,⟨zah,stY 2 1 (.sl 42 0 1 (.opn 1)) (.lit (.int .i64 2)) (seR 1 2 1 7 1 2 3 0 0 1 (-1)) (.ptr 158 0) (.ptr 162 0) 1 (.lit (.int .i64 27)) true false,none⟩),
 (89,⟨zaA,sndY 1 0 (.ptr 14 0) 0 2 16 (.lit (.int .i64 23)),none⟩),
 (158,⟨zaA,sndY 1 1 (.ptr 16 0) 0 1 9 (.lit (.int .i64 28)),none⟩)]
def frC0:List (Nat×Blk):=[
 (39,⟨zah,stY 1 1 (.sl 37 0 1 (.opn 1)) (.lit (.int .i64 1)) (seR 1 3 0 3 1 2 0 1 1 0 1) (.ptr 89 0) (.ptr 93 0) 1 (.lit (.int .i64 22)) true false,none⟩),
 (44,⟨zah,stY 2 1 (.sl 42 0 1 (.opn 1)) (.lit (.int .i64 2)) (seR 1 3 1 3 1 2 0 1 1 0 1) (.ptr 158 0) (.ptr 162 0) 1 (.lit (.int .i64 27)) true false,none⟩),
 (89,⟨zaA,sndY 1 0 (.ptr 33 0) 1 0 256 (.int .u64 0),none⟩),
 (90,⟨tyC,[.agg [.int .i64 0,.int .i64 1],.ptr 420 0,.agg [.int .i64 0,.int .i64 2],.ptr 961 0,.agg [.int .i64 1,.int .i64 1],.ptr 1380 0],none⟩),
 (158,⟨zaA,sndY 1 1 (.ptr 34 0) 1 0 257 (.int .u64 0),none⟩),
 (159,⟨tyC,[.agg [.int .i64 0,.int .i64 0],.ptr 482 0,.agg [.int .i64 0,.int .i64 2],.ptr 1029 0,.agg [.int .i64 1,.int .i64 0],.ptr 1463 0],none⟩),
 (1379,⟨zab,(syms 24 0 32),some 1⟩),
 (1380,⟨zav,[.int .i64 0,.sl 1379 0 32 (.opn 1)],none⟩),
 (1462,⟨zab,(syms 22 0 32),some 1⟩),
 (1463,⟨zav,[.int .i64 0,.sl 1462 0 32 (.opn 1)],none⟩)]
def frAS:List Y.Step:=[.call zcS [.int .i64 1,lp0],
 .ins (.slit zab 1 [.int .u8 0] [(0,1,.c (.int .u8 99))]) [],
 .ins (.remark zab (.s 0)) [.sl 483 0 1 (.fix 1)],
 .call zjW [.int .i64 3,.int .i64 1,.sl 483 0 1 (.fix 1),lp0]]
def frBS:List Y.Step:=[.call zcn [.int .i64 2,.int .i64 0,.int .i64 7,.int .i64 0,.agg (u8 [1,2,3,0,0,0,0,0])],
 .call zay [.agg [.int .i64 17,.int .i64 0,.int .i64 2,.int .i64 0,.int .i64 7,.int .i64 0,.sl 491 0 8 (.fix 8)]],
 .call zaJ [.ptr 487 0,.sl 521 0 19 (.opn 1)],
 .call zay [.agg [.int .i64 19,.int .i64 0,.int .i64 2,.int .i64 0,.int .i64 7,.int .i64 3,.nils]],
 .call zaJ [.ptr 39 0,.sl 691 0 11 (.opn 1)],
 .call zaJ [.ptr 44 0,.sl 691 0 11 (.opn 1)],
 .call zaz [.int .i64 2,.sl 663 0 2 (.opn 1),.int .i64 0],
 .call zaG [.ptr 39 0,.sl 930 0 1 (.opn 1)],
 .call zaz [.int .i64 2,.sl 663 0 2 (.opn 1),.int .i64 1],
 .call zaG [.ptr 44 0,.sl 1004 0 1 (.opn 1)],
 .call zaz [.int .i64 0,.sl 798 0 1 (.opn 1),.int .i64 2],
 .call zaz [.int .i64 1,.sl 893 0 1 (.opn 1),.int .i64 2],
 .ins (.append zal 1 24 (.s 0) (.s 1)) [.sl 1066 0 1 (.opn 1),.sl 1103 0 1 (.opn 1)],
 .call zaG [.ptr 487 0,.sl 1104 0 2 (.opn 1)]]
def frCS:List Y.Step:=[.call zay [.agg [.int .i64 20,.int .i64 0,.int .i64 2,.int .i64 1,.int .i64 3,.int .i64 0,.nils]],
 .call zaJ [.ptr 39 0,.sl 1190 0 11 (.opn 1)],
 .call zaJ [.ptr 44 0,.sl 1190 0 11 (.opn 1)],
 .call zaz [.int .i64 1,.sl 1318 0 1 (.opn 1),.int .i64 0],
 .call zaG [.ptr 39 0,.sl 1355 0 1 (.opn 1)],
 .call zaz [.int .i64 0,.sl 1254 0 1 (.opn 1),.int .i64 1],
 .call zaG [.ptr 44 0,.sl 1438 0 1 (.opn 1)],
 .call zay [.agg [.int .i64 8,.int .i64 0,.int .i64 0,.int .i64 1,.int .i64 0,.int .i64 0,.nils]],
 .ins (.load none (.s 0)) [.ptr 1401 0],
 .call zaZ [.sl 1398 0 11 (.opn 1),.sl 1512 0 11 (.opn 1)],
 .ins (.load none (.s 0)) [.ptr 1484 0],
 .call zaZ [.sl 1481 0 11 (.opn 1),.sl 1512 0 11 (.opn 1)],
 .call zay [.agg [.int .i64 22,.int .i64 0,.int .i64 0,.int .i64 1,.int .i64 0,.int .i64 0,.nils]],
 .call zaJ [.ptr 39 0,.sl 1540 0 11 (.opn 1)],
 .call zay [.agg [.int .i64 22,.int .i64 0,.int .i64 0,.int .i64 1,.int .i64 0,.int .i64 0,.nils]],
 .call zaJ [.ptr 44 0,.sl 1596 0 11 (.opn 1)]]
abbrev frX(l:List Y.Step)(c:Cc.Heap):Option (List V×Cc.Heap):=Y.runs T selO (orc frT.fnd) 60 l c
def fr_1:Y.seen (fsA.map (·.1)) (frX frAS (Cc.hp (List.replicate 35 none)))=some ([.tup [.ptr 39 0,.ptr 44 0],.sl 483 0 1 (.fix 1),.sl 483 0 1 (.fix 1),.tup [.ptr 487 0,.int .i64 0]],488,fsA.map λp=>some p.2):=by kernel_rfl
def fr_2:Y.seen ((frB0++(frP++frU)).map (·.1)) (frX frBS (Y.mkc fsA 489))=some ([.agg [.int .i64 17,.int .i64 0,.int .i64 2,.int .i64 0,.int .i64 7,.int .i64 0,.sl 491 0 8 (.fix 8)],.sl 521 0 19 (.opn 1),.sl 663 0 2 (.opn 1),.sl 691 0 11 (.opn 1),.sl 798 0 1 (.opn 1),.sl 893 0 1 (.opn 1),.sl 930 0 1 (.opn 1),.nils,.sl 1004 0 1 (.opn 1),.nils,.sl 1066 0 1 (.opn 1),.sl 1103 0 1 (.opn 1),.sl 1104 0 2 (.opn 1),.nils],1155,(frB0++(frP++frU)).map λp=>some p.2):=by kernel_rfl
def fr_3:Y.seen ((frC0++(frM++frU)).map (·.1)) (frX frCS (Y.mkc ((frB1++frP)++(frM++frU)) 1163))=some ([.sl 1190 0 11 (.opn 1),.sl 1254 0 1 (.opn 1),.sl 1318 0 1 (.opn 1),.sl 1355 0 1 (.opn 1),.sl 1401 0 1 (.opn 1),.sl 1438 0 1 (.opn 1),.sl 1484 0 1 (.opn 1),.sl 1512 0 11 (.opn 1),.sl 1398 0 11 (.opn 1),.bool true,.sl 1481 0 11 (.opn 1),.bool true,.sl 1540 0 11 (.opn 1),.nils,.sl 1596 0 11 (.opn 1),.nils],1625,(frC0++(frM++frU)).map λp=>some p.2):=by kernel_rfl
structure Sub (H H':Heap):Prop where
 next:H.next<=H'.next
 get:∀i b,H.get i=some b->H'.get i=some b
def _root_.Go.Ax.Lc.sub{e lo n:Nat}{H H':Heap}{v:V}{cells:List V}(h:Lc e lo H v cells n)(s:Sub H H'):Lc e lo H' v cells n:=by
 refine⟨?_,λi hi=>⟨(h.own i hi).1,yai (h.own i hi).2 s.next⟩,h.cap⟩;have hr:=h.rc;cases v<;>try exact hr
 rename_i id off len cap;simp only[rcells]at hr ⊢;cases hg:H.get id with
 | none=>rw[hg]at hr;cases hr
 | some b=>rw[hg]at hr;rw[s.get _ _ hg];exact hr
def KeyM.sub{H H':Heap}{k:Nat}{K:Ky}(h:KeyM H k K)(s:Sub H H'):KeyM H' k K:=by
 obtain⟨a,av,sv,h1,⟨id,a1,a2,a3,a4,a5⟩,h3,h4⟩:=h.mem;exact⟨h.good,⟨a,av,sv,s.get _ _ h1,⟨id,s.get _ _ a1,s.get _ _ a2,yai a3 s.next,yai a4 s.next,a5⟩,h3.sub s,h4.sub s⟩,yai h.low s.next⟩
def ChainM.sub{lo:Nat}{H H':Heap}{q st:Nat}{base:List Nat}(h:ChainM lo H q st base)(s:Sub H H'):ChainM lo H' q st base:=by
 obtain⟨bv,h1,h2,h3⟩:=h.mem;exact⟨yai h.low s.next,h.lo',⟨bv,s.get _ _ h1,h2.sub s,λi hi=>by
  obtain⟨b,hb,ht⟩:=h3 i hi;exact⟨b,s.get _ _ hb,ht⟩⟩,h.b8,h.bl,h.st31⟩
def RcM.sub{H H':Heap}{c:Nat}{R:Rc}(h:RcM H c R)(s:Sub H H'):RcM H' c R:=by
 obtain⟨lc,h1,h2⟩:=h.ch;obtain⟨lk,h3,h4⟩:=h.ks;exact⟨yax h.top s.next,s.get _ _ h.rcd,⟨lc,s.get _ _ h1,h2.mono λ_ _ g=>g.sub s⟩,s.get _ _ h.win,h.wr,⟨lk,s.get _ _ h3,h4.mono λ_ _ g=>g.sub s⟩⟩
def nid(w:V):Nat->Bool:=λi=>match w.pid with|some j=>decide (i=j)|none=>false
def nid_t{w:V}{i:Nat}(h:nid w i=true):w.pid=some i:=by
 unfold nid at h;split at h
 ·rename_i j hj;rw[hj,of_decide_eq_true h]
 ·cases h
def nid_f{w:V}{i:Nat}(h:w.pid≠some i):nid w i=false:=by
 cases hn:nid w i with
 | false=>rfl
 | true=>exact absurd (nid_t hn) h
def zld{H:Heap}{w:V}{i:Nat}(h:w.pid≠some i):(H.sans (nid w)).get i=H.get i:=by
 show(if i<H.next/\nid w i=true then none else H.get i) = _;rw[nid_f h,if_neg (by simp)]
def ztE(H:Heap)(N:Nat->Bool):Sub (H.sans N) H:=⟨yag _,λi b hb=>by
 have hb:(if i<H.next/\N i=true then none else H.get i)=some b:=hb;split at hb
 ·cases hb
 ·exact hb⟩
def sans_cl{H:Heap}(hc:H.Cl)(N:Nat->Bool):(H.sans N).Cl:=λi hi=>by
 show(if i<H.next/\N i=true then none else H.get i)=none;have hi:H.next<=i:=hi;rw[if_neg (by omega)];exact hc i hi
def _root_.Go.Ax.Lc.sans{e lo n:Nat}{H:Heap}{v w:V}{cells:List V}(h:Lc e lo H v cells n)(hd:∀i,v.pid=some i->w.pid≠some i):Lc e lo (H.sans (nid w)) v cells n:=
 h.same (yag _) λi hi=>zld (hd i hi)
def ok_ab_cl{lo:Nat}{H:Heap}{x y:V}{l m:List Nat}(hc:H.Cl)(hx:Ab lo H x l)(hlo:lo<=H.next) (hy:acells 1 H y=some (m.map by8,m.length)) (hm:l.length+m.length<=1099511627776) :
  Ok (mappend zab 1 1 x y) H λx' H'=>Ab lo H' x' (l++m)/\Bel lo H H'/\Step H H' x.pid.toList x'.pid.toList/\H'.Cl:=by
 have h:Ok ((mappend zab 1 1 x y).bind M.pure) H λx' H'=>Ab lo H' x' (l++m)/\Bel lo H H'/\Step H H' x.pid.toList x'.pid.toList:=okb_ab' hx hlo hy hm λx' H' h1 h2 h3=>zha ⟨h1,h2,h3⟩;rw[bind_pure']at h;obtain⟨r,H',e,h1,h2,h3⟩:=h;exact⟨r,H',e,h1,h2,h3,(znU (G:=⟨0⟩) _ _ _ _ _ H r H' ⟨hc,yaD _⟩ e).2.cl⟩
set_option maxHeartbeats 1000000 in
def zpM{sv1 rv1 sv2 rv2:V}{kp1 kp2:Nat}{S1 sn1 c1 a1 id1 sl1 S2 sn2 c2 a2 id2 sl2:Nat}{W1 W2:Nat->V}{K K2:Ky}{e sp ct e2 sp2 ct2:Nat}{R1 R2:Rc}{f q f2 q2:Nat}{b1 o1 b2 o2:Bool}{H:Heap}{v:V}{b:List Nat}{n t:Nat}(hc:H.Cl)
  (h1:Pr H S1 sn1 c1 a1 id1 sl1 W1 K e sp ct R1 f q b1 o1 sv1 rv1 kp1) (h2:Pr H S2 sn2 c2 a2 id2 sl2 W2 K2 e2 sp2 ct2 R2 f2 q2 b2 o2 sv2 rv2 kp2)
  (hk:(b1=false/\(f=0\/f=1))\/(f=1/\b1=true/\o1=false)) (ha:a1=1\/a1=2\/a1=3) (n1:S1<sn1/\S1<c1/\(sn1<c1\/c1+4<=sn1)) (n2:S2<sn2/\S2<c2/\(sn2<c2\/c2+4<=sn2)) (n3:S1≠S2/\S1≠sn2/\S2≠sn1/\sn1≠sn2/\(S1<c2\/c2+4<=S1)/\(S2<c1\/c1+4<=S2)/\(sn1<c2\/c2+4<=sn1)/\(sn2<c1\/c1+4<=sn2)/\(c1+4<=c2\/c2+4<=c1))
  (hr:Rdy R2 n t K e sp sl1 ct) (hsz:szs R2.id=some (n,t)) (hKt:K.t<=32) (hKw:∀w∈K.ws,Word w) (hct:ct+8<=60) (hq:q<60000) (hv:∀H,By 0 H v b) (hvp:v.pid=none) (h8:Ok8 b) (hb:b.length<=800) :
  Ok (sem T za6 [.ptr S1 0,.ptr S2 0,v]) H λr H'=>r = .bool true/\∃o',(f=0->o'=false)/\Pr H' S1 sn1 c1 a1 id1 sl1 W1 K e sp (ct+(pcsL b).length) R1 (f+1) (q+(pcsL b).length) true o' sv1 rv1 kp1 /\
   Pr H' S2 sn2 c2 a2 id2 sl2 W2 K2 e2 sp2 ct2 (gotN R2 n t K e sp sl1 ct (pcsL b).length) f2 q2 b2 o2 sv2 rv2 kp2/\AtS [S1,sn1,c2+1,c2+2] H H'/\H'.Cl:=by
 have pl:=ziX b;have pl8:(pcsL b).length<=8:=by omega
 have p8:=zre h8;refine zhb ?_;unfold zd6 uL uE uB uG uH uA uR uc ug;refine zad (znn hc h1 (key:=false) (by rcases hk with⟨rfl,hf⟩|⟨rfl,rfl,rfl⟩;exact .inl ⟨.inr rfl,hf⟩;exact .inr ⟨rfl,rfl,rfl,rfl⟩) ha (by omega) n1 (hv H) h8 hb (λi hi=>by rw[hvp]at hi;cases hi) hq hKt hKw) ?_;rintro _ H1 ⟨ov,PK,o',rfl,hov,hpl,hpk,hp1,ho',a1',c1'⟩;have hp2:Pr H1 S2 sn2 c2 a2 id2 sl2 W2 K2 e2 sp2 ct2 R2 f2 q2 b2 o2 sv2 rv2 kp2:=h2.atS hc a1' (by simp;omega) (by simp;omega) (by simp;omega) (by
  intro i hi;simp only[yao,yap,or_false]at hi;rcases hi with rfl|rfl
  ·exact h1.oddS
  ·exact h1.oddN)
 have nx1:=a1'.next;have top2:=hp2.rcv.top;have ltS2:=hp2.ltS c1';refine zcH rfl ?_;refine zcH rfl ?_;simp(disch:=omega)only[↓RD,RZ,eq_self,seval];refine zao (α:=Res) (Q:=λr H'=>∃w,r = .ex 0 [w]/\Ab H1.next H' w b/\RcM H' c2 (gotN R2 n t K e sp sl1 ct (pcsL b).length)/\AtS [c2+1,c2+2] H1 H'/\H'.Cl) ?_ ?_
 ·refine zaS (λi L H'=>∃w,L=[w,.int .i64 (i:Nat)]/\Ab H1.next H' w ((pcsL b).take i).flatten/\RcM (H'.sans (nid w)) c2 (gotN R2 n t K e sp sl1 ct i)/\AtS [c2+1,c2+2] H1 H'/\H'.Cl) PK.length ?_ ?_ ?_
  ·refine⟨.nils,rfl,Ab.nil,?_,AtS.refl _ _,c1'⟩;exact hp2.rcv.sub ⟨yag _,λi b hb=>by rw[zld (by simp[V.pid])];exact hb⟩
  ·rintro i _ H3 hi ⟨w,rfl,aw,hR,a3,c3⟩;have nx3:=a3.next;have hov3:=hov.top.keepB (yag _) (KeepB.ofAtS a3 (yag _) (λi hi=>.inl hi)) (S:=[c2+1,c2+2]) (λi hi=>by
    have:=(hov.low hi).1;have t0:=h2.rcv.top;simp;omega) (λi hi=>by
    have hi:H.next<=i:=hi.1;have t0:=h2.rcv.top;simp;omega)
   obtain⟨p,bv,hp,hpl',hbv,hbp⟩:=hov3.at (i:=i) hi;have hld:=zrc hpl';obtain⟨pk,q1,q2',q3,q4⟩:=hpk i hi;have hlt:((i:Nat):Int)<(PK.length:Nat):=by omega
   have wlow:∀j,w.pid=some j->H1.next<=j/\j<H3.next:=λj hj=>aw.by.own j hj;have hbl:∀j,bv.pid=some j->j<H1.next:=λj hj=>(hbp j hj).2.2;have hrdy:=rdy_n hr hKt i (by omega);obtain⟨e5,e6,e7,e8⟩:=zmr hrdy.1 (by omega) hKt (p:=(pcsL b).getD i []) (by
    rw[yak,yae (by omega)];have:=(p8 _ (yaV (show i<(pcsL b).length by omega))).2;simp only[Option.getD_some];omega)
   have hg2:=hp2.seat;have hg3:=(a3.same S2 ltS2 (by simp;omega)).trans hg2;have hs3:(H3.sans (nid w)).get S2 = _:=(zld (λe=>by have:=wlow _ e;omega)).trans hg3;have hbv3:=hbv.sans (w:=w) (λj hj hw=>by have:=hbl j hj;have:=wlow j hw;omega);have hpj:Ok8 ((pcsL b).getD i [])/\((pcsL b).getD i []).length<=100:=by
    rw[yak,yae (by omega)];exact p8 _ (yaV _)
   have hsl:=zf4 hKt (ct+i) [] ((pcsL b).getD i []);have hhm:=zjR K.kid (ct+i);have hT:=zko c3 (ok_sans (nid w) (zqF (sans_cl c3 _) hs3 hR (by omega) (by rw[hrdy.2.1];exact hsz) hbv3 q3 (by omega) q1 (by rw[q2'];exact zoM hKw hpj.1) (by rw[q2'];omega)));unfold zcx uL uT uFM uE uB uIM uO uA uR uK uc uq ug;simp(disch:=omega)only[↓RD,RZ,eq_self,seval,hov3.vlen,hlt,hp,hld];refine zad hT ?_;rintro r H4 ⟨⟨G4,⟨hgr,hR4,aG,cG⟩,m1,m2,m3,m4⟩,c4⟩;rw[q2',e5]at hgr hR4;obtain⟨x,rfl,hx⟩:=hgr;have nos:∀j bb,G4.get j=some bb->w.pid≠some j:=λj bb hj hw=>by
    have hw':=wlow j hw;have h0:=aG.same j hw'.2 (by simp;omega);rw[hj]at h0;have h9:(H3.sans (nid w)).get j=none:=by
     show(if j<H3.next/\nid w j=true then none else H3.get j)=none;rw[if_pos ⟨hw'.2,by unfold nid;rw[hw];exact decide_eq_true rfl⟩]
    rw[h9]at h0;cases h0
   have g4e:∀j bb,G4.get j=some bb->H4.get j=some bb:=λj bb hj=>by
    rw[m4 j λhh=>nos j bb hj (nid_t hh.2)];exact hj
   have sub4:Sub G4 H4:=⟨by omega,g4e⟩;have a34:AtS [c2+1,c2+2] H3 H4:=⟨m2,λj hj hn=>by
    by_cases hw:nid w j=true
    ·exact m3 j hj hw
    ·rw[m4 j λhh=>hw hh.2,aG.same j hj hn];exact zld λe=>hw (by unfold nid;rw[e];exact decide_eq_true rfl)⟩
   have hx4:By H3.next H4 x ((pcsL b).getD i []):=hx.sub sub4;have nx4:=a34.next;simp(disch:=omega)only[↓RD,RZ,eq_self,seval,hx4.cells1,hx4.okc];generalize hHH:Heap.set _ H4.next _=H5;have s5:Grow H4 H5:=by rw[<-hHH];exact(Grow.new H4 _).set (yag _) _
   have c5:H5.Cl:=by rw[<-hHH];exact zcE (zd7 c4 _) (by rw[zae];omega) _
   clear hHH;have nx5:=s5.next;have aw5:Ab H1.next H5 w ((pcsL b).take i).flatten:=aw.keep ⟨by omega,λj h1 h2=>by rw[s5.same j (by omega),a34.same j h2 (by simp;omega)]⟩;have hR5:RcM (H5.sans (nid w)) c2 (gotR (gotN R2 n t K e sp sl1 ct i) n t K e sp sl1 (ct+i)):=hR4.sub ⟨by show G4.next<=H5.next;omega,λj bb hj=>by
    have hlt4:j<H4.next:=zbQ c4 (g4e j bb hj);rw[zld (nos j bb hj),s5.same j hlt4];exact g4e j bb hj⟩
   have hlen:((pcsL b).take i).flatten.length+((pcsL b).getD i []).length<=1099511627776:=by
    have h5:=zdI (pcsL b) i;rw[zrd]at h5;omega
   refine zad (ok_ab_cl c5 aw5 (by omega) (hx4.ext s5).ac hlen) ?_;rintro w' H6 ⟨aw6,b6,st6,c6⟩;have nx6:=b6.next;simp(disch:=omega)only[↓RD,RZ,eq_self,seval];refine⟨w',by rfl,?_,?_,?_,c6⟩
   ·rw[zgT (p:=(pcsL b).getD i []) (by rw[yak,yae (by omega)];rfl)];exact aw6
   ·refine hR5.sub ⟨by show H5.next<=H6.next;omega,λj bb hj=>?_⟩;have hj5:=(ztE H5 (nid w)).get j bb hj;have hl5:=zbQ c5 hj5;have hnw:w.pid≠some j:=λhw=>by
     have h9:(H5.sans (nid w)).get j=none:=by
      show(if j<H5.next/\nid w j=true then none else H5.get j)=none;rw[if_pos ⟨hl5,by unfold nid;rw[hw];exact decide_eq_true rfl⟩]
     rw[h9]at hj;cases hj
    have hnl:j∉w.pid.toList:=λhm=>hnw (by simpa [zbP]using hm);rw[zld (λhw'=>by
     rcases st6.own j (by simp[hw']) with h|h
     ·exact hnl h
     ·omega),st6.same j hl5 hnl]
    exact hj5
   ·refine⟨by omega,λj hj hn=>?_⟩;rw[b6.same j (by omega),s5.same j (by omega),a34.same j (by omega) hn];exact a3.same j hj hn
  ·rintro _ H3 ⟨w,rfl,aw,hR,a3,c3⟩;unfold zcx uL uT uFM uE uB uIM uO uA uR uK uc uq ug;simp(disch:=omega)only[↓RD,RZ,eq_self,seval,hov.vlen];refine⟨w,rfl,?_,?_,a3,c3⟩
   ·rw[hpl,yaj (yag _),zrd]at aw;exact aw
   ·rw[hpl]at hR;exact hR.sub (ztE _ _)
 ·rintro _ H3 ⟨w,rfl,aw,hR,a3,c3⟩;have hpos:(0:Int)<(PK.length:Nat):=by omega
  have hov3:=hov.vlen;simp(disch:=omega)only[↓RD,RZ,eq_self,seval,RG,hov3,decide_eq_true hpos];refine zad (zko c3 (same_ok aw.by (hv H3) h8 h8)) ?_;rintro _ H4 ⟨⟨rfl,e4⟩,c4⟩;simp(disch:=omega)only[↓RD,RZ,eq_self,seval,RG];rw[e4];have a13:AtS [S1,sn1,c2+1,c2+2] H H3:=(a1'.mono (by simp)).trans (a3.mono (by simp));have od:∀i∈[c2+1,c2+2],∃x,H1.get i=some x/\OddR x:=λi hi=>by
   simp only[yao,yap,or_false]at hi;exact hp2.rcv.odd i (by omega) (by omega)
  have hg2:=hp2.seat;refine⟨o',λh0=>ho' (.inl h0),hp1.atS c1' a3 (by simp;omega) (by simp;omega) (by simp;omega) od,⟨hp2.svn,hp2.rvn,(a3.same S2 ltS2 (by simp;omega)).trans hg2,hp2.wn,hp2.snd.atS a3 (by simp;omega) (λi hi=>by
   obtain⟨x,hx,ho⟩:=od i hi;exact⟨x,hx,ho.1⟩),hR⟩,a13,c3⟩
def seq1{t:Tabs}{s:Nat->Nat}{q:Nat->List Nat}{g:Y.Sg}{h K:Heap} (st:Y.St (tbOf t s q) g h K) {c:Nat} {x0 x1:Blk} (h0:h.get c=some x0) (h1:h.get (c+1)=some x1):g.e.f (c+1)=g.e.f c+1:=
 st.seq c (zd8 st h0).2.2.2 (zd8 st h0).2.1 (zd8 st h1).2.1
def rl_s{g:Y.Sg}{i o l:Nat}{c:Cap}{b:V} (r:Y.Rl g Y.sh (.sl i o l c) b):∃A,b = .sl A o l c:=⟨_,r g.e (Y.Ag.self g)⟩
def rl_sp{g:Y.Sg}{i A l o:Nat}{c:Cap} (r:Y.Rl g Y.sh (.sl i o l c) (.sl A o l c)):Y.Rl g Y.sh (.ptr i o) (.ptr A o):=λd hd=>by
 have:=r d hd;simp only[Y.sh,V.sl.injEq,and_true]at this;rw[this];rfl
def rl_snd{g:Y.Sg}{id slot e sp kid:Nat}{kv kv' c c':V}(h1:Y.Rl g Y.sh kv kv')(h2:Y.Rl g Y.sh c c'):Y.Rl g Y.shL (sndY id slot kv e sp kid c) (sndY id slot kv' e sp kid c'):=λd hd=>by
 rw[h1 d hd,h2 d hd];rfl
def wq_pos{m:Nat}(h:0<m):(wq m).1=true:=by unfold wq;rw[if_neg (by omega)]
def ks_one{H:Heap}{c id k:Nat} {ch:List ((Int×Int)×(Nat×List Nat))} {ws:List (Nat×WS)} {K:Ky} (h:RcM H c ⟨id,ch,ws,[(k,K)]⟩):∃kp,H.get (c+2)=some ⟨tyK,[ekid k,.ptr kp 0],none⟩/\KeyM H kp K:=by
 obtain⟨lk,h1,h2⟩:=h.ks
 match lk,h1,h2 with
 | [(_,kp)],h1,h2=>
  obtain⟨e,h2,-⟩:=h2;dsimp only at e;subst e;exact⟨kp,h1,h2⟩
def Pr.one{H:Heap}{S sn c a id slot:Nat}{W:Nat->V}{K:Ky}{e sp ct:Nat}{f q:Nat}{b o:Bool}{sv rv:V}{kp:Nat}{i n t e' st sl s0 m:Nat} {ch:List ((Int×Int)×(Nat×List Nat))} {base:List Nat} {K':Ky} (h:Pr H S sn c a id slot W K e sp ct (gotN ⟨i,ch,[],[]⟩ n t K' e' st sl 0 m) f q b o sv rv kp)
  (hl:look ((e':Int),(sl:Int)) ch=some (s0,base)) (hk:drv i K'.kid n t (zd4 base (st-s0))=K') (hm:0<m):Pr H S sn c a id slot W K e sp ct ⟨i,ch,[(K'.kid,wq m)],[(K'.kid,K')]⟩ f q b o sv rv kp:=by
 obtain⟨k,rfl⟩:∃k,m=k+1:=⟨m-1,by omega⟩;rw[zuj hl hk k]at h;exact h
def ok_ld{β:Type}{H:Heap}{U:Nat}{f:V->M β}{Q:β->Heap->Prop}{R:V->Heap->Prop} (h:Ok (mload none (.ptr U 0)) H R) (k:∀v H',R v H'->Ok (f v) H' Q):@OkB V β (M.lift ((H.get U).bind λb=>b.cells[0]?)) H ⟨f⟩ ⟨Q⟩:=by
 obtain⟨v,H',e,r⟩:=h;have e:((H.get U).bind λb=>(b.cells[0]?).map λv=>(v,H))=some (v,H'):=e;rw[za2];cases hg:H.get U with
 | none=>rw[hg]at e;cases e
 | some b=>
  rw[hg]at e;cases hb:b.cells[0]? with
  | none=>rw[Option.bind_some,hb]at e;cases e
  | some w=>
   rw[Option.bind_some,hb]at e;cases e;rw[Option.bind_some,hb];exact zcH rfl (k _ _ r)
def Pr.rcvd{H H':Heap}{T':List Nat}{S sn c a id slot:Nat}{W:Nat->V}{K:Ky}{e sp ct:Nat}{R R':Rc}{f q:Nat}{b o:Bool}{sv rv:V}{kp:Nat}(h:Pr H S sn c a id slot W K e sp ct R f q b o sv rv kp)(hc:H.Cl)(s:AtS T' H H')(h1:S∉T')(h2:sn∉T')(h4:∀i∈T',∃x,H.get i=some x/\OddR x)(hR:RcM H' c R'):Pr H' S sn c a id slot W K e sp ct R' f q b o sv rv kp:=
 ⟨h.svn,h.rvn,(s.same S (h.ltS hc) h1).trans h.seat,h.wn,h.snd.atS s h2 (λi hi=>by
  obtain⟨x,hx,ho⟩:=h4 i hi;exact⟨x,hx,ho.1⟩),hR⟩
def take_rdy{lo S sn c a id slot:Nat}{W:Nat->V}{K:Ky}{e sp ct:Nat}{R:Rc}{f q n t e' st sl ct':Nat}{bo o:Bool}{sv rv bv:V}{kp:Nat}{K':Ky}{b:List Nat} {pcs:List (List Nat)} {H:Heap} (hc:H.Cl) (h:Pr H S sn c a id slot W K e sp ct R f q bo o sv rv kp) (hS:S<c/\(sn<c\/c+4<=sn)) (hsz:szs R.id=some (n,t))
  (hb:By lo H bv b) (hp:PkS K' ct' pcs 0 b) (hr:Rdy R n t K' e' st sl ct') (hct:ct'<60) (hKt:K'.t<=32) (hKw:∀w∈K'.ws,Word w) (hpc:∀l∈pcs,Ok8 l/\l.length<=100) :
  Ok (sem T zbl [.ptr S 0,bv]) H λr H'=>∃x,r = .tup [.agg [.int .i64 (e':Nat),.int .i64 (st:Nat),.int .i64 (sl:Nat),.int .u64 (ct':Nat),x],.int .i64 0]/\By H.next H' x (pcs.getD 0 [])/\Pr H' S sn c a id slot W K e sp ct (gotR R n t K' e' st sl ct') f q bo o sv rv kp/\AtS [c+1,c+2] H H'/\H'.Cl:=by
 obtain⟨pk,q1,q2,q3,q4⟩:=hp;rw[ybI]at q2;have hpj:Ok8 (pcs.getD 0 [])/\(pcs.getD 0 []).length<=100:=by
  cases pcs with
  | nil=>exact⟨Ok8.nil,yaD _⟩
  | cons l m=>exact hpc l (.head _)
 obtain⟨e5,-,-,-⟩:=zmr hr hct hKt (p:=pcs.getD 0 []) (by omega);have hsl:=zf4 hKt ct' [] (pcs.getD 0 []);have hhm:=zjR K'.kid ct';refine zao (zqF hc h.seat h.rcv hS.1 hsz hb q3 (by omega) q1 (by rw[q2];exact zoM hKw hpj.1) (by rw[q2];omega)) ?_;rintro r H' ⟨hg,hR,a,k⟩;rw[q2,e5]at hg hR;obtain⟨x,rfl,hx⟩:=hg;exact⟨x,rfl,hx,h.rcvd hc a (by simp;omega) (by simp;omega) (by
  simp only[yao,yap,or_false];rintro i (rfl|rfl)
  ·exact h.rcv.odd _ (by omega) (by omega)
  ·exact h.rcv.odd _ (by omega) (by omega)) hR,a,k⟩
def next_val{t:Tabs}{s:Nat->Nat}{q:Nat->List Nat}(ht:TabV t s q){i j:Nat}{A B:List V}{i':List V} (h1:t.bs[i]?=some (.ex A B 32)) (h2:t.bs[j]?=some (.hm [] (syms i 0 32))) (h3:iv s q i'=sRat):zvl (val s q (.ex A B 32))=val s q (.ex (syms j 0 32) i' 32):=by
 show _=(hkdf kc (iv s q (syms j 0 32)) (iv s q i') 1).1.take 32;rw[zsV ht h2 (zdQ _ _ _) (by decide),h3];show _=(hkdf kc (hmac kc [] (iv s q (syms i 0 32))) sRat 1).1.take 32;rw[zsV ht h1 ztx.1 (by decide)];rfl
def zvy{P:Nat->Prop}{lo C c ac ic fc qc B b ab ib fb qb n t:Nat}{sv rv snd sv' rv' snd':V}{W W':Nat->V}{bo o bo' o':Bool}{H:Heap}{Q1 Q2:Rc}{ov:V} {PK pcs:List (List Nat)} {K:Ky} (hc:H.Cl) (hgC:H.get C=some ⟨zah,stX ac ic sv rv W snd (.ptr (c+3) 0) fc qc bo o,none⟩) (hRC:RcM H c Q1) (hSC:C<c) (hsz:szs Q1.id=some (n,t))
  (hgB:H.get B=some ⟨zah,stX ab ib sv' rv' W' snd' (.ptr (b+3) 0) fb qb bo' o',none⟩) (hRB:RcM H b Q2) (hSB:B<b) (hsb:szs Q2.id=some (n,t)) (hcb:c+4<=b\/b+4<=c) (hCb:C<b\/b+4<=C) (hBc:B<c\/c+4<=B)
  (hov:AppS lo P H ov PK) (hv:∀i,ov.pid=some i->(i<c\/c+4<=i)/\(i<b\/b+4<=i)) (hP:∀i,P i->(i<c\/c+4<=i)/\(i<b\/b+4<=i)) (hpk:∀j (hj:j<PK.length),PkS K 0 pcs j PK[j]) (hlen:PK.length<=60) (hpc:∀l∈pcs,Ok8 l/\l.length<=100) (hKt:K.t<=32) (hKw:∀w∈K.ws,Word w)
  (hl:look (((1:Nat):Int),((0:Nat):Int)) Q1.ch=none) (hr:Rdy Q2 n t K 1 0 0 0) :
  Ok (M.iter (zbm (sem T) (.ptr C 0) (.ptr B 0) ov) [.int .i64 0]) H λr H'=>r = .ex 0 []/\RcM H' b (gotN Q2 n t K 1 0 0 0 PK.length)/\AtS [c+1,c+2,b+1,b+2] H H'/\H'.Cl:=by
 have topc:=hRC.top;have topb:=hRB.top;have hC:=zbQ hc hgC;have hB:=zbQ hc hgB;refine zaS (λi L H'=>L=[.int .i64 (i:Nat)]/\RcM H' c Q1/\RcM H' b (gotN Q2 n t K 1 0 0 0 i)/\AtS [c+1,c+2,b+1,b+2] H H'/\H'.Cl) PK.length ?_ ?_ ?_
 ·exact⟨rfl,hRC,hRB,AtS.refl _ _,hc⟩
 ·rintro i _ H3 hi ⟨rfl,hC3,hB3,a3,c3⟩;have nx3:=a3.next;have hovx:∀{H':Heap},AtS [c+1,c+2,b+1,b+2] H H'->AppS lo P H' ov PK:=λa=>hov.keepB (yag _) (KeepB.ofAtS a (yag _) (λi hi=>.inl hi)) (S:=[c+1,c+2,b+1,b+2]) (λi hi=>by
   have:=hv i hi;simp;omega) (λi hi=>by
   have:=hP i hi;simp;omega)
  have hov3:=hovx a3;obtain⟨p,bv,hp,hpl',hbv,hbp⟩:=hov3.at (i:=i) hi;have hld:=zrc hpl';obtain⟨pk,q1,q2',q3,q4⟩:=hpk i hi;have hlt:((i:Nat):Int)<(PK.length:Nat):=by omega
  have hgC3:=(a3.same C hC (by simp;omega)).trans hgC;have hpj:Ok8 (pcs.getD i [])/\(pcs.getD i []).length<=100:=by
   by_cases hi2:i<pcs.length
   ·rw[yak,yae hi2];exact hpc _ (yaV _)
   ·rw[yak,ybp (by omega)];exact⟨Ok8.nil,yaD _⟩
  have hrdy:=rdy_n hr hKt i (by omega);obtain⟨e5,e6,e7,e8⟩:=zmr hrdy.1 (by omega) hKt (p:=pcs.getD i []) (by omega);have hsl:=zf4 hKt (0+i) [] (pcs.getD i []);have hhm:=zjR K.kid (0+i);have p8:Ok8 pk.pay:=by rw[q2'];exact zoM hKw hpj.1
  have pl:pk.pay.length<=1099511627776:=by rw[q2'];omega
  have hT:=zqF c3 hgC3 hC3 hSC hsz hbv q3 (by omega) q1 p8 pl;unfold zbm uL uT uE uB uIM uG uH uO uA uR uK uc uq ug;simp(maxSteps:=1000000) (disch:=first|omega|(simp only[RY]<;>omega)|decide)only[↓RD,RZ,eq_self,Int.reduceToNat,Int.reduceAdd,Int.reduceSub,Int.reduceMul,Nat.reduceAdd,Nat.reduceSub,Nat.reduceMul,Nat.reduceDiv,Nat.reduceMod,Nat.reduceBEq,Nat.reduceLeDiff,hov3.vlen,hlt,hp,hld];refine zad hT ?_;rintro r H4 ⟨hgr,hC4,a4,c4⟩;rw[q2',zxf (e:=1) (st:=0) (sl:=0) hr.kid (by decide) (by decide) (by decide) hl (by omega)]at hgr hC4;have hgr:r = .tup [.agg [.int .i64 0,.int .i64 0,.int .i64 0,.int .u64 0,.nils],.int .i64 10]:=hgr;subst hgr;have nx4:=a4.next;simp(maxSteps:=1000000) (disch:=first|omega|(simp only[RY]<;>omega)|decide)only[↓RD,RZ,eq_self,Int.reduceToNat,Int.reduceAdd,Int.reduceSub,Int.reduceMul,Nat.reduceAdd,Nat.reduceSub,Nat.reduceMul,Nat.reduceDiv,Nat.reduceMod,Nat.reduceBEq,Nat.reduceLeDiff];generalize hHH:Heap.set (Heap.new H4 _) H4.next _=H5;have s5:Grow H4 H5:=by rw[<-hHH];exact(Grow.new H4 _).set (yag _) _
  have c5:H5.Cl:=by rw[<-hHH];exact zcE (zd7 c4 _) (by rw[zae];omega) _
  clear hHH;have nx5:=s5.next;have a35:AtS [c+1,c+2] H3 H5:=a4.trans (Grow.atS s5 _);have a5:AtS [c+1,c+2,b+1,b+2] H H5:=a3.trans (a35.mono (by simp));have hB5:=hB3.atS a35 (by simp;omega) (λi hi=>by
   simp only[yao,yap,or_false]at hi;exact hC3.odd i (by omega) (by omega))
  have hC5:=hC4.grow s5;obtain⟨p',bv',hp',hpl2,hbv',hbp'⟩:=(hovx a5).at (i:=i) hi;have hld':=zrc hpl2;have hgB5:=(a5.same B hB (by simp;omega)).trans hgB;have hT2:=zqF c5 hgB5 hB5 hSB (by rw[hrdy.2.1];exact hsb) hbv' q3 (by omega) q1 p8 pl;simp(maxSteps:=1000000) (disch:=first|omega|(simp only[RY]<;>omega)|decide)only[↓RD,RZ,eq_self,Int.reduceToNat,Int.reduceAdd,Int.reduceSub,Int.reduceMul,Nat.reduceAdd,Nat.reduceSub,Nat.reduceMul,Nat.reduceDiv,Nat.reduceMod,Nat.reduceBEq,Nat.reduceLeDiff,hp',hld'];refine zad hT2 ?_;rintro r H6 ⟨hgr,hB6,a6,c6⟩;rw[q2',e5]at hgr hB6;obtain⟨x,rfl,hx⟩:=hgr;have nx6:=a6.next;simp(maxSteps:=1000000) (disch:=first|omega|(simp only[RY]<;>omega)|decide)only[↓RD,RZ,eq_self,Int.reduceToNat,Int.reduceAdd,Int.reduceSub,Int.reduceMul,Nat.reduceAdd,Nat.reduceSub,Nat.reduceMul,Nat.reduceDiv,Nat.reduceMod,Nat.reduceBEq,Nat.reduceLeDiff,hx.okc,hx.cells1];generalize hHH:Heap.set (Heap.new H6 _) H6.next _=H7;have s7:Grow H6 H7:=by rw[<-hHH];exact(Grow.new H6 _).set (yag _) _
  have c7:H7.Cl:=by rw[<-hHH];exact zcE (zd7 c6 _) (by rw[zae];omega) _
  clear hHH;refine⟨by rfl,(hC5.atS a6 (by simp;omega) (λi hi=>by
   simp only[yao,yap,or_false]at hi;exact hB5.odd i (by omega) (by omega))).grow s7,hB6.grow s7,(a5.trans (a6.mono (by simp))).trans (Grow.atS s7 _),c7⟩
 ·rintro _ H3 ⟨rfl,hC3,hB3,a3,c3⟩;unfold zbm uL uT uE uB uIM uG uH uO uA uR uK uc uq ug;simp(maxSteps:=1000000) (disch:=first|omega|(simp only[RY]<;>omega)|decide)only[↓RD,RZ,eq_self,Int.reduceToNat,Int.reduceAdd,Int.reduceSub,Int.reduceMul,Nat.reduceAdd,Nat.reduceSub,Nat.reduceMul,Nat.reduceDiv,Nat.reduceMod,Nat.reduceBEq,Nat.reduceLeDiff,hov.vlen];exact⟨hB3,a3,c3⟩
end Go.Ax.SU
/- Fr4 -/
namespace Go.Ax.SU
open Go.Ax Go.Proofs
section
variable {t:Tabs} {s:Nat->Nat} {q:Nat->List Nat} {g:Y.Sg} {h K:Heap}
def zw0(ht:TabV t s q) (st:Y.St (tbOf t s q) g h K) {S sn c a id slot i1 mk n0 m j n tg e sp kid f qn n' k' m' x y z e' nx st':Nat} {sd:Int} {qv:V} {bo o:Bool} {R:Rc} {A B l:List V}
  (hS:h.get S=some ⟨zah,stY a id (.sl i1 0 1 (.opn 1)) (.lit (.int .i64 (mk:Nat))) (seR n' k' slot m' x y z e' nx st' sd) (.ptr sn 0) (.ptr (c+3) 0) f qv bo o,none⟩) (hk:rd t.fnd h (.lit (.int .i64 (mk:Nat)))=some l)
  (hn:h.get sn=some ⟨zaA,sndY id slot (.ptr m 0) e sp kid (.int .u64 0),none⟩) (hm:t.ks[m]?=some (n0,.key id kid (syms j 0 32))) (hz:szs id=some (n,tg)) (hb:t.bs[j]?=some (.ex A B 32)) (h1:t.ks.length<=S) (h2:S<n0)
  (hq:Y.sh g.e qv = .int .u16 (qn:Nat)) (s3:g.e.f (c+3)=g.e.f c+3) (hR:RcM K (g.e.f c) R) :
  Pr K (g.e.f S) (g.e.f sn) (g.e.f c) a id slot (seR n' k' slot m' x y z e' nx st' sd) (drv id kid n tg (val s q (.ex A B 32))) e sp 0 R f qn bo o (Y.sh g.e (.sl i1 0 1 (.opn 1))) (Y.sh g.e (.lit (.int .i64 (mk:Nat)))) (g.e.f m):=by
 obtain⟨kS,nS,dS,-⟩:=zd8 st hS;have sA:=sndP_at ht st (m:=m) (n0:=n0) (a:=S) (c:=0) hn hm (by decide) hz h1 h2 nS;rw[zsV ht hb ztx.1 (by decide)]at sA;refine⟨λn e=>(by cases e),mark_n8 ht st hS (k:=3) (m:=mk) rfl hk,?_,seR_n _ _ _ _ _ _ _ _ _ _ _,sA,hR⟩;rw[kS];show some (Blk.mk zah (stY a id (Y.sh g.e (.sl i1 0 1 (.opn 1))) (Y.sh g.e (.lit (.int .i64 (mk:Nat)))) (seR n' k' slot m' x y z e' nx st' sd) (.ptr (g.e.f sn) 0) (.ptr (g.e.f (c+3)) 0) f (Y.sh g.e qv) bo o) none) = _;rw[hq,s3];rfl
end
def fs_low:lowT 0 frT.bs=true:=by kernel_rfl
section
variable {s:Nat->Nat} {root:List Nat}
abbrev fsB(s:Nat->Nat)(root:List Nat):Y.Tb:=tbOf frT s λ_=>root
def fs_start{rv:V}(hr:∀H,By 0 H rv root)(hrp:rv.pid=none){H:Heap}(hc:H.Cl):∃g,Y.St (fsB s root) g (Cc.hp (List.replicate 35 none)).abs H/\Y.Rl g Y.shL [lp0] [rv]:=by
 have st:=st_0 (t:=frT) (s:=s) (q:=λ_=>root) (ws:=[rv]) (λm v hm=>by
  cases m with
  | zero=>
   simp only[yaE,yaa]at hm;subst hm;refine⟨[.lit (.int .u64 0)],rfl,λH=>?_,rfl,hrp⟩;show By 0 H rv (root++[]);rw[yaK];exact hr H
  | succ m=>cases hm) (by decide) hc
 refine⟨_,st,λd hd=>?_⟩;have h2:d.w (0:Int).toNat=rv:=hd.2.2 0 Nat.zero_lt_one;show[rv]=[Y.okw (d.w (0:Int).toNat)];rw[h2];unfold Y.okw;rw[if_pos (zxH (hr H))]
end
set_option maxHeartbeats 4000000 in
def zq0{rv xv yv:V}{root x y:List Nat}(hr:∀H,By 0 H rv root)(hrp:rv.pid=none)(hr8:Ok8 root)(hrl:root.length<=1048576)(hx:∀H,By 0 H xv x)(hxp:xv.pid=none)(hx8:Ok8 x)(hy:∀H,By 0 H yv y)(hyp:yv.pid=none)(hy8:Ok8 y){H:Heap}(hc:H.Cl) :
  Ok (sem T zbt [rv,xv,yv]) H λr _=>r = .bool true:=by
 refine zfm ?_;unfold zdi uL uT uE uB uIM uG uH uO uA uR uc ub uq;obtain⟨s,ht⟩:=tab_ex (t:=frT) (q:=λ_=>root) fs_low (λ_=>hr8) (λ_=>hrl);have hO:=orc_ok ht;obtain⟨g0,s0,e0⟩:=fs_start (s:=s) hr hrp hc;have R0:=s0.way;obtain⟨c1,hc1,hn1,ho1⟩:=Y.seen_ok fr_1;refine zad (R0.call hTs hO hc1 (args':=[.int .i64 1,rv]) (Y.rl_c rl_k e0) e0) ?_;rintro b1 K1 ⟨g1,q1,R1,h1,e1⟩;obtain⟨_,_,rfl,ra1,rb1⟩:=Y.rl_tup2 (Y.rl_h e1);obtain⟨A,rfl,-⟩:=Y.rl_p ra1;obtain⟨B,rfl,-⟩:=Y.rl_p rb1;refine zcH rfl ?_;refine zcH rfl ?_;refine zad (α:=V) (x:=mslit zab 1 [.int .u8 0] [(0,1,.int .u8 99)]) (R1.ins (i:=.slit zab 1 [.int .u8 0] [(0,1,.c (.int .u8 99))]) rfl h1 (args':=[]) Y.rl_n (Y.rl_c ra1 (Y.rl_c rb1 (Y.rl_t e1)))) ?_;rintro b2 K2 ⟨g2,q2,R2,h2,e2⟩;refine zad (α:=V) (x:=mremark zab b2) (R2.ins (i:=.remark zab (.s 0)) rfl h2 (args':=[b2]) (Y.rl_c (Y.rl_h e2) Y.rl_n) (Y.rl_t e2)) ?_;rintro b3 K3 ⟨g3,q3,R3,h3,e3⟩;refine zad (R3.call hTs hO h3 (args':=[.int .i64 3,.int .i64 1,b3,rv]) (Y.rl_c rl_k (Y.rl_c rl_k (Y.rl_c (Y.rl_h e3) (Y.rl_c (Y.rl_at e3 3) Y.rl_n)))) (Y.rl_t e3)) ?_;rintro b4 K4 ⟨g4,q4,R4,h4,e4⟩;obtain⟨rfl,-⟩:=Y.runs_nil h4;obtain⟨_,_,rfl,rc4,ri4⟩:=Y.rl_tup2 (Y.rl_h e4);obtain⟨C,rfl,-⟩:=Y.rl_p rc4;refine zcH rfl ?_;refine zcH rfl ?_;have st4:=R4.st;refine zad (awake_s st4.cl) ?_;rintro _ K5 ⟨rfl,s5,k5⟩;have hxl:=(hx K5).vlen;have hyl:=(hy K5).vlen;by_cases h5:x.length<=500
 case neg=>
  have d1:decide ((500:Int)<(x.length:Nat))=true:=decide_eq_true (by omega);simp(maxSteps:=1000000) (disch:=first|omega|(simp only[RY]<;>omega)|decide)only[↓RD,RZ,eq_self,Int.reduceToNat,Int.reduceAdd,Int.reduceSub,Int.reduceMul,Nat.reduceAdd,Nat.reduceSub,Nat.reduceMul,Nat.reduceDiv,Nat.reduceMod,Nat.reduceBEq,Nat.reduceLeDiff,RG,hxl,d1]
 have d1:decide ((500:Int)<(x.length:Nat))=false:=decide_eq_false (by omega);by_cases h6:y.length<=500
 case neg=>
  have d2:decide ((500:Int)<(y.length:Nat))=true:=decide_eq_true (by omega);simp(maxSteps:=1000000) (disch:=first|omega|(simp only[RY]<;>omega)|decide)only[↓RD,RZ,eq_self,Int.reduceToNat,Int.reduceAdd,Int.reduceSub,Int.reduceMul,Nat.reduceAdd,Nat.reduceSub,Nat.reduceMul,Nat.reduceDiv,Nat.reduceMod,Nat.reduceBEq,Nat.reduceLeDiff,RG,hxl,d1,hyl,d2]
 have d2:decide ((500:Int)<(y.length:Nat))=false:=decide_eq_false (by omega);simp(maxSteps:=1000000) (disch:=first|omega|(simp only[RY]<;>omega)|decide)only[↓RD,RZ,eq_self,Int.reduceToNat,Int.reduceAdd,Int.reduceSub,Int.reduceMul,Nat.reduceAdd,Nat.reduceSub,Nat.reduceMul,Nat.reduceDiv,Nat.reduceMod,Nat.reduceBEq,Nat.reduceLeDiff,RG,hxl,d1,hyl,d2];have gt:=Y.map_get ho1;have hn1':c1.next=488:=hn1;obtain⟨g6,s6,-,e6⟩:=st4.turn (l:=fsA) (ch:=[]) (n:=489) k5 s5.next (λj hj=>by cases hj) (λi hi _=>s5.same i hi) (λp hp=>.inr ⟨gt p hp,rfl⟩) (by kernel_rfl) (λm _ hq=>by rw[hn1']at hq;omega) (Y.rl_c rc4 (Y.rl_t e4)) (by kernel_rfl);have R6:=s6.way;obtain⟨c2,hc2,hn2,ho2⟩:=Y.seen_ok fr_2;refine zad (R6.call hTs hO hc2 (args':=[.int .i64 2,.int .i64 0,.int .i64 7,.int .i64 0,.agg [.int .u8 1,.int .u8 2,.int .u8 3,.int .u8 0,.int .u8 0,.int .u8 0,.int .u8 0,.int .u8 0]]) (λ_ _=>rfl) e6) ?_;rintro w1 K10 ⟨g10,q10,R10,h10,e10⟩;refine zad (R10.call hTs hO h10 (args':=[w1]) (Y.rl_c (Y.rl_at e10 0) Y.rl_n) e10) ?_;rintro w2 K11 ⟨g11,q11,R11,h11,e11⟩;refine zad (R11.call hTs hO h11 (args':=[.ptr C 0,w2]) (Y.rl_c (Y.rl_at e11 2) (Y.rl_c (Y.rl_at e11 0) Y.rl_n)) e11) ?_;rintro x1 K12 ⟨g12,q12,R12,h12,e12⟩;refine zcH rfl ?_;refine zad (R12.call hTs hO h12 (args':=[.agg [.int .i64 19,.int .i64 0,.int .i64 2,.int .i64 0,.int .i64 7,.int .i64 3,.nils]]) (λ_ _=>rfl) e12) ?_;rintro cm K13 ⟨g13,q13,R13,h13,e13⟩;refine zad (R13.call hTs hO h13 (args':=[.ptr A 0,cm]) (Y.rl_c (Y.rl_at e13 5) (Y.rl_c (Y.rl_at e13 0) Y.rl_n)) e13) ?_;rintro y1 K14 ⟨g14,q14,R14,h14,e14⟩;refine zad (R14.call hTs hO h14 (args':=[.ptr B 0,cm]) (Y.rl_c (Y.rl_at e14 7) (Y.rl_c (Y.rl_at e14 1) Y.rl_n)) e14) ?_;rintro z1 K15 ⟨g15,q15,R15,h15,e15⟩;refine zad (R15.call hTs hO h15 (args':=[.int .i64 2,x1,.int .i64 0]) (Y.rl_c rl_k (Y.rl_c (Y.rl_at e15 3) (Y.rl_c rl_k Y.rl_n))) e15) ?_;rintro m1 K16 ⟨g16,q16,R16,h16,e16⟩;refine zad (R16.call hTs hO h16 (args':=[.ptr A 0,m1]) (Y.rl_c (Y.rl_at e16 8) (Y.rl_c (Y.rl_at e16 0) Y.rl_n)) e16) ?_;rintro j1 K17 ⟨g17,q17,R17,h17,e17⟩;refine zad (R17.call hTs hO h17 (args':=[.int .i64 2,x1,.int .i64 1]) (Y.rl_c rl_k (Y.rl_c (Y.rl_at e17 5) (Y.rl_c rl_k Y.rl_n))) e17) ?_;rintro m2 K18 ⟨g18,q18,R18,h18,e18⟩;refine zad (R18.call hTs hO h18 (args':=[.ptr B 0,m2]) (Y.rl_c (Y.rl_at e18 11) (Y.rl_c (Y.rl_at e18 0) Y.rl_n)) e18) ?_;rintro j2 K19 ⟨g19,q19,R19,h19,e19⟩;refine zad (R19.call hTs hO h19 (args':=[.int .i64 0,y1,.int .i64 2]) (Y.rl_c rl_k (Y.rl_c (Y.rl_at e19 5) (Y.rl_c rl_k Y.rl_n))) e19) ?_;rintro m3 K20 ⟨g20,q20,R20,h20,e20⟩;refine zad (R20.call hTs hO h20 (args':=[.int .i64 1,z1,.int .i64 2]) (Y.rl_c rl_k (Y.rl_c (Y.rl_at e20 5) (Y.rl_c rl_k Y.rl_n))) e20) ?_;rintro m4 K21 ⟨g21,q21,R21,h21,e21⟩;refine zad (α:=V) (x:=mappend zal 1 24 m3 m4) (R21.ins (i:=.append zal 1 24 (.s 0) (.s 1)) rfl h21 (args':=[m3,m4]) (Y.rl_c (Y.rl_at e21 1) (Y.rl_c (Y.rl_at e21 0) Y.rl_n)) e21) ?_
 rintro ap K22 ⟨g22,q22,R22,h22,e22⟩;refine zad (R22.call hTs hO h22 (args':=[.ptr C 0,ap]) (Y.rl_c (Y.rl_at e22 13) (Y.rl_c (Y.rl_at e22 0) Y.rl_n)) e22) ?_;rintro j3 K23 ⟨g23,q23,R23,h23,e23⟩;obtain⟨hq,-⟩:=Y.runs_nil h23;subst hq;have eB:Y.Rl g23 Y.shL [.ptr 487 0,.ptr 39 0,.ptr 44 0] [.ptr C 0,.ptr A 0,.ptr B 0]:=Y.rl_c (Y.rl_at e23 14) (Y.rl_c (Y.rl_at e23 15) (Y.rl_c (Y.rl_at e23 16) Y.rl_n));have st:=R23.st;have gt:=Y.map_get ho2;have b39:=zbB gt 0 rfl;have b44:=zbB gt 1 rfl;have b89:=zbB gt 2 rfl;have b90:=zbB gt 17 rfl;have b91:=zbB gt 3 rfl;have b92:=zbB gt 4 rfl;have b93:=zbB gt 21 rfl;have b158:=zbB gt 5 rfl;have b159:=zbB gt 18 rfl;have b160:=zbB gt 22 rfl;have b161:=zbB gt 23 rfl;have b162:=zbB gt 24 rfl;have b487:=zbB gt 7 rfl;have b533:=zbB gt 8 rfl;have b534:=zbB gt 9 rfl;have b535:=zbB gt 10 rfl;have b536:=zbB gt 11 rfl;have b537:=zbB gt 12 rfl;have b419:=zbB gt 25 rfl;have b420:=zbB gt 26 rfl;have b481:=zbB gt 27 rfl;have b482:=zbB gt 28 rfl;have b960:=zbB gt 29 rfl;have b961:=zbB gt 30 rfl;have b1028:=zbB gt 31 rfl;have b1029:=zbB gt 32 rfl;have b1128:=zbB gt 13 rfl;have b1129:=zbB gt 14 rfl;have b1153:=zbB gt 15 rfl;have b1154:=zbB gt 16 rfl;have s93:g23.e.f 93=g23.e.f 90+3:=seq3 st b90 b91 b92 b93;have s162:g23.e.f 162=g23.e.f 159+3:=seq3 st b159 b160 b161 b162;have s537:g23.e.f 537=g23.e.f 534+3:=seq3 st b534 b535 b536 b537;have l39:=zop st b39 b44 (by decide);have l44:=zop st b44 b89 (by decide);have l89:=zop st b89 b90 (by decide);have l93:=zop st b93 b158 (by decide);have l158:=zop st b158 b159 (by decide);have l162:=zop st b162 b487 (by decide);have l487:=zop st b487 b533 (by decide);have l533:=zop st b533 b534 (by decide);have rA:=zq9 st (lc:=[((0,1),420),((0,2),961)]) (chs:=[((0,1),(0,_)),((0,2),(0,_))]) (ws:=[]) (lk:=[]) (ks:=[]) b90 b91 b92 b93 ⟨rfl,zeN ht st (sp:=0) b90 b91 b92 b93 b419 b420 rfl (by decide) (by decide) (by decide),rfl,zeN ht st (sp:=0) b90 b91 b92 b93 b960 b961 rfl (by decide) (by decide) (by decide),trivial⟩ rfl rfl (λp hp=>by cases hp) trivial;have rB:=zq9 st (lc:=[((0,0),482),((0,2),1029)]) (chs:=[((0,0),(1,_)),((0,2),(0,_))]) (ws:=[]) (lk:=[]) (ks:=[]) b159 b160 b161 b162 ⟨rfl,zeN ht st (sp:=1) b159 b160 b161 b162 b481 b482 rfl (by decide) (by decide) (by decide),rfl,zeN ht st (sp:=0) b159 b160 b161 b162 b1028 b1029 rfl (by decide) (by decide) (by decide),trivial⟩ rfl rfl (λp hp=>by cases hp) trivial;have rC:=zq9 st (lc:=[((0,0),1129),((0,1),1154)]) (chs:=[((0,0),(2,_)),((0,1),(1,_))]) (ws:=[]) (lk:=[]) (ks:=[]) b534 b535 b536 b537 ⟨rfl,zeN ht st (sp:=2) b534 b535 b536 b537 b1128 b1129 rfl (by decide) (by decide) (by decide),rfl,zeN ht st (sp:=1) b534 b535 b536 b537 b1153 b1154 rfl (by decide) (by decide) (by decide),trivial⟩ rfl rfl (λp hp=>by cases hp) trivial;have pA:=zw0 ht st (c:=90) (qn:=0) b39 rfl b89 rfl rfl rfl (by decide) (by decide) rfl s93 rA;have pB:=zw0 ht st (c:=159) (qn:=0) b44 rfl b158 rfl rfl rfl (by decide) (by decide) rfl s162 rB
 have pC:=zw0 ht st (c:=534) (qn:=0) b487 rfl b533 rfl rfl rfl (by decide) (by decide) rfl s537 rC;have eC:C=g23.e.f 487:=by
  have:=(Y.rl_h eB) g23.e (Y.Ag.self _);injection this
 have eA:A=g23.e.f 39:=by
  have:=(Y.rl_at eB 1) g23.e (Y.Ag.self _);injection this
 have eD:B=g23.e.f 44:=by
  have:=(Y.rl_at eB 2) g23.e (Y.Ag.self _);injection this
 subst eA eC eD;have k23:=st.cl;have plx:=ziX x;have ply:=ziX y;have p8:=zre hx8;refine zad (znn k23 pA (.inl ⟨.inl rfl,.inl rfl⟩) (.inl rfl) (by decide) ⟨by omega,by omega,.inl (by omega)⟩ (hx _) hx8 (by omega) (λi hi=>by rw[hxp]at hi;cases hi) (by decide) (zcq rfl (by decide)).t (zcq rfl (by decide)).ws) ?_;rintro _ K24 ⟨ov,PK,o1,rfl,hov,hPl,hPk,pA1,ho1,a1,k24⟩;have ho1:=ho1 (.inl rfl);subst ho1;have n1:=a1.next;have pB1:=pB.atS k23 a1 (by simp;omega) (by simp;omega) (by simp;omega) (by simp only[yao,yap,or_false];rintro i (rfl|rfl)<;>first|exact pA.oddS|exact pA.oddN);have pC1:=pC.atS k23 a1 (by simp;omega) (by simp;omega) (by simp;omega) (by simp only[yao,yap,or_false];rintro i (rfl|rfl)<;>first|exact pA.oddS|exact pA.oddN);have d3:decide (((PK.length:Nat):Int)=0)=false:=decide_eq_false (by omega);have v1:=hov.vlen;simp(maxSteps:=1000000) (disch:=first|omega|(simp only[RY]<;>omega)|decide)only[↓RD,RZ,eq_self,Int.reduceToNat,Int.reduceAdd,Int.reduceSub,Int.reduceMul,Nat.reduceAdd,Nat.reduceSub,Nat.reduceMul,Nat.reduceDiv,Nat.reduceMod,Nat.reduceBEq,Nat.reduceLeDiff,RG,v1,d3];refine zad (zpM (n:=16) (t:=10) k24 pB1 pC1 (.inl ⟨rfl,.inl rfl⟩) (.inr (.inl rfl)) ⟨by omega,by omega,.inl (by omega)⟩ ⟨by omega,by omega,.inl (by omega)⟩ (by omega) ⟨rfl,by decide,by decide,by decide,⟨1,_,rfl,by decide,rfl⟩,rfl⟩ rfl (zcq rfl (by decide)).t (zcq rfl (by decide)).ws (by decide) (by decide) hy hyp hy8 (by omega)) ?_;rintro _ K25 ⟨rfl,o2,ho2,pB2,pC2,a2,k25⟩;have pC2:=pC2.one (s0:=1) rfl rfl (by omega);have ho2:=ho2 rfl;subst ho2;have n2:=a2.next;have pA2:=pA1.atS k24 a2 (by simp;omega) (by simp;omega) (by simp;omega) (by simp only[yao,yap,or_false];rintro i (rfl|rfl|rfl|rfl)<;>first|exact pB1.oddS|exact pB1.oddN|exact pC1.rcv.odd _ (by omega) (by omega));simp(maxSteps:=1000000) (disch:=first|omega|(simp only[RY]<;>omega)|decide)only[↓RD,RZ,eq_self,Int.reduceToNat,Int.reduceAdd,Int.reduceSub,Int.reduceMul,Nat.reduceAdd,Nat.reduceSub,Nat.reduceMul,Nat.reduceDiv,Nat.reduceMod,Nat.reduceBEq,Nat.reduceLeDiff,RG];refine zad (zpM (n:=16) (t:=10) k25 pC2 pA2 (.inl ⟨rfl,.inl rfl⟩) (.inr (.inr rfl)) ⟨by omega,by omega,.inl (by omega)⟩ ⟨by omega,by omega,.inl (by omega)⟩ (by omega) ⟨rfl,by decide,by decide,by decide,⟨0,_,rfl,by decide,rfl⟩,rfl⟩ rfl (zcq rfl (by decide)).t (zcq rfl (by decide)).ws (by decide) (by decide) hx hxp hx8 (by omega)) ?_;rintro _ K26 ⟨rfl,o3,ho3,pC3,pA3,a3,k26⟩;have n3:=a3.next;have pB3:=pB2.atS k25 a3 (by simp;omega) (by simp;omega) (by simp;omega) (by simp only[yao,yap,or_false];rintro i (rfl|rfl|rfl|rfl)<;>first|exact pC2.oddS|exact pC2.oddN|exact pA2.rcv.odd _ (by omega) (by omega));have pA4:=pA3.one (s0:=0) rfl rfl (by omega);simp(maxSteps:=1000000) (disch:=first|omega|(simp only[RY]<;>omega)|decide)only[↓RD,RZ,eq_self,Int.reduceToNat,Int.reduceAdd,Int.reduceSub,Int.reduceMul,Nat.reduceAdd,Nat.reduceSub,Nat.reduceMul,Nat.reduceDiv,Nat.reduceMod,Nat.reduceBEq,Nat.reduceLeDiff,RG]
 -- what was done by hand is told to the machine
 obtain⟨kp,hkp,hkm⟩:=ks_one pA4.rcv;have hn2':c2.next=1155:=hn2;obtain⟨gm,sm,xm,em⟩:=st.marks [.int .u16 ((0+(pcsL x).length:Nat):Int),.int .u64 ((0+(pcsL x).length:Nat):Int),.int .u64 ((wq (pcsL x).length).2.1:Nat),.int .u64 ((wq (pcsL x).length).2.2:Nat),.ptr kp 0,.int .u16 ((0+(pcsL y).length:Nat):Int),.int .u64 ((0+(pcsL y).length:Nat):Int)] (m:=22) (λi hi=>by
  have hi:i<7:=hi;rw[hn2'];rcases(by omega:i=0\/i=1\/i=2\/i=3\/i=4\/i=5\/i=6) with rfl|rfl|rfl|rfl|rfl|rfl|rfl<;>exact⟨yau rfl,rfl,λ_=>trivial⟩) rfl (Y.rl_c (Y.rl_at eB 1) (Y.rl_c (Y.rl_at eB 2) Y.rl_n))
 have nm:∀{j b},c2.abs.get j=some b->∀d,Y.Ag gm d->d.f j=g23.e.f j:=λhj d hd=>(hd.2.1 _ (xm.ex.f _ (st.kn _ _ hj).1).1).trans (xm.ex.f _ (st.kn _ _ hj).1).2;have sf:=Y.Ag.self gm;have cr:∀{i k b v},c2.abs.get i=some b->b.cells[k]?=some v->Y.Rl gm Y.sh v (Y.sh g23.e v):=λh1 h2=>(ztf st h1 h2).mono xm.ex;have e91:g23.e.f 91=g23.e.f 90+1:=seq1 st b90 b91;have e92:g23.e.f 92=g23.e.f 91+1:=seq1 st b91 b92;have e535:g23.e.f 535=g23.e.f 534+1:=seq1 st b534 b535;have e536:g23.e.f 536=g23.e.f 535+1:=seq1 st b535 b536;have a13:∀i,i<K23.next->i∉[39,44,89,158,91,92,487,533,535,536].map gm.e.f->K26.get i=K23.get i:=λi hi hn=>by
  simp only[yaR,ybC,nm b39 _ sf,nm b44 _ sf,nm b89 _ sf,nm b158 _ sf,nm b91 _ sf,nm b92 _ sf,nm b487 _ sf,nm b533 _ sf,nm b535 _ sf,nm b536 _ sf,yao,yap,or_false,not_or]at hn;rw[a3.same i (by omega) (by simp;omega),a2.same i (by omega) (by simp;omega),a1.same i hi (by simp;omega)]
 have w91:K26.get (g23.e.f 91)=some ⟨tyW,[.int .u64 2,.agg [.bool true,.int .u64 ((wq (pcsL x).length).2.1:Nat),.int .u64 ((wq (pcsL x).length).2.2:Nat)]],none⟩:=by
  have h:K26.get (g23.e.f 90+1)=some ⟨tyW,[.int .u64 2,.agg [.bool (wq (pcsL x).length).1,.int .u64 ((wq (pcsL x).length).2.1:Nat),.int .u64 ((wq (pcsL x).length).2.2:Nat)]],none⟩:=pA4.rcv.win;rw[wq_pos (by omega),<-e91]at h;exact h
 have w92:K26.get (g23.e.f 92)=some ⟨tyK,[.int .u64 2,.ptr kp 0],none⟩:=by
  rw[e92,e91];exact hkp
 have tA:=pA4.seat;have tB:=pB3.seat;rw[<-s93]at tA;rw[<-s162]at tB;obtain⟨gn,sn,hge,en⟩:=sm.turn (K':=K26) (l:=(frB1++frP)++(frM++frU)) (ch:=[39,44,89,158,91,92,487,533,535,536]) (n:=1163) k26 (by omega) (by
  simp only[yao,yap,or_false];rintro j (rfl|rfl|rfl|rfl|rfl|rfl|rfl|rfl|rfl|rfl);exact⟨_,b39⟩;exact⟨_,b44⟩;exact⟨_,b89⟩;exact⟨_,b158⟩;exact⟨_,b91⟩;exact⟨_,b92⟩;exact⟨_,b487⟩;exact⟨_,b533⟩;exact⟨_,b535⟩;exact⟨_,b536⟩) a13 (λp hp=>by
  rcases yaG.1 hp with hp|hp<;>rcases yaG.1 hp with hp|hp
  ·simp only[frB1,yao,yap,or_false]at hp;rcases hp with rfl|rfl|rfl|rfl
   ·exact .inl ⟨by decide,zpk (nm b39) tA (zwN (cr b39 (k:=2) rfl) (cr b39 (k:=3) rfl) (cr b39 (k:=22) rfl) (cr b39 (k:=23) rfl) (Y.rl_at em 6))⟩
   ·exact .inl ⟨by decide,zpk (nm b44) tB (zwN (cr b44 (k:=2) rfl) (cr b44 (k:=3) rfl) (cr b44 (k:=22) rfl) (cr b44 (k:=23) rfl) (Y.rl_at em 1))⟩
   ·exact .inl ⟨by decide,zpk (nm b89) pA4.snd.2.2.1 (rl_snd (cr b89 (k:=2) rfl) (Y.rl_at em 5))⟩
   ·exact .inl ⟨by decide,zpk (nm b158) pB3.snd.2.2.1 (rl_snd (cr b158 (k:=2) rfl) (Y.rl_at em 0))⟩
  ·simp only[frP,yao,yap,or_false]at hp;rcases hp with rfl|rfl
   ·exact .inr ⟨b90,rfl⟩
   ·exact .inr ⟨b159,rfl⟩
  ·simp only[frM,yao,yap,or_false]at hp;rcases hp with rfl|rfl
   ·exact .inl ⟨by decide,zpk (nm b91) w91 (Y.rl_c rl_k (Y.rl_c (rl_a (Y.rl_c (λ_ _=>rfl) (Y.rl_c (Y.rl_at em 4) (Y.rl_c (Y.rl_at em 3) Y.rl_n)))) Y.rl_n))⟩
   ·exact .inl ⟨by decide,zpk (nm b92) w92 (Y.rl_c rl_k (Y.rl_c (Y.rl_at em 2) Y.rl_n))⟩
  ·exact .inr ⟨gt p (yaG.2 (.inr (yaG.2 (.inr hp)))),yaz.1 (show(frU.all λp=>[39,44,89,158,91,92,487,533,535,536].all λj=>!(Nat.beq j p.1))=true by kernel_rfl) p hp⟩) (by kernel_rfl) (λm _ hq=>by
  have hq:_<c2.next+7:=hq;omega) em (by kernel_rfl)
 have R30:=sn.way;obtain⟨c3,hc3,hn3,ho3⟩:=Y.seen_ok fr_3;refine zad (R30.call hTs hO hc3 (args':=[.agg [.int .i64 20,.int .i64 0,.int .i64 2,.int .i64 1,.int .i64 3,.int .i64 0,.nils]]) (λ_ _=>rfl) en) ?_;rintro gb K31 ⟨g31,q31,R31,h31,e31⟩;refine zad (R31.call hTs hO h31 (args':=[.ptr (g23.e.f 39) 0,gb]) (Y.rl_c (Y.rl_at e31 8) (Y.rl_c (Y.rl_at e31 0) Y.rl_n)) e31) ?_;rintro y2 K32 ⟨g32,q32,R32,h32,e32⟩;refine zad (R32.call hTs hO h32 (args':=[.ptr (g23.e.f 44) 0,gb]) (Y.rl_c (Y.rl_at e32 10) (Y.rl_c (Y.rl_at e32 1) Y.rl_n)) e32) ?_;rintro z2 K33 ⟨g33,q33,R33,h33,e33⟩;refine zad (R33.call hTs hO h33 (args':=[.int .i64 1,z2,.int .i64 0]) (Y.rl_c rl_k (Y.rl_c (Y.rl_at e33 0) (Y.rl_c rl_k Y.rl_n))) e33) ?_;rintro m5 K34 ⟨g34,q34,R34,h34,e34⟩;refine zad (R34.call hTs hO h34 (args':=[.ptr (g23.e.f 39) 0,m5]) (Y.rl_c (Y.rl_at e34 11) (Y.rl_c (Y.rl_at e34 0) Y.rl_n)) e34) ?_;rintro u1 K35 ⟨g35,q35,R35,h35,e35⟩;refine zad (R35.call hTs hO h35 (args':=[.int .i64 0,y2,.int .i64 1]) (Y.rl_c rl_k (Y.rl_c (Y.rl_at e35 3) (Y.rl_c rl_k Y.rl_n))) e35) ?_;rintro m6 K36 ⟨g36,q36,R36,h36,e36⟩;refine zad (R36.call hTs hO h36 (args':=[.ptr (g23.e.f 44) 0,m6]) (Y.rl_c (Y.rl_at e36 14) (Y.rl_c (Y.rl_at e36 0) Y.rl_n)) e36) ?_;rintro v1' K37 ⟨g37,q37,R37,h37,e37⟩;refine zcH rfl ?_;refine zad (R37.call hTs hO h37 (args':=[.agg [.int .i64 8,.int .i64 0,.int .i64 0,.int .i64 1,.int .i64 0,.int .i64 0,.nils]]) (λ_ _=>rfl) e37) ?_;rintro hv K38 ⟨g38,q38,R38,h38,e38⟩;obtain⟨U,rfl⟩:=rl_s (Y.rl_at e38 3);obtain⟨U',rfl⟩:=rl_s (Y.rl_at e38 1);simp(maxSteps:=1000000) (disch:=first|omega|(simp only[RY]<;>omega)|decide)only[↓RD,RZ,eq_self,Int.reduceToNat,Int.reduceAdd,Int.reduceSub,Int.reduceMul,Nat.reduceAdd,Nat.reduceSub,Nat.reduceMul,Nat.reduceDiv,Nat.reduceMod,Nat.reduceBEq,Nat.reduceLeDiff,RG];refine ok_ld (R38.ins (i:=.load none (.s 0)) rfl h38 (args':=[.ptr U 0]) (Y.rl_c (rl_sp (Y.rl_at e38 3)) Y.rl_n) e38) ?_;rintro f1 K39 ⟨g39,q39,R39,h39,e39⟩;simp(maxSteps:=1000000) (disch:=first|omega|(simp only[RY]<;>omega)|decide)only[↓RD,RZ,eq_self,Int.reduceToNat,Int.reduceAdd,Int.reduceSub,Int.reduceMul,Nat.reduceAdd,Nat.reduceSub,Nat.reduceMul,Nat.reduceDiv,Nat.reduceMod,Nat.reduceBEq,Nat.reduceLeDiff,RG];refine zad (R39.call hTs hO h39 (args':=[f1,hv]) (Y.rl_c (Y.rl_at e39 0) (Y.rl_c (Y.rl_at e39 1) Y.rl_n)) e39) ?_;rintro t1 K40 ⟨g40,q40,R40,h40,e40⟩;obtain rfl:t1 = .bool true:=(Y.rl_h e40) _ (Y.Ag.self _);simp(maxSteps:=1000000) (disch:=first|omega|(simp only[RY]<;>omega)|decide)only[↓RD,RZ,eq_self,Int.reduceToNat,Int.reduceAdd,Int.reduceSub,Int.reduceMul,Nat.reduceAdd,Nat.reduceSub,Nat.reduceMul,Nat.reduceDiv,Nat.reduceMod,Nat.reduceBEq,Nat.reduceLeDiff,RG];refine ok_ld (R40.ins (i:=.load none (.s 0)) rfl h40 (args':=[.ptr U' 0]) (Y.rl_c (rl_sp (Y.rl_at e40 3)) Y.rl_n) e40) ?_;rintro f2 K41 ⟨g41,q41,R41,h41,e41⟩;simp(maxSteps:=1000000) (disch:=first|omega|(simp only[RY]<;>omega)|decide)only[↓RD,RZ,eq_self,Int.reduceToNat,Int.reduceAdd,Int.reduceSub,Int.reduceMul,Nat.reduceAdd,Nat.reduceSub,Nat.reduceMul,Nat.reduceDiv,Nat.reduceMod,Nat.reduceBEq,Nat.reduceLeDiff,RG]
 refine zad (R41.call hTs hO h41 (args':=[f2,hv]) (Y.rl_c (Y.rl_at e41 0) (Y.rl_c (Y.rl_at e41 3) Y.rl_n)) e41) ?_;rintro t2 K42 ⟨g42,q42,R42,h42,e42⟩;obtain rfl:t2 = .bool true:=(Y.rl_h e42) _ (Y.Ag.self _);simp(maxSteps:=1000000) (disch:=first|omega|(simp only[RY]<;>omega)|decide)only[↓RD,RZ,eq_self,Int.reduceToNat,Int.reduceAdd,Int.reduceSub,Int.reduceMul,Nat.reduceAdd,Nat.reduceSub,Nat.reduceMul,Nat.reduceDiv,Nat.reduceMod,Nat.reduceBEq,Nat.reduceLeDiff,RG];refine zad (R42.call hTs hO h42 (args':=[.agg [.int .i64 22,.int .i64 0,.int .i64 0,.int .i64 1,.int .i64 0,.int .i64 0,.nils]]) (λ_ _=>rfl) e42) ?_;rintro n1' K43 ⟨g43,q43,R43,h43,e43⟩;refine zad (R43.call hTs hO h43 (args':=[.ptr (g23.e.f 39) 0,n1']) (Y.rl_c (Y.rl_at e43 20) (Y.rl_c (Y.rl_at e43 0) Y.rl_n)) e43) ?_;rintro h1' K44 ⟨g44,q44,R44,h44,e44⟩;refine zcH rfl ?_;refine zad (R44.call hTs hO h44 (args':=[.agg [.int .i64 22,.int .i64 0,.int .i64 0,.int .i64 1,.int .i64 0,.int .i64 0,.nils]]) (λ_ _=>rfl) e44) ?_;rintro n2' K45 ⟨g45,q45,R45,h45,e45⟩;refine zad (R45.call hTs hO h45 (args':=[.ptr (g23.e.f 44) 0,n2']) (Y.rl_c (Y.rl_at e45 23) (Y.rl_c (Y.rl_at e45 0) Y.rl_n)) e45) ?_;rintro h2' K46 ⟨g46,q46,R46,h46,e46⟩;obtain⟨hq,-⟩:=Y.runs_nil h46;subst hq;have sz:=R46.st;have gz:=Y.map_get ho3;have d39:=zbB gz 0 rfl;have d44:=zbB gz 1 rfl;have d89:=zbB gz 2 rfl;have d90:=zbB gz 3 rfl;have d158:=zbB gz 4 rfl;have d159:=zbB gz 5 rfl;have d1379:=zbB gz 6 rfl;have d1380:=zbB gz 7 rfl;have d1462:=zbB gz 8 rfl;have d1463:=zbB gz 9 rfl;have d91:=zbB gz 10 rfl;have d92:=zbB gz 11 rfl;have d93:=zbB gz 14 rfl;have d160:=zbB gz 15 rfl;have d161:=zbB gz 16 rfl;have d162:=zbB gz 17 rfl;have d419:=zbB gz 18 rfl;have d420:=zbB gz 19 rfl;have d481:=zbB gz 20 rfl;have d482:=zbB gz 21 rfl;have d960:=zbB gz 22 rfl;have d961:=zbB gz 23 rfl;have d1028:=zbB gz 24 rfl;have d1029:=zbB gz 25 rfl;have ss:=Y.Ag.self g46;have nk:∀j,(((frB1++frP)++(frM++frU)).any λp=>Nat.beq p.1 j)=true->g46.e.f j=gm.e.f j:=λj hj=>by
  obtain⟨b,hb⟩:=(Y.mkc_get 1163 _ j).2 hj;rw[(R46.fr.ex.f j (R46.s0.kn j b hb).1).2,hge]
 have k39:g46.e.f 39=g23.e.f 39:=(nk 39 rfl).trans (nm b39 _ sf);have k44:g46.e.f 44=g23.e.f 44:=(nk 44 rfl).trans (nm b44 _ sf);have k89:g46.e.f 89=g23.e.f 89:=(nk 89 rfl).trans (nm b89 _ sf);have k90:g46.e.f 90=g23.e.f 90:=(nk 90 rfl).trans (nm b90 _ sf);have k158:g46.e.f 158=g23.e.f 158:=(nk 158 rfl).trans (nm b158 _ sf);have k159:g46.e.f 159=g23.e.f 159:=(nk 159 rfl).trans (nm b159 _ sf);have aC:AtS [g23.e.f 39,g23.e.f 44,g23.e.f 89,g23.e.f 158,g23.e.f 90,g23.e.f 159] K26 K46:=⟨R46.fr.le,λi hi hn=>R46.same (ch:=[39,44,89,158,90,159]) rfl (λp hp=>gz p (yaG.2 (.inr hp))) i hi (by
  simp only[yaR,ybC,hge,nm b39 _ sf,nm b44 _ sf,nm b89 _ sf,nm b158 _ sf,nm b90 _ sf,nm b159 _ sf];exact hn)⟩
 have nC:=aC.next;have oC:∀i∈[g23.e.f 39,g23.e.f 44,g23.e.f 89,g23.e.f 158,g23.e.f 90,g23.e.f 159],∃x,K26.get i=some x/\OddR x:=by
  simp only[yao,yap,or_false];rintro i (rfl|rfl|rfl|rfl|rfl|rfl)
  ·exact pA4.oddS
  ·exact pB3.oddS
  ·exact pA4.oddN
  ·exact pB3.oddN
  ·exact pA4.rcv.odd _ (by omega) (by omega)
  ·exact pB3.rcv.odd _ (by omega) (by omega)
 have pC5:=pC3.atS k26 aC (by simp;omega) (by simp;omega) (by simp;omega) oC;have km:=hkm.atS aC λi hi=>by
  obtain⟨x,hx,ho⟩:=oC i hi;exact⟨x,hx,ho.1⟩
 have t93:g46.e.f 93=g46.e.f 90+3:=seq3 sz d90 d91 d92 d93;have t162:g46.e.f 162=g46.e.f 159+3:=seq3 sz d159 d160 d161 d162;have h24:V.int .u64 ((wq (pcsL x).length).2.1:Nat)=Y.sh g46.e (.lit (.int .i64 24)):=(Y.rl_at e46 20) _ ss;have h25:V.int .u64 ((wq (pcsL x).length).2.2:Nat)=Y.sh g46.e (.lit (.int .i64 25)):=(Y.rl_at e46 19) _ ss;have h26:V.ptr kp 0=Y.sh g46.e (.lit (.int .i64 26)):=(Y.rl_at e46 18) _ ss;have tA0:g23.e.f 90+4<=K23.next:=rA.top;have tB0:g23.e.f 159+4<=K23.next:=rB.top;have tC0:g23.e.f 534+4<=K23.next:=rC.top;have rA':=zq9 sz (lc:=[((0,1),420),((0,2),961),((1,1),1380)]) (chs:=[((0,1),(0,_)),((0,2),(0,_)),((1,1),(0,_))]) (ws:=[(2,wq (pcsL x).length)]) (lk:=[(2,kp)]) (ks:=[(2,_)]) d90 d91 d92 d93 ⟨rfl,zeN ht sz (sp:=0) d90 d91 d92 d93 d419 d420 rfl (by decide) (by decide) (by decide),rfl,zeN ht sz (sp:=0) d90 d91 d92 d93 d960 d961 rfl (by decide) (by decide) (by decide),rfl,zeN ht sz (sp:=0) d90 d91 d92 d93 d1379 d1380 rfl (by decide) (by decide) (by decide),trivial⟩ (by
  show Blk.mk tyW [.int .u64 2,.agg [.bool true,Y.sh g46.e (.lit (.int .i64 24)),Y.sh g46.e (.lit (.int .i64 25))]] none=Blk.mk tyW [.int .u64 2,.agg [.bool (wq (pcsL x).length).1,.int .u64 ((wq (pcsL x).length).2.1:Nat),.int .u64 ((wq (pcsL x).length).2.2:Nat)]] none;rw[<-h24,<-h25,wq_pos (by omega)]) (by
  show Blk.mk tyK [.int .u64 2,Y.sh g46.e (.lit (.int .i64 26))] none=Blk.mk tyK [.int .u64 2,.ptr kp 0] none;rw[<-h26]) pA4.rcv.wr ⟨rfl,km,trivial⟩
 have pA5:=zw0 ht sz (c:=90) (qn:=0+(pcsL x).length) d39 rfl d89 rfl rfl rfl (by decide) (by decide) ((Y.rl_at e46 22) _ ss).symm t93 rA';have rB':=zq9 sz (lc:=[((0,0),482),((0,2),1029),((1,0),1463)]) (chs:=[((0,0),(1,_)),((0,2),(0,_)),((1,0),(0,_))]) (ws:=[]) (lk:=[]) (ks:=[]) d159 d160 d161 d162 ⟨rfl,zeN ht sz (sp:=1) d159 d160 d161 d162 d481 d482 rfl (by decide) (by decide) (by decide),rfl,zeN ht sz (sp:=0) d159 d160 d161 d162 d1028 d1029 rfl (by decide) (by decide) (by decide),rfl,zeN ht sz (sp:=0) d159 d160 d161 d162 d1462 d1463 rfl (by decide) (by decide) (by decide),trivial⟩ rfl rfl (λp hp=>by cases hp) trivial;have pB5:=zw0 ht sz (c:=159) (qn:=0+(pcsL y).length) d44 rfl d158 rfl rfl rfl (by decide) (by decide) ((Y.rl_at e46 17) _ ss).symm t162 rB';rw[k39,k89,k90]at pA5;rw[k44,k158,k159]at pB5;have k46:=sz.cl;refine zad (znn k46 pA5 (.inl ⟨.inl rfl,.inr rfl⟩) (.inl rfl) (by decide) ⟨by omega,by omega,.inl (by omega)⟩ (hx _) hx8 (by omega) (λi hi=>by rw[hxp]at hi;cases hi) (by omega) (zcq rfl (by decide)).t (zcq rfl (by decide)).ws) ?_;rintro _ K47 ⟨ov2,PK2,o6,rfl,hov2,hPl2,hPk2,pA6,-,a5,k47⟩;have n5:=a5.next;have o5:∀i∈[g23.e.f 39,g23.e.f 89],∃x,K46.get i=some x/\OddR x:=by
  simp only[yao,yap,or_false];rintro i (rfl|rfl)
  ·exact pA5.oddS
  ·exact pA5.oddN
 have pB6:=pB5.atS k46 a5 (by simp;omega) (by simp;omega) (by simp;omega) o5;have pC6:=pC5.atS k46 a5 (by simp;omega) (by simp;omega) (by simp;omega) o5;refine zcH rfl ?_;refine zcH rfl ?_;simp(maxSteps:=1000000) (disch:=first|omega|(simp only[RY]<;>omega)|decide)only[↓RD,RZ,eq_self,Int.reduceToNat,Int.reduceAdd,Int.reduceSub,Int.reduceMul,Nat.reduceAdd,Nat.reduceSub,Nat.reduceMul,Nat.reduceDiv,Nat.reduceMod,Nat.reduceBEq,Nat.reduceLeDiff];refine zao (α:=Res) (zvy (P:=λi=>K46.next<=i/\i<K47.next) (n:=16) (t:=10) k47 pC6.seat pC6.rcv (by omega) rfl pB6.seat pB6.rcv (by omega) rfl (by omega) (by omega) (by omega) hov2.top (λi hi=>by have:=hov2.low hi;omega) (λi (hi:K46.next<=i/\i<K47.next)=>by omega) hPk2 (by omega) p8 (zcq rfl (by decide)).t (zcq rfl (by decide)).ws rfl ⟨rfl,by decide,by decide,by decide,⟨0,_,rfl,by decide,rfl⟩,rfl⟩) ?_;rintro _ K48 ⟨rfl,hRB,a6,k48⟩;have n6:=a6.next;have o6:∀i∈[g23.e.f 534+1,g23.e.f 534+2,g23.e.f 159+1,g23.e.f 159+2],∃x,K47.get i=some x/\OddR x:=by
  simp only[yao,yap,or_false];rintro i (rfl|rfl|rfl|rfl)
  ·exact pC6.rcv.odd _ (by omega) (by omega)
  ·exact pC6.rcv.odd _ (by omega) (by omega)
  ·exact pB6.rcv.odd _ (by omega) (by omega)
  ·exact pB6.rcv.odd _ (by omega) (by omega)
 have pA7:=pA6.atS k47 a6 (by simp;omega) (by simp;omega) (by simp;omega) o6;have pB7:=(pB6.rcvd k47 a6 (by simp;omega) (by simp;omega) o6 hRB).one (s0:=0) rfl rfl (by omega);have hovE:=hov.top.kp (λ_ h=>h.1) (show K24.next<=K48.next by omega) (λi q1 q2=>by
  rw[a6.same i (by omega) (by simp;omega),a5.same i (by omega) (by simp;omega),aC.same i (by omega) (by simp;omega),a3.same i (by omega) (by simp;omega),a2.same i q2 (by simp;omega)])
 obtain⟨p,bv,hp,hpl',hbv,hbp⟩:=hovE.at (i:=0) (by omega);have hld:=zrc hpl';have hp':Ax.iaddr none 1 ov (.int .i64 0)=some p:=hp;simp(maxSteps:=1000000) (disch:=first|omega|(simp only[RY]<;>omega)|decide)only[↓RD,RZ,eq_self,Int.reduceToNat,Int.reduceAdd,Int.reduceSub,Int.reduceMul,Nat.reduceAdd,Nat.reduceSub,Nat.reduceMul,Nat.reduceDiv,Nat.reduceMod,Nat.reduceBEq,Nat.reduceLeDiff,hp',hld];refine zad (take_rdy (n:=16) (t:=10) (e':=0) (st:=2) (sl:=0) k48 pB7 (by omega) rfl hbv (hPk 0 (by omega)) ⟨rfl,by decide,by decide,by decide,⟨1,_,rfl,by decide,by
  have:=next_val ht (i:=8) (j:=16) (i':=u8 [83,70,114,97,109,101,32,49,46,48,32,82,97,116,99,104,101,116]) rfl rfl rfl;exact congrArg (drv 1 16 16 10) this⟩,rfl⟩ (by decide) (zcq rfl (by decide)).t (zcq rfl (by decide)).ws p8) ?_
 rintro _ K49 ⟨xx,rfl,hxx,pB8,a7,k49⟩;have n7:=a7.next;have pA8:=pA7.atS k48 a7 (by simp;omega) (by simp;omega) (by simp;omega) (by
  simp only[yao,yap,or_false];rintro i (rfl|rfl)
  ·exact pB7.rcv.odd _ (by omega) (by omega)
  ·exact pB7.rcv.odd _ (by omega) (by omega))
 have v2:=hov2.vlen;have d5:decide ((0:Int)<(PK2.length:Nat))=true:=decide_eq_true (by omega);simp(maxSteps:=1000000) (disch:=first|omega|(simp only[RY]<;>omega)|decide)only[↓RD,RZ,eq_self,Int.reduceToNat,Int.reduceAdd,Int.reduceSub,Int.reduceMul,Nat.reduceAdd,Nat.reduceSub,Nat.reduceMul,Nat.reduceDiv,Nat.reduceMod,Nat.reduceBEq,Nat.reduceLeDiff,RG,hxx.okc,hxx.cells1,v2,d5];generalize hHH:Heap.set (Heap.new K49 _) K49.next _=K50;have s7:Grow K49 K50:=by rw[<-hHH];exact(Grow.new K49 _).set (yag _) _
 have k50:K50.Cl:=by rw[<-hHH];exact zcE (zd7 k49 _) (by rw[zae];omega) _
 have pA9:=pA8.atS k49 (Grow.atS s7 []) (by simp) (by simp) (by simp) (by simp);have pB9:=pB8.atS k49 (Grow.atS s7 []) (by simp) (by simp) (by simp) (by simp);refine zad (zpM (n:=16) (t:=10) k50 pB9 pA9 (.inr ⟨rfl,rfl,rfl⟩) (.inr (.inl rfl)) ⟨by omega,by omega,.inl (by omega)⟩ ⟨by omega,by omega,.inl (by omega)⟩ (by omega) ⟨rfl,by decide,by decide,by decide,⟨0,_,rfl,by decide,rfl⟩,rfl⟩ rfl (zcq rfl (by decide)).t (zcq rfl (by decide)).ws (by decide) (by omega) hy hyp hy8 (by omega)) ?_;rintro _ K51 ⟨rfl,-⟩;simp(maxSteps:=1000000) (disch:=first|omega|(simp only[RY]<;>omega)|decide)only[↓RD,RZ,eq_self,Int.reduceToNat,Int.reduceAdd,Int.reduceSub,Int.reduceMul,Nat.reduceAdd,Nat.reduceSub,Nat.reduceMul,Nat.reduceDiv,Nat.reduceMod,Nat.reduceBEq,Nat.reduceLeDiff,RG]
end Go.Ax.SU
namespace Go.Ax
open SU
theorem law_seatFresh(us:List V) (h:zyQ [.sl (.int .u8),.sl (.int .u8),.sl (.int .u8)] us) (hb:V.blks us<=1048576):∃H',sem T zbt us H0=some (.bool true,H'):=by
 obtain⟨a1,a2,a3,rfl⟩:∃a1 a2 a3,us=[a1,a2,a3]:=by
  rcases us with _|⟨a1,_|⟨a2,_|⟨a3,_|⟨a4,us⟩⟩⟩⟩
  ·cases h
  ·cases h.2
  ·cases h.2.2
  ·exact⟨a1,a2,a3,rfl⟩
  ·cases h.2.2.2
 simp only[V.blks]at hb;obtain⟨v1,l1,e1,g1,h1⟩:=zwv h.1;obtain⟨v2,l2,e2,g2,h2⟩:=zwv h.2.1;obtain⟨v3,l3,e3,g3,h3⟩:=zwv h.2.2.1;cases e1;cases e2;cases e3;have b1:=g1.blk (λx=>by simp[by8,V.blk]);obtain⟨r,H',hh,rfl⟩:=zq0 (H:=H0) (λH=>g1.lc 0) g1.pid h1 (by omega) (λH=>g2.lc 0) g2.pid h2 (λH=>g3.lc 0) g3.pid h3 (λ_ _=>rfl);exact⟨H',hh⟩
end Go.Ax
