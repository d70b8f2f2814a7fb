/-
  Texts of mine, put together by program (wip/slim.py), for law_seatMeets: part 13.
-/
import Derived.Test.YtboeopafnogfmaaGreatZx12
noncomputable section
set_option linter.unusedVariables false
set_option linter.unusedSimpArgs false
set_option linter.defProp false
set_option maxRecDepth 100000
/- Se4 -/
namespace Go.Ax.SU
open Go.Ax Go.Proofs
def zx2{H0 H:Heap}{r:V}{x:GR}(h:grv H0 H r x):∃cs e,r = .tup [.agg cs,.int .i64 e]/\cs.length=5/\(V.agg cs).okc=true/\(∀v∈cs,∀n,v≠.int .u8 n)/\∀H',(Keep H0.next H H')->grv H0 H' r x:=by
 cases x with
 | err e=>
  subst h;refine⟨_,_,rfl,rfl,rfl,λv hv n=>?_,λH' _=>rfl⟩;simp only[yau,yaw,or_false]at hv;rcases hv with rfl|rfl|rfl|rfl|rfl<;>(intro h;cases h)
 | got e st sl c p=>
  obtain⟨v,rfl,hv⟩:=h;refine⟨_,_,rfl,rfl,by simp[V.okc,hv.okc],λw hw n=>?_,λH' k=>⟨v,rfl,hv.keep k⟩⟩;simp only[yau,yaw,or_false]at hw;rcases hw with rfl|rfl|rfl|rfl|rfl
  ·intro h;cases h
  ·intro h;cases h
  ·intro h;cases h
  ·intro h;cases h
  ·intro h;have:=hv.rc;rw[h]at this;cases this
def Take_ok{lo S c a id f q n t:Nat}{sv rv snd:V}{W:Nat->V}{bo o:Bool}{H:Heap}{R:Rc}{pv:V}{b:List Nat}{p:R7.Pkt}(hc:H.Cl) (hg:H.get S=some ⟨zaj,stX a id sv rv W snd (.ptr (c+3) 0) f q bo o,none⟩) (hR:RcM H c R) (hS:S<c) (hsz:szs R.id=some (n,t))
  (hb:By lo H pv b) (b8:Ok8 b) (bl:b.length<=1048576) (hp:R7.parse b = .ok p) (p8:Ok8 p.pay) (pl:p.pay.length<=1099511627776) :
  Ok (sem T zc9 [.ptr S 0,pv]) H λr H'=>grv H H' r (zfT R n t [] p.pay).2/\RcM H' c (zfT R n t [] p.pay).1/\AtS [c,c+1,c+2] H H'/\H'.Cl:=by
 refine zao (zkq hc (Q:=λr H'=>grv H H' r (zfT R n t [] p.pay).2/\RcM H' c (zfT R n t [] p.pay).1/\AtS [c,c+1,c+2] H H') ?_) λ_ _ h=>⟨h.1.1,h.1.2.1,h.1.2.2,h.2⟩;have hlt:=R.id;have ht:=hR.top;refine zlp ?_;unfold zhQ uL uS uT uFM uNFM uE uB uO uA uR uK uc uq;refine zaL (zdO rfl ?_);rw[zaA];have s1:=Grow.new H ⟨zaP,[.int .i64 0,.int .i64 0,.int .i64 0,.int .u64 0,.nils],none⟩;have g1:(H.new ⟨zaP,[.int .i64 0,.int .i64 0,.int .i64 0,.int .u64 0,.nils],none⟩).get H.next = _:=zae _ _;have n1:(H.new ⟨zaP,[.int .i64 0,.int .i64 0,.int .i64 0,.int .u64 0,.nils],none⟩).next=H.next+1:=zac _ _;generalize hx:H.next=x at *;generalize H.new _=H1 at *;refine zaf (R7.Parse_ok (hb.ext s1) b8 bl) ?_;rintro res H2 ⟨s2,hP⟩;rw[hp]at hP;obtain⟨z,rfl,cv,xv,yv,rfl,l1,l2,l3⟩:=hP;have ok:(V.agg (R7.pcells p cv xv yv)).okc=true:=by simp[V.okc,R7.pcells,l1.okc,l2.okc,l3.okc]
 have n2:=s2.next;have g2:=(s2.same x (by omega)).trans g1;have hs2:=((s1.trans s2).same S (by omega)).trans hg;have hR2:=hR.grow (s1.trans s2);unfold R7.pcells at ok ⊢;unfold stX at hs2;simp(disch:=first|omega|(simp only[RY]<;>omega)|decide)only[↓RD,RZ,eq_self,Int.reduceToNat,Int.reduceAdd,Nat.reduceAdd,Nat.reduceSub,Nat.reduceMul,Nat.reduceLeDiff,ok,hs2];generalize hHH:Heap.set _ H2.next _=HH;have sH:Grow H2 HH:=by rw[<-hHH];exact(Grow.new H2 _).set (yaj _) _
 have gp:HH.get H2.next=some ⟨zaq,R7.pcells p cv xv yv,none⟩:=by rw[<-hHH];exact zah _ _ _
 clear hHH;have n3:=sH.next;have hs3:=(sH.same S (by omega)).trans hs2;have g3:=(sH.same x (by omega)).trans g2;unfold R7.pcells at gp;refine zaf (OpenR_ok (hR2.grow sH) hsz (Lc.nil:By 0 HH .nils []) Ok8.nil (l3.ext sH) p8 (by decide) pl (λi hi=>by cases hi) λi hi=>.inr ?_) ?_
 ·have:=(l3.own i hi).1;omega
 rintro r H4 ⟨hgr,hR4,a4⟩;obtain⟨cs,e,rfl,h5,hok,hu8,hgk⟩:=zx2 hgr;have n4:=a4.next;have g4:=(a4.same x (by omega) (by simp;omega)).trans g3;have sp:splice [V.int .i64 0,.int .i64 0,.int .i64 0,.int .u64 0,.nils] 0 cs=cs:=by
  unfold splice;rw[ya8,yaY,yaV (by simp;omega),yaK]
 have ld:ldc (some 5) cs 0=some (.agg cs):=by
  simp only[ldc];rw[if_pos (by omega),yaC,yal (by omega)]
 have ac:(V.agg cs).cells=cs:=zaA cs;have go:∃b,H4.get x=some b/\OddR b:=⟨_,g4,zxx (λv hv n=>by
  simp only[yau,yaw,or_false]at hv;rcases hv with rfl|rfl|rfl|rfl|rfl<;>(intro h;cases h))⟩
 simp(disch:=first|omega|(simp only[RY]<;>omega)|decide)only[↓RD,RZ,eq_self,Int.reduceToNat,Int.reduceAdd,Nat.reduceAdd,Nat.reduceSub,Nat.reduceMul,Nat.reduceLeDiff,g4,hok,ac,h5,sp,ld];have a5:=AtS.set (k:=x) H4 (S:=[x]) (by simp) (some ⟨zaP,cs,none⟩);refine⟨?_,hR4.atS a5 (by simp;omega) (by simp only[yas,forall_eq];exact go),?_⟩
 ·have:∀H',Keep HH.next H4 H'->grv HH H' (.tup [.agg cs,.int .i64 e]) (zfT R n t [] p.pay).2:=hgk;have h6:=this (H4.set x (some ⟨zaP,cs,none⟩)) (Keep.set H4 (by omega) _);cases hq:(zfT R n t [] p.pay).2 with
  | err e'=>rw[hq]at h6;exact h6
  | got e' st sl c' p'=>
   rw[hq]at h6;obtain⟨v,e1,e2⟩:=h6;exact⟨v,e1,e2.low (by omega)⟩
 ·refine⟨by rw[zal];omega,λi hi hn=>?_⟩;rw[zai _ _ (by omega),a4.same i (by omega) hn,sH.same i (by omega),s2.same i (by omega),s1.same i (by omega)]
end Go.Ax.SU
/- Rtp6 -/
namespace Go.Ax.R7
open Go.Ax
def w_at{lo:Nat}{H:Heap}{v:V}{l:List Nat} (h:Lc 1 lo H v (l.map by32) l.length) {i:Nat} (hi:i<l.length):∃p,(∀{k:IntKind},Ax.iaddr none 1 v (.int k i)=some p)/\LdR none H p (.int .u32 (l[i]:Nat)):=by
 obtain⟨p,hp,hl⟩:=h.at (i:=(i:Nat)) (by omega) (by omega);have e:((l.map by32).drop ((i:Int).toNat*1)).take 1=[by32 l[i]]:=by
  rw[ya9,yao,<-yb6,yaP hi];rfl
 rw[e]at hl;refine⟨p,hp,λf Q=>?_⟩;rw[hl.ld0 (by simp)];exact zpE
def Exs.own{lo:Nat}{H:Heap}{v:V}{xs:List X}(h:Exs lo H v xs):∀id,v.pid=some id->lo<=id/\id<H.next:=by
 obtain⟨ws,rfl,h2,h3⟩:=h;exact h2.own
end Go.Ax.R7
/- Rtp8 -/
namespace Go.Ax.R7
open Go.Ax
structure Fit (p:Pkt):Prop where
 a:p.csrc.length<=15
 b:p.exts.length<=1200
 c:p.pay.length<=1200
 d:∀x∈p.exts,x.2.length<=1200
end Go.Ax.R7
namespace Go.Ax
open R7
end Go.Ax
/- Rtp9 -/
namespace Go.Ax.R7
open Go.Ax
structure Sml (p:Pkt):Prop where
 a:p.csrc.length<=1048576
 b:p.exts.length<=1048576
 c:p.pay.length<=1048576
 d:∀x∈p.exts,x.2.length<=1048576
def idxV:Option Nat->V
 | some i=>.int .i64 (i:Nat)
 | none=>.int .i64 (-1)
def zsk{lo:Nat}{H:Heap}{v f:V}{xs:List X}(h:Exs lo H v xs)(P:X->Bool)(hn:xs.length<=1099511627776)
  (hf:∀H',Grow H H'->∀(x:X) (bv:V),By lo H' bv x.2->Ok (callv (sem T) f [.agg [.int .i64 x.1,bv]]) H' λr H''=>r = .bool (P x)/\Grow H' H'') :
  Ok (sem T zaW [v,f]) H λr H'=>r=idxV (xs.findIdx? P)/\Grow H H':=by
 refine zdw ?_;unfold zb5 uL uR uc;simp(disch:=omega)only[↓RD,RZ,h.vlen];refine zaQ (λk L H'=>L=[.int .i64 (k:Nat)]/\Grow H H'/\∀j (hj:j<xs.length),j<k->P xs[j]=false) xs.length ?_ ?_ ?_
 ·exact⟨rfl,Grow.refl _,λj hj hk=>absurd hk (by omega)⟩
 ·rintro k L H1 hk ⟨rfl,s1,hP⟩;obtain⟨q,bv,i1,l1,w1⟩:=(h.ext s1).at hk;have l2:=l1.all;dsimp only[List.length_cons,List.length_nil]at l2;unfold zbg uS uB uI uR uK uc ug;simp(disch:=omega)only[↓RD,RZ,i1,l2];refine zaf (hf H1 s1 _ bv w1) ?_;rintro _ H2 ⟨rfl,s2⟩;cases hp:P xs[k]with
  | true=>
   simp(disch:=omega)only[↓RD,RZ];refine⟨?_,s1.trans s2⟩;have:xs.findIdx? P=some k:=ybw.2 ⟨hk,hp,λj hj=>by rw[hP j (by omega) hj];decide⟩;rw[this];rfl
  | false=>
   simp(disch:=omega)only[↓RD,RZ];refine⟨by rfl,s1.trans s2,λj hj hjk=>?_⟩;rcases ybQ j k with h|h
   ·exact hP j hj h
   ·have:j=k:=by omega
    subst this;exact hp
 ·rintro L H1 ⟨rfl,s1,hP⟩;unfold zbg uS uB uI uR uK uc ug;simp(disch:=omega)only[↓RD,RZ];refine⟨?_,s1⟩;have:xs.findIdx? P=none:=ydw.2 λx hx=>by
   obtain⟨j,hj,rfl⟩:=ycy hx;exact hP j hj hj
  rw[this];rfl
def fd(a:Int)(xs:List X):Option Nat:=xs.findIdx? λx=>x.1==a
def got(a:Int)(p:Pkt):Option (List Nat):=(p.exts.find? λx=>x.1==a).map (·.2)
def zsQ{β:Type}{ty size id off:Nat}{x:V}{H:Heap}{f:V->M β}{Q:β->Heap->Prop}{cells cells':List V}{o:Option Nat} (hb:H.get id=some ⟨ty,cells,o⟩) (hc:x.cells.length=size/\off+size<=cells.length/\x.okc=true) (he:splice cells off x.cells=cells')
  (h:Ok (f .undef) (H.set id (some ⟨ty,cells',o⟩)) Q):@StK β (H.get id) size id off x H ⟨f⟩ ⟨Q⟩:=by
 rw[hb];exact⟨hc,by rw[he];exact h⟩
def fl (ws:List (X×V)):List V:=(ws.map xc).flatten
def fl_len (ws:List (X×V)):(fl ws).length=ws.length*2:=by
 unfold fl
 induction ws with
 | nil=>rfl
 | cons w ws ih=>simp only[yaT,ybi,yag,ih,List.length_cons];simp[xc];omega
structure Own (ty lo:Nat) (H:Heap) (v:V) (ws:List (X×V)):Prop where
 ex:(v = .nils/\ws=[])\/∃id cap o,v = .sl id 0 ws.length cap/\H.get id=some ⟨ty,fl ws,o⟩/\lo<=id/\id<H.next/\V.capOk 2 v
def Own.lc{ty lo:Nat}{H:Heap}{v:V} {ws:List (X×V)} (h:Own ty lo H v ws):Lc 2 lo H v (fl ws) ws.length:=by
 rcases h.ex with⟨rfl,rfl⟩|⟨id,cap,o,rfl,hb,h1,h2,h3⟩
 ·exact Lc.nil
 ·refine⟨?_,λi hi=>?_,h3⟩
  ·simp only[rcells,hb,Option.bind_some];rw[if_pos (by rw[fl_len];omega),yaC,yal (by rw[fl_len];exact yaj _)]
  ·simp only[V.pid,yaa]at hi;subst hi;exact⟨h1,h2⟩
def Own.exs{ty lo lo':Nat}{H:Heap}{v:V} {ws:List (X×V)} (h:Own ty lo H v ws) (hl:lo'<=lo) (hw:∀w∈ws,By lo' H w.2 w.1.2):Exs lo' H v (ws.map (·.1)):=
 ⟨ws,rfl,h.lc.low hl,hw⟩
def Own.to{ty lo:Nat}{H H':Heap}{v:V} {ws:List (X×V)} (h:Own ty lo H v ws) (hs:∀id,v.pid=some id->H'.get id=H.get id) (hn:H.next<=H'.next):Own ty lo H' v ws:=by
 rcases h.ex with⟨rfl,rfl⟩|⟨id,cap,o,rfl,hb,h1,h2,h3⟩
 ·exact⟨.inl ⟨rfl,rfl⟩⟩
 ·exact⟨.inr ⟨id,cap,o,rfl,by rw[hs id rfl];exact hb,h1,by omega,h3⟩⟩
def Own.at{ty lo:Nat}{H:Heap}{v:V} {ws:List (X×V)} (h:Own ty lo H v ws) {i:Nat} (hi:i<ws.length):∃id cap o,v = .sl id 0 ws.length cap/\H.get id=some ⟨ty,fl ws,o⟩/\lo<=id/\id<H.next/\(∀{k:IntKind},Ax.iaddr none 2 v (.int k i)=some (.ptr id (i*2)))/\∀ws':List (X×V),ws'.length=ws.length->∀H',H'.get id=some ⟨ty,fl ws',o⟩->H.next<=H'.next->Own ty lo H' v ws':=by
 rcases h.ex with⟨rfl,rfl⟩|⟨id,cap,o,rfl,hb,h1,h2,h3⟩
 ·simp at hi
 ·refine⟨id,cap,o,rfl,hb,h1,h2,λ{k}=>?_,λws' hl H' hb' hn=>⟨.inr ⟨id,cap,o,by rw[hl],hb',h1,by omega,by simpa [V.capOk,hl]using h3⟩⟩⟩;have:=zkz (id:=id) (off:=0) (len:=ws.length) (c:=cap) (k:=k) (i:=((i:Nat):Int)) (e:=2) (by omega) (by omega);simpa using this
structure PkO (ty lo:Nat) (H:Heap) (v:V) (p:Pkt):Prop where
 ex:∃cv xv pv ws m1 m2,v = .agg (pcells p cv xv pv)/\Lc 1 lo H cv (p.csrc.map by32) p.csrc.length/\By lo H pv p.pay/\Own ty m1 H xv ws/\(∀id,xv.pid=some id->id<m2)/\ws.map (·.1)=p.exts/\(∀w∈ws,By m2 H w.2 w.1.2) /\
  (∀id,cv.pid=some id->id<m1)/\(∀id,pv.pid=some id->id<m1)/\lo<=m1/\m1<=m2
def PkO.ext{ty lo:Nat}{H H':Heap}{v:V}{p:Pkt}(h:PkO ty lo H v p)(s:Grow H H'):PkO ty lo H' v p:=by
 obtain⟨cv,xv,pv,ws,m1,m2,h1,h2,h3,h4,h5,h6,h7,h8,h9,h10,h11⟩:=h;exact⟨cv,xv,pv,ws,m1,m2,h1,h2.ext s,h3.ext s,h4.to (λid hi=>s.same id (h4.lc.own id hi).2) s.next,h5,h6,λw hw=>(h7 w hw).ext s,h8,h9,h10,h11⟩
end Go.Ax.R7
/- Rtp12 -/
namespace Go.Ax.R7
open Go.Ax
end Go.Ax.R7
namespace Go.Ax
open R7
end Go.Ax
/- Rtp13 -/
namespace Go.Ax.R7
open Go.Ax
inductive Apf (ty e lo:Nat) (H:Heap):V->List V->Nat->Prop
 | app {v:V} {cells:List V} {n:Nat} (h:App ty e lo H v cells n):Apf ty e lo H v cells n
 | full {id n:Nat} {cells:List V} (h:H.get id=some ⟨ty,cells,none⟩) (hl:cells.length=n*e) (h0:lo<=id) (h1:id<H.next):Apf ty e lo H (.sl id 0 n (.fix n)) cells n
def Apf.lc{ty e lo n:Nat}{H:Heap}{v:V}{cells:List V}(h:Apf ty e lo H v cells n):Lc e lo H v cells n:=by
 cases h with
 | app h=>exact h.lc
 | full h hl h0 h1=>
  refine⟨?_,λid hi=>by simp only[V.pid,yaa]at hi;subst hi;exact⟨h0,h1⟩,yaj _⟩;simp only[rcells,h,Option.bind_some];rw[if_pos (by omega),yaC,yal (by omega)]
def Apf.keep{ty e lo n:Nat}{H H':Heap}{v:V}{cells:List V}(h:Apf ty e lo H v cells n)(k:Keep lo H H'):Apf ty e lo H' v cells n:=by
 cases h with
 | app h=>exact .app (App.keep h k)
 | full h hl h0 h1=>exact .full (by rw[k.same _ h0 h1,h]) hl h0 (yak h1 k.next)
structure Bel (lo:Nat) (H H':Heap):Prop where
 next:H.next<=H'.next
 same:∀i,i<lo->H'.get i=H.get i
def Bel.refl(lo:Nat)(H:Heap):Bel lo H H:=⟨yaj _,λ_ _=>rfl⟩
def Bel.trans{lo:Nat}{H H1 H2:Heap}(h:Bel lo H H1)(k:Bel lo H1 H2):Bel lo H H2:=⟨yay h.next k.next,λi hi=>by rw[k.same i hi,h.same i hi]⟩
def Bel.low{lo lo':Nat}{H H':Heap}(h:Bel lo H H')(hl:lo'<=lo):Bel lo' H H':=⟨h.next,λi hi=>h.same i (by omega)⟩
def _root_.Go.Ax.Grow.bel7{H H':Heap}(h:Grow H H'){lo:Nat}(hl:lo<=H.next):Bel lo H H':=⟨h.next,λi hi=>h.same i (by omega)⟩
def Bel.grow{H H':Heap}(h:Bel H.next H H'):Grow H H':=⟨h.next,λi hi=>h.same i hi⟩
def _root_.Go.Ax.Grow.bel7'{H0 H H':Heap}{lo:Nat}(h0:Grow H0 H)(hl:H0.next<=lo)(h:Bel lo H H'):Grow H0 H':=⟨yay h0.next h.next,λi hi=>by rw[h.same i (by omega),h0.same i hi]⟩
def okb_apf{β:Type}{ty e bytes lo n m:Nat}{H:Heap}{x y:V}{cells q:List V}{f:V->M β}{Q:β->Heap->Prop}(hx:Apf ty e lo H x cells n)(hlo:lo<=H.next) (hy:acells e H y=some (q,m)) (hq:q.length=m*e)
  (hb:(n+m)*bytes<=140737488355328) (hm:n+m<=140737488355328)
  (k:∀x' H',Apf ty e lo H' x' (cells++q) (n+m)->Bel lo H H'->Step H H' x.pid.toList x'.pid.toList->Ok (f x') H' Q):Ok ((mappend ty e bytes x y).bind f) H Q:=by
 cases hx with
 | app h=>
  refine zij h hlo hy hq hb hm λx' H' h1 hs=>k x' H' (.app h1) ⟨hs.next,λi hi=>hs.same i (by omega) λe=>?_⟩ hs;have:=(h.lc.own i (by simpa [zbK]using e)).1;omega
 | full h hl h0 h1=>
  rename_i id;have hml:n+m<=maxLen:=yay hm zg3;by_cases hz:m=0
  ·subst hz;have hq0:q=[]:=yaA (by omega);subst hq0;refine zaL ⟨.sl id 0 n (.fix n),H.set id (some ⟨ty,cells,none⟩),?_,k _ _ ?_ ⟨by rw[zal];exact yaj _,λi hi=>zai _ _ (by omega)⟩ (Step.set _ (by simp[V.pid]))⟩
   ·simp only[mappend,hy,Option.bind_some,mappendq,h];rw[if_pos ⟨by omega,trivial⟩];simp only[ybR,yaj,if_true];rw[if_pos (by omega)];simp[splice]
   ·rw[yaK];exact .full (zah _ _ _) hl h0 h1
  ·refine zaL ⟨.sl H.next 0 (n+m) (.opn e),H.new ⟨ty,cells++q,some e⟩,?_,?_⟩
   ·simp only[mappend,hy,Option.bind_some,mappendq,h];rw[if_pos ⟨by omega,trivial⟩,if_neg (by omega),if_pos ⟨hb,hml⟩,yaC,yal (by omega)]
   ·refine k _ _ (.app (.opn (.inr ⟨H.next,rfl,zae _ _,by simp[hl,hq,ybt]⟩) λi hi=>?_)) ⟨by rw[zac];omega,λi hi=>zas _ _ (by omega)⟩ ⟨by rw[zac];omega,λi hi _=>zas _ _ (by omega),λi hi=>.inr (by simp only[V.pid,ybC,yas]at hi;subst hi;exact⟨yaj _,by rw[zac];omega⟩)⟩;simp only[V.pid,yaa]at hi;subst hi;exact⟨hlo,by rw[zac];omega⟩
def okb_apfz{β:Type}{ty bytes lo n m:Nat}{z:V}{H:Heap}{x:V}{cells:List V}{f:V->M β}{Q:β->Heap->Prop}(hx:Apf ty 1 lo H x cells n)(hlo:lo<=H.next)
  (hb:(n+m)*bytes<=140737488355328) (hm:n+m<=140737488355328)
  (k:∀x' H',Apf ty 1 lo H' x' (cells++List.replicate m z) (n+m)->Bel lo H H'->Ok (f x') H' Q):Ok ((mappendz ty bytes [z] x (.int .i64 (m:Nat))).bind f) H Q:=by
 have hw:IntKind.i64.wrap (m:Nat)=(m:Int):=by
  have h1:(m:Int)%18446744073709551616=m:=yb7 (by omega) (by omega);simp only[IntKind.wrap,IntKind.signed,IntKind.bits];simp;omega
 have hm2:m*bytes<=140737488355328:=yay (ybl _ (by omega)) hb;have hm3:((m:Int)*(bytes:Int))<=281474976710656:=by
  have:((m*bytes:Nat):Int)<=140737488355328:=by omega
  rw[Int.natCast_mul]at this;omega
 have e:(mappendz ty bytes [z] x (.int .i64 (m:Nat)) H)=mappend ty 1 bytes x (.rs (List.replicate m z) m) H:=by
  simp only[mappendz,mappend,hw];rw[if_pos ⟨by omega,hm3⟩];simp[acells,rcells,zwc]
 have:=okb_apf (y:=.rs (List.replicate m z) m) (q:=List.replicate m z) (m:=m) hx hlo (by simp[acells,rcells]) (by simp) hb hm λx' H' h1 h2 _=>k x' H' h1 h2;unfold Ok M.bind at this ⊢;rw[e];exact this
def bn(k n:Nat):List Nat:=(List.range k).map λi=>n/256 ^ (k-1-i)%256
def bn_len(k n:Nat):(bn k n).length=k:=by simp[bn]
def bn_8(k n:Nat):Ok8 (bn k n):=by
 intro x hx;obtain⟨i,_,rfl⟩:=ya3.1 hx;omega
def bn_get(k n i:Nat)(h:i<k):(bn k n).getD i 0=n/256 ^ (k-1-i)%256:=by
 rw[yan,yaf (by rw[bn_len];exact h)];simp[bn]
abbrev Ab(lo:Nat)(H:Heap)(v:V)(l:List Nat):Prop:=Apf zad 1 lo H v (l.map by8) l.length
def Ab.by{lo:Nat}{H:Heap}{v:V}{l:List Nat}(h:Ab lo H v l):By lo H v l:=h.lc
def okb_ab'{β:Type}{lo:Nat}{H:Heap}{x y:V}{l m:List Nat}{f:V->M β}{Q:β->Heap->Prop}(hx:Ab lo H x l)(hlo:lo<=H.next) (hy:acells 1 H y=some (m.map by8,m.length)) (hm:l.length+m.length<=1099511627776)
  (k:∀x' H',Ab lo H' x' (l++m)->Bel lo H H'->Step H H' x.pid.toList x'.pid.toList->Ok (f x') H' Q):Ok ((mappend zad 1 1 x y).bind f) H Q:=by
 refine okb_apf hx hlo hy (by simp) (by omega) (by omega) λx' H' h1 h2=>k x' H' ?_ h2;show Apf zad 1 lo H' x' ((l++m).map by8) (l++m).length;rw[yaE,yag];exact h1
def okb_ab{β:Type}{lo:Nat}{H:Heap}{x y:V}{l m:List Nat}{f:V->M β}{Q:β->Heap->Prop}(hx:Ab lo H x l)(hlo:lo<=H.next) (hy:acells 1 H y=some (m.map by8,m.length)) (hm:l.length+m.length<=1099511627776)
  (k:∀x' H',Ab lo H' x' (l++m)->Bel lo H H'->Ok (f x') H' Q):Ok ((mappend zad 1 1 x y).bind f) H Q:=
 okb_ab' hx hlo hy hm λx' H' h1 h2 _=>k x' H' h1 h2
def zpa{lo:Nat}{H:Heap}{v:V}{l:List Nat}(h:Ab lo H v l)(hlo:lo<=H.next)(hl:l.length<=2097152)(n k:Nat)(hn:n<4294967296)(hk:k<=4) :
  Ok (sem T zda [v,.int .u32 n,.int .i64 k]) H λr H'=>Ab lo H' r (l++bn k n)/\Bel lo H H'/\Step H H' v.pid.toList r.pid.toList:=by
 refine zvl ?_;unfold zrS uB uR uc ug;simp(disch:=omega)only[↓RD,RZ];refine zaQ (λm L H'=>∃w,L=[w,.int .i64 ((k:Int)-1-(m:Nat))]/\Ab lo H' w (l++(bn k n).take m)/\Bel lo H H'/\Step H H' v.pid.toList w.pid.toList) k ?_ ?_ ?_
 ·exact⟨v,by simp,by simpa using h,Bel.refl _ _,(Grow.refl H).step _⟩
 ·rintro m L H1 hm ⟨w,rfl,ha,hb,hst⟩;have e1:(k:Int)-1-(m:Nat)=((k-1-m:Nat):Int):=by omega
  have e2:(8:Int)*((k-1-m:Nat):Int)=((8*(k-1-m):Nat):Int):=by omega
  have e3:shr n (8*(k-1-m))=n/256 ^ (k-1-m):=by rw[zif,yah,yds]
  have hlo1:=hb.next;rw[e1];unfold zj4 uL uB uK uc ub ug;simp(disch:=omega)only[↓RD,RZ,e2,e3];refine okb_ab' (m:=[n/256 ^ (k-1-m)%256]) (ha.keep ((Grow.new _ _).keep _)) (by rw[zac];omega) (zcD rfl) (by simp;omega) λw' H2 h2 hb2 st2=>?_;simp(disch:=omega)only[↓RD,RZ];refine⟨w',by rw[show((k-1-m:Nat):Int)-1=(k:Int)-1-((m+1:Nat):Int) by omega],?_,hb.trans (((Grow.new _ _).bel7 (by omega)).trans hb2),hst.trans (((Grow.new _ _).step _).trans st2)⟩;rw[take_snoc (by rw[bn_len];exact hm),bn_get k n m hm,<-yaO];exact h2
 ·rintro L H1 ⟨w,rfl,ha,hb,hst⟩;have e1:(k:Int)-1-(k:Nat) = -1:=by omega
  rw[e1];unfold zj4 uL uB uK uc ub ug;simp(disch:=omega)only[↓RD,RZ];rw[yal (by rw[bn_len];exact yaj _)]at ha;exact⟨ha,hb,hst⟩
/-! What is good. -/
def goodX(prof:Int)(x:X):Bool:=
 if prof=48862 then decide (1<=x.1/\x.1<=14/\1<=x.2.length/\x.2.length<=16) else decide (1<=x.1/\x.1<=255/\x.2.length<=255)
def good(p:Pkt):Bool:=
 decide ((0<=p.typ/\p.typ<=127)/\p.csrc.length<=15/\(0<=p.pad/\p.pad<=255)) &&
  (if p.prof=0 then decide (p.exts.length=0) else decide (p.prof=48862\/p.prof=4096)&&p.exts.all (goodX p.prof))
def zvC{lo:Nat}{H:Heap}{bv:V}(x:X)(h:By lo H bv x.2)(prof:Int):Ok (sem T zer [.int .i64 prof,.agg [.int .i64 x.1,bv]]) H λr H'=>r = .bool (goodX prof x)/\Grow H H':=by
 refine zoA ?_;unfold zkS goodX uL uFM uB uG uH uO uR uc;by_cases hp:prof=48862
 ·rw[if_pos hp];have hv:=(h.newn ⟨zaS,[.int .i64 x.1,bv],none⟩).vlen;by_cases h1:1<=x.1
  ·by_cases h2:x.1<=14
   ·by_cases h3:1<=x.2.length
    ·by_cases h4:x.2.length<=16
     ·simp(disch:=omega)only[↓RD,RZ,h.cells1,h.okc,h.vlen];exact⟨by simp[*],Grow.new _ _⟩
     ·simp(disch:=omega)only[↓RD,RZ,h.cells1,h.okc,h.vlen];exact⟨by simp[*],Grow.new _ _⟩
    ·simp(disch:=omega)only[↓RD,RZ,h.cells1,h.okc,h.vlen];exact⟨by simp[*],Grow.new _ _⟩
   ·simp(disch:=omega)only[↓RD,RZ,h.cells1,h.okc,h.vlen];exact⟨by simp[*],Grow.new _ _⟩
  ·simp(disch:=omega)only[↓RD,RZ,h.cells1,h.okc,h.vlen];exact⟨by simp[*],Grow.new _ _⟩
 ·rw[if_neg hp];by_cases h1:1<=x.1
  ·by_cases h2:x.1<=255
   ·by_cases h4:x.2.length<=255
    ·simp(disch:=omega)only[↓RD,RZ,h.cells1,h.okc,h.vlen];exact⟨by simp[*],Grow.new _ _⟩
    ·simp(disch:=omega)only[↓RD,RZ,h.cells1,h.okc,h.vlen];exact⟨by simp[*],Grow.new _ _⟩
   ·simp(disch:=omega)only[↓RD,RZ,h.cells1,h.okc,h.vlen];exact⟨by simp[*],Grow.new _ _⟩
  ·simp(disch:=omega)only[↓RD,RZ,h.cells1,h.okc,h.vlen];exact⟨by simp[*],Grow.new _ _⟩
def zlv{p:Pkt} (h:¬((0<=p.typ/\p.typ<=127)/\p.csrc.length<=15/\(0<=p.pad/\p.pad<=255))):good p=false:=by
 unfold good;rw[decide_eq_false h];rfl
def zuk{p:Pkt} (h:(0<=p.typ/\p.typ<=127)/\p.csrc.length<=15/\(0<=p.pad/\p.pad<=255)):good p=if p.prof=0 then decide (p.exts.length=0) else decide (p.prof=48862\/p.prof=4096)&&p.exts.all (goodX p.prof):=by
 unfold good;rw[decide_eq_true h];simp
def all_idx(P:X->Bool)(xs:List X):(match xs.findIdx? (λx=>!P x) with|some _=>false|none=>true)=xs.all P:=by
 cases h:xs.findIdx? (λx=>!P x) with
 | none=>
  have:=ydw.1 h;exact(yaL.2 λx hx=>by simpa using this x hx).symm
 | some i=>
  obtain⟨h1,h2,_⟩:=ybw.1 h;refine(Bool.eq_false_iff.2 λe=>?_).symm;have:=yaL.1 e _ (yaW h1);rw[this]at h2;cases h2
def Good_ok{lo:Nat}{H:Heap}{v:V}{p:Pkt}(h:PkR lo H v p)(hs:Sml p):Ok (sem T zhl [v]) H λr H'=>r = .bool (good p)/\Grow H H':=by
 obtain⟨cv,xv,pv,rfl,hc,hx,hp⟩:=h;have hb:=hs.b;refine zsS ?_;unfold zpu uL uFM uB uG uH uO uA uR uK uc;unfold pcells;simp(disch:=first|omega|(simp only[RY]<;>omega)|decide)only[↓RD,RZ,eq_self,seval,hc.cells1,hx.cells1,hp.cells1,hc.okc,hx.okc,hp.okc];generalize hH1:Heap.new H _=H1;have n1:H1.next=H.next+1:=by rw[<-hH1];rfl
 have s1:Grow H H1:=by rw[<-hH1];exact Grow.new _ _
 have g1:H1.get H.next=some ⟨zaq,pcells p cv xv pv,none⟩:=by rw[<-hH1];exact zae _ _
 clear hH1;unfold pcells at g1;have ec:=hc.vlen;have ex:=hx.vlen;by_cases a1:p.typ<0
 ·simp(disch:=first|omega|(simp only[RY]<;>omega)|decide)only[↓RD,RZ,eq_self,seval,g1];exact⟨by rw[zlv (by omega)],s1⟩
 by_cases a2:127<p.typ
 ·simp(disch:=first|omega|(simp only[RY]<;>omega)|decide)only[↓RD,RZ,eq_self,seval,g1];exact⟨by rw[zlv (by omega)],s1⟩
 by_cases a3:15<p.csrc.length
 ·simp(disch:=first|omega|(simp only[RY]<;>omega)|decide)only[↓RD,RZ,eq_self,seval,g1,ec];exact⟨by rw[zlv (by omega)],s1⟩
 by_cases a4:p.pad<0
 ·simp(disch:=first|omega|(simp only[RY]<;>omega)|decide)only[↓RD,RZ,eq_self,seval,g1,ec];exact⟨by rw[zlv (by omega)],s1⟩
 by_cases a5:255<p.pad
 ·simp(disch:=first|omega|(simp only[RY]<;>omega)|decide)only[↓RD,RZ,eq_self,seval,g1,ec];exact⟨by rw[zlv (by omega)],s1⟩
 rw[zuk (by omega)];by_cases hz:p.prof=0
 ·rw[if_pos hz];rw[hz]at g1;by_cases he:p.exts.length=0
  ·simp(disch:=first|omega|(simp only[RY]<;>omega)|decide)only[↓RD,RZ,eq_self,seval,g1,ec,ex,he];exact s1
  ·simp(disch:=first|omega|(simp only[RY]<;>omega)|decide)only[↓RD,RZ,eq_self,seval,g1,ec,ex,he];exact s1
 ·rw[if_neg hz];by_cases hpf:p.prof=48862\/p.prof=4096
  ·rw[decide_eq_true hpf,ycu,<-all_idx];have main:Ok ((sem T zaG [xv,.fn zdc [.ptr H.next 0]]).bind λt48=>(M.lift (un .not t48)).bind λt49=>M.pure (Res.ret [t49])) H1
     (λr H'=>∃L,r=Res.ret L/\zcX L = .bool (match p.exts.findIdx? (λx=>!goodX p.prof x) with|some _=>false|none=>true)/\Grow H H'):=by
    have hcf:Ok (sem T zaG [xv,.fn zdc [.ptr H.next 0]]) H1 (λ(r:V) H'=>r=V.bool (match p.exts.findIdx? (λx=>!goodX p.prof x) with|some _=>true|none=>false)/\Grow H H'):=by
     refine zc8 ?_;unfold zbI uB uA uR uc;refine zaf (zsk (hx.ext s1) (λx=>!goodX p.prof x) (by omega) λH3 s3 x bv hb=>?_) ?_
     ·have g3:H3.get H.next = _:=(s3.same _ (by omega)).trans g1;have n3:=s3.next;show Ok (sem T zdc [.agg [.int .i64 x.1,bv],.ptr H.next 0]) H3 _;refine zp7 ?_;unfold zl5 uL uS uFM uO uA uR;simp(disch:=first|omega|(simp only[RY]<;>omega)|decide)only[↓RD,RZ,eq_self,seval,hb.cells1,hb.okc,g3];refine zaf (zvC x (hb.newn _) p.prof) ?_;rintro _ H4 ⟨rfl,s4⟩;simp(disch:=first|omega|(simp only[RY]<;>omega)|decide)only[↓RD,RZ,eq_self,seval];exact(Grow.new _ _).trans s4
     ·rintro _ H3 ⟨rfl,s3⟩;cases hf:p.exts.findIdx? (λx=>!goodX p.prof x) with
      | none=>
       unfold idxV;simp(disch:=first|omega|(simp only[RY]<;>omega)|decide)only[↓RD,RZ,eq_self,seval];exact s1.trans s3
      | some i=>
       unfold idxV;simp(disch:=first|omega|(simp only[RY]<;>omega)|decide)only[↓RD,RZ,eq_self,seval];exact s1.trans s3
    refine zaf hcf ?_
    ·rintro _ H3 ⟨rfl,s3⟩;cases hf:p.exts.findIdx? (λx=>!goodX p.prof x) with
     | none=>
      simp(disch:=first|omega|(simp only[RY]<;>omega)|decide)only[↓RD,RZ,eq_self,seval];exact s3
     | some i=>
      simp(disch:=first|omega|(simp only[RY]<;>omega)|decide)only[↓RD,RZ,eq_self,seval];exact s3
   rcases hpf with hpf|hpf
   ·rw[hpf]at g1;simp(disch:=first|omega|(simp only[RY]<;>omega)|decide)only[↓RD,RZ,eq_self,seval,g1,ec];refine zao main ?_;rintro r H' ⟨L,rfl,h1,h2⟩;exact⟨_,rfl,h1,h2⟩
   ·rw[hpf]at g1;simp(disch:=first|omega|(simp only[RY]<;>omega)|decide)only[↓RD,RZ,eq_self,seval,g1,ec];refine zao main ?_;rintro r H' ⟨L,rfl,h1,h2⟩;exact⟨_,rfl,h1,h2⟩
  ·rw[decide_eq_false hpf,ycI];have h1:p.prof≠48862:=λe=>hpf (.inl e);have h2:p.prof≠4096:=λe=>hpf (.inr e);simp(disch:=first|omega|(simp only[RY]<;>omega)|decide)only[↓RD,RZ,eq_self,seval,g1,ec];exact s1
def b0(p:Pkt):Nat:=128+p.csrc.length+(if 0<p.pad then 32 else 0)+(if p.prof=0 then 0 else 16)
def b1(p:Pkt):Nat:=p.typ.toNat+(if p.mark=true then 128 else 0)
def xb(prof:Int)(x:X):List Nat:=(if prof=48862 then [16*x.1.toNat+(x.2.length-1)] else [x.1.toNat,x.2.length])++x.2
def xsb(p:Pkt):List Nat:=(p.exts.map (xb p.prof)).flatten
def padn(n:Nat):Nat:=(4-n%4)%4
def elems(p:Pkt):List Nat:=xsb p++List.replicate (padn (xsb p).length) 0
structure Gd (p:Pkt):Prop where
 a:(0<=p.typ/\p.typ<=127)/\p.csrc.length<=15/\(0<=p.pad/\p.pad<=255)
 b:p.prof=0->p.exts=[]
 c:p.prof=0\/p.prof=48862\/p.prof=4096
 d:∀x∈p.exts,goodX p.prof x=true
def zs3{p:Pkt}(h:good p=true):Gd p:=by
 have ha:(0<=p.typ/\p.typ<=127)/\p.csrc.length<=15/\(0<=p.pad/\p.pad<=255):=by
  refine ycH λe=>?_;rw[zlv e]at h;cases h
 rw[zuk ha]at h;by_cases hz:p.prof=0
 ·rw[if_pos hz]at h;have hn:=yaA (of_decide_eq_true h);exact⟨ha,λ_=>hn,.inl hz,λx hx=>by rw[hn]at hx;cases hx⟩
 ·rw[if_neg hz]at h;obtain⟨h1,h2⟩:=Bool.and_eq_true_iff.1 h;exact⟨ha,λe=>absurd e hz,.inr (of_decide_eq_true h1),yaL.1 h2⟩
def zql{x:X}(h:goodX 48862 x=true):1<=x.1/\x.1<=14/\1<=x.2.length/\x.2.length<=16:=by
 unfold goodX at h;rw[if_pos rfl]at h;exact of_decide_eq_true h
def zqk{x:X}(h:goodX 4096 x=true):1<=x.1/\x.1<=255/\x.2.length<=255:=by
 unfold goodX at h;rw[if_neg (by decide)]at h;exact of_decide_eq_true h
def or_a:∀c,c<=15->128 ||| c=128+c/\(128+c) ||| 32=160+c/\(128+c) ||| 16=144+c/\(160+c) ||| 16=176+c:=by
 intro c hc;have:∀c,c<16->128 ||| c=128+c/\(128+c) ||| 32=160+c/\(128+c) ||| 16=144+c/\(160+c) ||| 16=176+c:=by decide
 exact this c (by omega)
def or_b:∀t,t<=127->t ||| 128=t+128:=by
 intro t ht;have:∀t,t<128->t ||| 128=t+128:=by decide
 exact this t (by omega)
def or_c(i n:Nat)(h:n<16):(16*i) ||| n=16*i+n:=by
 have:=ybW (i:=4) (b:=n) h i;rw[yap,ycD]at this;exact this.symm
def ab_lit{H:Heap}{l:List Nat}{lo:Nat}(h:lo<=H.next):Ab lo (H.new ⟨zad,l.map by8,none⟩) (.sl H.next 0 l.length (.fix l.length)) l:=
 .full (zae _ _) (by simp) h (by rw[zac];omega)
def first_ok{lo:Nat}{H:Heap}{v:V}{p:Pkt}(h:PkR lo H v p)(hg:Gd p):Ok (sem T zf9 [v]) H λr H'=>Ab H.next H' r [b0 p,b1 p]/\Grow H H':=by
 obtain⟨cv,xv,pv,rfl,hc,hx,hp⟩:=h;obtain⟨⟨⟨ht0,ht1⟩,hcl,hp0,hp1⟩,-,-,-⟩:=hg;refine zrs ?_;unfold znO uL uFM uB uO uR uK uc ub ug;unfold pcells;obtain⟨t,ht⟩:=ya7 ht0;obtain⟨o1,o2,o3,o4⟩:=or_a _ hcl;have o5:=or_b t (by omega);have mm:(128+p.csrc.length)%256=128+p.csrc.length:=by omega
 have mt:t%256=t:=by omega
 have ec:=(hc.newn ⟨zaq,pcells p cv xv pv,none⟩).vlen;have fin:∀x y:Nat,Ab H.next ((H.new ⟨zaq,[.bool p.mark,.int .i64 t,.int .u16 p.seq,.int .u32 p.ts,.int .u32 p.ssrc,cv,.int .i64 p.prof,xv,.int .i64 p.pad,pv],none⟩).new ⟨zad,[.int .u8 x,.int .u8 y],none⟩) (.sl (H.next+1) 0 2 (.fix 2)) [x,y]/\Grow H ((H.new ⟨zaq,[.bool p.mark,.int .i64 t,.int .u16 p.seq,.int .u32 p.ts,.int .u32 p.ssrc,cv,.int .i64 p.prof,xv,.int .i64 p.pad,pv],none⟩).new ⟨zad,[.int .u8 x,.int .u8 y],none⟩):=λx y=>
  ⟨ab_lit (H:=H.new _) (l:=[x,y]) (by rw[zac];omega),(Grow.new _ _).trans (Grow.new _ _)⟩
 by_cases c1:0<p.pad<;>by_cases c2:p.prof=0
 ·have e0:b0 p=160+p.csrc.length:=by unfold b0;rw[if_pos c1,if_pos c2];omega
  rw[e0];rw[c2]at fin;cases c3:p.mark
  ·have e1:b1 p=t:=by unfold b1;rw[c3,ht,yao];rfl
   rw[e1];rw[c3]at fin;simp(disch:=omega)only[↓RD,RZ,eq_self,seval,hc.cells1,hx.cells1,hp.cells1,hc.okc,hx.okc,hp.okc,hc.vlen,o1,o2,o3,o4,o5,mm,mt,c2,ht,c3];exact fin _ _
  ·have e1:b1 p=t+128:=by unfold b1;rw[c3,ht,yao];rfl
   rw[e1];rw[c3]at fin;simp(disch:=omega)only[↓RD,RZ,eq_self,seval,hc.cells1,hx.cells1,hp.cells1,hc.okc,hx.okc,hp.okc,hc.vlen,o1,o2,o3,o4,o5,mm,mt,c2,ht,c3];exact fin _ _
 ·have e0:b0 p=176+p.csrc.length:=by unfold b0;rw[if_pos c1,if_neg c2];omega
  rw[e0];cases c3:p.mark
  ·have e1:b1 p=t:=by unfold b1;rw[c3,ht,yao];rfl
   rw[e1];rw[c3]at fin;simp(disch:=omega)only[↓RD,RZ,eq_self,seval,hc.cells1,hx.cells1,hp.cells1,hc.okc,hx.okc,hp.okc,hc.vlen,o1,o2,o3,o4,o5,mm,mt,c2,ht,c3];exact fin _ _
  ·have e1:b1 p=t+128:=by unfold b1;rw[c3,ht,yao];rfl
   rw[e1];rw[c3]at fin;simp(disch:=omega)only[↓RD,RZ,eq_self,seval,hc.cells1,hx.cells1,hp.cells1,hc.okc,hx.okc,hp.okc,hc.vlen,o1,o2,o3,o4,o5,mm,mt,c2,ht,c3];exact fin _ _
 ·have e0:b0 p=128+p.csrc.length:=by unfold b0;rw[if_neg c1,if_pos c2];omega
  rw[e0];rw[c2]at fin;cases c3:p.mark
  ·have e1:b1 p=t:=by unfold b1;rw[c3,ht,yao];rfl
   rw[e1];rw[c3]at fin;simp(disch:=omega)only[↓RD,RZ,eq_self,seval,hc.cells1,hx.cells1,hp.cells1,hc.okc,hx.okc,hp.okc,hc.vlen,o1,o2,o3,o4,o5,mm,mt,c2,ht,c3];exact fin _ _
  ·have e1:b1 p=t+128:=by unfold b1;rw[c3,ht,yao];rfl
   rw[e1];rw[c3]at fin;simp(disch:=omega)only[↓RD,RZ,eq_self,seval,hc.cells1,hx.cells1,hp.cells1,hc.okc,hx.okc,hp.okc,hc.vlen,o1,o2,o3,o4,o5,mm,mt,c2,ht,c3];exact fin _ _
 ·have e0:b0 p=144+p.csrc.length:=by unfold b0;rw[if_neg c1,if_neg c2];omega
  rw[e0];cases c3:p.mark
  ·have e1:b1 p=t:=by unfold b1;rw[c3,ht,yao];rfl
   rw[e1];rw[c3]at fin;simp(disch:=omega)only[↓RD,RZ,eq_self,seval,hc.cells1,hx.cells1,hp.cells1,hc.okc,hx.okc,hp.okc,hc.vlen,o1,o2,o3,o4,o5,mm,mt,c2,ht,c3];exact fin _ _
  ·have e1:b1 p=t+128:=by unfold b1;rw[c3,ht,yao];rfl
   rw[e1];rw[c3]at fin;simp(disch:=omega)only[↓RD,RZ,eq_self,seval,hc.cells1,hx.cells1,hp.cells1,hc.okc,hx.okc,hp.okc,hc.vlen,o1,o2,o3,o4,o5,mm,mt,c2,ht,c3];exact fin _ _
def xb_len{prof:Int}{x:X}(h:goodX prof x=true)(hp:prof=48862\/prof=4096):(xb prof x).length<=257:=by
 unfold xb;rcases hp with rfl|rfl
 ·have:=zql h;rw[if_pos rfl];simp;omega
 ·have:=zqk h;rw[if_neg (by decide)];simp;omega
def xsk(p:Pkt)(k:Nat):List Nat:=((p.exts.take k).map (xb p.prof)).flatten
def zty{p:Pkt}{k:Nat}(h:k<p.exts.length):xsk p (k+1)=xsk p k++xb p.prof p.exts[k]:=by
 unfold xsk;rw[ydf h,yaE,ybz];simp
def zsm(p:Pkt):xsk p p.exts.length=xsb p:=by unfold xsk xsb;rw[ya6]
def zsl{p:Pkt}(hg:Gd p)(hp:p.prof≠0):∀k,k<=p.exts.length->(xsk p k).length<=257*k:=by
 intro k
 induction k with
 | zero=>intro _;simp[xsk]
 | succ k ih=>
  intro hk;rw[zty (by omega),yag];have h1:=xb_len (hg.d _ (yaW (show k<p.exts.length by omega))) (hg.c.resolve_left hp);have:=ih (by omega);omega
def shl4{i:Nat}(h:i<=15):Ax.bin .shl (.int .i64 (i:Nat)) (.int .u64 4)=some (.int .i64 ((16*i:Nat):Int)):=by
 have:∀i:Nat,i<16->Ax.bin .shl (.int .i64 (i:Nat)) (.int .u64 4)=some (.int .i64 ((16*i:Nat):Int)):=by
  intro i hi;rw[zlO (by omega)];simp only[IntKind.wrap,IntKind.bits,IntKind.signed];have h4:(4:Int).toNat=4:=rfl;rw[h4];congr 2;simp;omega
 exact this i (by omega)
def Exs.at0{lo:Nat}{H H2:Heap}{v:V}{xs:List X}(h:Exs lo H v xs)(g:Grow H H2){i:Nat}(hi:i<xs.length):∃p bv,(∀{k:IntKind},Ax.iaddr none 2 v (.int k i)=some p)/\Pl H2 p [.int .i64 xs[i].1,bv] v.pid/\By lo H bv xs[i].2:=by
 obtain⟨ws,rfl,h2,h3⟩:=h;rw[yai]at hi;obtain⟨p,hp,hl⟩:=(h2.ext g).at (i:=(i:Nat)) (by omega) (by omega);have e:((ws.map xc).flatten.drop (i*2)).take 2=[.int .i64 ws[i].1.1,ws[i].2]:=by
  rw[zlF _ (xc_len ws) i (by rw[yai];exact hi),ybH];rfl
 rw[yao,e]at hl;refine⟨p,ws[i].2,hp,?_,?_⟩
 ·simpa using hl
 ·simpa using h3 _ (yaW hi)
def pad_ok{lo:Nat}{H:Heap}{w:V}{l:List Nat}(t2:V)(h:Ab lo H w l)(hlo:lo<=H.next)(hl:l.length<=549755813888){Q:Res->Heap->Prop} (k:∀w' H',Ab lo H' w' (l++List.replicate (padn l.length) 0)->Bel lo H H'->Q (.ex 2 [w']) H') :
  Ok (M.iter (zdt (sem T) t2) [w]) H Q:=by
 refine zaQ (λm L H'=>∃w',L=[w']/\Ab lo H' w' (l++List.replicate m 0)/\Bel lo H H') (padn l.length) ?_ ?_ ?_
 ·exact⟨w,rfl,by simpa using h,Bel.refl _ _⟩
 ·rintro m L H1 hm ⟨w',rfl,ha,hb⟩;have hv:=ha.lc.vlen;rw[yag,yaH]at hv;have n1:=hb.next;have hne:(l.length+m)%4≠0:=by unfold padn at hm;omega
  unfold zdt uL uB uK uc ub ug;simp(disch:=omega)only[↓RD,RZ,hv];refine okb_ab (m:=[0]) (ha.keep ((Grow.new _ _).keep _)) (by rw[zac];omega) (zcD rfl) (by simp;unfold padn at hm;omega) λw2 H2 h2 hb2=>?_;simp(disch:=omega)only[↓RD,RZ];refine⟨w2,rfl,?_,hb.trans (((Grow.new _ _).bel7 (by omega)).trans hb2)⟩;rw[yc5,<-yaO];exact h2
 ·rintro L H1 ⟨w',rfl,ha,hb⟩;have hv:=ha.lc.vlen;rw[yag,yaH]at hv;have hne:(l.length+padn l.length)%4=0:=by unfold padn;omega
  have hb3:padn l.length<=3:=by unfold padn;omega
  unfold zdt uL uB uK uc ub ug;simp(disch:=omega)only[↓RD,RZ,hv,hne];exact k _ _ ha hb
def zyw{lo:Nat}{H:Heap}{v:V}{p:Pkt}(h:PkR lo H v p)(hs:Sml p)(hg:Gd p)(hp0:p.prof≠0):Ok (sem T zdU [v]) H λr H'=>By H.next H' r (elems p)/\Grow H H':=by
 obtain⟨cv,xv,pv,rfl,hc,hx,hp⟩:=h;have hb:=hs.b;refine znq ?_;unfold zjB uL uFM uO uR uc ug;unfold pcells;simp(disch:=omega)only[↓RD,RZ,eq_self,seval,hc.cells1,hx.cells1,hp.cells1,hc.okc,hx.okc,hp.okc,hx.vlen];generalize hH1:Heap.new H _=H1;have n1:H1.next=H.next+1:=by rw[<-hH1];rfl
 have s1:Grow H H1:=by rw[<-hH1];exact Grow.new _ _
 have g1:H1.get H.next=some ⟨zaq,pcells p cv xv pv,none⟩:=by rw[<-hH1];exact zae _ _
 clear hH1;unfold pcells at g1;refine zaQ (λk L H'=>∃w,L=[w,.int .i64 (k:Nat)]/\Ab H1.next H' w (xsk p k)/\Grow H1 H') p.exts.length ?_ ?_ ?_
 ·exact⟨.nils,rfl,Apf.app App.nil,Grow.refl _⟩
 ·rintro k L H2 hk ⟨w,rfl,ha,s2⟩;have g2:H2.get H.next = _:=(s2.same _ (by omega)).trans g1;have n2:=s2.next;have s02:=s1.trans s2;obtain⟨q,bv,i1,l1,w1⟩:=hx.at0 s02 hk;have l2:=l1.all;dsimp only[List.length_cons,List.length_nil]at l2;have hlen:=zsl hg hp0 k (by omega);have hgx:=hg.d _ (yaW hk);generalize hxe:p.exts[k]=x at *;have hsx:xsk p (k+1)=xsk p k++xb p.prof x:=by rw[zty hk,hxe]
  obtain⟨x1,x2⟩:=x;dsimp only at l2 w1 l1;unfold zeO uL uS uT uFM uB uI uO uK uc ub uq ug;rcases hg.c.resolve_left hp0 with hpf|hpf
  ·rw[hpf]at g2 hgx hsx;obtain⟨c1,c2,c3,c4⟩:=zql hgx;dsimp only at c1 c2 c3 c4;obtain⟨i,rfl⟩:=ya7 (show 0<=x1 by omega);have e1:((x2.length:Nat):Int)-1=((x2.length-1:Nat):Int):=by omega
   have e2:=or_c i (x2.length-1) (by omega);have e3:=shl4 (i:=i) (by omega);have e4:(16*i+(x2.length-1))%256=16*i+(x2.length-1):=by omega
   simp(disch:=omega)only[↓RD,RZ,eq_self,seval,g2,i1,l2,w1.cells1,w1.okc,w1.vlen,e1,e2,e3,e4];generalize hH3:Heap.set _ _ _=H3;have n3:H3.next=H2.next+1:=by rw[<-hH3];rfl
   have s3:Grow H2 H3:=by rw[<-hH3];exact(Grow.new _ _).set (yaj _) _
   have g3:H3.get H2.next=some ⟨zaS,[.int .i64 (i:Nat),bv],none⟩:=by rw[<-hH3];exact zah _ _ _
   clear hH3;refine okb_ab' (m:=[16*i+(x2.length-1)]) (ha.keep ((s3.trans (Grow.new _ _)).keep _)) (by rw[zac];omega) (zok (by omega) rfl) (by simp;omega) λw' H4 h4 hb4 k4=>?_;have g4:H4.get H2.next = _:=(k4.same _ (by rw[zac];omega) (λe=>by have:=(ha.lc.own _ (by simpa [zbK]using e)).2;omega)).trans ((zas _ _ (by omega)).trans g3);have n4:=hb4.next;rw[zac]at n4;have s4:Grow H1 H4:=Grow.bel7' ((s2.trans s3).trans (Grow.new _ _)) (yaj _) hb4;have w4:=w1.ext (s1.trans s4);simp(disch:=omega)only[↓RD,RZ,eq_self,seval,g4];refine okb_ab (m:=x2) h4 (by omega) w4.ac (by simp;omega) λw5 H5 h5 hb5=>?_;simp(disch:=omega)only[↓RD,RZ,eq_self,seval];refine⟨w5,by rfl,?_,Grow.bel7' s4 (yaj _) hb5⟩;rw[hsx];unfold xb;rw[if_pos rfl];rw[yaO]at h5;exact h5
  ·rw[hpf]at g2 hgx hsx;obtain⟨c1,c2,c4⟩:=zqk hgx;dsimp only at c1 c2 c4;obtain⟨i,rfl⟩:=ya7 (show 0<=x1 by omega);have e4:i%256=i:=by omega
   have e5:x2.length%256=x2.length:=by omega
   simp(disch:=omega)only[↓RD,RZ,eq_self,seval,g2,i1,l2,w1.cells1,w1.okc,w1.vlen,e4,e5];generalize hH3:Heap.set _ _ _=H3;have n3:H3.next=H2.next+1:=by rw[<-hH3];rfl
   have s3:Grow H2 H3:=by rw[<-hH3];exact(Grow.new _ _).set (yaj _) _
   have g3:H3.get H2.next=some ⟨zaS,[.int .i64 (i:Nat),bv],none⟩:=by rw[<-hH3];exact zah _ _ _
   clear hH3;refine okb_ab' (m:=[i,x2.length]) (ha.keep ((s3.trans (Grow.new _ _)).keep _)) (by rw[zac];omega) (zok (by omega) rfl) (by simp;omega) λw' H4 h4 hb4 k4=>?_;have g4:H4.get H2.next = _:=(k4.same _ (by rw[zac];omega) (λe=>by have:=(ha.lc.own _ (by simpa [zbK]using e)).2;omega)).trans ((zas _ _ (by omega)).trans g3);have n4:=hb4.next;rw[zac]at n4;have s4:Grow H1 H4:=Grow.bel7' ((s2.trans s3).trans (Grow.new _ _)) (yaj _) hb4;have w4:=w1.ext (s1.trans s4);simp(disch:=omega)only[↓RD,RZ,eq_self,seval,g4];refine okb_ab (m:=x2) h4 (by omega) w4.ac (by simp;omega) λw5 H5 h5 hb5=>?_;simp(disch:=omega)only[↓RD,RZ,eq_self,seval];refine⟨w5,by rfl,?_,Grow.bel7' s4 (yaj _) hb5⟩;rw[hsx];unfold xb;rw[if_neg (by decide)];rw[yaO]at h5;exact h5
 ·rintro L H2 ⟨w,rfl,ha,s2⟩;rw[zsm]at ha;have hlen:=zsl hg hp0 p.exts.length (yaj _);rw[zsm]at hlen;unfold zeO uL uS uT uFM uB uI uO uK uc ub uq ug;simp(disch:=omega)only[↓RD,RZ,eq_self,seval];refine pad_ok _ ha s2.next (by omega) λw' H3 h3 hb3=>?_;simp(disch:=omega)only[↓RD,RZ,eq_self,seval];exact⟨h3.by.low (by omega),s1.trans (Grow.bel7' s2 (yaj _) hb3)⟩
def csb(p:Pkt):List Nat:=(p.csrc.map (bn 4)).flatten
def extb(p:Pkt):List Nat:=if p.prof=0 then [] else bn 2 p.prof.toNat++bn 2 ((elems p).length/4)++elems p
def hb0(p:Pkt):List Nat:=[b0 p,b1 p]++bn 2 p.seq++bn 4 p.ts++bn 4 p.ssrc++csb p
def hb(p:Pkt):List Nat:=hb0 p++extb p
def padb(n:Nat):List Nat:=if n=0 then [] else List.replicate (n-1) 0++[n]
def bytes(p:Pkt):Except Int (List Nat):=
 if good p=false then .error 1
 else if 1200<(hb p).length+p.pay.length+p.pad.toNat then .error 4
 else .ok (hb p++p.pay++padb p.pad.toNat)
structure Num (p:Pkt):Prop where
 seq:p.seq<65536
 ts:p.ts<4294967296
 ssrc:p.ssrc<4294967296
 csrc:∀x∈p.csrc,x<4294967296
def BytesQ(H:Heap) (o:Except Int (List Nat)) (r:V) (H':Heap):Prop:=
 Grow H H'/\match o with
  | .error e=>r = .tup [.nils,.int .i64 e]
  | .ok l=>∃w,r = .tup [w,.int .i64 0]/\By H.next H' w l
def csk(p:Pkt)(k:Nat):List Nat:=((p.csrc.take k).map (bn 4)).flatten
def zur{p:Pkt}{k:Nat}(h:k<p.csrc.length):csk p (k+1)=csk p k++bn 4 p.csrc[k]:=by
 unfold csk;rw[ydf h,yaE,ybz];simp
def ztg{p:Pkt}:∀k,k<=p.csrc.length->(csk p k).length=4*k:=by
 intro k
 induction k with
 | zero=>intro _;simp[csk]
 | succ k ih=>intro hk;rw[zur (by omega),yag,ih (by omega),bn_len];omega
def zth(p:Pkt):csk p p.csrc.length=csb p:=by unfold csk csb;rw[ya6]
def hb0_len(p:Pkt):(hb0 p).length=12+4*p.csrc.length:=by
 unfold hb0;have:=ztg (p:=p) p.csrc.length (yaj _);rw[zth]at this;simp only[yag,bn_len,this,List.length_cons,List.length_nil]
def zr2{p:Pkt}(hg:Gd p)(hp:p.prof≠0):(elems p).length<=257*p.exts.length+3:=by
 have:=zsl hg hp p.exts.length (yaj _);rw[zsm]at this;unfold elems padn;rw[yag,yaH];omega
def Ab.mem{lo:Nat}{H:Heap}{v:V}{l:List Nat}(h:Ab lo H v l)(hl:0<l.length):∃id cap o,v = .sl id 0 l.length cap/\H.get id=some ⟨zad,l.map by8,o⟩/\lo<=id/\id<H.next/\V.capOk 1 v:=by
 unfold Ab at h;generalize hc:l.map by8=cells at h;generalize hn:l.length=n at h hl;cases h with
 | app h=>
  cases h with
  | opn h ho=>
   rcases h with⟨rfl,_,h0⟩|⟨id,rfl,hb,_⟩
   ·omega
   ·obtain⟨h1,h2⟩:=ho id rfl;exact⟨id,_,_,rfl,hb,h1,h2,rfl⟩
  | lit h h0 h1=>omega
 | full h hl h0 h1=>exact⟨_,_,_,rfl,h,h0,h1,yaj _⟩
def zst(m:List Nat)(x y:Nat):splice ((m++[x]).map by8) m.length [by8 y]=(m++[y]).map by8:=by
 unfold splice;simp[ybr]
def PB(lo:Nat)(H:Heap)(p:Pkt)(r:Res)(H':Heap):Prop:=∃w,r = .nrm [w]/\Ab lo H' w (hb p)/\Bel lo H H'
def Bytes_ok{lo:Nat}{H:Heap}{v:V}{p:Pkt}(h:PkR lo H v p)(hs:Sml p)(hn:Num p):Ok (sem T zgb [v]) H (BytesQ H (bytes p)):=by
 have h0:=h;obtain⟨cv,xv,pv,rfl,hc,hx,hp⟩:=h;obtain⟨q1,q2,q3,q4⟩:=hs;obtain⟨m1,m2,m3,m4⟩:=hn;refine zru ?_;unfold znQ uL uM uS uT uF uFM uB uI uO uU uA uZ uR uK uc ub ug;unfold bytes;unfold pcells;simp(disch:=first|omega|(simp only[RY]<;>omega)|decide)only[↓RD,RZ,eq_self,seval,hc.cells1,hx.cells1,hp.cells1,hc.okc,hx.okc,hp.okc];generalize hH1:Heap.new H _=H1;have n1:H1.next=H.next+1:=by rw[<-hH1];rfl
 have s1:Grow H H1:=by rw[<-hH1];exact Grow.new _ _
 have g1:H1.get H.next=some ⟨zaq,pcells p cv xv pv,none⟩:=by rw[<-hH1];exact zae _ _
 clear hH1;unfold pcells at g1;refine zaf (Good_ok (h0.ext s1) ⟨q1,q2,q3,q4⟩) ?_;rintro _ H2 ⟨rfl,s2⟩;have n2:=s2.next;have s02:=s1.trans s2;have g2:H2.get H.next = _:=(s2.same _ (by omega)).trans g1;cases hgd:good p with
 | false=>
  simp(disch:=first|omega|(simp only[RY]<;>omega)|decide)only[↓RD,RZ,eq_self,seval];exact⟨s02,rfl⟩
 | true=>
  have hg:=zs3 hgd;obtain⟨⟨ht,hcl,hpd0,hpd1⟩,-,-,-⟩:=id hg;have e1:p.seq%4294967296=p.seq:=by omega
  rw[if_neg (by decide)];simp(disch:=first|omega|(simp only[RY]<;>omega)|decide)only[↓RD,RZ,eq_self,seval,g2,e1];refine zaf (first_ok (h0.ext s02) hg) ?_;rintro w3 H3 ⟨a3,s3⟩;have n3:=s3.next;have g3:H3.get H.next = _:=(s3.same _ (by omega)).trans g2;have k3:Bel H2.next H2 H3:=s3.bel7 (yaj _);simp(disch:=first|omega|(simp only[RY]<;>omega)|decide)only[↓RD,RZ,eq_self,seval,g2,g3];refine zaf (zpa a3 k3.next (by simp) p.seq 2 (by omega) (by omega)) ?_;rintro w4 H4 ⟨a4,b4,-⟩;have k4:=k3.trans b4;have g4:H4.get H.next = _:=(k4.same _ (by omega)).trans g2;simp(disch:=first|omega|(simp only[RY]<;>omega)|decide)only[↓RD,RZ,eq_self,seval,g4];refine zaf (zpa a4 k4.next (by simp[bn_len]) p.ts 4 m2 (by omega)) ?_;rintro w5 H5 ⟨a5,b5,-⟩;have k5:=k4.trans b5;have g5:H5.get H.next = _:=(k5.same _ (by omega)).trans g2;simp(disch:=first|omega|(simp only[RY]<;>omega)|decide)only[↓RD,RZ,eq_self,seval,g4,g5];refine zaf (zpa a5 k5.next (by simp[bn_len]) p.ssrc 4 m3 (by omega)) ?_;rintro w6 H6 ⟨a6,b6,-⟩;have k6:=k5.trans b6;have g6:H6.get H.next = _:=(k6.same _ (by omega)).trans g2;simp(disch:=first|omega|(simp only[RY]<;>omega)|decide)only[↓RD,RZ,eq_self,seval,g6,hc.vlen];refine zaQ (λk L H'=>∃w,L=[w,.int .i64 (k:Nat)]/\Ab H2.next H' w ([b0 p,b1 p]++bn 2 p.seq++bn 4 p.ts++bn 4 p.ssrc++csk p k)/\Bel H2.next H2 H') p.csrc.length ?_ ?_ ?_
  ·exact⟨w6,rfl,by simpa [csk]using a6,k6⟩
  ·rintro k L H7 hk ⟨w,rfl,a7,k7⟩;have s7:Grow H H7:=Grow.bel7' s02 (by omega) k7;obtain⟨q,i1,l1⟩:=w_at (hc.ext s7) hk;have hlen:=ztg (p:=p) k (by omega);unfold zhz uB uIM uA uK uc ug;simp(disch:=first|omega|(simp only[RY]<;>omega)|decide)only[↓RD,RZ,eq_self,seval,i1,l1];refine zaf (zpa a7 k7.next (by simp[bn_len,hlen];omega) p.csrc[k] 4 (m4 _ (yaW hk)) (by omega)) ?_;rintro w8 H8 ⟨a8,b8,-⟩;simp(disch:=first|omega|(simp only[RY]<;>omega)|decide)only[↓RD,RZ,eq_self,seval];refine⟨w8,by rfl,?_,k7.trans b8⟩;rw[zur hk,<-yaO];exact a8
  ·rintro L H7 ⟨w7,rfl,a7,k7⟩;rw[zth]at a7;have a7':Ab H2.next H7 w7 (hb0 p):=a7;have g7:H7.get H.next = _:=(k7.same _ (by omega)).trans g2;have s7:Grow H H7:=Grow.bel7' s02 (by omega) k7;have hl0:=hb0_len p;unfold zhz uB uIM uA uK uc ug;simp(disch:=first|omega|(simp only[RY]<;>omega)|decide)only[↓RD,RZ,eq_self,seval,g7];refine zao (Q:=PB H2.next H2 p) ?_ ?_
   ·by_cases hz:p.prof=0
    ·simp(disch:=first|omega|(simp only[RY]<;>omega)|decide)only[↓RD,RZ,eq_self,seval,hz];refine⟨w7,rfl,?_,k7⟩;unfold hb extb;rw[if_pos hz,yaK];exact a7'
    ·have hel:=zr2 hg hz;simp(disch:=first|omega|(simp only[RY]<;>omega)|decide)only[↓RD,RZ,eq_self,seval,hz,g7];refine zaf (zyw (h0.ext s7) ⟨q1,q2,q3,q4⟩ hg hz) ?_;rintro ev H8 ⟨he8,s8⟩;have n8:=s8.next;have k8:=k7.trans (s8.bel7 k7.next);have g8:H8.get H.next = _:=(k8.same _ (by omega)).trans g2;have a8:Ab H2.next H8 w7 (hb0 p):=Apf.keep a7' (s8.keep _);obtain⟨f,hf,hf2⟩:∃f:Nat,p.prof=(f:Int)/\f<65536:=by
      rcases hg.c.resolve_left hz with e|e
      ·exact⟨48862,e,by omega⟩
      ·exact⟨4096,e,by omega⟩
     have e2:f%4294967296=f:=by omega
     have hpid8:∀id,ev.pid=some id->H7.next<=id/\id<H8.next:=λid hi=>he8.own id hi;rw[hf]at g8;simp(disch:=first|omega|(simp only[RY]<;>omega)|decide)only[↓RD,RZ,eq_self,seval,g8,e2];refine zaf (zpa a8 k8.next (by omega) f 2 (by omega) (by omega)) ?_;rintro w9 H9 ⟨a9,b9,st9⟩;have e3:(elems p).length/4%4294967296=(elems p).length/4:=by omega
     have he9:By H7.next H9 ev (elems p):=he8.step st9 λid hi hF=>by
      have h1:=(a7'.lc.own id (by simpa [zbK]using hF)).2;have h2:=(hpid8 id hi).1;omega
     have k9:=k8.trans b9;simp(disch:=first|omega|(simp only[RY]<;>omega)|decide)only[↓RD,RZ,eq_self,seval,he9.vlen,e3];refine zaf (zpa a9 k9.next (by simp[bn_len,hl0];omega) ((elems p).length/4) 2 (by omega) (by omega)) ?_;rintro w10 H10 ⟨a10,b10,st10⟩;have he10:By H7.next H10 ev (elems p):=he9.step st10 λid hi hF=>by
      have h2:=hpid8 id hi;rcases st9.own id hF with h|h
      ·have h1:=(a7'.lc.own id (by simpa [zbK]using h)).2;omega
      ·omega
     have k10:=k9.trans b10;simp(disch:=first|omega|(simp only[RY]<;>omega)|decide)only[↓RD,RZ,eq_self,seval];refine okb_ab a10 k10.next he10.ac (by simp[bn_len,hl0];omega) λw11 H11 a11 b11=>?_;simp(disch:=first|omega|(simp only[RY]<;>omega)|decide)only[↓RD,RZ,eq_self,seval];refine⟨w11,rfl,?_,k10.trans b11⟩;have ehb:hb p=hb0 p++bn 2 f++bn 2 ((elems p).length/4)++elems p:=by
      unfold hb extb;rw[if_neg hz,hf,yao];simp only[yaO]
     rw[ehb];exact a11
   ·rintro r H8 ⟨w8,rfl,a8,k8⟩;have g8:H8.get H.next = _:=(k8.same _ (by omega)).trans g2;have s8:Grow H H8:=Grow.bel7' s02 (by omega) k8;have hpl:=(hp.ext s8).vlen;obtain⟨d,hd⟩:=ya7 hpd0;rw[hd]at g8 hpd1;have hdt:p.pad.toNat=d:=by rw[hd];rfl
    rw[hdt];have hhl:(hb p).length<=549755813888:=by
     unfold hb extb;rw[yag,hl0];split
     ·simp;omega
     ·rename_i hz;have:=zr2 hg hz;simp only[yag,bn_len];omega
    have e1:((hb p).length:Int)+(p.pay.length:Nat)=(((hb p).length+p.pay.length:Nat):Int):=rfl;have e2:(((hb p).length+p.pay.length:Nat):Int)+(d:Nat)=(((hb p).length+p.pay.length+d:Nat):Int):=rfl;by_cases hbig:1200<(hb p).length+p.pay.length+d
    ·rw[if_pos hbig];simp(disch:=first|omega|(simp only[RY]<;>omega)|decide)only[↓RD,RZ,eq_self,seval,a8.lc.vlen,g8,hpl,e1,e2];exact⟨s8,rfl⟩
    ·rw[if_neg hbig];simp(disch:=first|omega|(simp only[RY]<;>omega)|decide)only[↓RD,RZ,eq_self,seval,a8.lc.vlen,g8,hpl,e1,e2];refine okb_ab a8 k8.next (hp.ext s8).ac (by omega) λw9 H9 a9 b9=>?_;have k9:=k8.trans b9;have s9:Grow H H9:=Grow.bel7' s02 (by omega) k9;have g9:H9.get H.next = _:=(b9.same _ (by omega)).trans g8;by_cases hd0:d=0
     ·subst hd0;simp(disch:=first|omega|(simp only[RY]<;>omega)|decide)only[↓RD,RZ,eq_self,seval,g9];refine⟨s9,w9,rfl,?_⟩;unfold padb;rw[if_pos rfl,yaK];exact a9.by.low (by omega)
     ·simp(disch:=first|omega|(simp only[RY]<;>omega)|decide)only[↓RD,RZ,eq_self,seval,g9];refine okb_apfz (m:=d) a9 k9.next (by simp;omega) (by simp;omega) λw10 H10 a10 b10=>?_;obtain⟨c,rfl⟩:∃c,d=c+1:=⟨d-1,by omega⟩;have ea:Ab H2.next H10 w10 ((hb p++p.pay++List.replicate c 0)++[0]):=by
       have e1:(hb p++p.pay++List.replicate c 0)++[0]=(hb p++p.pay)++List.replicate (c+1) 0:=by
        rw[yaO (hb p++p.pay),<-yc5]
       show Apf _ _ _ _ _ _ _;rw[e1,yaE,yag,yce,yaH];exact a10
      have k10:=k9.trans b10;have g10:H10.get H.next = _:=(b10.same _ (by omega)).trans g9;have s10:Grow H H10:=Grow.bel7' s02 (by omega) k10;generalize hlm:hb p++p.pay++List.replicate c 0=lm at *;have hll:lm.length<=1200:=by rw[<-hlm];simp only[yag,yaH];omega
      have hvl:=ea.lc.vlen;obtain⟨id,cap,o,rfl,hb10,h1,h2,hcap⟩:=ea.mem (by simp);rw[yag,ycm]at hvl hcap ⊢;have e5:((lm.length+1:Nat):Int)-1=(lm.length:Nat):=by omega
      have hia:∀{k:IntKind},Ax.iaddr none 1 (.sl id 0 (lm.length+1) cap) (.int k (lm.length:Nat))=some (.ptr id lm.length):=λ{k}=>by
       have:=zkz (id:=id) (off:=0) (len:=lm.length+1) (c:=cap) (k:=k) (i:=((lm.length:Nat):Int)) (e:=1) (by omega) (by omega);simpa using this
      have e6:(c+1)%256=c+1:=by omega
      simp(disch:=first|omega|(simp only[RY]<;>omega)|decide)only[↓RD,RZ,eq_self,seval,hvl,e5,g10,hia,e6];refine zsQ (size:=1) (off:=lm.length) (cells':=(lm++[c+1]).map by8) hb10 ⟨by rfl,by simp,by rfl⟩ (zst lm 0 (c+1)) ?_;simp(disch:=first|omega|(simp only[RY]<;>omega)|decide)only[↓RD,RZ,eq_self,seval];refine⟨s10.set (by omega) _,_,rfl,?_⟩;have efin:hb p++p.pay++padb (c+1)=lm++[c+1]:=by
       unfold padb;rw[if_neg (by omega),<-hlm];simp
      rw[efin];refine⟨?_,λi hi=>?_,by simpa using hcap⟩
      ·simp only[rcells,zah,Option.bind_some];rw[if_pos (by simp),yaC,yal (by simp)];simp
      ·simp only[V.pid,yaa]at hi;subst hi;exact⟨by omega,by rw[zal];omega⟩
def o1(b:Bool):Nat:=if b=true then 1 else 0
def Apf.low{ty e lo lo' n:Nat}{H:Heap}{v:V}{cells:List V}(h:Apf ty e lo H v cells n)(hl:lo'<=lo):Apf ty e lo' H v cells n:=by
 cases h with
 | app h=>
  cases h with
  | opn h ho=>exact .app (.opn h λid hi=>⟨yay hl (ho id hi).1,(ho id hi).2⟩)
  | lit h h0 h1=>exact .app (.lit h (yay hl h0) h1)
 | full h hl2 h0 h1=>exact .full h hl2 (yay hl h0) h1
end Go.Ax.R7
/- Rtp20 -/
namespace Go.Ax.R7
open Go.Ax
end Go.Ax.R7
namespace Go.Ax
open R7
end Go.Ax
/- Rtp21 -/
namespace Go.Ax.R7
open Go.Ax
def bytes_good{p:Pkt}{l:List Nat}(h:bytes p = .ok l):good p=true/\(hb p).length+p.pay.length+p.pad.toNat<=1200/\l=hb p++p.pay++padb p.pad.toNat:=by
 unfold bytes at h;split at h
 ·cases h
 ·rename_i hg;split at h
  ·cases h
  ·rename_i hl;cases h;exact⟨by simpa using hg,by omega,rfl⟩
def ztT(n:Nat):(padb n).length=n:=by
 unfold padb;split
 ·rename_i e;rw[e];rfl
 ·simp;omega
end Go.Ax.R7
namespace Go.Ax
open R7
end Go.Ax
/- Rtp22 -/
namespace Go.Ax.R7
open Go.Ax
def zfi{a m c:List Nat}{i n:Nat}(hi:a.length=i)(hn:m.length=n):piece (a++(m++c)) i n=m:=by
 unfold piece;rw[yci hi,yb0 hn]
def bn_succ(k n:Nat):bn (k+1) n=bn k (n/256)++[n%256]:=by
 unfold bn;rw[ycv,yaE];congr 1
 ·refine ycx λi hi=>?_;have:=ya2.1 hi;have e:k+1-1-i=(k-1-i)+1:=by omega
  rw[e,ybx,ycD,ycj]
 ·simp
def zvZ : ∀ (k n : Nat), n < 256 ^ k -> be (bn k n) = n:= by
  intro k
  induction k with
  | zero => intro n h; have : n = 0 := by simpa using h
            subst this;rfl
  | succ k ih=>
    intro n h
    rw [bn_succ, be_snoc, ih _ (by rw [ydF (by decide)];rw [ybx] at h;exact h)]
    omega
def zsK(one:Bool)(m:Nat):zfS one (List.replicate m 0)=some []:=by
 induction m with
 | zero=>rw[zfS,dif_pos (by simp)]
 | succ m ih=>
  rw[zfS,dif_neg (by simp),if_pos (by simp[ycb])];simpa [ycb]using ih
def zvg{prof:Int}{x:X}{r:List Nat}(hg:goodX prof x=true)(hp:prof=48862\/prof=4096):zfS (decide (prof=48862)) (xb prof x++r)=(zfS (decide (prof=48862)) r).map (x :: ·):=by
 obtain⟨x1,x2⟩:=x;rcases hp with rfl|rfl
 ·obtain⟨c1,c2,c3,c4⟩:=zql hg;dsimp only at c1 c2 c3 c4;obtain⟨i,rfl⟩:=ya7 (show 0<=x1 by omega);have hx:xb 48862 ((i:Int),x2)++r=(16*i+(x2.length-1))::(x2++r):=by
   unfold xb;rw[if_pos rfl];rfl
  rw[hx];have d:decide ((48862:Int)=48862)=true:=rfl;rw[d];have e1:(16*i+(x2.length-1))/16=i:=by omega
  have e2:(16*i+(x2.length-1))%16+1=x2.length:=by omega
  generalize hb:16*i+(x2.length-1)=b at *;rw[zfS,dif_neg (by simp),if_neg (by simp;omega),if_neg (by simp;omega),if_neg ?_]
  ·have h1:zoU true (b::(x2++r))=((i:Int),x2):=by
    unfold zoU eid enum zfe;simp only[if_true,yda,e1,e2,ybV,yaC,yb0]
   have h2:(b::(x2++r)).drop (elen true (b::(x2++r)))=r:=by
    unfold elen enum zfe;simp only[if_true,yda,e2];rw[ycW 1,ybV,yci rfl]
   rw[h1,h2]
  ·unfold ebad eid enum zfe;simp only[if_true,yda,e1,e2,List.length_cons,yag];omega
 ·obtain⟨c1,c2,c4⟩:=zqk hg;dsimp only at c1 c2 c4;obtain⟨i,rfl⟩:=ya7 (show 0<=x1 by omega);have hx:xb 4096 ((i:Int),x2)++r=i::x2.length::(x2++r):=by
   unfold xb;rw[if_neg (by decide)];rfl
  rw[hx];have d:decide ((4096:Int)=48862)=false:=rfl;rw[d];rw[zfS,dif_neg (by simp),if_neg (by simp;omega),if_neg (by simp),if_neg ?_]
  ·have h1:zoU false (i::x2.length::(x2++r))=((i:Int),x2):=by
    unfold zoU eid enum zfe;simp
   have h2:(i::x2.length::(x2++r)).drop (elen false (i::x2.length::(x2++r)))=r:=by
    unfold elen enum zfe;have:(if false=true then 1 else 2)+(if false=true then (i::x2.length::(x2++r)).getD 0 0%16+1 else (i::x2.length::(x2++r)).getD 1 0)=x2.length+1+1:=by simp;omega
    rw[this,ybV,ybV,yci rfl]
   rw[h1,h2]
  ·unfold ebad eid enum zfe;simp;omega
def pexts_xs{prof:Int}(hp:prof=48862\/prof=4096)(m:Nat):∀xs:List X,(∀x∈xs,goodX prof x=true)->zfS (decide (prof=48862)) ((xs.map (xb prof)).flatten++List.replicate m 0)=some xs:=by
 intro xs
 induction xs with
 | nil=>intro _;exact zsK _ _
 | cons x xs ih=>
  intro h;rw[yaT,ybi,yaO,zvg (h x (by simp)) hp,ih λy hy=>h y (by simp[hy])];rfl
def parse_bytes{p:Pkt}{b:List Nat}(h:bytes p = .ok b)(hn:Num p):parse b = .ok p:=by
 obtain⟨hgd,hlen,hbe⟩:=bytes_good h;have hg:=zs3 hgd;obtain⟨⟨⟨ht0,ht1⟩,hcl,hpd0,hpd1⟩,hz0,hpf,hgx⟩:=id hg;obtain⟨m1,m2,m3,m4⟩:=hn;obtain⟨c,hcd⟩:=ya7 hpd0;obtain⟨t,htd⟩:=ya7 ht0;have hct:p.pad.toNat=c:=by rw[hcd];rfl
 have htt:p.typ.toNat=t:=by rw[htd];rfl
 rw[hct]at hlen hbe;have hl0:=hb0_len p;have hlc:=ztg (p:=p) p.csrc.length (yaj _);rw[zth]at hlc;have hbl:b.length=(hb p).length+p.pay.length+c:=by rw[hbe,yag,yag,ztT]
 have hhl:(hb p).length=12+4*p.csrc.length+(extb p).length:=by unfold hb;rw[yag,hl0]
 generalize htl:extb p++p.pay++padb c=tl;have eb:b=b0 p::b1 p::(bn 2 p.seq++(bn 4 p.ts++(bn 4 p.ssrc++(csb p++tl)))):=by
  rw[hbe,<-htl];unfold hb hb0;simp[yaO]
 have g0:b.getD 0 0=b0 p:=by rw[eb];rfl
 have g1:b.getD 1 0=b1 p:=by rw[eb];rfl
 have q0:b0 p/64=2/\b0 p%16=p.csrc.length/\(b0 p/16%2=1<->p.prof≠0)/\(b0 p/32%2=1<->0<c):=by
  unfold b0;rw[hcd];by_cases e1:0<c<;>by_cases e2:p.prof=0
  ·rw[if_pos (by omega),if_pos e2];refine⟨by omega,by omega,by omega,by omega⟩
  ·rw[if_pos (by omega),if_neg e2];refine⟨by omega,by omega,by omega,by omega⟩
  ·rw[if_neg (by omega),if_pos e2];refine⟨by omega,by omega,by omega,by omega⟩
  ·rw[if_neg (by omega),if_neg e2];refine⟨by omega,by omega,by omega,by omega⟩
 obtain⟨q01,q02,q03,q04⟩:=q0;have q1:decide (b1 p/128%2=1)=p.mark/\b1 p%128=t:=by
  unfold b1;rw[htt];cases p.mark
  ·rw[if_neg (by decide)];exact⟨decide_eq_false (by omega),by omega⟩
  ·rw[if_pos rfl];exact⟨decide_eq_true (by omega),by omega⟩
 have k1:be (piece b 2 2)=p.seq:=by
  rw[eb,show b0 p::b1 p::(bn 2 p.seq++(bn 4 p.ts++(bn 4 p.ssrc++(csb p++tl))))=[b0 p,b1 p]++(bn 2 p.seq++(bn 4 p.ts++(bn 4 p.ssrc++(csb p++tl)))) from rfl,zfi (i:=2) rfl (bn_len _ _),zvZ _ _ (by omega)]
 have k2:be (piece b 4 4)=p.ts:=by
  rw[eb,show b0 p::b1 p::(bn 2 p.seq++(bn 4 p.ts++(bn 4 p.ssrc++(csb p++tl))))=([b0 p,b1 p]++bn 2 p.seq)++(bn 4 p.ts++(bn 4 p.ssrc++(csb p++tl))) by simp,zfi (by simp[bn_len]) (bn_len _ _),zvZ _ _ (by omega)]
 have k3:be (piece b 8 4)=p.ssrc:=by
  rw[eb,show b0 p::b1 p::(bn 2 p.seq++(bn 4 p.ts++(bn 4 p.ssrc++(csb p++tl))))=([b0 p,b1 p]++bn 2 p.seq++bn 4 p.ts)++(bn 4 p.ssrc++(csb p++tl)) by simp,zfi (by simp[bn_len]) (bn_len _ _),zvZ _ _ (by omega)]
 have ed12:b.drop 12=csb p++tl:=by
  rw[eb,show b0 p::b1 p::(bn 2 p.seq++(bn 4 p.ts++(bn 4 p.ssrc++(csb p++tl))))=([b0 p,b1 p]++bn 2 p.seq++bn 4 p.ts++bn 4 p.ssrc)++(csb p++tl) by simp,yci (by simp[bn_len])]
 have hcsn:csn b=p.csrc.length:=by unfold csn;rw[g0];exact q02
 have kc:zg1 b=p.csrc:=by
  unfold zg1;rw[hcsn];refine ycQ (by simp) λi h1 h2=>?_;rw[ybH,ycF];have e1:piece b (12+4*i) 4=bn 4 p.csrc[i]:=by
   unfold piece;rw[<-ybd,ed12,ybX (by omega),ybr (by rw[yat];omega)];have:=zlF (k:=4) (p.csrc.map (bn 4)) (λx hx=>by obtain⟨y,_,rfl⟩:=ya3.1 hx;exact bn_len _ _) i (by rw[yai];exact h2);rw[ybH,ycD]at this;exact this
  rw[e1,zvZ _ _ (by have:=m4 _ (yaW h2);omega)]
 have edx:b.drop (12+4*p.csrc.length)=tl:=by
  rw[<-ybd,ed12,yci hlc]
 have kx:zkl b = .ok (p.prof,p.exts,(extb p).length):=by
  unfold zkl;rw[g0,hcsn,edx];by_cases hz:p.prof=0
  ·rw[if_neg (by rw[q03];omega),hz,hz0 hz];unfold extb;rw[if_pos hz];first|done|rfl
  ·rw[if_pos (by rw[q03];exact hz)];have hpf':=hpf.resolve_left hz;obtain⟨f,hf,hf2⟩:∃f:Nat,p.prof=(f:Int)/\(f=48862\/f=4096):=by
    rcases hpf' with e|e
    ·exact⟨48862,e,.inl rfl⟩
    ·exact⟨4096,e,.inr rfl⟩
   have hft:p.prof.toNat=f:=by rw[hf];rfl
   have e4:(elems p).length%4=0:=by unfold elems padn;rw[yag,yaH];omega
   have hxe:extb p=bn 2 f++bn 2 ((elems p).length/4)++elems p:=by unfold extb;rw[if_neg hz,hft]
   have hxl:(extb p).length=4+(elems p).length:=by rw[hxe];simp only[yag,bn_len]
   have et:tl=bn 2 f++(bn 2 ((elems p).length/4)++(elems p++(p.pay++padb c))):=by rw[<-htl,hxe];simp[yaO]
   have f1:be (piece tl 0 2)=f:=by
    have:=@zfi [] (bn 2 f) (bn 2 ((elems p).length/4)++(elems p++(p.pay++padb c))) 0 2 rfl (bn_len _ _);rw[et];rw[yaY]at this;rw[this,zvZ _ _ (by omega)]
   have f2:be (piece tl 2 2)=(elems p).length/4:=by rw[et,zfi (bn_len _ _) (bn_len _ _),zvZ _ _ (by omega)]
   have f3:piece tl 4 (elems p).length=elems p:=by
    rw[et,<-yaO,zfi (by simp[bn_len]) rfl]
   have f4:4*((elems p).length/4)=(elems p).length:=by omega
   have ftl:tl.length=4+(elems p).length+p.pay.length+c:=by rw[<-htl,yag,yag,ztT,hxl]
   unfold pext;rw[f1,f2,f4,f3,if_neg (by omega),if_neg (by omega),if_neg (by omega),<-hf];have:=pexts_xs hpf' (padn (xsb p).length) p.exts hgx;have e5:elems p=(p.exts.map (xb p.prof)).flatten++List.replicate (padn (xsb p).length) 0:=rfl;rw[e5,this,<-e5,hxl]
 unfold parse;rw[if_neg (by omega),if_neg (by omega),g0,if_neg (by omega),hcsn,if_neg (by omega),kx];dsimp only;have hat:12+4*p.csrc.length+(extb p).length=(hb p).length:=hhl.symm;rw[hat];have hp:piece b (hb p).length p.pay.length=p.pay:=by rw[hbe,yaO,zfi rfl rfl]
 have hh:zoM b=⟨p.mark,p.typ,p.seq,p.ts,p.ssrc,[],0,[],0,[]⟩:=by
  unfold zoM;rw[g1,q1.1,q1.2,k1,k2,k3,htd]
 by_cases hc0:0<c
 ·have hlast:b.getD (b.length-1) 0=c:=by
   have e1:b=(hb p++p.pay++List.replicate (c-1) 0)++[c]:=by
    rw[hbe];unfold padb;rw[if_neg (by omega)];simp
   have e2:b.length-1=(hb p++p.pay++List.replicate (c-1) 0).length:=by
    rw[hbl];simp only[yag,yaH];omega
   have e3:b[(hb p++p.pay++List.replicate (c-1) 0).length]?=some c:=by
    generalize hb p++p.pay++List.replicate (c-1) 0=m at *;rw[e1];simp
   rw[e2,yan,e3];rfl
  rw[if_pos (q04.2 hc0),hlast,if_neg (by omega),hbl,show(hb p).length+p.pay.length+c-(hb p).length-c=p.pay.length by omega,hp,hh,kc,<-hcd]
 ·rw[if_neg (λe=>hc0 (q04.1 e)),hbl,show(hb p).length+p.pay.length+c-(hb p).length=p.pay.length by omega,hp,hh,kc];have:p.pad=0:=by omega
  rw[<-this]
end Go.Ax.R7
/- Rtp25 -/
namespace Go.Ax.R7
open Go.Ax
def bytes_8{p:Pkt}{b:List Nat}(h:bytes p = .ok b)(h1:Ok8 p.pay)(h2:∀x∈p.exts,Ok8 x.2):Ok8 b:=by
 obtain⟨hgd,hlen,rfl⟩:=bytes_good h;have hg:=zs3 hgd;obtain⟨⟨⟨ht0,ht1⟩,hcl,hpd0,hpd1⟩,hz0,hpf,hgx⟩:=id hg;have hx:Ok8 (extb p):=by
  unfold extb;split
  ·intro x hx;cases hx
  ·rename_i hz;have hpf':=hpf.resolve_left hz;intro x hx;simp only[yaN]at hx;rcases hx with(hx|hx)|hx
   ·exact bn_8 _ _ x hx
   ·exact bn_8 _ _ x hx
   ·unfold elems xsb at hx;rcases yaN.1 hx with hx|hx
    ·obtain⟨l,hl,hx⟩:=ycp.1 hx;obtain⟨y,hy,rfl⟩:=ya3.1 hl;have hgy:=hgx y hy;unfold xb at hx;rcases yaN.1 hx with hx|hx
     ·rcases hpf' with e|e
      ·rw[e]at hgy hx;have:=zql hgy;rw[if_pos rfl]at hx;simp only[yas]at hx;omega
      ·rw[e]at hgy hx;have:=zqk hgy;rw[if_neg (by decide)]at hx;simp only[yau,yaw,or_false]at hx;omega
     ·exact h2 y hy x hx
    ·have:=ybD hx;omega
 intro x hx';simp only[hb,hb0,yaN]at hx';rcases hx' with((((((h|h)|h)|h)|h)|h)|h)|h
 ·simp only[yau,yaw,or_false]at h;unfold b0 b1 at h;rcases h with rfl|rfl
  ·split<;>split<;>omega
  ·split<;>omega
 ·exact bn_8 _ _ x h
 ·exact bn_8 _ _ x h
 ·exact bn_8 _ _ x h
 ·unfold csb at h;obtain⟨l,hl,h⟩:=ycp.1 h;obtain⟨y,_,rfl⟩:=ya3.1 hl;exact bn_8 _ _ x h
 ·exact hx x h
 ·exact h1 x h
 ·unfold padb at h;split at h
  ·cases h
  ·rcases yaN.1 h with h|h
   ·have:=ybD h;omega
   ·simp only[yas]at h;omega
end Go.Ax.R7
namespace Go.Ax
open R7
end Go.Ax
/- St10 -/
namespace Go.Ax.SU
open Go.Ax Go.Proofs
structure AppS (lo:Nat) (P:Nat->Prop) (H:Heap) (v:V) (ls:List (List Nat)):Prop where
 ex:∃ws:List (List Nat×V),ws.map (·.1)=ls/\App zam 1 lo H v (ws.map (·.2)) ws.length/\∀w∈ws,By 0 H w.2 w.1/\∀id,w.2.pid=some id->v.pid≠some id/\P id
def AppS.nil{lo:Nat}{P:Nat->Prop}{H:Heap}:AppS lo P H .nils []:=⟨[],rfl,App.nil,λw h=>by cases h⟩
def AppS.grow{lo:Nat}{P:Nat->Prop}{H H':Heap}{v:V} {ls:List (List Nat)} (h:AppS lo P H v ls) (g:Grow H H'):AppS lo P H' v ls:=by
 obtain⟨ws,h1,h2,h3⟩:=h;exact⟨ws,h1,R7.App.keep h2 (g.keep lo),λw hw=>⟨(h3 w hw).1.ext g,(h3 w hw).2⟩⟩
def zp5{β:Type}{bytes lo:Nat}{P:Nat->Prop}{H:Heap}{x y bv:V} {ls:List (List Nat)} {b:List Nat} {f:V->M β} {Q:β->Heap->Prop} (hx:AppS lo P H x ls) (hlo:lo<=H.next) (hy:acells 1 H y=some ([bv],1)) (hbv:By 0 H bv b) (hd:∀id,bv.pid=some id->x.pid≠some id/\P id)
  (hb:(ls.length+1)*bytes<=140737488355328) (hm:ls.length+1<=140737488355328)
  (k:∀x' H',AppS lo P H' x' (ls++[b])->Step H H' x.pid.toList x'.pid.toList->Ok (f x') H' Q):Ok ((mappend zam 1 bytes x y).bind f) H Q:=by
 obtain⟨ws,rfl,h2,h3⟩:=hx;rw[yai]at hb hm;refine zij h2 hlo hy rfl hb hm λx' H' h s=>k x' H' ⟨ws++[(b,bv)],by simp,?_,?_⟩ s
 ·simpa using h
 ·have hpid:∀id,x'.pid=some id->x.pid=some id\/H.next<=id:=λid hi=>by
   rcases s.own id (by simp[hi]) with h|h
   ·exact .inl (by simpa [zbK]using h)
   ·exact .inr h.1
  have key:∀(u:V) (l:List Nat),By 0 H u l->(∀id,u.pid=some id->x.pid≠some id/\P id)->By 0 H' u l/\∀id,u.pid=some id->x'.pid≠some id/\P id:=by
   intro u l hu hn;refine⟨Lc.step hu s λid hi hF=>(hn id hi).1 (by simpa [zbK]using hF),λid hi=>⟨λhe=>?_,(hn id hi).2⟩⟩;rcases hpid id he with h|h
   ·exact(hn id hi).1 h
   ·have:=(hu.own id hi).2;omega
  intro w hw;rcases yaN.1 hw with hw|hw
  ·exact key _ _ (h3 w hw).1 (h3 w hw).2
  ·simp only[yas]at hw;subst hw;exact key _ _ hbv hd
def AppS.low{lo:Nat}{P:Nat->Prop}{H:Heap}{v:V} {ls:List (List Nat)} (h:AppS lo P H v ls) {i:Nat} (hi:v.pid=some i):lo<=i/\i<H.next:=by
 obtain⟨ws,h1,h2,h3⟩:=h;exact h2.lc.own i hi
def AppS.vlen{lo:Nat}{P:Nat->Prop}{H:Heap}{v:V} {ls:List (List Nat)} (h:AppS lo P H v ls):Ax.vlen v=some (.int .i64 (ls.length:Nat)):=by
 obtain⟨ws,rfl,h2,h3⟩:=h;rw[yai];exact h2.lc.vlen
def bind_pure'{α:Type}(x:M α):x.bind M.pure=x:=by
 funext H;unfold M.bind M.pure;cases x H with
 | none=>rfl
 | some q=>rfl
def zxu{bytes lo:Nat}{P:Nat->Prop}{H:Heap}{x y bv:V} {ls:List (List Nat)} {b:List Nat} (hc:H.Cl) (hx:AppS lo P H x ls) (hlo:lo<=H.next) (hy:acells 1 H y=some ([bv],1)) (hbv:By 0 H bv b) (hd:∀id,bv.pid=some id->x.pid≠some id/\P id)
  (hb:(ls.length+1)*bytes<=140737488355328) (hm:ls.length+1<=140737488355328):Ok (mappend zam 1 bytes x y) H λx' H'=>AppS lo P H' x' (ls++[b])/\Step H H' x.pid.toList x'.pid.toList/\H'.Cl:=by
 have h:Ok ((mappend zam 1 bytes x y).bind M.pure) H λx' H'=>AppS lo P H' x' (ls++[b])/\Step H H' x.pid.toList x'.pid.toList:=zp5 hx hlo hy hbv hd hb hm λx' H' h s=>zha ⟨h,s⟩;rw[bind_pure']at h;obtain⟨r,H',e,h1,h2⟩:=h;exact⟨r,H',e,h1,h2,(zk7 (G:=⟨0⟩) _ _ _ _ _ H r H' ⟨hc,yaI _⟩ e).2.cl⟩
def pcz(b:List Nat)(k:Nat):List (List Nat):=(List.range k).map λj=>(b.drop (100*j)).take 100
def ztN(b:List Nat)(k:Nat):pcz b (k+1)=pcz b k++[(b.drop (100*k)).take 100]:=by
 unfold pcz;rw[ycv,yaE];rfl
def pcsL(b:List Nat):List (List Nat):=pcz b ((b.length-1)/100)++[b.drop (100*((b.length-1)/100))]
def zqQ{H:Heap}{v:V}:acells 1 (H.new ⟨zam,[v],none⟩) (.sl H.next 0 1 (.fix 1))=some ([v],1):=by
 simp only[acells,rcells,zae,Option.bind_some];rfl
def grow_step{H H1 H':Heap}{F F':List Nat}(g:Grow H H1)(s:Step H1 H' F F')(hF:∀i∈F,H.next<=i):Grow H H':=
 ⟨yay g.next s.next,λi hi=>(s.same i (yak hi g.next) λe=>by have:=hF i e;omega).trans (g.same i hi)⟩
def ztM{lo:Nat}{H:Heap}{v:V}{b:List Nat}(hv:By lo H v b)(hl:b.length<=1048576) :
  Ok (sem T zeq [v]) H λr H'=>AppS H.next (λi=>v.pid=some i) H' r (pcsL b)/\Grow H H':=by
 refine zoz ?_;unfold zkR uR ug;have hvp:∀i,v.pid=some i->i<H.next:=λi hi=>(hv.own i hi).2;have loop:Ok (M.iter (zdZ (sem T) .nils) [v,.nils]) H λr H'=>∃v' x,r = .ex 0 [v',x]/\v'.pid=v.pid/\By lo H' v' (b.drop (100*((b.length-1)/100)))/\AppS H.next (λi=>v.pid=some i) H' x (pcz b ((b.length-1)/100))/\Grow H H':=by
  refine zaQ (λj L H'=>∃v' x,L=[v',x]/\v'.pid=v.pid/\By lo H' v' (b.drop (100*j))/\AppS H.next (λi=>v.pid=some i) H' x (pcz b j)/\Grow H H') ((b.length-1)/100) ?_ ?_ ?_
  ·exact⟨v,.nils,rfl,rfl,by simpa using hv,AppS.nil,Grow.refl _⟩
  ·rintro j L H1 hj ⟨v1,x1,rfl,p1,b1,a1,s1⟩;have n1:=s1.next;have hlen:(b.drop (100*j)).length=b.length-100*j:=yat;obtain⟨va,-,ha,-,hva,pa⟩:=by_slice b1 (x:=0) (y:=100) (by omega) (by omega) (by omega);have ha2:∀{k':IntKind},zat .sl 1 v1 none (some (.int k' 100)) none=some va:=ha rfl;obtain⟨vb,-,-,hb,hvb,pb⟩:=by_slice b1 (x:=100) (y:=((b.drop (100*j)).length:Nat)) (by omega) (by omega) (by omega);have hb2:∀{k':IntKind},zat .sl 1 v1 (some (.int k' 100)) none none=some vb:=hb rfl;have hvl:=b1.vlen;have hle:(100:Int)<((b.drop (100*j)).length:Nat):=by omega
   have e100:(100:Int).toNat=100:=rfl;have e0:(0:Int).toNat=0:=rfl;rw[e100,e0,yaC,ycl]at hva;rw[e100,yao,ybd,yal (by rw[yat,hlen];omega)]at hvb;have vc:=hva.cells1;have vo:=hva.okc;unfold zdZ uL uB uK uc ug;simp(disch:=omega)only[↓RD,RZ,eq_self,seval,hvl,hle,ha2,vc,vo];rw[za1];have s2:=Grow.new H1 ⟨zam,[va],none⟩;have hpz:(pcz b j).length=j:=by unfold pcz;rw[yai,ybg]
   refine zp5 (a1.grow s2) (by rw[zac];omega) zqQ ((hva.ext s2).low (yaI _)) (λi hi=>⟨λe=>?_,by rw[<-p1,<-pa];exact hi⟩) (by omega) (by omega) λx2 H2 a2 s3=>?_
   ·rw[pa,p1]at hi;have:=hvp i hi;have:=(a1.low e).1;omega
   have sT:Grow H H2:=grow_step (s1.trans s2) s3 λi hi=>(a1.low (by simpa [zbK]using hi)).1;simp(disch:=omega)only[↓RD,RZ,eq_self,seval,hb2];refine⟨vb,x2,rfl,pb.trans p1,?_,by rw[ztN];exact a2,sT⟩;have:By lo H2 vb (b.drop (100*j+100)):=Lc.step (hvb.ext s2) s3 λi hi e=>by
    rw[pb,p1]at hi;have:=hvp i hi;have:=(a1.low (by simpa [zbK]using e)).1;omega
   exact this
  ·rintro L H1 ⟨v1,x1,rfl,p1,b1,a1,s1⟩;have hlen:(b.drop (100*((b.length-1)/100))).length=b.length-100*((b.length-1)/100):=yat;have hvl:=b1.vlen;have hle:¬(100:Int)<((b.drop (100*((b.length-1)/100))).length:Nat):=by omega
   unfold zdZ uL uB uK uc ug;simp(disch:=omega)only[↓RD,RZ,eq_self,seval,hvl,hle,decide_eq_false hle];exact⟨v1,x1,rfl,p1,b1,a1,s1⟩
 refine zt0 (zao loop ?_);rintro _ H1 ⟨v1,x1,rfl,p1,b1,a1,s1⟩;have n1:=s1.next;have vc:=b1.cells1;have vo:=b1.okc;have hpz:(pcz b ((b.length-1)/100)).length=(b.length-1)/100:=by unfold pcz;rw[yai,ybg]
 show Ok _ H1 _;simp(disch:=omega)only[↓RD,RZ,eq_self,seval,vc,vo];rw[za1];have s2:=Grow.new H1 ⟨zam,[v1],none⟩;refine zp5 (a1.grow s2) (by rw[zac];omega) zqQ ((b1.ext s2).low (yaI _)) (λi hi=>⟨λe=>?_,by rw[<-p1];exact hi⟩) (by omega) (by omega) λx2 H2 a2 s3=>?_
 ·rw[p1]at hi;have:=hvp i hi;have:=(a1.low e).1;omega
 simp(disch:=omega)only[↓RD,RZ,eq_self,seval];exact⟨a2,grow_step (s1.trans s2) s3 λi hi=>(a1.low (by simpa [zbK]using hi)).1⟩
structure KeepB (lo:Nat) (S:List Nat) (H H':Heap):Prop where
 next:H.next<=H'.next
 same:∀i,i<lo->i∉S->H'.get i=H.get i
def KeepB.refl(lo:Nat)(S:List Nat)(H:Heap):KeepB lo S H H:=⟨yaj _,λ_ _ _=>rfl⟩
def KeepB.trans{lo:Nat}{S:List Nat}{H H1 H2:Heap}(h:KeepB lo S H H1)(k:KeepB lo S H1 H2):KeepB lo S H H2:=⟨yay h.next k.next,λi hi hn=>(k.same i hi hn).trans (h.same i hi hn)⟩
def KeepB.ofAtS{lo:Nat}{S S':List Nat}{H H':Heap}(h:AtS S' H H')(hl:lo<=H.next)(hs:∀i∈S',i∈S\/lo<=i):KeepB lo S H H':=⟨h.next,λi hi hn=>h.same i (by omega) λe=>by rcases hs i e with h|h;exact hn h;omega⟩
def KeepB.ofGrow{lo:Nat}{S:List Nat}{H H':Heap}(h:Grow H H')(hl:lo<=H.next):KeepB lo S H H':=⟨h.next,λi hi hn=>h.same i (by omega)⟩
def AppS.keepB{lo l0:Nat}{P:Nat->Prop}{S:List Nat}{H H':Heap}{v:V} {ls:List (List Nat)} (h:AppS lo P H v ls) (hl:H.next<=l0) (k:KeepB l0 S H H') (hv:∀i,v.pid=some i->i∉S) (hP:∀i,P i->i∉S):AppS lo P H' v ls:=by
 obtain⟨ws,h1,h2,h3⟩:=h;refine⟨ws,h1,?_,λw hw=>⟨?_,(h3 w hw).2⟩⟩
 ·have ho:=h2.lc.own;generalize hcs:ws.map (·.2)=cs at h2;generalize ws.length=m at h2;cases h2 with
  | opn h ho=>exact .opn (h.to λi hi=>k.same i (yak (ho i hi).2 hl) (hv i hi)) λi hi=>⟨(ho i hi).1,yak (ho i hi).2 k.next⟩
  | lit h h0 h1=>exact .lit (by rw[k.same _ (by omega) (hv _ rfl),h]) h0 (yak h1 k.next)
 ·have hb:=(h3 w hw).1;exact⟨by rw[zcZ λi hi=>k.same i (yak (hb.own i hi).2 hl) (hP i ((h3 w hw).2 i hi).2)];exact hb.rc,λi hi=>⟨(hb.own i hi).1,yak (hb.own i hi).2 k.next⟩,hb.cap⟩
def AppS.at{lo:Nat}{P:Nat->Prop}{H:Heap}{v:V} {ls:List (List Nat)} (h:AppS lo P H v ls) {i:Nat} (hi:i<ls.length):∃p bv,(∀{k:IntKind},Ax.iaddr none 1 v (.int k i)=some p)/\Pl H p [bv] v.pid/\By 0 H bv ls[i]/\∀id,bv.pid=some id->v.pid≠some id/\P id:=by
 obtain⟨ws,rfl,h2,h3⟩:=h;rw[yai]at hi;obtain⟨p,hp,hl⟩:=h2.lc.at (i:=(i:Nat)) (by omega) (by omega);have e:((ws.map (·.2)).drop (i*1)).take 1=[ws[i].2]:=by
  rw[ya9,yaP (by rw[yai];exact hi),ybH];rfl
 rw[yao,e]at hl;have h4:=h3 _ (yaW hi);refine⟨p,ws[i].2,hp,?_,?_,h4.2⟩
 ·simpa using hl
 ·simpa using h4.1
def pktF(mk:Bool)(q ts ssrc:Nat)(dd pay:List Nat):R7.Pkt:=⟨mk,96,q,ts,ssrc,[],48862,[(1,dd)],0,pay⟩
def zw7{mk:Bool}{q ts ssrc:Nat}{dd pay:List Nat}(h1:1<=dd.length)(h2:dd.length<=16)(hp:pay.length<=1000):R7.bytes (pktF mk q ts ssrc dd pay) = .ok (R7.hb (pktF mk q ts ssrc dd pay)++pay):=by
 have hg:R7.good (pktF mk q ts ssrc dd pay)=true:=by
  simp[R7.good,pktF,R7.goodX,h1,h2]
 have hx:(R7.xsb (pktF mk q ts ssrc dd pay)).length=1+dd.length:=by
  simp[R7.xsb,pktF,R7.xb];omega
 have hl:(R7.hb (pktF mk q ts ssrc dd pay)).length<=100:=by
  unfold R7.hb R7.extb R7.elems;rw[yag,R7.hb0_len,if_neg (by show ¬((48862:Int)=0);decide)];simp only[yag,yaH,hx,R7.bn_len];have:R7.padn (1+dd.length)<=3:=by unfold R7.padn;omega
  show 12+4*0 + _<=100;omega
 unfold R7.bytes;rw[if_neg (by rw[hg];decide),if_neg (by show ¬(1200 < _+pay.length+(0:Int).toNat);have:(0:Int).toNat=0:=rfl;omega)];congr 1;show _++pay++R7.padb 0 = _;rw[show R7.padb 0=[] from rfl,yaK]
def exs_1{H:Heap}{x:Nat}{bv:V}{b:List Nat} (g:H.get x=some ⟨zaS,[.int .i64 1,bv],none⟩) (hx:x<H.next) (hb:By 0 H bv b):R7.Exs 0 H (.sl x 0 1 (.fix 1)) [(1,b)]:=by
 refine⟨[((1,b),bv)],rfl,⟨?_,λi hi=>?_,yaj _⟩,λw hw=>?_⟩
 ·simp only[rcells,g,Option.bind_some];rfl
 ·injection hi with hi;subst hi;exact⟨yaI _,hx⟩
 ·simp only[yas]at hw;subst hw;exact hb
def wq(n:Nat):WS:=if n=0 then (false,0,0) else (true,n-1,2 ^ n-1)
def wq_all:((List.range 60).all λn=>(mayW (wq n) n==0)&&decide (zhY (wq n) n=wq (n+1)))=true:=by kernel_rfl
def wq_n{n:Nat}(h:n<60):mayW (wq n) n=0/\zhY (wq n) n=wq (n+1):=by
 have:=yaL.1 wq_all n (ya2.2 h);simp only[yam,beq_iff_eq,decide_eq_true_eq]at this;exact this
structure Rdy (R:Rc) (n t:Nat) (K:Ky) (e st sl c:Nat):Prop where
 kid:K.kid=256*e+8*st+sl
 e0:e<65536
 st0:st<32
 sl0:sl<8
 ch:∃s0 base,look ((e:Int),(sl:Int)) R.ch=some (s0,base)/\s0<=st/\keyR R n t K.kid (zeI base (st-s0))=K
 win:winR R K.kid=wq c
def gotR(R:Rc)(n t:Nat)(K:Ky)(e st sl c:Nat):Rc:={ zfU R n t K.kid (zeI ((look ((e:Int),(sl:Int)) R.ch).getD (0,[])).2 (st-((look ((e:Int),(sl:Int)) R.ch).getD (0,[])).1)) with win:=putl K.kid (wq (c+1)) R.win }
def ztW{R:Rc}{n t e st sl c:Nat}{K:Ky}(h:Rdy R n t K e st sl c)(hc:c<60)(ht:K.t<=32){p:List Nat}(hp:p.length<=1000) :
  zfT R n t [] (zcr K c [] p)=(gotR R n t K e st sl c,.got e st sl c p)/\Rdy (gotR R n t K e st sl c) n t K e st sl (c+1)/\(gotR R n t K e st sl c).id=R.id/\(gotR R n t K e st sl c).ch=R.ch:=by
 obtain⟨hkid,h1,h2,h3,⟨s0,base,hl,hs,hk⟩,hw⟩:=h;have hpar:parse (zcr K c [] p) = .ok K.kid c (hdr K.kid c).length:=by
  unfold zcr;rw[yaO];exact zri (by omega) (by omega) _
 obtain⟨w1,w2⟩:=wq_n hc;have hgr:gotR R n t K e st sl c = { zfU R n t K.kid (zeI base (st-s0)) with win:=putl K.kid (wq (c+1)) R.win }:=by
  unfold gotR;rw[hl];rfl
 refine⟨?_,⟨hkid,h1,h2,h3,⟨s0,base,?_,hs,?_⟩,?_⟩,?_,?_⟩
 ·unfold zfT;rw[hpar];dsimp only;rw[if_neg (by omega),show K.kid/256=e by omega,show K.kid%8=sl by omega,show K.kid%256/8=st by omega,hl];dsimp only;rw[if_neg (by omega),hw,w1,if_neg (λh=>h rfl),hk,zrm ht (by omega) (by omega) hp];dsimp only;rw[w2,hgr]
 ·rw[hgr];show look _ (zfU R n t K.kid _).ch = _;rw[zue];exact hl
 ·rw[hgr];unfold keyR at hk ⊢;show(look K.kid (zfU R n t K.kid (zeI base (st-s0))).ks).getD (drv (zfU R n t K.kid (zeI base (st-s0))).id K.kid n t _)=K;rw[zud];unfold zfU;cases hq:look K.kid R.ks with
  | some k=>rw[hq]at hk;dsimp only;rw[hq];exact hk
  | none=>
   rw[hq]at hk;dsimp only;rw[zt7,if_pos rfl];exact hk
 ·rw[hgr];show(look K.kid (putl K.kid (wq (c+1)) R.win)).getD _ = _;rw[zt7,if_pos rfl];rfl
 ·rw[hgr];exact zud _ _ _ _ _
 ·rw[hgr];exact zue _ _ _ _ _
def gotN(R:Rc)(n t:Nat)(K:Ky)(e st sl c:Nat):Nat->Rc
 | 0=>R
 | k+1=>gotR (gotN R n t K e st sl c k) n t K e st sl (c+k)
def rdy_n{R:Rc}{n t e st sl c:Nat}{K:Ky}(h:Rdy R n t K e st sl c)(ht:K.t<=32):∀k,c+k<=60->Rdy (gotN R n t K e st sl c k) n t K e st sl (c+k)/\(gotN R n t K e st sl c k).id=R.id/\(gotN R n t K e st sl c k).ch=R.ch
 | 0,_=>⟨h,rfl,rfl⟩
 | k+1,hk=>by
  obtain⟨h1,h2,h3⟩:=rdy_n h ht k (by omega);obtain⟨-,h4,h5,h6⟩:=ztW h1 (by omega) ht (p:=[]) (by decide);exact⟨h4,h5.trans h2,h6.trans h3⟩
def zw6{mk:Bool}{q ts ssrc:Nat}{dd pay:List Nat}(h1:1<=dd.length)(h2:dd.length<=16)(hp:pay.length<=1000)(p8:Ok8 pay)(d8:Ok8 dd)(hq:q<65536)(hts:ts<4294967296)(hss:ssrc<4294967296) :
  R7.parse (R7.hb (pktF mk q ts ssrc dd pay)++pay) = .ok (pktF mk q ts ssrc dd pay)/\Ok8 (R7.hb (pktF mk q ts ssrc dd pay)++pay)/\(R7.hb (pktF mk q ts ssrc dd pay)++pay).length<=1200:=by
 have hb:=zw7 (mk:=mk) (q:=q) (ts:=ts) (ssrc:=ssrc) h1 h2 hp;refine⟨R7.parse_bytes hb ⟨by show((q:Nat):_) < _;omega,by show((ts:Nat):_) < _;omega,by show((ssrc:Nat):_) < _;omega,λx hx=>by cases hx⟩,R7.bytes_8 hb p8 (λx hx=>?_),?_⟩
 ·have:x=(1,dd):=by simpa [pktF]using hx
  subst this;exact d8
 ·obtain⟨-,hl,-⟩:=R7.bytes_good hb;simp only[pktF]at hl ⊢;rw[yag];have:(0:Int).toNat=0:=rfl;omega
def ztO(b:List Nat):∀k,(pcz b k).flatten=b.take (100*k)
 | 0=>by simp[pcz]
 | k+1=>by
  rw[ztN,ybz,ztO b k];simp only[ybi,ycq,yaK];rw[show 100*(k+1)=100*k+100 by omega,ydA]
def zrh(b:List Nat):(pcsL b).flatten=b:=by
 unfold pcsL;rw[ybz,ztO];simp
def pl_one{H:Heap}{p bv:V}{own:Option Nat} (h:Pl H p [bv] own):LdR none H p bv:=λf Q=>by rw[h.ld0 (by simp)];exact zpE
def By.not_u8{lo:Nat}{H:Heap}{v:V}{l:List Nat}(h:By lo H v l):∀n,v≠.int .u8 n:=λn e=>by
 have:=h.rc;rw[e]at this;cases this
def AppS.odd{lo:Nat}{P:Nat->Prop}{H:Heap}{v:V} {ls:List (List Nat)} (h:AppS lo P H v ls):∀i,v.pid=some i->∃b,H.get i=some b/\Odd b:=λi hi=>by
 obtain⟨ws,h1,h2,h3⟩:=h;generalize hcs:ws.map (·.2)=cs at h2;generalize ws.length=m at h2;have hcell:∀w∈cs,∀n,w≠.int .u8 n:=λw hw=>by
  rw[<-hcs]at hw;obtain⟨u,hu,rfl⟩:=ya3.1 hw;exact By.not_u8 (h3 u hu).1
 cases h2 with
 | opn h ho=>
  rcases h with⟨rfl,_⟩|⟨j,rfl,hg,_⟩
  ·cases hi
  ·injection hi with hi
   subst hi;exact⟨_,hg,by show zam≠_;decide,by show zam≠_;decide,by show zam≠_;decide,hcell⟩
 | lit h h0 h1=>
  injection hi with hi
  subst hi;exact⟨_,h,by show zam≠_;decide,by show zam≠_;decide,by show zam≠_;decide,λw hw=>by cases hw⟩
set_option maxHeartbeats 4000000 in
def fbody{s sn fq a id sl f q n j ts ssrc:Nat}{W:Nat->V}{sv rv rcv pl ov:V}{o st en nw nw':Bool}{idv fnv x1 x2 x3 x4 x5 x6 z1 z2 z3 z4 z5 z6 y1 y2 y3:V}{lp lo:Nat}{P:Nat->Prop} {ls out:List (List Nat)} {dd:List Nat} {L:List (Nat×Blk)} {H:Heap} {K:Ky} {se ss c:Nat}
  (hc:H.Cl) (hg:H.get s=some ⟨zaj,stX a id sv rv W (.ptr sn 0) rcv f q true o,none⟩)
  (hs:SndM (s+1) H sn (id:Nat) (sl:Nat) (some (K,(se:Nat),(ss:Nat),c)))
  (hf:H.get fq=some ⟨zaK,[.bool st,.bool en,idv,fnv,.bool nw,x1,x2,x3,x4,x5,x6,.bool false,.int .u32 0,.bool false,.bool false,.bool false,y1,y2,y3],none⟩)
  (hp:AppS lp P H pl ls) (hn:ls.length=n) (hn8:n<=1000) (hj:j<n) (h8:∀l∈ls,Ok8 l/\l.length<=100)
  (ns:sn≠s) (nf:sn≠fq) (sf:s≠fq) (hl:Has H L) (hlf:fq∉L.map Prod.fst) (hls:s∉L.map Prod.fst) (hln:sn∉L.map Prod.fst)
  (ho:AppS lo (λi=>lo<=i) H ov out) (hlo:lo<=H.next) (hos:∀i,i=s\/i=sn\/i=fq->i<lo) (hout:out.length<=1000)
  (hx8:∀v∈[idv,fnv,x1,x2,x3,x4,x5,x6,y1,y2,y3],∀n,v≠.int .u8 n) (hq:q<65535) (hts:ts<4294967296) (hsr:ssrc<4294967296) (hKt:K.t<=32) (hKw:∀w∈K.ws,Word w)
  (hz:(j=0/\nw'=nw/\[z1,z2,z3,z4,z5,z6]=[x1,x2,x3,x4,x5,x6])\/(0<j/\nw'=false/\[z1,z2,z3,z4,z5,z6]=nS))
  (hss:∀{H:Heap},H.get s=some ⟨zaj,stX a id sv rv W (.ptr sn 0) rcv f q true o,none⟩->Ok (sem T za4 [.ptr s 0,.int .i64 0]) H λv H'=>v = .int .u32 (ssrc:Nat)/\H'=H)
  (hd1:1<=dd.length) (hd2:dd.length<=16)
  (hdd:∀{H:Heap} {k':Nat},H.Cl->Has H L->(∀i∈L.map Prod.fst,i<k')->Has H (strL k')->Ok (sem T za2 [.agg [.bool (decide (j=0)),.bool (decide (j+1=n)),idv,fnv,.bool nw',z1,z2,z3,z4,z5,z6,.bool false,.int .u32 0,.bool false,.bool false,.bool false,y1,y2,y3],.agg (strV k')]) H λr H'=>∃v,r = .tup [v,.int .i64 0]/\By H.next H' v dd/\Grow H H'/\H'.Cl) :
  Ok (zb1 (sem T) (.int .i64 (n:Nat)) pl pl (.ptr fq 0) (.int .u32 (ts:Nat)) (.ptr s 0) (.int .i64 0) (.ptr s 24) [ov,.int .i64 (j:Nat)]) H λr H'=>∃ov',r = .nrm [ov',.int .i64 ((j:Nat)+1)] /\
   H'.get s=some ⟨zaj,stX a id sv rv W (.ptr sn 0) rcv f (q+1) true o,none⟩ /\
   SndM (s+1) H' sn (id:Nat) (sl:Nat) (some (K,(se:Nat),(ss:Nat),(c+1)%18446744073709551616)) /\
   H'.get fq=some ⟨zaK,[.bool (decide (j=0)),.bool (decide (j+1=n)),idv,fnv,.bool nw',z1,z2,z3,z4,z5,z6,.bool false,.int .u32 0,.bool false,.bool false,.bool false,y1,y2,y3],none⟩ /\
   AppS lo (λi=>lo<=i) H' ov' (out++[R7.hb (pktF (decide (j+1=n)) q ts ssrc dd (zcr K c [] (ls[j]'(by omega))))++zcr K c [] (ls[j]'(by omega))]) /\
   KeepB lo [s,sn,fq] H H'/\H'.Cl:=by
 have ls':=zcd hc hg;have lf:=zcd hc hf;have lsn:=hs.1;have hlt:((j:Nat):Int)<(n:Nat):=by omega
 obtain⟨p,bv,hp1,hp2,hbv,hpd⟩:=hp.at (i:=j) (by omega);have ld:=pl_one hp2;have h8j:=h8 _ (yaW (by omega:j<ls.length));unfold zb1 uL uM uS uT uF uNFM uNF uE uB uIM uO uU uA uZ uR uK uc ug;have hg':=hg;unfold stX at hg';simp(maxSteps:=1000000) (disch:=first|omega|(simp only[RY]<;>omega)|decide)only[↓RD,RZ,eq_self,Int.reduceToNat,Int.reduceAdd,Int.reduceSub,Int.reduceMul,Nat.reduceAdd,Nat.reduceSub,Nat.reduceMul,Nat.reduceDiv,Nat.reduceMod,Nat.reduceBEq,Nat.reduceLeDiff,hlt,hp1,ld,hg'];rw[za1];refine zaf (zkq hc (SealS_ok hs (Lc.nil:By 0 _ .nils []) Ok8.nil hbv h8j.1 (by decide) (by omega))) ?_;rintro r1 H1 ⟨⟨hs1,a1,h1⟩,c1⟩;have hne:¬1000<ls[j].length:=by omega
 dsimp only at h1;rw[if_neg hne]at h1;obtain⟨v1,rfl,hv1⟩:=h1;unfold sealS at hs1;dsimp only at hs1;rw[if_neg hne]at hs1;have n1:=a1.next;have g1f:=(a1.same fq lf (by simp;exact nf.symm)).trans hf;have g1s:=(a1.same s ls' (by simp;exact ns.symm)).trans hg;have hpv:=hp.vlen;rw[hn]at hpv;have w:IntKind.i64.wrap (((n:Nat):Int)-1)=(n:Nat)-1:=wrap_i64 (by omega) (by omega);have d1:(((j:Nat):Int)==((n:Nat):Int)-1)=decide (j+1=n):=by
  rw[yc2];simp;omega
 have hsl:(zcr K c [] ls[j]).length<=1000:=by
  rw[zi2 hKt];have:=znF K.kid c;omega
 have hs8:Ok8 (zcr K c [] ls[j]):=ztD hKw h8j.1;generalize zcr K c [] ls[j]=sealed at *;have wj:IntKind.i64.wrap (((j:Nat):Int)+1)=(j:Nat)+1:=wrap_i64 (by omega) (by omega);have wq:IntKind.u16.wrap (((q:Nat):Int)+1)=((q+1:Nat):Int):=by rw[wrap_u16];omega
 have hodd1:∃b,H1.get fq=some b/\Odd b:=⟨_,g1f,by show zaK≠_;decide,by show zaK≠_;decide,by show zaK≠_;decide,by
  intro v hv;simp only[yau,yaw,or_false]at hv hx8;rcases hv with rfl|rfl|h|h|rfl|h|h|h|h|h|h|rfl|rfl|rfl|rfl|rfl|h|h|h<;>first|(intro n e;cases e;done)|exact hx8 v (by simp[h])⟩
 rcases hz with⟨hj0,rfl,hz⟩|⟨hj0,rfl,hz⟩
 all_goals
  simp only[nS,ybO,and_true]at hz;obtain⟨e1,e2,e3,e4,e5,e6⟩:=hz;subst e1 e2 e3 e4 e5 e6
 case inl=>
  have hjn:¬(0:Int)<(j:Nat):=by omega
  have d0:(((j:Nat):Int)==0)=decide (j=0):=by rw[yc2];simp
  simp(maxSteps:=1000000) (disch:=first|omega|(simp only[RY]<;>omega)|decide)only[↓RD,RZ,eq_self,Int.reduceToNat,Int.reduceAdd,Int.reduceSub,Int.reduceMul,Nat.reduceAdd,Nat.reduceSub,Nat.reduceMul,Nat.reduceDiv,Nat.reduceMod,Nat.reduceBEq,Nat.reduceLeDiff,g1f,hpv,zbx,d0,d1,w,hjn,decide_eq_false hjn];rw[za1];generalize hX:Heap.set H1 fq _=H2;have g2f:H2.get fq=some ⟨zaK,[.bool (decide (j=0)),.bool (decide (j+1=n)),idv,fnv,.bool nw',z1,z2,z3,z4,z5,z6,.bool false,.int .u32 0,.bool false,.bool false,.bool false,y1,y2,y3],none⟩:=by rw[<-hX];exact zah _ _ _
  have a2:AtS [fq] H1 H2:=by rw[<-hX];exact AtS.set _ (by simp) _
  have n2:H2.next=H1.next:=by rw[<-hX];rfl
  have c2:H2.Cl:=by rw[<-hX];exact zc6 c1 (by omega) _
  clear hX;have g2s:=(a2.same s (by omega) (by simp;exact sf)).trans g1s;have hs2:=hs1.atS a2 (by simp;exact nf) (by intro i hi;rw[yas]at hi;subst hi;exact hodd1);have hl2:=(hl.atS hc a1 (by intro i hi;rw[yas]at hi;subst hi;exact hln)).atS c1 a2 (by intro i hi;rw[yas]at hi;subst hi;exact hlf);refine zaf (zie c2) ?_;rintro _ H3 ⟨k',rfl,lk,hk,s3,c3⟩;have n3:=s3.next;have g3f:=(s3.same fq (by omega)).trans g2f;have g3s:=(s3.same s (by omega)).trans g2s;have hl3:=hl2.grow c2 s3;simp(maxSteps:=1000000) (disch:=first|omega|(simp only[RY]<;>omega)|decide)only[↓RD,RZ,eq_self,Int.reduceToNat,Int.reduceAdd,Int.reduceSub,Int.reduceMul,Nat.reduceAdd,Nat.reduceSub,Nat.reduceMul,Nat.reduceDiv,Nat.reduceMod,Nat.reduceBEq,Nat.reduceLeDiff,g2f,g3f];refine zaf (hdd c3 hl3 (λi hi=>by have:=hl2.lt c2 i hi;omega) hk) ?_;rintro _ H4 ⟨ddv,rfl,hd4,s4,c4⟩;have n4:=s4.next;have g4f:=(s4.same fq (by omega)).trans g3f;have g4s:=(s4.same s (by omega)).trans g3s;have g4s':=g4s;unfold stX at g4s';have dc:=hd4.cells1;have dk:=hd4.okc;have vc:=hv1.cells1;have vk:=hv1.okc;simp(maxSteps:=1000000) (disch:=first|omega|(simp only[RY]<;>omega)|decide)only[↓RD,RZ,eq_self,Int.reduceToNat,Int.reduceAdd,Int.reduceSub,Int.reduceMul,Nat.reduceAdd,Nat.reduceSub,Nat.reduceMul,Nat.reduceDiv,Nat.reduceMod,Nat.reduceBEq,Nat.reduceLeDiff,g4f,g4s',dc,dk];refine zaf (hss g4s) ?_;rintro _ H4b ⟨rfl,e4⟩;rw[e4];clear e4 H4b;have l4:s<H4.next:=by omega
  have l4':fq<H4.next:=by omega
  simp(maxSteps:=1000000) (disch:=first|omega|(simp only[RY]<;>omega)|decide)only[↓RD,RZ,eq_self,Int.reduceToNat,Int.reduceAdd,Int.reduceSub,Int.reduceMul,Nat.reduceAdd,Nat.reduceSub,Nat.reduceMul,Nat.reduceDiv,Nat.reduceMod,Nat.reduceBEq,Nat.reduceLeDiff,g4f,g4s',dc,dk,vc,vk,wq,zbx];rw[za1];have hs4:=(hs2.grow s3).grow s4;have hv2:=((Lc.atS hv1 a2 (λi hi=>by simp only[yas];have:=(hv1.own i hi).1;omega)).ext s3).ext s4;generalize hX:Heap.set (Heap.set (Heap.new (Heap.new H4 _) _) _ _) s _=H5;have n5:H5.next=H4.next+2:=by rw[<-hX];rfl
  have g5s:H5.get s=some ⟨zaj,stX a id sv rv W (.ptr sn 0) rcv f (q+1) true o,none⟩:=by rw[<-hX];exact zah _ _ _
  have a5:AtS [s] H4 H5:=by rw[<-hX];exact(Grow.atS (((Grow.new _ _).trans (Grow.new _ _)).set (by omega) _) _).trans (AtS.set _ (by simp) _)
  have g5x:H5.get H4.next=some ⟨zaS,[.int .i64 1,ddv],none⟩:=by rw[<-hX,zai _ _ (by omega),zai _ _ (by omega),zas _ _ (by rw[zac];omega)];exact zae _ _
  have c5:H5.Cl:=by rw[<-hX];exact zc6 (zc6 (zeY (zeY c4 _) _) (by rw[zac,zac];omega) _) (by rw[zal,zac,zac];omega) _
  clear hX;have g5f:=(a5.same fq l4' (by simp;exact sf.symm)).trans g4f;have hs5:=hs4.atL a5 (by simp;exact ns) (by intro i hi;rw[yas]at hi;subst hi;exact⟨by omega,_,g4s,by show zaj≠_;decide,by show zaj≠_;decide,by show zaj≠_;decide⟩);have hv5:=Lc.atS hv2 a5 (λi hi=>by simp only[yas];have:=(hv2.own i hi).1;omega);have hd5:=Lc.atS hd4 a5 (λi hi=>by simp only[yas];have:=(hd4.own i hi).1;omega);refine zaf (zkq c5 (R7.Bytes_ok (lo:=0) (p:=pktF (decide (j+1=n)) q ts ssrc dd sealed) ⟨.nils,_,v1,rfl,Lc.nil,exs_1 g5x (by omega) (hd5.low (yaI _)),hv5.low (yaI _)⟩ ⟨by show 0<=_;omega,by show 1<=_;omega,by show sealed.length<=_;omega,by intro x hx;rw[show(pktF (decide (j+1=n)) q ts ssrc dd sealed).exts=[(1,dd)] from rfl,yas]at hx;subst hx;show dd.length<=_;omega⟩ ⟨by show q<65536;omega,hts,hsr,by intro x hx;cases hx⟩)) ?_;rintro r6 H6 ⟨⟨s6,h6⟩,c6⟩;rw[zw7 hd1 hd2 hsl]at h6;obtain⟨wv,rfl,hw⟩:=h6;have n6:=s6.next;have wc:=hw.cells1;have wo:=hw.okc;simp(maxSteps:=1000000) (disch:=first|omega|(simp only[RY]<;>omega)|decide)only[↓RD,RZ,eq_self,Int.reduceToNat,Int.reduceAdd,Int.reduceSub,Int.reduceMul,Nat.reduceAdd,Nat.reduceSub,Nat.reduceMul,Nat.reduceDiv,Nat.reduceMod,Nat.reduceBEq,Nat.reduceLeDiff,wc,wo];rw[za1];have s7:=Grow.new H6 ⟨zam,[wv],none⟩;have k6:KeepB H.next [s,sn,fq] H H6:=(((((KeepB.ofAtS a1 (yaj _) (by simp)).trans (KeepB.ofAtS a2 (by omega) (by simp))).trans (KeepB.ofGrow s3 (by omega))).trans (KeepB.ofGrow s4 (by omega))).trans (KeepB.ofAtS a5 (by omega) (by simp))).trans (KeepB.ofGrow s6 (by omega));have ho6:=ho.keepB (yaj _) k6 (λi hi=>by have h1:=(ho.low hi).1;have:=hos i;simp only[yau,yaw,or_false];omega) (λi hi=>by have hi:lo<=i:=hi;have:=hos i;simp only[yau,yaw,or_false];omega);refine zaf (zxu (zeY c6 _) (ho6.grow s7) (by rw[zac];omega) zqQ ((hw.ext s7).low (yaI _)) (λi hi=>⟨λe=>?_,?_⟩) (by omega) (by omega)) ?_
  ·have h1:=(hw.own i hi).1;have:=(ho.low e).2;omega
  ·have h1:=(hw.own i hi).1;show lo<=i;omega
  rintro ov' H8 ⟨ho8,s8,c8⟩;have hF:∀i∈ov.pid.toList,lo<=i/\i<H.next:=λi hi=>ho.low (by simpa [zbK]using hi);have hF':∀i,i<lo->i∉ov.pid.toList:=λi hi e=>by have:=(hF i e).1;omega
  have t8:∀i,i<lo->H8.get i=H6.get i:=λi hi=>(s8.same i (by rw[zac];omega) (hF' i hi)).trans (s7.same i (by omega));have os1:=hos s (.inl rfl);have os2:=hos sn (.inr (.inl rfl));have os3:=hos fq (.inr (.inr rfl));have hs7:=(hs5.grow s6).grow s7;have hs8':=hs7.atS (S:=ov.pid.toList) ⟨s8.next,λi hi hn=>s8.same i hi hn⟩ (hF' sn os2) (λi hi=>(ho6.grow s7).odd i (by simpa [zbK]using hi));simp(maxSteps:=1000000) (disch:=first|omega|(simp only[RY]<;>omega)|decide)only[↓RD,RZ,eq_self,Int.reduceToNat,Int.reduceAdd,Int.reduceSub,Int.reduceMul,Nat.reduceAdd,Nat.reduceSub,Nat.reduceMul,Nat.reduceDiv,Nat.reduceMod,Nat.reduceBEq,Nat.reduceLeDiff,wj];refine⟨ov',rfl,(t8 s os1).trans ((s6.same s (by omega)).trans g5s),hs8',(t8 fq os3).trans ((s6.same fq (by omega)).trans g5f),ho8,⟨by have:=s8.next;rw[zac]at this;omega,λi hi hn=>(t8 i hi).trans (k6.same i (by omega) hn)⟩,c8⟩
 case inr=>
  have hjn:(0:Int)<(j:Nat):=by omega
  have d0:(((j:Nat):Int)==0)=decide (j=0):=by rw[yc2];simp
  simp(maxSteps:=1000000) (disch:=first|omega|(simp only[RY]<;>omega)|decide)only[↓RD,RZ,eq_self,Int.reduceToNat,Int.reduceAdd,Int.reduceSub,Int.reduceMul,Nat.reduceAdd,Nat.reduceSub,Nat.reduceMul,Nat.reduceDiv,Nat.reduceMod,Nat.reduceBEq,Nat.reduceLeDiff,g1f,hpv,zbx,d0,d1,w,hjn,decide_eq_true hjn];rw[za1];generalize hX:Heap.set H1 fq _=H2;have g2f:H2.get fq=some ⟨zaK,[.bool (decide (j=0)),.bool (decide (j+1=n)),idv,fnv,.bool false,.int .i64 0,.int .i64 0,.nils,.int .i64 0,.nils,.nils,.bool false,.int .u32 0,.bool false,.bool false,.bool false,y1,y2,y3],none⟩:=by rw[<-hX];exact zah _ _ _
  have a2:AtS [fq] H1 H2:=by rw[<-hX];exact AtS.set _ (by simp) _
  have n2:H2.next=H1.next:=by rw[<-hX];rfl
  have c2:H2.Cl:=by rw[<-hX];exact zc6 c1 (by omega) _
  clear hX;have g2s:=(a2.same s (by omega) (by simp;exact sf)).trans g1s;have hs2:=hs1.atS a2 (by simp;exact nf) (by intro i hi;rw[yas]at hi;subst hi;exact hodd1);have hl2:=(hl.atS hc a1 (by intro i hi;rw[yas]at hi;subst hi;exact hln)).atS c1 a2 (by intro i hi;rw[yas]at hi;subst hi;exact hlf);refine zaf (zie c2) ?_;rintro _ H3 ⟨k',rfl,lk,hk,s3,c3⟩;have n3:=s3.next;have g3f:=(s3.same fq (by omega)).trans g2f;have g3s:=(s3.same s (by omega)).trans g2s;have hl3:=hl2.grow c2 s3;simp(maxSteps:=1000000) (disch:=first|omega|(simp only[RY]<;>omega)|decide)only[↓RD,RZ,eq_self,Int.reduceToNat,Int.reduceAdd,Int.reduceSub,Int.reduceMul,Nat.reduceAdd,Nat.reduceSub,Nat.reduceMul,Nat.reduceDiv,Nat.reduceMod,Nat.reduceBEq,Nat.reduceLeDiff,g2f,g3f];refine zaf (hdd c3 hl3 (λi hi=>by have:=hl2.lt c2 i hi;omega) hk) ?_;rintro _ H4 ⟨ddv,rfl,hd4,s4,c4⟩;have n4:=s4.next;have g4f:=(s4.same fq (by omega)).trans g3f;have g4s:=(s4.same s (by omega)).trans g3s;have g4s':=g4s;unfold stX at g4s';have dc:=hd4.cells1;have dk:=hd4.okc;have vc:=hv1.cells1;have vk:=hv1.okc;simp(maxSteps:=1000000) (disch:=first|omega|(simp only[RY]<;>omega)|decide)only[↓RD,RZ,eq_self,Int.reduceToNat,Int.reduceAdd,Int.reduceSub,Int.reduceMul,Nat.reduceAdd,Nat.reduceSub,Nat.reduceMul,Nat.reduceDiv,Nat.reduceMod,Nat.reduceBEq,Nat.reduceLeDiff,g4f,g4s',dc,dk];refine zaf (hss g4s) ?_;rintro _ H4b ⟨rfl,e4⟩;rw[e4];clear e4 H4b;have l4:s<H4.next:=by omega
  have l4':fq<H4.next:=by omega
  simp(maxSteps:=1000000) (disch:=first|omega|(simp only[RY]<;>omega)|decide)only[↓RD,RZ,eq_self,Int.reduceToNat,Int.reduceAdd,Int.reduceSub,Int.reduceMul,Nat.reduceAdd,Nat.reduceSub,Nat.reduceMul,Nat.reduceDiv,Nat.reduceMod,Nat.reduceBEq,Nat.reduceLeDiff,g4f,g4s',dc,dk,vc,vk,wq,zbx];rw[za1];have hs4:=(hs2.grow s3).grow s4;have hv2:=((Lc.atS hv1 a2 (λi hi=>by simp only[yas];have:=(hv1.own i hi).1;omega)).ext s3).ext s4;generalize hX:Heap.set (Heap.set (Heap.new (Heap.new H4 _) _) _ _) s _=H5;have n5:H5.next=H4.next+2:=by rw[<-hX];rfl
  have g5s:H5.get s=some ⟨zaj,stX a id sv rv W (.ptr sn 0) rcv f (q+1) true o,none⟩:=by rw[<-hX];exact zah _ _ _
  have a5:AtS [s] H4 H5:=by rw[<-hX];exact(Grow.atS (((Grow.new _ _).trans (Grow.new _ _)).set (by omega) _) _).trans (AtS.set _ (by simp) _)
  have g5x:H5.get H4.next=some ⟨zaS,[.int .i64 1,ddv],none⟩:=by rw[<-hX,zai _ _ (by omega),zai _ _ (by omega),zas _ _ (by rw[zac];omega)];exact zae _ _
  have c5:H5.Cl:=by rw[<-hX];exact zc6 (zc6 (zeY (zeY c4 _) _) (by rw[zac,zac];omega) _) (by rw[zal,zac,zac];omega) _
  clear hX;have g5f:=(a5.same fq l4' (by simp;exact sf.symm)).trans g4f;have hs5:=hs4.atL a5 (by simp;exact ns) (by intro i hi;rw[yas]at hi;subst hi;exact⟨by omega,_,g4s,by show zaj≠_;decide,by show zaj≠_;decide,by show zaj≠_;decide⟩);have hv5:=Lc.atS hv2 a5 (λi hi=>by simp only[yas];have:=(hv2.own i hi).1;omega);have hd5:=Lc.atS hd4 a5 (λi hi=>by simp only[yas];have:=(hd4.own i hi).1;omega);refine zaf (zkq c5 (R7.Bytes_ok (lo:=0) (p:=pktF (decide (j+1=n)) q ts ssrc dd sealed) ⟨.nils,_,v1,rfl,Lc.nil,exs_1 g5x (by omega) (hd5.low (yaI _)),hv5.low (yaI _)⟩ ⟨by show 0<=_;omega,by show 1<=_;omega,by show sealed.length<=_;omega,by intro x hx;rw[show(pktF (decide (j+1=n)) q ts ssrc dd sealed).exts=[(1,dd)] from rfl,yas]at hx;subst hx;show dd.length<=_;omega⟩ ⟨by show q<65536;omega,hts,hsr,by intro x hx;cases hx⟩)) ?_;rintro r6 H6 ⟨⟨s6,h6⟩,c6⟩;rw[zw7 hd1 hd2 hsl]at h6;obtain⟨wv,rfl,hw⟩:=h6;have n6:=s6.next;have wc:=hw.cells1;have wo:=hw.okc;simp(maxSteps:=1000000) (disch:=first|omega|(simp only[RY]<;>omega)|decide)only[↓RD,RZ,eq_self,Int.reduceToNat,Int.reduceAdd,Int.reduceSub,Int.reduceMul,Nat.reduceAdd,Nat.reduceSub,Nat.reduceMul,Nat.reduceDiv,Nat.reduceMod,Nat.reduceBEq,Nat.reduceLeDiff,wc,wo];rw[za1];have s7:=Grow.new H6 ⟨zam,[wv],none⟩;have k6:KeepB H.next [s,sn,fq] H H6:=(((((KeepB.ofAtS a1 (yaj _) (by simp)).trans (KeepB.ofAtS a2 (by omega) (by simp))).trans (KeepB.ofGrow s3 (by omega))).trans (KeepB.ofGrow s4 (by omega))).trans (KeepB.ofAtS a5 (by omega) (by simp))).trans (KeepB.ofGrow s6 (by omega));have ho6:=ho.keepB (yaj _) k6 (λi hi=>by have h1:=(ho.low hi).1;have:=hos i;simp only[yau,yaw,or_false];omega) (λi hi=>by have hi:lo<=i:=hi;have:=hos i;simp only[yau,yaw,or_false];omega);refine zaf (zxu (zeY c6 _) (ho6.grow s7) (by rw[zac];omega) zqQ ((hw.ext s7).low (yaI _)) (λi hi=>⟨λe=>?_,?_⟩) (by omega) (by omega)) ?_
  ·have h1:=(hw.own i hi).1;have:=(ho.low e).2;omega
  ·have h1:=(hw.own i hi).1;show lo<=i;omega
  rintro ov' H8 ⟨ho8,s8,c8⟩;have hF:∀i∈ov.pid.toList,lo<=i/\i<H.next:=λi hi=>ho.low (by simpa [zbK]using hi);have hF':∀i,i<lo->i∉ov.pid.toList:=λi hi e=>by have:=(hF i e).1;omega
  have t8:∀i,i<lo->H8.get i=H6.get i:=λi hi=>(s8.same i (by rw[zac];omega) (hF' i hi)).trans (s7.same i (by omega));have os1:=hos s (.inl rfl);have os2:=hos sn (.inr (.inl rfl));have os3:=hos fq (.inr (.inr rfl));have hs7:=(hs5.grow s6).grow s7;have hs8':=hs7.atS (S:=ov.pid.toList) ⟨s8.next,λi hi hn=>s8.same i hi hn⟩ (hF' sn os2) (λi hi=>(ho6.grow s7).odd i (by simpa [zbK]using hi));simp(maxSteps:=1000000) (disch:=first|omega|(simp only[RY]<;>omega)|decide)only[↓RD,RZ,eq_self,Int.reduceToNat,Int.reduceAdd,Int.reduceSub,Int.reduceMul,Nat.reduceAdd,Nat.reduceSub,Nat.reduceMul,Nat.reduceDiv,Nat.reduceMod,Nat.reduceBEq,Nat.reduceLeDiff,wj];refine⟨ov',rfl,(t8 s os1).trans ((s6.same s (by omega)).trans g5s),hs8',(t8 fq os3).trans ((s6.same fq (by omega)).trans g5f),ho8,⟨by have:=s8.next;rw[zac]at this;omega,λi hi hn=>(t8 i hi).trans (k6.same i (by omega) hn)⟩,c8⟩
def pkJ(n q ts ssrc:Nat)(dd0 ddS:Bool->List Nat)(K:Ky)(c:Nat) (ls:List (List Nat)) (j:Nat):List Nat:=
 R7.hb (pktF (decide (j+1=n)) (q+j) ts ssrc (if j=0 then dd0 (decide (j+1=n)) else ddS (decide (j+1=n))) (zcr K (c+j) [] (ls.getD j [])))++zcr K (c+j) [] (ls.getD j [])
def floop{s sn fq a id sl f q n ts ssrc:Nat}{W:Nat->V}{sv rv rcv pl:V}{o nw:Bool}{idv fnv u1 u2 u3 u4 u5 u6 y1 y2 y3:V}{lp:Nat}{P:Nat->Prop} {ls:List (List Nat)} {dd0 ddS:Bool->List Nat} {L:List (Nat×Blk)} {H:Heap} {K:Ky} {se ss c:Nat}
  (hc:H.Cl) (hg:H.get s=some ⟨zaj,stX a id sv rv W (.ptr sn 0) rcv f q true o,none⟩)
  (hs:SndM (s+1) H sn (id:Nat) (sl:Nat) (some (K,(se:Nat),(ss:Nat),c))) (hcn:c+1000<18446744073709551616)
  (hf:H.get fq=some ⟨zaK,[.bool false,.bool false,idv,fnv,.bool nw,u1,u2,u3,u4,u5,u6,.bool false,.int .u32 0,.bool false,.bool false,.bool false,y1,y2,y3],none⟩)
  (hp:AppS lp P H pl ls) (hpv:∀i,pl.pid=some i->i∉[s,sn,fq]) (hP:∀i,P i->i∉[s,sn,fq]) (hn:ls.length=n) (hn8:n<=1000) (h8:∀l∈ls,Ok8 l/\l.length<=100)
  (ns:sn≠s) (nf:sn≠fq) (sf:s≠fq) (hl:Has H L) (hlf:fq∉L.map Prod.fst) (hls:s∉L.map Prod.fst) (hln:sn∉L.map Prod.fst)
  (hx8:∀v∈[idv,fnv,u1,u2,u3,u4,u5,u6,y1,y2,y3],∀n,v≠.int .u8 n) (hq:q+n<65535) (hts:ts<4294967296) (hsr:ssrc<4294967296) (hKt:K.t<=32) (hKw:∀w∈K.ws,Word w)
  (hss:∀{H:Heap} {q:Nat},H.get s=some ⟨zaj,stX a id sv rv W (.ptr sn 0) rcv f q true o,none⟩->Ok (sem T za4 [.ptr s 0,.int .i64 0]) H λv H'=>v = .int .u32 (ssrc:Nat)/\H'=H)
  (hd0:∀b,1<=(dd0 b).length/\(dd0 b).length<=16) (hdS:∀b,1<=(ddS b).length/\(ddS b).length<=16)
  (hdd0:∀{H:Heap} {k':Nat} {en:Bool},H.Cl->Has H L->(∀i∈L.map Prod.fst,i<k')->Has H (strL k')->Ok (sem T za2 [.agg [.bool true,.bool en,idv,fnv,.bool nw,u1,u2,u3,u4,u5,u6,.bool false,.int .u32 0,.bool false,.bool false,.bool false,y1,y2,y3],.agg (strV k')]) H λr H'=>∃v,r = .tup [v,.int .i64 0]/\By H.next H' v (dd0 en)/\Grow H H'/\H'.Cl)
  (hddS:∀{H:Heap} {k':Nat} {en:Bool},1<n->H.Cl->Has H L->(∀i∈L.map Prod.fst,i<k')->Has H (strL k')->Ok (sem T za2 [.agg [.bool false,.bool en,idv,fnv,.bool false,.int .i64 0,.int .i64 0,.nils,.int .i64 0,.nils,.nils,.bool false,.int .u32 0,.bool false,.bool false,.bool false,y1,y2,y3],.agg (strV k')]) H λr H'=>∃v,r = .tup [v,.int .i64 0]/\By H.next H' v (ddS en)/\Grow H H'/\H'.Cl) :
  Ok (M.iter (zb1 (sem T) (.int .i64 (n:Nat)) pl pl (.ptr fq 0) (.int .u32 (ts:Nat)) (.ptr s 0) (.int .i64 0) (.ptr s 24)) [.nils,.int .i64 0]) H λr H'=>∃ov',r = .ex 1 [ov'] /\
   H'.get s=some ⟨zaj,stX a id sv rv W (.ptr sn 0) rcv f (q+n) true o,none⟩ /\
   SndM (s+1) H' sn (id:Nat) (sl:Nat) (some (K,(se:Nat),(ss:Nat),c+n)) /\
   AppS H.next (λi=>H.next<=i) H' ov' ((List.range n).map (pkJ n q ts ssrc dd0 ddS K c ls)) /\
   KeepB H.next [s,sn,fq] H H'/\H'.Cl:=by
 have hlo:=hl.lt hc;have l1:=zcd hc hg;have l2:=zcd hc hf;have l3:=hs.1;refine zaQ (λj R H'=>∃ov,R=[ov,.int .i64 (j:Nat)] /\
   H'.get s=some ⟨zaj,stX a id sv rv W (.ptr sn 0) rcv f (q+j) true o,none⟩ /\
   SndM (s+1) H' sn (id:Nat) (sl:Nat) (some (K,(se:Nat),(ss:Nat),c+j)) /\
   (∃st en nwj x1 x2 x3 x4 x5 x6,H'.get fq=some ⟨zaK,[.bool st,.bool en,idv,fnv,.bool nwj,x1,x2,x3,x4,x5,x6,.bool false,.int .u32 0,.bool false,.bool false,.bool false,y1,y2,y3],none⟩/\(j=0->nwj=nw/\[u1,u2,u3,u4,u5,u6]=[x1,x2,x3,x4,x5,x6])/\∀v∈[x1,x2,x3,x4,x5,x6],∀n,v≠.int .u8 n) /\
   AppS H.next (λi=>H.next<=i) H' ov ((List.range j).map (pkJ n q ts ssrc dd0 ddS K c ls)) /\
   KeepB H.next [s,sn,fq] H H'/\H'.Cl) n ?_ ?_ ?_
 ·refine⟨.nils,rfl,hg,hs,⟨false,false,nw,u1,u2,u3,u4,u5,u6,hf,λ_=>⟨rfl,rfl⟩,λv hv=>hx8 v ?_⟩,AppS.nil,KeepB.refl _ _ _,hc⟩;simp only[yau,yaw,or_false]at hv ⊢;rcases hv with h|h|h|h|h|h<;>simp[h]
 ·rintro j R H1 hj ⟨ov,rfl,g1,s1,⟨st,en,nwj,x1,x2,x3,x4,x5,x6,g1f,h0,hx1⟩,ho,k1,c1⟩;have n1:=k1.next;have hl1:Has H1 L:=λp hp=>(k1.same p.1 (hlo _ (ycw hp)) (by
   have hm:=ycw (f:=Prod.fst) hp;simp only[yau,yaw,or_false];rintro(h|h|h)
   ·exact hls (h ▸ hm)
   ·exact hln (h ▸ hm)
   ·exact hlf (h ▸ hm))).trans (hl p hp)
  have hp1:=hp.keepB (yaj _) k1 hpv hP;have hxx:∀v∈[idv,fnv,x1,x2,x3,x4,x5,x6,y1,y2,y3],∀n,v≠.int .u8 n:=λv hv=>by
   simp only[yau,yaw,or_false]at hv hx1 hx8;rcases hv with h|h|h|h|h|h|h|h|h|h|h
   ·exact hx8 v (by simp[h])
   ·exact hx8 v (by simp[h])
   ·exact hx1 v (by simp[h])
   ·exact hx1 v (by simp[h])
   ·exact hx1 v (by simp[h])
   ·exact hx1 v (by simp[h])
   ·exact hx1 v (by simp[h])
   ·exact hx1 v (by simp[h])
   ·exact hx8 v (by simp[h])
   ·exact hx8 v (by simp[h])
   ·exact hx8 v (by simp[h])
  have hgj:ls.getD j []=ls[j]'(by omega):=by rw[yan,yaf (by omega)];rfl
  have hlen:((List.range j).map (pkJ n q ts ssrc dd0 ddS K c ls)).length<=1000:=by rw[yai,ybg];omega
  have hmod:(c+j+1)%18446744073709551616=c+(j+1):=by omega
  have hosl:∀i,i=s\/i=sn\/i=fq->i<H.next:=by rintro i (rfl|rfl|rfl)<;>assumption
  by_cases hj0:j=0
  ·obtain⟨e1,e2⟩:=h0 hj0;have:=fbody (j:=j) (nw':=nw) (z1:=u1) (z2:=u2) (z3:=u3) (z4:=u4) (z5:=u5) (z6:=u6) (dd:=dd0 (decide (j+1=n))) c1 g1 s1 g1f hp1 hn hn8 hj h8 ns nf sf hl1 hlf hls hln ho (by omega) hosl hlen hxx (by omega) hts hsr hKt hKw (.inl ⟨hj0,e1.symm,e2⟩) hss (hd0 _).1 (hd0 _).2 (λa b c d=>by
    have:=hdd0 (en:=decide (j+1=n)) a b c d;rw[decide_eq_true hj0];exact this)
   refine zao this ?_;rintro _ H2 ⟨ov',rfl,g2,s2,g2f,ho2,k2,c2⟩;refine⟨ov',rfl,g2,hmod ▸ s2,⟨_,_,_,_,_,_,_,_,_,g2f,λh=>by omega,λv hv=>hx8 v ?_⟩,?_,k1.trans k2,c2⟩
   ·simp only[yau,yaw,or_false]at hv ⊢;rcases hv with h|h|h|h|h|h<;>simp[h]
   ·rw[ycv,yaE];unfold pkJ at ho2 ⊢;simp only[yaT,ybS,hgj,if_pos hj0];exact ho2
  ·have:=fbody (j:=j) (nw':=false) (z1:=.int .i64 0) (z2:=.int .i64 0) (z3:=.nils) (z4:=.int .i64 0) (z5:=.nils) (z6:=.nils) (dd:=ddS (decide (j+1=n))) c1 g1 s1 g1f hp1 hn hn8 hj h8 ns nf sf hl1 hlf hls hln ho (by omega) hosl hlen hxx (by omega) hts hsr hKt hKw (.inr ⟨by omega,rfl,rfl⟩) hss (hdS _).1 (hdS _).2 (λa b c d=>by
    have:=hddS (en:=decide (j+1=n)) (by omega) a b c d;rw[decide_eq_false hj0];exact this)
   refine zao this ?_;rintro _ H2 ⟨ov',rfl,g2,s2,g2f,ho2,k2,c2⟩;refine⟨ov',rfl,g2,hmod ▸ s2,⟨_,_,_,_,_,_,_,_,_,g2f,λh=>by omega,λv hv=>?_⟩,?_,k1.trans k2,c2⟩
   ·simp only[yau,yaw,or_false]at hv;rcases hv with rfl|rfl|rfl|rfl|rfl|rfl<;>(intro n e;cases e)
   ·rw[ycv,yaE];unfold pkJ at ho2 ⊢;simp only[yaT,ybS,hgj,if_neg hj0];exact ho2
 ·rintro R H1 ⟨ov,rfl,g1,s1,-,ho,k1,c1⟩;have hlt:¬((n:Nat):Int)<(n:Nat):=by omega
  unfold zb1 uL uM uS uT uF uNFM uNF uE uB uIM uO uU uA uZ uR uK uc ug;simp(disch:=omega)only[↓RD,RZ,hlt,decide_eq_false hlt];exact⟨ov,rfl,g1,s1,ho,k1,c1⟩
def AppS.mono{lo lo':Nat}{P P':Nat->Prop}{H:Heap}{v:V} {ls:List (List Nat)} (h:AppS lo P H v ls) (hl:lo'<=lo) (hP:∀i,P i->P' i):AppS lo' P' H v ls:=by
 obtain⟨ws,h1,h2,h3⟩:=h;refine⟨ws,h1,?_,λw hw=>⟨(h3 w hw).1,λi hi=>⟨((h3 w hw).2 i hi).1,hP i ((h3 w hw).2 i hi).2⟩⟩⟩;generalize ws.map (·.2)=cs at h2;generalize ws.length=m at h2;cases h2 with
 | opn h ho=>exact .opn h λi hi=>⟨yay hl (ho i hi).1,(ho i hi).2⟩
 | lit h h0 h1=>exact .lit h (yay hl h0) h1
def zi4(b:List Nat):(pcsL b).length=(b.length-1)/100+1:=by
 unfold pcsL pcz;rw[yag,yai,ybg];rfl
def ztP{b:List Nat}(h8:Ok8 b):∀l∈pcsL b,Ok8 l/\l.length<=100:=λl hl=>by
 unfold pcsL pcz at hl;rcases yaN.1 hl with hl|hl
 ·obtain⟨j,-,rfl⟩:=ya3.1 hl;exact⟨(h8.drop _).take _,by rw[yaq];omega⟩
 ·rw[yas]at hl;subst hl;exact⟨h8.drop _,by rw[yat];omega⟩
def zlI(st en:Bool)(id f:Nat)(new:Bool):1<=(ddB st en id f new).length/\(ddB st en id f new).length<=16:=by
 unfold ddB;cases new<;>simp
def zya{s sn a id sl f q c:Nat}{W:Nat->V}{sv rv rcv v:V}{b0 o key:Bool}{lo ssrc:Nat}{b:List Nat}{H:Heap}{K:Ky}{se ss:Nat}
  (hc:H.Cl) (hg:H.get s=some ⟨zaj,stX a id sv rv W (.ptr sn 0) rcv f q b0 o,none⟩) (hk:key=true\/b0=false) (hf:f=0\/f=1)
  (hs:SndM (s+1) H sn (id:Nat) (sl:Nat) (some (K,(se:Nat),(ss:Nat),c))) (hcn:c+1000<18446744073709551616) (ns:sn≠s)
  (hv:By lo H v b) (h8:Ok8 b) (hb:b.length<=800) (hvs:∀i,v.pid=some i->i≠s/\i≠sn) (hq:q<60000) (hsr:ssrc<4294967296) (hKt:K.t<=32) (hKw:∀w∈K.ws,Word w)
  (hss:∀{H:Heap} {f q:Nat} {b0 o:Bool},H.get s=some ⟨zaj,stX a id sv rv W (.ptr sn 0) rcv f q b0 o,none⟩->Ok (sem T za4 [.ptr s 0,.int .i64 0]) H λv H'=>v = .int .u32 (ssrc:Nat)/\H'=H) :
  Ok (sem T zbB [.ptr s 0,.int .i64 0,.bool key,v]) H λr H'=>∃ov,r = .tup [ov,.int .i64 0] /\
   H'.get s=some ⟨zaj,stX a id sv rv W (.ptr sn 0) rcv (f+1) (q+(pcsL b).length) true false,none⟩ /\
   SndM (s+1) H' sn (id:Nat) (sl:Nat) (some (K,(se:Nat),(ss:Nat),c+(pcsL b).length)) /\
   AppS H.next (λi=>H.next<=i) H' ov ((List.range (pcsL b).length).map (pkJ (pcsL b).length q (3000*f) ssrc (λen=>ddB true en 0 f true) (λen=>ddB false en 0 f false) K c (pcsL b))) /\
   KeepB H.next [s,sn] H H'/\H'.Cl:=by
 have hlt:=zcd hc hg;have lsn:=hs.1;refine zf4 ?_;unfold zee uL uT uNFM uNF uB uI uO uA uR uK uc ug;refine zt0 ?_;refine zaf (zwt (k:=0) (.inl rfl)) ?_;rintro _ H ⟨rfl,rfl⟩;have hg':=hg;unfold stX at hg';have hvl:=hv.vlen;have hle:¬(800:Int)<(b.length:Nat):=by omega
 simp(disch:=omega)only[↓RD,RZ,eq_self,seval,hg',hvl,hle,decide_eq_false hle];rw[za1];refine zaf (zsA hc hg hk hf) ?_;rintro _ H1 ⟨k,i,j,rfl,g1,lk,lki,lij,hk1,hij1,a1,c1⟩;have n1:=a1.next;have hs1:=hs.atL a1 (by simp;exact ns) (by intro x hx;rw[yas]at hx;subst hx;exact⟨by omega,_,hg,by show zaj≠_;decide,by show zaj≠_;decide,by show zaj≠_;decide⟩);have hv1:=Lc.atS hv a1 (λx hx=>by simp only[yas];exact(hvs x hx).1);refine zrr c1 rfl rfl λfq H2 e2 g2 s2 n2 c2=>?_;have g2s:=(s2.same s (by omega)).trans g1;have hs2:=hs1.grow s2;have hv2:=hv1.ext s2;have hl2:=(hk1.app hij1).grow c1 s2;have g2s':=g2s;unfold stX at g2s';have wf:IntKind.u32.wrap ((f:Nat):Int)=(f:Nat):=by rcases hf with rfl|rfl<;>rfl
 have w3:IntKind.u32.wrap (3000*((f:Nat):Int))=((3000*f:Nat):Int):=by rcases hf with rfl|rfl<;>rfl
 have w1:IntKind.i64.wrap (((f:Nat):Int)+1)=((f+1:Nat):Int):=by rcases hf with rfl|rfl<;>rfl
 simp(disch:=omega)only[↓RD,RZ,eq_self,seval,g2s',wf,w3,w1,zbx];rw[za1];generalize hX:Heap.set H2 s _=H3;have g3s:H3.get s=some ⟨zaj,stX a id sv rv W (.ptr sn 0) rcv (f+1) q true false,none⟩:=by rw[<-hX];exact zah _ _ _
 have a3:AtS [s] H2 H3:=by rw[<-hX];exact AtS.set _ (by simp) _
 have n3:H3.next=H2.next:=by rw[<-hX];rfl
 have c3:H3.Cl:=by rw[<-hX];exact zc6 c2 (by omega) _
 clear hX;have hs3:=hs2.atL a3 (by simp;exact ns) (by intro x hx;rw[yas]at hx;subst hx;exact⟨by omega,_,g2s,by show zaj≠_;decide,by show zaj≠_;decide,by show zaj≠_;decide⟩);have hv3:=Lc.atS hv2 a3 (λx hx=>by simp only[yas];exact(hvs x hx).1);have hbig:∀x∈(strL k++frL i j).map Prod.fst,H.next<=x:=λx hx=>by
  rw[yaE,yaN]at hx;rcases hx with hx|hx
  ·have:=zg6 x hx;omega
  ·simp[frL]at hx;omega
 have hl3:=hl2.atS c2 a3 (by intro x hx hx';rw[yas]at hx;have:=hbig x hx';omega);have g3f:=(a3.same fq (by omega) (by simp;omega)).trans g2;refine zaf (zkq c3 (ztM hv3 (by omega))) ?_;rintro pl H4 ⟨⟨hp4,s4⟩,c4⟩;have n4:=s4.next;have hpl:=hp4.vlen;have hl4:=hl3.grow c3 s4;have g4f:=(s4.same fq (by omega)).trans g3f;have hlen:=zi4 b;have hlf:fq∉(strL k++frL i j).map Prod.fst:=λhx=>by have:=(hk1.app hij1).lt c1 fq hx;omega
 simp(disch:=omega)only[↓RD,RZ,eq_self,seval,hpl];unfold OkS;refine zao (floop (se:=se) (ss:=ss) (n:=(pcsL b).length) (ts:=3000*f) (P:=λx=>v.pid=some x) (ls:=pcsL b) (dd0:=λen=>ddB true en 0 f true) (ddS:=λen=>ddB false en 0 f false) (L:=(strL k++frL i j))
  c4 ((s4.same s (by omega)).trans g3s) (hs3.grow s4) hcn g4f hp4 (λx hx=>?_) (λx hx=>?_) rfl (by omega) (ztP h8) ns (by have:=hs2.1;have:=hs1.1;omega) (by omega) hl4 hlf (λhx=>by have:=hbig s hx;omega) (λhx=>by have:=hbig sn hx;omega)
  ?_ (by omega) (by omega) hsr hKt hKw hss (λen=>zlI _ _ _ _ _) (λen=>zlI _ _ _ _ _) ?_ ?_) ?_
 ·have h1:=(hp4.low hx).1;have:=hs3.1;simp only[yau,yaw,or_false];omega
 ·have h1:=hvs x hx;have h2:=(hv.own x hx).2;simp only[yau,yaw,or_false];omega
 ·intro w hw n e;simp only[strV,nS,yau,yaw,or_false]at hw;rw[e]at hw;simp at hw
 ·intro H k' en hc hL hi hk';exact ddb_new hc (λp hp=>hL p (yct _ hp)) (λp hp=>hL p (ycX _ hp)) hk' lki lij (hi j (by simp[frL])) hf
 ·intro H k' en _ hc hL hi hk';exact ddb_mid hc (λp hp=>hL p (ycX _ hp)) hk' lij (hi j (by simp[frL])) hf
 ·rintro _ H5 ⟨ov,rfl,g5,s5,ho5,k5,c5⟩;show Ok _ H5 _;simp(disch:=omega)only[↓RD,RZ,eq_self,seval];refine⟨ov,rfl,g5,s5,ho5.mono (by omega) (λx hx=>by have hx:H4.next<=x:=hx;show H.next<=x;omega),⟨by have:=k5.next;omega,λx hx hn=>?_⟩,c5⟩;simp only[yau,yaw,or_false,not_or]at hn;rw[k5.same x (by omega) (by simp only[yau,yaw,or_false];omega),s4.same x (by omega),a3.same x (by omega) (by simp;omega),s2.same x (by omega),a1.same x (by omega) (by simp;omega)]
def zx9{s sn a id sl q c:Nat}{W:Nat->V}{sv rv rcv v:V}{key:Bool}{lo ssrc:Nat}{b:List Nat}{H:Heap}{K:Ky}{se ss:Nat}
  (hc:H.Cl) (hg:H.get s=some ⟨zaj,stX a id sv rv W (.ptr sn 0) rcv 1 q true false,none⟩)
  (hs:SndM (s+1) H sn (id:Nat) (sl:Nat) (some (K,(se:Nat),(ss:Nat),c))) (hcn:c+1000<18446744073709551616) (ns:sn≠s)
  (hv:By lo H v b) (h8:Ok8 b) (hb:b.length<=800) (hvs:∀i,v.pid=some i->i≠s/\i≠sn) (hq:q<60000) (hsr:ssrc<4294967296) (hKt:K.t<=32) (hKw:∀w∈K.ws,Word w)
  (hss:∀{H:Heap} {f q:Nat} {b0 o:Bool},H.get s=some ⟨zaj,stX a id sv rv W (.ptr sn 0) rcv f q b0 o,none⟩->Ok (sem T za4 [.ptr s 0,.int .i64 0]) H λv H'=>v = .int .u32 (ssrc:Nat)/\H'=H) :
  Ok (sem T zbB [.ptr s 0,.int .i64 0,.bool false,v]) H λr H'=>∃ov,r = .tup [ov,.int .i64 0] /\
   H'.get s=some ⟨zaj,stX a id sv rv W (.ptr sn 0) rcv (1+1) (q+(pcsL b).length) true true,none⟩ /\
   SndM (s+1) H' sn (id:Nat) (sl:Nat) (some (K,(se:Nat),(ss:Nat),c+(pcsL b).length)) /\
   AppS H.next (λi=>H.next<=i) H' ov ((List.range (pcsL b).length).map (pkJ (pcsL b).length q (3000*1) ssrc (λen=>ddB true en 2 1 false) (λen=>ddB false en 2 1 false) K c (pcsL b))) /\
   KeepB H.next [s,sn] H H'/\H'.Cl:=by
 have hlt:=zcd hc hg;have lsn:=hs.1;refine zf4 ?_;unfold zee uL uT uNFM uNF uB uI uO uA uR uK uc ug;refine zt0 ?_;refine zaf (zwt (k:=0) (.inl rfl)) ?_;rintro _ H ⟨rfl,rfl⟩;have hg':=hg;unfold stX at hg';have hvl:=hv.vlen;have hle:¬(800:Int)<(b.length:Nat):=by omega
 simp(disch:=omega)only[↓RD,RZ,eq_self,seval,hg',hvl,hle,decide_eq_false hle];rw[za1];refine zaf (zsz hc hg) ?_;rintro _ H1 ⟨i,j,l,rfl,g1,lk,lij,ljl,hij1,a1,c1⟩;have n1:=a1.next;have hs1:=hs.atL a1 (by simp;exact ns) (by intro x hx;rw[yas]at hx;subst hx;exact⟨by omega,_,hg,by show zaj≠_;decide,by show zaj≠_;decide,by show zaj≠_;decide⟩);have hv1:=Lc.atS hv a1 (λx hx=>by simp only[yas];exact(hvs x hx).1);refine zrr c1 rfl rfl λfq H2 e2 g2 s2 n2 c2=>?_;have g2s:=(s2.same s (by omega)).trans g1;have hs2:=hs1.grow s2;have hv2:=hv1.ext s2;have hl2:=hij1.grow c1 s2;have g2s':=g2s;unfold stX at g2s';have wf:IntKind.u32.wrap ((1:Nat):Int)=(1:Nat):=rfl;have w3:IntKind.u32.wrap (3000*((1:Nat):Int))=((3000*1:Nat):Int):=rfl;have w1:IntKind.i64.wrap (((1:Nat):Int)+1)=((1+1:Nat):Int):=rfl;simp(disch:=omega)only[↓RD,RZ,eq_self,seval,g2s',wf,w3,w1,zbx];rw[za1];generalize hX:Heap.set H2 s _=H3;have g3s:H3.get s=some ⟨zaj,stX a id sv rv W (.ptr sn 0) rcv (1+1) q true true,none⟩:=by rw[<-hX];exact zah _ _ _
 have a3:AtS [s] H2 H3:=by rw[<-hX];exact AtS.set _ (by simp) _
 have n3:H3.next=H2.next:=by rw[<-hX];rfl
 have c3:H3.Cl:=by rw[<-hX];exact zc6 c2 (by omega) _
 clear hX;have hs3:=hs2.atL a3 (by simp;exact ns) (by intro x hx;rw[yas]at hx;subst hx;exact⟨by omega,_,g2s,by show zaj≠_;decide,by show zaj≠_;decide,by show zaj≠_;decide⟩);have hv3:=Lc.atS hv2 a3 (λx hx=>by simp only[yas];exact(hvs x hx).1);have hbig:∀x∈(frL2 i j l).map Prod.fst,H.next<=x:=λx hx=>by
  simp[frL2]at hx;omega
 have hl3:=hl2.atS c2 a3 (by intro x hx hx';rw[yas]at hx;have:=hbig x hx';omega);have g3f:=(a3.same fq (by omega) (by simp;omega)).trans g2;refine zaf (zkq c3 (ztM hv3 (by omega))) ?_;rintro pl H4 ⟨⟨hp4,s4⟩,c4⟩;have n4:=s4.next;have hpl:=hp4.vlen;have hl4:=hl3.grow c3 s4;have g4f:=(s4.same fq (by omega)).trans g3f;have hlen:=zi4 b;have hlf:fq∉(frL2 i j l).map Prod.fst:=λhx=>by have:=hij1.lt c1 fq hx;omega
 simp(disch:=omega)only[↓RD,RZ,eq_self,seval,hpl];unfold OkS;refine zao (floop (se:=se) (ss:=ss) (n:=(pcsL b).length) (ts:=3000*1) (P:=λx=>v.pid=some x) (ls:=pcsL b) (dd0:=λen=>ddB true en 2 1 false) (ddS:=λen=>ddB false en 2 1 false) (L:=(frL2 i j l))
  c4 ((s4.same s (by omega)).trans g3s) (hs3.grow s4) hcn g4f hp4 (λx hx=>?_) (λx hx=>?_) rfl (by omega) (ztP h8) ns (by have:=hs2.1;have:=hs1.1;omega) (by omega) hl4 hlf (λhx=>by have:=hbig s hx;omega) (λhx=>by have:=hbig sn hx;omega)
  ?_ (by omega) (by omega) hsr hKt hKw hss (λen=>zlI _ _ _ _ _) (λen=>zlI _ _ _ _ _) ?_ ?_) ?_
 ·have h1:=(hp4.low hx).1;have:=hs3.1;simp only[yau,yaw,or_false];omega
 ·have h1:=hvs x hx;have h2:=(hv.own x hx).2;simp only[yau,yaw,or_false];omega
 ·intro w hw n e;simp only[strV,nS,yau,yaw,or_false]at hw;rw[e]at hw;simp at hw
 ·intro H k' en hc hL hi hk';exact zyB hc hL hk' lij ljl (hi l (by simp[frL2]))
 ·intro H k' en _ hc hL hi hk';exact zyB hc hL hk' lij ljl (hi l (by simp[frL2]))
 ·rintro _ H5 ⟨ov,rfl,g5,s5,ho5,k5,c5⟩;show Ok _ H5 _;simp(disch:=omega)only[↓RD,RZ,eq_self,seval];refine⟨ov,rfl,g5,s5,ho5.mono (by omega) (λx hx=>by have hx:H4.next<=x:=hx;show H.next<=x;omega),⟨by have:=k5.next;omega,λx hx hn=>?_⟩,c5⟩;simp only[yau,yaw,or_false,not_or]at hn;rw[k5.same x (by omega) (by simp only[yau,yaw,or_false];omega),s4.same x (by omega),a3.same x (by omega) (by simp;omega),s2.same x (by omega),a1.same x (by omega) (by simp;omega)]
structure Pr (H:Heap) (S sn c a id slot:Nat) (W:Nat->V) (K:Ky) (e sp ct:Nat) (R:Rc) (f q:Nat) (b o:Bool):Prop where
 seat:∃sv rv,(∀n,sv≠.int .u8 n)/\(∀n,rv≠.int .u8 n)/\H.get S=some ⟨zaj,stX a id sv rv W (.ptr sn 0) (.ptr (c+3) 0) f q b o,none⟩
 wn:∀i n,W i≠.int .u8 n
 snd:SndM (S+1) H sn (id:Nat) (slot:Nat) (some (K,(e:Nat),(sp:Nat),ct))
 rcv:RcM H c R
section
variable {H H':Heap} {S sn c a id slot:Nat} {W:Nat->V} {K:Ky} {e sp ct:Nat} {R:Rc} {f q:Nat} {b o:Bool}
def odd_seat{sv rv snd rcv:V}(h1:∀n,sv≠.int .u8 n)(h2:∀n,rv≠.int .u8 n)(h3:∀i n,W i≠.int .u8 n)(h4:∀n,snd≠.int .u8 n)(h5:∀n,rcv≠.int .u8 n):OddR ⟨zaj,stX a id sv rv W snd rcv f q b o,none⟩:=by
 refine⟨⟨show zaj≠zaO by decide,show zaj≠zaR by decide,show zaj≠zaw by decide,λv hv n e=>?_⟩,show zaj≠zad by decide,show zaj≠zaX by decide⟩;subst e;simp only[stX,yau,yaw,or_false]at hv;rcases hv with hv|hv|hv|hv|hv|hv|hv|hv|hv|hv|hv|hv|hv|hv|hv|hv|hv|hv|hv|hv|hv|hv|hv|hv|hv|hv|hv|hv|hv|hv|hv|hv|hv|hv|hv|hv <;>
  first|(cases hv;done)|exact h1 _ hv.symm|exact h2 _ hv.symm|exact h3 _ _ hv.symm|exact h4 _ hv.symm|exact h5 _ hv.symm
def Pr.oddS(h:Pr H S sn c a id slot W K e sp ct R f q b o):∃x,H.get S=some x/\OddR x:=by
 obtain⟨sv,rv,h1,h2,h3⟩:=h.seat;exact⟨_,h3,odd_seat h1 h2 h.wn (λn e=>by cases e) (λn e=>by cases e)⟩
def Pr.oddN(h:Pr H S sn c a id slot W K e sp ct R f q b o):∃x,H.get sn=some x/\OddR x:=by
 obtain⟨h1,h2,k,h3,-,-⟩:=h.snd;refine⟨_,h3,⟨show zaJ≠zaO by decide,show zaJ≠zaR by decide,show zaJ≠zaw by decide,λv hv n e=>?_⟩,show zaJ≠zad by decide,show zaJ≠zaX by decide⟩;subst e;simp only[sndC,yau,yaw,or_false]at hv;rcases hv with hv|hv|hv|hv|hv|hv|hv<;>cases hv
def Pr.ltS(h:Pr H S sn c a id slot W K e sp ct R f q b o)(hc:H.Cl):S<H.next:=by
 obtain⟨sv,rv,h1,h2,h3⟩:=h.seat;exact zcd hc h3
def Pr.atS{T':List Nat}(h:Pr H S sn c a id slot W K e sp ct R f q b o)(hc:H.Cl)(s:AtS T' H H')(h1:S∉T')(h2:sn∉T')(h3:∀i∈T',i<c\/c+4<=i)(h4:∀i∈T',∃x,H.get i=some x/\OddR x):Pr H' S sn c a id slot W K e sp ct R f q b o:=by
 obtain⟨sv,rv,h5,h6,h7⟩:=h.seat;exact⟨⟨sv,rv,h5,h6,(s.same S (zcd hc h7) h1).trans h7⟩,h.wn,h.snd.atS s h2 (λi hi=>by
  obtain⟨x,hx,ho⟩:=h4 i hi;exact⟨x,hx,ho.1⟩),h.rcv.atS s h3 h4⟩
end
def ssrc_x{H:Heap}{s a:Nat}{cs:List V}(ha:a=1\/a=2\/a=3) (hg:H.get s=some ⟨zaj,cs,none⟩) (h0:cs[0]?=some (.int .i64 (a:Nat))):Ok (sem T za4 [.ptr s 0,.int .i64 0]) H λv H'=>v = .int .u32 ((1000+100*a:Nat):Nat)/\H'=H:=by
 refine zlq ?_;unfold zhR uL uNFM uB uA uR uc;refine zaf (zwt (k:=0) (.inl rfl)) ?_;rintro _ H ⟨rfl,rfl⟩;rcases ha with rfl|rfl|rfl
 ·have h0:cs[0]?=some (.int .i64 1):=h0;simp(disch:=omega)only[↓RD,RZ,hg,h0];rfl
 ·have h0:cs[0]?=some (.int .i64 2):=h0;simp(disch:=omega)only[↓RD,RZ,hg,h0];rfl
 ·have h0:cs[0]?=some (.int .i64 3):=h0;simp(disch:=omega)only[↓RD,RZ,hg,h0];rfl
def PkS(K:Ky)(ct:Nat) (pcs:List (List Nat)) (j:Nat) (b:List Nat):Prop:=∃p,R7.parse b = .ok p/\p.pay=zcr K (ct+j) [] (pcs.getD j [])/\Ok8 b/\b.length<=1200
def pkj_s{n q ts ssrc:Nat}{dd0 ddS:Bool->List Nat}{K:Ky}{ct:Nat} {pcs:List (List Nat)} (h0:∀b,1<=(dd0 b).length/\(dd0 b).length<=16/\Ok8 (dd0 b)) (hS:∀b,1<=(ddS b).length/\(ddS b).length<=16/\Ok8 (ddS b)) (hp:∀l∈pcs,Ok8 l/\l.length<=100) (ht:K.t<=32) (hw:∀w∈K.ws,Word w) (hn:pcs.length=n) (hq:q+n<65536) (hts:ts<4294967296) (hss:ssrc<4294967296) {j:Nat} (hj:j<n) :
  PkS K ct pcs j (pkJ n q ts ssrc dd0 ddS K ct pcs j):=by
 have hpj:Ok8 (pcs.getD j [])/\(pcs.getD j []).length<=100:=by
  rw[yan,yaf (by omega)];exact hp _ (yaW _)
 have hl:=zi2 ht (ct+j) [] (pcs.getD j []);have hh:=znF K.kid (ct+j);have hd:1<=(if j=0 then dd0 (decide (j+1=n)) else ddS (decide (j+1=n))).length/\(if j=0 then dd0 (decide (j+1=n)) else ddS (decide (j+1=n))).length<=16/\Ok8 (if j=0 then dd0 (decide (j+1=n)) else ddS (decide (j+1=n))):=by
  split
  ·exact h0 _
  ·exact hS _
 obtain⟨e1,e2,e3⟩:=zw6 (mk:=decide (j+1=n)) (q:=q+j) (ts:=ts) (ssrc:=ssrc) hd.1 hd.2.1 (pay:=zcr K (ct+j) [] (pcs.getD j [])) (by omega) (ztD hw hpj.1) hd.2.2 (by omega) hts hss;exact⟨_,e1,rfl,e2,e3⟩
def ddB_8{st en:Bool}{id f:Nat}{new:Bool}(hi:id<64)(hf:f<256):Ok8 (ddB st en id f new):=by
 intro x hx;unfold ddB at hx;cases new<;>cases st<;>cases en<;>simp at hx<;>omega
def zuf{S:List Nat}{H H':Heap}(h:KeepB H.next S H H'):AtS S H H':=⟨h.next,λi hi hn=>h.same i hi hn⟩
def zyb{S sn c a id slot:Nat}{W:Nat->V}{K:Ky}{e sp ct:Nat}{R:Rc}{f q:Nat}{bo o key:Bool}{H:Heap}{v:V}{b:List Nat}{lo:Nat}(hc:H.Cl)(h:Pr H S sn c a id slot W K e sp ct R f q bo o)
  (hk:((key=true\/bo=false)/\(f=0\/f=1))\/(key=false/\f=1/\bo=true/\o=false)) (ha:a=1\/a=2\/a=3) (hcn:ct+1000<18446744073709551616) (ns:S<sn/\S<c/\(sn<c\/c+4<=sn)) (hv:By lo H v b) (h8:Ok8 b) (hb:b.length<=800) (hvs:∀i,v.pid=some i->i≠S/\i≠sn) (hq:q<60000) (hKt:K.t<=32) (hKw:∀w∈K.ws,Word w) :
  Ok (sem T zbB [.ptr S 0,.int .i64 0,.bool key,v]) H λr H'=>∃ov PK o',r = .tup [ov,.int .i64 0]/\AppS H.next (λi=>H.next<=i) H' ov PK/\PK.length=(pcsL b).length/\(∀j (hj:j<PK.length),PkS K ct (pcsL b) j PK[j]) /\
   Pr H' S sn c a id slot W K e sp (ct+(pcsL b).length) R (f+1) (q+(pcsL b).length) true o'/\(f=0\/key=true->o'=false)/\AtS [S,sn] H H'/\H'.Cl:=by
 obtain⟨sv,rv,h1,h2,h3⟩:=h.seat;have hp8:=ztP h8;have hpl:=zi4 b;have fin:∀{r:V} {H':Heap} {ov:V} {o':Bool} {ts:Nat} {dd0 ddS:Bool->List Nat},r = .tup [ov,.int .i64 0]->H'.get S=some ⟨zaj,stX a id sv rv W (.ptr sn 0) (.ptr (c+3) 0) (f+1) (q+(pcsL b).length) true o',none⟩->SndM (S+1) H' sn (id:Nat) (slot:Nat) (some (K,(e:Nat),(sp:Nat),ct+(pcsL b).length)) ->
   AppS H.next (λi=>H.next<=i) H' ov ((List.range (pcsL b).length).map (pkJ (pcsL b).length q ts (1000+100*a) dd0 ddS K ct (pcsL b)))->KeepB H.next [S,sn] H H'->H'.Cl->(∀b,1<=(dd0 b).length/\(dd0 b).length<=16/\Ok8 (dd0 b))->(∀b,1<=(ddS b).length/\(ddS b).length<=16/\Ok8 (ddS b))->ts<4294967296->(f=0\/key=true->o'=false) ->
   ∃ov PK o',r = .tup [ov,.int .i64 0]/\AppS H.next (λi=>H.next<=i) H' ov PK/\PK.length=(pcsL b).length/\(∀j (hj:j<PK.length),PkS K ct (pcsL b) j PK[j]) /\
   Pr H' S sn c a id slot W K e sp (ct+(pcsL b).length) R (f+1) (q+(pcsL b).length) true o'/\(f=0\/key=true->o'=false)/\AtS [S,sn] H H'/\H'.Cl:=λe1 e2 e3 e4 e5 e6 e7 e8 e9 e10=>
  ⟨_,_,_,e1,e4,by simp,λj hj=>by
   simp only[ybH,ycF];exact pkj_s e7 e8 hp8 hKt hKw rfl (by omega) e9 (by omega) (by simpa using hj),⟨⟨sv,rv,h1,h2,e2⟩,h.wn,e3,h.rcv.atS (zuf e5) (by simp;omega) (by
    intro i hi;simp only[yau,yaw,or_false]at hi;rcases hi with rfl|rfl
    ·exact h.oddS
    ·exact h.oddN)⟩,e10,zuf e5,e6⟩
 have d8:∀{st:Bool} {id f:Nat} {new:Bool},id<64->f<256->∀en,1<=(ddB st en id f new).length/\(ddB st en id f new).length<=16/\Ok8 (ddB st en id f new):=λhi hf en=>⟨(zlI _ _ _ _ _).1,(zlI _ _ _ _ _).2,ddB_8 hi hf⟩;have hss:∀{H:Heap} {f q:Nat} {b0 o:Bool},H.get S=some ⟨zaj,stX a id sv rv W (.ptr sn 0) (.ptr (c+3) 0) f q b0 o,none⟩->Ok (sem T za4 [.ptr S 0,.int .i64 0]) H λv H'=>v = .int .u32 ((1000+100*a:Nat):Nat)/\H'=H:=λhg=>ssrc_x ha hg rfl;rcases hk with⟨hk,hf⟩|⟨rfl,rfl,rfl,rfl⟩
 ·refine zao (zya hc h3 hk hf h.snd hcn (by omega) hv h8 hb hvs hq (by omega) hKt hKw hss) ?_;rintro r H' ⟨ov,e1,e2,e3,e4,e5,e6⟩;exact fin e1 e2 e3 e4 e5 e6 (d8 (by decide) (by omega)) (d8 (by decide) (by omega)) (by omega) λ_=>rfl
 ·refine zao (zx9 (key:=false) hc h3 h.snd hcn (by omega) hv h8 hb hvs hq (by omega) hKt hKw hss) ?_;rintro r H' ⟨ov,e1,e2,e3,e4,e5,e6⟩;exact fin e1 e2 e3 e4 e5 e6 (d8 (by decide) (by decide)) (d8 (by decide) (by decide)) (by decide) λh=>by rcases h with h|h<;>cases h
structure Sub (H H':Heap):Prop where
 next:H.next<=H'.next
 get:∀i b,H.get i=some b->H'.get i=some b
def _root_.Go.Ax.Lc.sub{e lo n:Nat}{H H':Heap}{v:V}{cells:List V}(h:Lc e lo H v cells n)(s:Sub H H'):Lc e lo H' v cells n:=by
 refine⟨?_,λi hi=>⟨(h.own i hi).1,yak (h.own i hi).2 s.next⟩,h.cap⟩;have hr:=h.rc;cases v<;>try exact hr
 rename_i id off len cap;simp only[rcells]at hr ⊢;cases hg:H.get id with
 | none=>rw[hg]at hr;cases hr
 | some b=>rw[hg]at hr;rw[s.get _ _ hg];exact hr
def KeyM.sub{H H':Heap}{k:Nat}{K:Ky}(h:KeyM H k K)(s:Sub H H'):KeyM H' k K:=by
 obtain⟨a,av,sv,h1,⟨id,a1,a2,a3,a4,a5⟩,h3,h4⟩:=h.mem;exact⟨h.good,⟨a,av,sv,s.get _ _ h1,⟨id,s.get _ _ a1,s.get _ _ a2,yak a3 s.next,yak a4 s.next,a5⟩,h3.sub s,h4.sub s⟩,yak h.low s.next⟩
def ChainM.sub{lo:Nat}{H H':Heap}{q st:Nat}{base:List Nat}(h:ChainM lo H q st base)(s:Sub H H'):ChainM lo H' q st base:=by
 obtain⟨bv,h1,h2,h3⟩:=h.mem;exact⟨yak h.low s.next,h.lo',⟨bv,s.get _ _ h1,h2.sub s,λi hi=>by
  obtain⟨b,hb,ht⟩:=h3 i hi;exact⟨b,s.get _ _ hb,ht⟩⟩,h.b8,h.bl,h.st31⟩
def RcM.sub{H H':Heap}{c:Nat}{R:Rc}(h:RcM H c R)(s:Sub H H'):RcM H' c R:=by
 obtain⟨lc,h1,h2⟩:=h.ch;obtain⟨lk,h3,h4⟩:=h.ks;exact⟨yay h.top s.next,s.get _ _ h.rcd,⟨lc,s.get _ _ h1,h2.mono λ_ _ g=>g.sub s⟩,s.get _ _ h.win,h.wr,⟨lk,s.get _ _ h3,h4.mono λ_ _ g=>g.sub s⟩⟩
def nid(w:V):Nat->Bool:=λi=>match w.pid with|some j=>decide (i=j)|none=>false
def nid_t{w:V}{i:Nat}(h:nid w i=true):w.pid=some i:=by
 unfold nid at h;split at h
 ·rename_i j hj;rw[hj,of_decide_eq_true h]
 ·cases h
def nid_f{w:V}{i:Nat}(h:w.pid≠some i):nid w i=false:=by
 cases hn:nid w i with
 | false=>rfl
 | true=>exact absurd (nid_t hn) h
def zlk{H:Heap}{w:V}{i:Nat}(h:w.pid≠some i):(H.sans (nid w)).get i=H.get i:=by
 show(if i<H.next/\nid w i=true then none else H.get i) = _;rw[nid_f h,if_neg (by simp)]
def ztE(H:Heap)(N:Nat->Bool):Sub (H.sans N) H:=⟨yaj _,λi b hb=>by
 have hb:(if i<H.next/\N i=true then none else H.get i)=some b:=hb;split at hb
 ·cases hb
 ·exact hb⟩
def sans_cl{H:Heap}(hc:H.Cl)(N:Nat->Bool):(H.sans N).Cl:=λi hi=>by
 show(if i<H.next/\N i=true then none else H.get i)=none;have hi:H.next<=i:=hi;rw[if_neg (by omega)];exact hc i hi
def _root_.Go.Ax.Lc.sans{e lo n:Nat}{H:Heap}{v w:V}{cells:List V}(h:Lc e lo H v cells n)(hd:∀i,v.pid=some i->w.pid≠some i):Lc e lo (H.sans (nid w)) v cells n:=
 h.same (yaj _) λi hi=>zlk (hd i hi)
def AppS.top{lo:Nat}{P:Nat->Prop}{H:Heap}{v:V} {ls:List (List Nat)} (h:AppS lo P H v ls):AppS lo (λi=>P i/\i<H.next) H v ls:=by
 obtain⟨ws,h1,h2,h3⟩:=h;exact⟨ws,h1,h2,λw hw=>⟨(h3 w hw).1,λi hi=>⟨((h3 w hw).2 i hi).1,((h3 w hw).2 i hi).2,((h3 w hw).1.own i hi).2⟩⟩⟩
def ok_ab_cl{lo:Nat}{H:Heap}{x y:V}{l m:List Nat}(hc:H.Cl)(hx:Ab lo H x l)(hlo:lo<=H.next) (hy:acells 1 H y=some (m.map by8,m.length)) (hm:l.length+m.length<=1099511627776) :
  Ok (mappend zad 1 1 x y) H λx' H'=>Ab lo H' x' (l++m)/\Bel lo H H'/\Step H H' x.pid.toList x'.pid.toList/\H'.Cl:=by
 have h:Ok ((mappend zad 1 1 x y).bind M.pure) H λx' H'=>Ab lo H' x' (l++m)/\Bel lo H H'/\Step H H' x.pid.toList x'.pid.toList:=okb_ab' hx hlo hy hm λx' H' h1 h2 h3=>zha ⟨h1,h2,h3⟩;rw[bind_pure']at h;obtain⟨r,H',e,h1,h2,h3⟩:=h;exact⟨r,H',e,h1,h2,h3,(zk7 (G:=⟨0⟩) _ _ _ _ _ H r H' ⟨hc,yaI _⟩ e).2.cl⟩
set_option maxHeartbeats 1000000 in
def zp3{S1 sn1 c1 a1 id1 sl1 S2 sn2 c2 a2 id2 sl2:Nat}{W1 W2:Nat->V}{K K2:Ky}{e sp ct e2 sp2 ct2:Nat}{R1 R2:Rc}{f q f2 q2:Nat}{b1 o1 b2 o2:Bool}{H:Heap}{v:V}{b:List Nat}{n t:Nat}(hc:H.Cl)
  (h1:Pr H S1 sn1 c1 a1 id1 sl1 W1 K e sp ct R1 f q b1 o1) (h2:Pr H S2 sn2 c2 a2 id2 sl2 W2 K2 e2 sp2 ct2 R2 f2 q2 b2 o2)
  (hk:(b1=false/\(f=0\/f=1))\/(f=1/\b1=true/\o1=false)) (ha:a1=1\/a1=2\/a1=3) (n1:S1<sn1/\S1<c1/\(sn1<c1\/c1+4<=sn1)) (n2:S2<sn2/\S2<c2/\(sn2<c2\/c2+4<=sn2)) (n3:S1≠S2/\S1≠sn2/\S2≠sn1/\sn1≠sn2/\S1<c2/\S2<c1/\(sn1<c2\/c2+4<=sn1)/\(sn2<c1\/c1+4<=sn2)/\(c1+4<=c2\/c2+4<=c1))
  (hr:Rdy R2 n t K e sp sl1 ct) (hsz:szs R2.id=some (n,t)) (hKt:K.t<=32) (hKw:∀w∈K.ws,Word w) (hct:ct+8<=60) (hq:q<60000) (hv:∀H,By 0 H v b) (hvp:v.pid=none) (h8:Ok8 b) (hb:b.length<=800) :
  Ok (sem T za5 [.ptr S1 0,.ptr S2 0,v]) H λr H'=>r = .bool true/\∃o',(f=0->o'=false)/\Pr H' S1 sn1 c1 a1 id1 sl1 W1 K e sp (ct+(pcsL b).length) R1 (f+1) (q+(pcsL b).length) true o' /\
   Pr H' S2 sn2 c2 a2 id2 sl2 W2 K2 e2 sp2 ct2 (gotN R2 n t K e sp sl1 ct (pcsL b).length) f2 q2 b2 o2/\AtS [S1,sn1,c2,c2+1,c2+2] H H'/\H'.Cl:=by
 have pl:=zi4 b;have pl8:(pcsL b).length<=8:=by omega
 have p8:=ztP h8;refine zhb ?_;unfold zd7 uL uE uB uG uH uA uR uc ug;refine zaf (zyb hc h1 (key:=false) (by rcases hk with⟨rfl,hf⟩|⟨rfl,rfl,rfl⟩;exact .inl ⟨.inr rfl,hf⟩;exact .inr ⟨rfl,rfl,rfl,rfl⟩) ha (by omega) n1 (hv H) h8 hb (λi hi=>by rw[hvp]at hi;cases hi) hq hKt hKw) ?_;rintro _ H1 ⟨ov,PK,o',rfl,hov,hpl,hpk,hp1,ho',a1',c1'⟩;have hp2:Pr H1 S2 sn2 c2 a2 id2 sl2 W2 K2 e2 sp2 ct2 R2 f2 q2 b2 o2:=h2.atS hc a1' (by simp;omega) (by simp;omega) (by simp;omega) (by
  intro i hi;simp only[yau,yaw,or_false]at hi;rcases hi with rfl|rfl
  ·exact h1.oddS
  ·exact h1.oddN)
 have nx1:=a1'.next;have top2:=hp2.rcv.top;have ltS2:=hp2.ltS c1';refine zel rfl ?_;refine zel rfl ?_;simp(disch:=omega)only[↓RD,RZ,eq_self,seval];refine zao (α:=Res) (Q:=λr H'=>∃w,r = .ex 0 [w]/\Ab H1.next H' w b/\RcM H' c2 (gotN R2 n t K e sp sl1 ct (pcsL b).length)/\AtS [c2,c2+1,c2+2] H1 H'/\H'.Cl) ?_ ?_
 ·refine zaQ (λi L H'=>∃w,L=[w,.int .i64 (i:Nat)]/\Ab H1.next H' w ((pcsL b).take i).flatten/\RcM (H'.sans (nid w)) c2 (gotN R2 n t K e sp sl1 ct i)/\AtS [c2,c2+1,c2+2] H1 H'/\H'.Cl) PK.length ?_ ?_ ?_
  ·refine⟨.nils,rfl,Ab.nil,?_,AtS.refl _ _,c1'⟩;exact hp2.rcv.sub ⟨yaj _,λi b hb=>by rw[zlk (by simp[V.pid])];exact hb⟩
  ·rintro i _ H3 hi ⟨w,rfl,aw,hR,a3,c3⟩;have nx3:=a3.next;have hov3:=hov.top.keepB (yaj _) (KeepB.ofAtS a3 (yaj _) (λi hi=>.inl hi)) (S:=[c2,c2+1,c2+2]) (λi hi=>by
    have:=(hov.low hi).1;have t0:=h2.rcv.top;simp;omega) (λi hi=>by
    have hi:H.next<=i:=hi.1;have t0:=h2.rcv.top;simp;omega)
   obtain⟨p,bv,hp,hpl',hbv,hbp⟩:=hov3.at (i:=i) hi;have hld:=pl_one hpl';obtain⟨pk,q1,q2',q3,q4⟩:=hpk i hi;have hlt:((i:Nat):Int)<(PK.length:Nat):=by omega
   have wlow:∀j,w.pid=some j->H1.next<=j/\j<H3.next:=λj hj=>aw.by.own j hj;have hbl:∀j,bv.pid=some j->j<H1.next:=λj hj=>(hbp j hj).2.2;have hrdy:=rdy_n hr hKt i (by omega);obtain⟨e5,e6,e7,e8⟩:=ztW hrdy.1 (by omega) hKt (p:=(pcsL b).getD i []) (by
    rw[yan,yaf (by omega)];have:=(p8 _ (yaW (show i<(pcsL b).length by omega))).2;simp only[yaG];omega)
   obtain⟨sv2,rv2,u1,u2,hg2⟩:=hp2.seat;have hg3:=(a3.same S2 ltS2 (by simp;omega)).trans hg2;have hs3:(H3.sans (nid w)).get S2 = _:=(zlk (λe=>by have:=wlow _ e;omega)).trans hg3;have hbv3:=hbv.sans (w:=w) (λj hj hw=>by have:=hbl j hj;have:=wlow j hw;omega);have hpj:Ok8 ((pcsL b).getD i [])/\((pcsL b).getD i []).length<=100:=by
    rw[yan,yaf (by omega)];exact p8 _ (yaW _)
   have hsl:=zi2 hKt (ct+i) [] ((pcsL b).getD i []);have hhm:=znF K.kid (ct+i);have hT:=zkq c3 (zxr (nid w) (Take_ok (sans_cl c3 _) hs3 hR (by omega) (by rw[hrdy.2.1];exact hsz) hbv3 q3 (by omega) q1 (by rw[q2'];exact ztD hKw hpj.1) (by rw[q2'];omega)));unfold zcw uL uT uFM uE uB uIM uO uA uR uK uc uq ug;simp(disch:=omega)only[↓RD,RZ,eq_self,seval,hov3.vlen,hlt,hp,hld];refine zaf hT ?_;rintro r H4 ⟨⟨G4,⟨hgr,hR4,aG,cG⟩,m1,m2,m3,m4⟩,c4⟩;rw[q2',e5]at hgr hR4;obtain⟨x,rfl,hx⟩:=hgr;have nos:∀j bb,G4.get j=some bb->w.pid≠some j:=λj bb hj hw=>by
    have hw':=wlow j hw;have h0:=aG.same j hw'.2 (by simp;omega);rw[hj]at h0;have h9:(H3.sans (nid w)).get j=none:=by
     show(if j<H3.next/\nid w j=true then none else H3.get j)=none;rw[if_pos ⟨hw'.2,by unfold nid;rw[hw];exact decide_eq_true rfl⟩]
    rw[h9]at h0;cases h0
   have g4e:∀j bb,G4.get j=some bb->H4.get j=some bb:=λj bb hj=>by
    rw[m4 j λhh=>nos j bb hj (nid_t hh.2)];exact hj
   have sub4:Sub G4 H4:=⟨by omega,g4e⟩;have a34:AtS [c2,c2+1,c2+2] H3 H4:=⟨m2,λj hj hn=>by
    by_cases hw:nid w j=true
    ·exact m3 j hj hw
    ·rw[m4 j λhh=>hw hh.2,aG.same j hj hn];exact zlk λe=>hw (by unfold nid;rw[e];exact decide_eq_true rfl)⟩
   have hx4:By H3.next H4 x ((pcsL b).getD i []):=hx.sub sub4;have nx4:=a34.next;simp(disch:=omega)only[↓RD,RZ,eq_self,seval,hx4.cells1,hx4.okc];generalize hHH:Heap.set _ H4.next _=H5;have s5:Grow H4 H5:=by rw[<-hHH];exact(Grow.new H4 _).set (yaj _) _
   have c5:H5.Cl:=by rw[<-hHH];exact zc6 (zeY c4 _) (by rw[zac];omega) _
   clear hHH;have nx5:=s5.next;have aw5:Ab H1.next H5 w ((pcsL b).take i).flatten:=aw.keep ⟨by omega,λj h1 h2=>by rw[s5.same j (by omega),a34.same j h2 (by simp;omega)]⟩;have hR5:RcM (H5.sans (nid w)) c2 (gotR (gotN R2 n t K e sp sl1 ct i) n t K e sp sl1 (ct+i)):=hR4.sub ⟨by show G4.next<=H5.next;omega,λj bb hj=>by
    have hlt4:j<H4.next:=zcd c4 (g4e j bb hj);rw[zlk (nos j bb hj),s5.same j hlt4];exact g4e j bb hj⟩
   have hlen:((pcsL b).take i).flatten.length+((pcsL b).getD i []).length<=1099511627776:=by
    have h5:=zdI (pcsL b) i;rw[zrh]at h5;omega
   refine zaf (ok_ab_cl c5 aw5 (by omega) (hx4.ext s5).ac hlen) ?_;rintro w' H6 ⟨aw6,b6,st6,c6⟩;have nx6:=b6.next;simp(disch:=omega)only[↓RD,RZ,eq_self,seval];refine⟨w',by rfl,?_,?_,?_,c6⟩
   ·rw[zgT (p:=(pcsL b).getD i []) (by rw[yan,yaf (by omega)];rfl)];exact aw6
   ·refine hR5.sub ⟨by show H5.next<=H6.next;omega,λj bb hj=>?_⟩;have hj5:=(ztE H5 (nid w)).get j bb hj;have hl5:=zcd c5 hj5;have hnw:w.pid≠some j:=λhw=>by
     have h9:(H5.sans (nid w)).get j=none:=by
      show(if j<H5.next/\nid w j=true then none else H5.get j)=none;rw[if_pos ⟨hl5,by unfold nid;rw[hw];exact decide_eq_true rfl⟩]
     rw[h9]at hj;cases hj
    have hnl:j∉w.pid.toList:=λhm=>hnw (by simpa [zbK]using hm);rw[zlk (λhw'=>by
     rcases st6.own j (by simp[hw']) with h|h
     ·exact hnl h
     ·omega),st6.same j hl5 hnl]
    exact hj5
   ·refine⟨by omega,λj hj hn=>?_⟩;rw[b6.same j (by omega),s5.same j (by omega),a34.same j (by omega) hn];exact a3.same j hj hn
  ·rintro _ H3 ⟨w,rfl,aw,hR,a3,c3⟩;unfold zcw uL uT uFM uE uB uIM uO uA uR uK uc uq ug;simp(disch:=omega)only[↓RD,RZ,eq_self,seval,hov.vlen];refine⟨w,rfl,?_,?_,a3,c3⟩
   ·rw[hpl,yal (yaj _),zrh]at aw;exact aw
   ·rw[hpl]at hR;exact hR.sub (ztE _ _)
 ·rintro _ H3 ⟨w,rfl,aw,hR,a3,c3⟩;have hpos:(0:Int)<(PK.length:Nat):=by omega
  have hov3:=hov.vlen;simp(disch:=omega)only[↓RD,RZ,eq_self,seval,RG,hov3,decide_eq_true hpos];refine zaf (zkq c3 (same_ok aw.by (hv H3) h8 h8)) ?_;rintro _ H4 ⟨⟨rfl,e4⟩,c4⟩;simp(disch:=omega)only[↓RD,RZ,eq_self,seval,RG];rw[e4];have a13:AtS [S1,sn1,c2,c2+1,c2+2] H H3:=(a1'.mono (by simp)).trans (a3.mono (by simp));have od:∀i∈[c2,c2+1,c2+2],∃x,H1.get i=some x/\OddR x:=λi hi=>by
   simp only[yau,yaw,or_false]at hi;exact hp2.rcv.odd i (by omega) (by omega)
  obtain⟨sv2,rv2,u1,u2,hg2⟩:=hp2.seat;refine⟨o',λh0=>ho' (.inl h0),hp1.atS c1' a3 (by simp;omega) (by simp;omega) (by simp;omega) od,⟨⟨sv2,rv2,u1,u2,(a3.same S2 ltS2 (by simp;omega)).trans hg2⟩,hp2.wn,hp2.snd.atS a3 (by simp;omega) (λi hi=>by
   obtain⟨x,hx,ho⟩:=od i hi;exact⟨x,hx,ho.1⟩),hR⟩,a13,c3⟩
def u8(l:List Nat):List V:=l.map by8
def pairT(id:Nat):Tabs:=⟨[
 .hm (u8 [111,119,110]) (u8 [97]),
 .ex (syms 0 0 32) (u8 [0,0,0,1,0,0]) 32,
 .hm (u8 [111,119,110]) (u8 [98]),
 .ex (syms 2 0 32) (u8 [0,0,0,1,0,0]) 32,
 .hm (u8 [112,97,105,114]) [.lit (.int .u64 0)],
 .ex (syms 4 0 32) (u8 [1,2]) 32,
 .se id 1 (syms 5 0 32) 0 (u8 [2,1]) (syms 3 0 32),
 .hm [] (syms 1 0 32),
 .ex (syms 7 0 32) (u8 [83,70,114,97,109,101,32,49,46,48,32,82,97,116,99,104,101,116]) 32,
 .se id 8 (syms 5 0 32) 0 (u8 [1,2]) (syms 8 0 32)],[
 (0,.sl [.lit (.int .u64 0)]),
 (13,.sl [.lit (.int .u64 0)]),
 (18,.sl [.lit (.int .u64 0)]),
 (88,.key id 0 (syms 1 0 32)),
 (157,.key id 1 (syms 3 0 32)),
 (186,.key id 1 (syms 5 0 32)),
 (275,.key id 8 (syms 8 0 32)),
 (310,.key id 8 (syms 5 0 32)),
 (388,.key id 1 (syms 5 0 32)),
 (450,.key id 8 (syms 5 0 32))]⟩
def seW(slot step:Nat):Nat->V
 | 4=>.int .i64 1|5=>.int .u64 1|7=>.int .i64 0|8=>.int .i64 (slot:Nat)|9=>.int .i64 3|10=>.int .i64 1|11=>.int .i64 2|20=>.int .i64 (step:Nat)|21=>.int .i64 (-1)
 | _=>.int .i64 0
def rcvC(id c:Nat):List V:=[.int .i64 (id:Nat),.mp c,.mp (c+1),.mp (c+2)]
def zgC(id:Nat):Prop:=Ax.look [14,19,64,65,66,67,68,133,134,135,136,137,394,395,456,457] (Y.cdo T selO (orc (pairT id).fnd) 60 zb2 [.int .i64 (id:Nat),.lit (.int .i64 0)] (Cc.hp (List.replicate 10 none)))=some (.tup [.ptr 14 0,.ptr 19 0],[
  some ⟨zaj,stX 1 id (.sl 12 0 1 (.opn 1)) (.lit (.int .i64 1)) (seW 0 1) (.ptr 64 0) (.ptr 68 0) 0 0 false false,none⟩,
  some ⟨zaj,stX 2 id (.sl 17 0 1 (.opn 1)) (.lit (.int .i64 2)) (seW 1 0) (.ptr 133 0) (.ptr 137 0) 0 0 false false,none⟩,
  some ⟨zaJ,sndC (id:Nat) (0:Nat) (.ptr 6 0) (0:Nat) (1:Nat) 8 0,none⟩,
  some ⟨tyC,[.agg [.int .i64 0,.int .i64 1],.ptr 395 0],none⟩,some ⟨tyW,[],none⟩,some ⟨tyK,[],none⟩,some ⟨zb9,rcvC id 65,none⟩,
  some ⟨zaJ,sndC (id:Nat) (1:Nat) (.ptr 4 0) (0:Nat) (0:Nat) 1 0,none⟩,
  some ⟨tyC,[.agg [.int .i64 0,.int .i64 0],.ptr 457 0],none⟩,some ⟨tyW,[],none⟩,some ⟨tyK,[],none⟩,some ⟨zb9,rcvC id 134,none⟩,
  some ⟨zad,syms 3 0 32,some 1⟩,some ⟨zaX,[.int .i64 0,.sl 394 0 32 (.opn 1)],none⟩,
  some ⟨zad,syms 8 0 32,some 1⟩,some ⟨zaX,[.int .i64 1,.sl 456 0 32 (.opn 1)],none⟩])
def pr_1:zgC 1:=by unfold zgC;kernel_rfl
def pr_2:zgC 2:=by unfold zgC;kernel_rfl
def pr_3:zgC 3:=by unfold zgC;kernel_rfl
def pr_16:zgC 16:=by unfold zgC;kernel_rfl
def pair_run{id:Nat}(hid:id=1\/id=2\/id=3\/id=16):zgC id:=by
 rcases hid with rfl|rfl|rfl|rfl
 ·exact pr_1
 ·exact pr_2
 ·exact pr_3
 ·exact pr_16
section
variable {t:Tabs} {s:Nat->Nat} {q:Nat->List Nat} {g:Y.Sg} {h K:Heap}
def snd_at(ht:TabV t s q) (st:Y.St (tbOf t s q) g h K) {i m n0 id slot e sp kid c a:Nat} {bl:List V} (hb:h.get i=some ⟨zaJ,sndC (id:Nat) (slot:Nat) (.ptr m 0) (e:Nat) (sp:Nat) kid c,none⟩) (hm:t.ks[m]?=some (n0,.key id kid bl)) (hc:c<18446744073709551616)
  {n tg:Nat} (hs:szs id=some (n,tg)) (ha:t.ks.length<=a) (han:a<n0) (hna:g.nf a):SndM (g.e.f a+1) K (g.e.f i) (id:Nat) (slot:Nat) (some (drv id kid n tg (iv s q bl),(e:Nat),(sp:Nat),c)):=by
 obtain⟨h1,h2,h3,h4⟩:=zgk st hb;obtain⟨n',tg',lo,k1,k2,k3⟩:=key_at ht st hb (k:=2) rfl hm;rw[hs]at k1;simp only[yaa,yae]at k1;obtain⟨rfl,rfl⟩:=k1;refine⟨h3,hc,g.e.f m,h1,k2.m,k2.kl.low ?_⟩;have:=k3 a ha han hna;omega
def rcv_at(ht:TabV t s q) (st:Y.St (tbOf t s q) g h K) {c id j sp ib ic:Nat} {e sl:Int} {b:Bd} (h0:h.get c=some ⟨tyC,[.agg [.int .i64 e,.int .i64 sl],.ptr ic 0],none⟩) (h1:h.get (c+1)=some ⟨tyW,[],none⟩) (h2:h.get (c+2)=some ⟨tyK,[],none⟩) (h3:h.get (c+3)=some ⟨zb9,rcvC id c,none⟩)
  (h4:h.get ib=some ⟨zad,syms j 0 32,some 1⟩) (h5:h.get ic=some ⟨zaX,[.int .i64 (sp:Nat),.sl ib 0 32 (.opn 1)],none⟩) (hi:c+3<ib) (hic:c+3<ic) (hb:t.bs[j]?=some b) (hl:(val s q b).length=32) (h8:Ok8 (val s q b)) (hsp:sp<=31) :
  RcM K (g.e.f c) ⟨id,[((e,sl),(sp,val s q b))],[],[]⟩/\g.e.f (c+3)=g.e.f c+3:=by
 obtain⟨a0,b0,d0,l0⟩:=zgk st h0;obtain⟨a1,b1,d1,l1⟩:=zgk st h1;obtain⟨a2,b2,d2,l2⟩:=zgk st h2;obtain⟨a3,b3,d3,l3⟩:=zgk st h3;obtain⟨a4,b4,d4,l4⟩:=zgk st h4;obtain⟨a5,b5,d5,l5⟩:=zgk st h5;have e1:g.e.f (c+1)=g.e.f c+1:=st.seq c l0 b0 b1;have e2:g.e.f (c+2)=g.e.f (c+1)+1:=st.seq (c+1) l1 b1 b2;have e3:g.e.f (c+3)=g.e.f (c+2)+1:=st.seq (c+2) l2 b2 b3;have m4:=st.mono (c+3) ib l3 hi b3 b4;have m5:=st.mono (c+3) ic l3 hic b3 b5;have hsy:=zmZ ht (d:=g.e) st.s hb (o:=0) (n:=32) (by omega) (by decide);rw[yaC]at hsy;have a4':K.get (g.e.f ib)=some ⟨zad,(val s q b).map by8,some 1⟩:=by
  rw[a4];unfold Y.shB;rw[hsy]
 have hby:By (g.e.f c+4) K (.sl (g.e.f ib) 0 32 (.opn 1)) (val s q b):=by
  refine⟨?_,λi hi=>by injection hi with hi;subst hi;omega,rfl⟩;simp only[rcells,a4',Option.bind_some];rw[if_pos (by rw[yai];omega),yaC,yal (by rw[yai];omega),hl]
 refine⟨⟨by show g.e.f c+4<=K.next;omega,?_,⟨[((e,sl),g.e.f ic)],a0,rfl,?_,trivial⟩,?_,(λp hp=>by cases hp),⟨[],?_,trivial⟩⟩,by omega⟩
 ·rw[show g.e.f c+3=g.e.f (c+3) by omega,a3];show some (Blk.mk zb9 [.int .i64 (id:Nat),.mp (g.e.f c),.mp (g.e.f (c+1)),.mp (g.e.f (c+2))] none)=some (Blk.mk zb9 [.int .i64 (id:Nat),.mp (g.e.f c),.mp (g.e.f c+1),.mp (g.e.f c+2)] none);rw[e2,e1]
 ·refine⟨by show g.e.f ic<K.next;exact d5,by show g.e.f c+4<=g.e.f ic;omega,⟨.sl (g.e.f ib) 0 32 (.opn 1),a5,hby,λi hi=>?_⟩,h8,by show(val s q b).length<=_;omega,hsp⟩;injection hi with hi
  subst hi;exact⟨_,a4',rfl⟩
 ·rw[<-e1];exact a1
 ·rw[show g.e.f c+2=g.e.f (c+2) by omega];exact a2
end
structure Met (H:Heap) (S sn c a id slot:Nat) (W:Nat->V) (K:Ky) (sp:Nat) (R:Rc):Prop where
 seat:∃sv rv,(∀n,sv≠.int .u8 n)/\(∀n,rv≠.int .u8 n)/\H.get S=some ⟨zaj,stX a id sv rv W (.ptr sn 0) (.ptr (c+3) 0) 0 0 false false,none⟩
 snd:SndM (S+1) H sn (id:Nat) (slot:Nat) (some (K,(0:Nat),(sp:Nat),0))
 rcv:RcM H c R
def zxg{id:Nat}(hid:id=1\/id=2\/id=3\/id=16):lowT 0 (pairT id).bs=true:=by rcases hid with rfl|rfl|rfl|rfl<;>kernel_rfl
def pair_ok{H:Heap}(hc:H.Cl){id n tg:Nat}(hid:id=1\/id=2\/id=3\/id=16) (hs:szs id=some (n,tg)) {rv:V} {root:List Nat} (hr:∀H,By 0 H rv root) (hrp:rv.pid=none) (hr8:Ok8 root) (hrl:root.length<=1048576) :
  Ok (sem T zb2 [.int .i64 (id:Nat),rv]) H λr H'=>∃A B sn1 sn2 c1 c2 V1 V2,r = .tup [.ptr A 0,.ptr B 0] /\
   Met H' A sn1 c1 1 id 0 (seW 0 1) (drv id 8 n tg V2) 1 ⟨id,[((0,1),(0,V1))],[],[]⟩/\Met H' B sn2 c2 2 id 1 (seW 1 0) (drv id 1 n tg V1) 0 ⟨id,[((0,0),(1,V2))],[],[]⟩ /\
   H.next<=A/\A<B/\B<sn1/\sn1<c1/\c1+3<sn2/\sn2<c2/\Grow H H'/\H'.Cl:=by
 obtain⟨s,ht⟩:=tab_ex (t:=pairT id) (q:=λ_=>root) (zxg hid) (λ_=>hr8) (λ_=>hrl);have hrun:=pair_run hid;unfold zgC at hrun;refine zao (sym_ok ht (ws:=[rv]) (λm v hm=>?_) (by show 0<10;decide) hrun (args':=[.int .i64 (id:Nat),rv]) (λd hd=>?_) hc) ?_
 ·cases m with
  | zero=>
   simp only[yaF,yaa]at hm;subst hm;refine⟨[.lit (.int .u64 0)],rfl,λH=>?_,rfl,hrp⟩;show By 0 H rv (root++[]);rw[yaK];exact hr H
  | succ m=>cases hm
 ·have h1:=hd 0 rv rfl;show[V.int .i64 (id:Nat),rv]=[.int .i64 (id:Nat),Y.okw (d.w (0:Int).toNat)];have h2:d.w (0:Int).toNat=rv:=h1;rw[h2];unfold Y.okw;rw[if_pos (zxP (hr H))]
 ·rintro r H' ⟨g,h,st,rfl,hos,gr,cl,hlow⟩;simp only[yaT,ybS,ybO,and_true]at hos;obtain⟨o1,o2,o3,o4,o5,o6,o7,o8,o9,o10,o11,o12,o13,o14,o15,o16⟩:=hos;have e3:(pairT id).bs[3]?=some (.ex (syms 2 0 32) (u8 [0,0,0,1,0,0]) 32):=rfl;have e8:(pairT id).bs[8]?=some (.ex (syms 7 0 32) (u8 [83,70,114,97,109,101,32,49,46,48,32,82,97,116,99,104,101,116]) 32):=rfl;have hx:∀a b,(val s (λ_=>root) (.ex a b 32)).length=32/\Ok8 (val s (λ_=>root) (.ex a b 32)):=λa b=>⟨by
   show((hkdf kc (iv s _ a) (iv s _ b) ((32+31)/32)).1.take 32).length = _;rw[yaq,zf8];decide,Ok8.take (zjU kc _ _ _).1 _⟩
  have l3:=hx (syms 2 0 32) (u8 [0,0,0,1,0,0]);have l8:=hx (syms 7 0 32) (u8 [83,70,114,97,109,101,32,49,46,48,32,82,97,116,99,104,101,116]);obtain⟨a1,b1,d1,-⟩:=zgk st o1.symm;obtain⟨a2,b2,d2,-⟩:=zgk st o2.symm;obtain⟨-,b3,-,-⟩:=zgk st o3.symm;obtain⟨-,b4,-,-⟩:=zgk st o4.symm;obtain⟨-,b7,-,-⟩:=zgk st o7.symm;obtain⟨-,b8,-,-⟩:=zgk st o8.symm;obtain⟨-,b9,-,-⟩:=zgk st o9.symm;have r1:=rcv_at ht st (c:=65) (sp:=0) (e:=0) (sl:=1) o4.symm o5.symm o6.symm o7.symm o13.symm o14.symm (by decide) (by decide) e3 l3.1 l3.2 (by decide);have r2:=rcv_at ht st (c:=134) (sp:=1) (e:=0) (sl:=0) o9.symm o10.symm o11.symm o12.symm o15.symm o16.symm (by decide) (by decide) e8 l8.1 l8.2 (by decide);have s1:=snd_at ht st (n0:=275) (a:=14) o3.symm rfl (by decide) hs (by show 10<=14;decide) (by decide) b1;have s2:=snd_at ht st (n0:=157) (a:=19) o8.symm rfl (by decide) hs (by show 10<=19;decide) (by decide) b2;rw[zxT ht e8 l8.1 (by decide)]at s1;rw[zxT ht e3 l3.1 (by decide)]at s2;have R:∀{i j:Nat},10<=i->i<j->g.nf i->g.nf j->g.e.f i<g.e.f j:=λ{i j} h1 h2 h3 h4=>st.mono i j h1 h2 h3 h4;have a1':H'.get (g.e.f 14)=some ⟨zaj,stX 1 id (Y.sh g.e (.sl 12 0 1 (.opn 1))) (Y.sh g.e (.lit (.int .i64 1))) (seW 0 1) (.ptr (g.e.f 64) 0) (.ptr (g.e.f 65+3) 0) 0 0 false false,none⟩:=by rw[<-r1.2];exact a1
  have a2':H'.get (g.e.f 19)=some ⟨zaj,stX 2 id (Y.sh g.e (.sl 17 0 1 (.opn 1))) (Y.sh g.e (.lit (.int .i64 2))) (seW 1 0) (.ptr (g.e.f 133) 0) (.ptr (g.e.f 134+3) 0) 0 0 false false,none⟩:=by rw[<-r2.2];exact a2
  have nu:∀{i k m:Nat} {b:Blk},h.get i=some b->b.cells[k]?=some (.lit (.int .i64 (m:Nat)))->rd (pairT id).fnd h (.lit (.int .i64 (m:Nat)))=some [.lit (.int .u64 0)]->∀n,Y.sh g.e (.lit (.int .i64 (m:Nat)))≠.int .u8 n:=λh1 h2 h3 n e=>by
   have:=(znd ht st h3 (zyU st h1 h2)).1.rc;rw[e]at this;cases this
  refine⟨g.e.f 14,g.e.f 19,g.e.f 64,g.e.f 133,g.e.f 65,g.e.f 134,_,_,rfl,⟨⟨_,_,λn e=>(by cases e),nu (k:=3) (m:=1) o1.symm rfl rfl,a1'⟩,s1,r1.1⟩,⟨⟨_,_,λn e=>(by cases e),nu (k:=3) (m:=2) o2.symm rfl rfl,a2'⟩,s2,r2.1⟩,hlow _ b1,R (by decide) (by decide) b1 b2,R (by decide) (by decide) b2 b3,R (by decide) (by decide) b3 b4,?_,R (by decide) (by decide) b8 b9,gr,cl⟩
  ·rw[<-r1.2];exact R (by decide) (by decide) b7 b8
end Go.Ax.SU
/- Se8 -/
namespace Go.Ax.SU
open Go.Ax Go.Proofs
def awT:Tabs:=⟨[.hm (u8 [111,119,110]) (u8 [115]),.ex (syms 0 0 32) (u8 [0,0,0,1,0,3]) 32],[(76,.key 1 768 (syms 1 0 32))]⟩
def aw_run:Ax.look [] (Y.cdo T selO (orc awT.fnd) 60 zbL [] (Cc.hp (List.replicate 1 none)))=some (.bool true,[]):=by kernel_rfl
def awake_s{H:Heap}(hc:H.Cl):Ok (sem T zbL []) H λr H'=>r = .bool true/\Grow H H'/\H'.Cl:=by
 obtain⟨s,ht⟩:=tab_ex (t:=awT) (q:=λ_=>[]) (by kernel_rfl) (λ_=>Ok8.nil) (λ_=>yaI _);refine zao (sym_ok ht (ws:=[]) (λm v hm=>by cases hm) (by decide) aw_run (args':=[]) (λd hd=>rfl) hc) ?_;rintro r H' ⟨g,h,st,rfl,-,gr,cl,-⟩;exact⟨rfl,gr,cl⟩
def in_x{S a id f q:Nat}{sv rv snd rcv:V}{W:Nat->V}{b o:Bool}{H:Heap} (hg:H.get S=some ⟨zaj,stX a id sv rv W snd rcv f q b o,none⟩):Ok (sem T zdT [.ptr S 0]) H λr H'=>r = .tup [W 7,W 8,W 18,.bool true]/\H'=H:=by
 refine znp ?_;unfold zjA uL uNFM uR uc;unfold stX at hg;simp(disch:=omega)only[↓RD,RZ,hg]
def zrD{S a id f q:Nat}{sv rv snd rcv:V}{W:Nat->V}{b o:Bool}{H:Heap} (hg:H.get S=some ⟨zaj,stX a id sv rv W snd rcv f q b o,none⟩):Ok (sem T zbG [.ptr S 0]) H λr H'=>r=W 9/\H'=H:=by
 refine zjc ?_;unfold zfG uNFM uR;unfold stX at hg;simp(disch:=omega)only[↓RD,RZ,hg]
def seW_n(slot step:Nat):∀i n,seW slot step i≠.int .u8 n:=λi n e=>by
 unfold seW at e;split at e<;>cases e
def zq7{w:Nat}{rv xv yv:V}{root x y:List Nat}(hw:w<256)(hr:∀H,By 0 H rv root)(hrp:rv.pid=none)(hr8:Ok8 root)(hrl:root.length<=1048576)(hx:∀H,By 0 H xv x)(hxp:xv.pid=none)(hx8:Ok8 x)(hy:∀H,By 0 H yv y)(hyp:yv.pid=none)(hy8:Ok8 y){H:Heap}(hc:H.Cl) :
  Ok (sem T zbn [.int .u8 (w:Nat),rv,xv,yv]) H λr _=>r = .bool true:=by
 refine zfj ?_;unfold zdg uL uE uB uG uH uA uR uc ub;obtain⟨id,n,t,hid,hs,e⟩:∃id n t,(id=1\/id=2\/id=3\/id=16)/\szs id=some (n,t)/\Ax.index 4 1 none (.agg [.int .i64 1,.int .i64 2,.int .i64 3,.int .i64 16]) (.int .u8 ((w:Int).tmod 4))=some (.int .i64 (id:Nat)):=by
  have h4:(w:Int).tmod 4=0\/(w:Int).tmod 4=1\/(w:Int).tmod 4=2\/(w:Int).tmod 4=3:=by
   rw[ydt (by omega)];omega
  rcases h4 with h|h|h|h<;>rw[h]
  ·exact⟨1,16,10,.inl rfl,rfl,rfl⟩
  ·exact⟨2,16,8,.inr (.inl rfl),rfl,rfl⟩
  ·exact⟨3,16,4,.inr (.inr (.inl rfl)),rfl,rfl⟩
  ·exact⟨16,32,10,.inr (.inr (.inr rfl)),rfl,rfl⟩
 obtain⟨hn4,ht10,hid'⟩:=zwq hs;refine zel (v:=.agg [.int .i64 1,.int .i64 2,.int .i64 3,.int .i64 16]) rfl ?_;refine zel (v:=.int .u8 ((w:Int).tmod 4)) rfl ?_;refine zel e ?_;refine zaf (pair_ok hc hid hs hr hrp hr8 hrl) ?_;rintro _ H1 ⟨A,B,sn1,sn2,c1,c2,V1,V2,rfl,mA,mB,l0,l1,l2,l3,l4,l5,s1,k1⟩;have pA:Pr H1 A sn1 c1 1 id 0 (seW 0 1) (drv id 8 n t V2) 0 1 0 ⟨id,[((0,1),(0,V1))],[],[]⟩ 0 0 false false:=⟨mA.seat,seW_n _ _,mA.snd,mA.rcv⟩;have pB:Pr H1 B sn2 c2 2 id 1 (seW 1 0) (drv id 1 n t V1) 0 0 0 ⟨id,[((0,0),(1,V2))],[],[]⟩ 0 0 false false:=⟨mB.seat,seW_n _ _,mB.snd,mB.rcv⟩;refine zel rfl ?_;refine zel rfl ?_;refine zaf (awake_s k1) ?_;rintro _ H2 ⟨rfl,s2,k2⟩;have pA2:=pA.atS k1 (Grow.atS s2 []) (by simp) (by simp) (by simp) (by simp);have pB2:=pB.atS k1 (Grow.atS s2 []) (by simp) (by simp) (by simp) (by simp);have hxl:=(hx H2).vlen;have hyl:=(hy H2).vlen;by_cases h1:x.length<=800
 ·have d1:decide ((800:Int)<(x.length:Nat))=false:=decide_eq_false (by omega);by_cases h2:y.length<=800
  ·have d2:decide ((800:Int)<(y.length:Nat))=false:=decide_eq_false (by omega);simp(disch:=omega)only[↓RD,RZ,RG,hxl,hyl,d1,d2];have g8:KyG (drv id 8 n t V2):=zmJ hs (by decide);have g1:KyG (drv id 1 n t V1):=zmJ hs (by decide);have plx:=zi4 x;have ply:=zi4 y;refine zaf (zp3 k2 pA2 pB2 (.inl ⟨rfl,.inl rfl⟩) (.inl rfl) (by omega) (by omega) (by omega) (n:=n) (t:=t) ⟨rfl,by decide,by decide,by decide,⟨1,V2,rfl,by decide,rfl⟩,rfl⟩ hs g8.t g8.ws (by decide) (by decide) hx hxp hx8 h1) ?_;rintro _ H3 ⟨rfl,o3,ho3,pA3,pB3,a3,k3⟩;have ho3:=ho3 rfl;subst ho3;simp(disch:=omega)only[↓RD,RZ,RG];refine zaf (zp3 k3 pB3 pA3 (.inl ⟨rfl,.inl rfl⟩) (.inr (.inl rfl)) (by omega) (by omega) (by omega) (n:=n) (t:=t) ⟨rfl,by decide,by decide,by decide,⟨0,V1,rfl,by decide,rfl⟩,rfl⟩ hs g1.t g1.ws (by decide) (by decide) hy hyp hy8 h2) ?_;rintro _ H4 ⟨rfl,o4,-,pB4,pA4,a4,k4⟩;simp(disch:=omega)only[↓RD,RZ,RG];have hrd:=rdy_n (R:=⟨id,[((0,0),(1,V2))],[],[]⟩) (n:=n) (t:=t) (K:=drv id 8 n t V2) (e:=0) (st:=1) (sl:=0) (c:=0) ⟨rfl,by decide,by decide,by decide,⟨1,V2,rfl,by decide,rfl⟩,rfl⟩ g8.t (pcsL x).length (by omega);refine zaf (zp3 k4 pA4 pB4 (.inr ⟨rfl,rfl,rfl⟩) (.inl rfl) (by omega) (by omega) (by omega) hrd.1 (by rw[hrd.2.1];exact hs) g8.t g8.ws (by omega) (by omega) hy hyp hy8 h2) ?_;rintro _ H5 ⟨rfl,o5,-,pA5,pB5,a5,k5⟩;simp(disch:=omega)only[↓RD,RZ,RG];have w18:seW 0 1 18 = .int .i64 0:=rfl;have w9:seW 0 1 9 = .int .i64 3:=rfl;have w9':seW 1 0 9 = .int .i64 3:=rfl;obtain⟨svA,rvA,-,-,hgA⟩:=pA5.seat;obtain⟨svB,rvB,-,-,hgB⟩:=pB5.seat;refine zaf (in_x hgA) ?_;rintro _ _ ⟨rfl,rfl⟩;simp(disch:=omega)only[↓RD,RZ,RG,w18,w9,w9'];refine zaf (zrD hgA) ?_;rintro _ _ ⟨rfl,rfl⟩;simp(disch:=omega)only[↓RD,RZ,RG,w18,w9,w9'];refine zaf (zrD hgB) ?_;rintro _ _ ⟨rfl,rfl⟩;simp(disch:=omega)only[↓RD,RZ,RG,w18,w9,w9']
  ·have d2:decide ((800:Int)<(y.length:Nat))=true:=decide_eq_true (by omega);simp(disch:=omega)only[↓RD,RZ,RG,hxl,hyl,d1,d2]
 ·have d1:decide ((800:Int)<(x.length:Nat))=true:=decide_eq_true (by omega);simp(disch:=omega)only[↓RD,RZ,RG,hxl,hyl,d1]
end Go.Ax.SU
namespace Go.Ax
open SU
theorem law_seatMeets(us:List V) (h:zzd [.int .u8,.sl (.int .u8),.sl (.int .u8),.sl (.int .u8)] us) (hb:V.blks us<=1048576):∃H',sem T zbn us H0=some (.bool true,H'):=by
 obtain⟨a1,a2,a3,a4,rfl⟩:∃a1 a2 a3 a4,us=[a1,a2,a3,a4]:=by
  rcases us with _|⟨a1,_|⟨a2,_|⟨a3,_|⟨a4,_|⟨a5,us⟩⟩⟩⟩⟩
  ·cases h
  ·cases h.2
  ·cases h.2.2
  ·cases h.2.2.2
  ·exact⟨a1,a2,a3,a4,rfl⟩
  ·cases h.2.2.2.2
 simp only[V.blks]at hb;obtain⟨x1,hx1,hx1'⟩:=sh_u8 h.1;obtain⟨v2,l2,e2,g2,h2⟩:=zwN h.2.1;obtain⟨v3,l3,e3,g3,h3⟩:=zwN h.2.2.1;obtain⟨v4,l4,e4,g4,h4⟩:=zwN h.2.2.2.1;cases hx1;cases e2;cases e3;cases e4;have b2:=g2.blk (λx=>by simp[by8,V.blk]);obtain⟨r,H',h1,rfl⟩:=zq7 (H:=H0) hx1' (λH=>g2.lc 0) g2.pid h2 (by omega) (λH=>g3.lc 0) g3.pid h3 (λH=>g4.lc 0) g4.pid h4 (λ_ _=>rfl);exact⟨H',h1⟩
end Go.Ax
