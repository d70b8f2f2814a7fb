/-
  Texts of mine, put together by program (wip/slim.py), for law_seatLater: part 13.
-/
import Derived.Test.YtboeopafnogfmaaGreatZl12
noncomputable section
set_option linter.unusedVariables false
set_option linter.unusedSimpArgs false
set_option linter.defProp false
set_option maxRecDepth 100000
/- St10 -/
namespace Go.Ax.SU
open Go.Ax Go.Proofs
structure AppS (lo:Nat) (P:Nat->Prop) (H:Heap) (v:V) (ls:List (List Nat)):Prop where
 ex:∃ws:List (List Nat×V),ws.map (·.1)=ls/\App zal 1 lo H v (ws.map (·.2)) ws.length/\∀w∈ws,By 0 H w.2 w.1/\∀id,w.2.pid=some id->v.pid≠some id/\P id
def AppS.nil{lo:Nat}{P:Nat->Prop}{H:Heap}:AppS lo P H .nils []:=⟨[],rfl,App.nil,λw h=>by cases h⟩
def AppS.grow{lo:Nat}{P:Nat->Prop}{H H':Heap}{v:V} {ls:List (List Nat)} (h:AppS lo P H v ls) (g:Grow H H'):AppS lo P H' v ls:=by
 obtain⟨ws,h1,h2,h3⟩:=h;exact⟨ws,h1,R7.App.keep h2 (g.keep lo),λw hw=>⟨(h3 w hw).1.ext g,(h3 w hw).2⟩⟩
def zpm{β:Type}{bytes lo:Nat}{P:Nat->Prop}{H:Heap}{x y bv:V} {ls:List (List Nat)} {b:List Nat} {f:V->M β} {Q:β->Heap->Prop} (hx:AppS lo P H x ls) (hlo:lo<=H.next) (hy:acells 1 H y=some ([bv],1)) (hbv:By 0 H bv b) (hd:∀id,bv.pid=some id->x.pid≠some id/\P id)
  (hb:(ls.length+1)*bytes<=140737488355328) (hm:ls.length+1<=140737488355328)
  (k:∀x' H',AppS lo P H' x' (ls++[b])->Step H H' x.pid.toList x'.pid.toList->Ok (f x') H' Q):Ok ((mappend zal 1 bytes x y).bind f) H Q:=by
 obtain⟨ws,rfl,h2,h3⟩:=hx;rw[yag]at hb hm;refine zhY h2 hlo hy rfl hb hm λx' H' h s=>k x' H' ⟨ws++[(b,bv)],by simp,?_,?_⟩ s
 ·simpa using h
 ·have hpid:∀id,x'.pid=some id->x.pid=some id\/H.next<=id:=λid hi=>by
   rcases s.own id (by simp[hi]) with h|h
   ·exact .inl (by simpa [zbT]using h)
   ·exact .inr h.1
  have key:∀(u:V) (l:List Nat),By 0 H u l->(∀id,u.pid=some id->x.pid≠some id/\P id)->By 0 H' u l/\∀id,u.pid=some id->x'.pid≠some id/\P id:=by
   intro u l hu hn;refine⟨Lc.step hu s λid hi hF=>(hn id hi).1 (by simpa [zbT]using hF),λid hi=>⟨λhe=>?_,(hn id hi).2⟩⟩;rcases hpid id he with h|h
   ·exact(hn id hi).1 h
   ·have:=(hu.own id hi).2;omega
  intro w hw;rcases yaM.1 hw with hw|hw
  ·exact key _ _ (h3 w hw).1 (h3 w hw).2
  ·simp only[yaq]at hw;subst hw;exact key _ _ hbv hd
def AppS.low{lo:Nat}{P:Nat->Prop}{H:Heap}{v:V} {ls:List (List Nat)} (h:AppS lo P H v ls) {i:Nat} (hi:v.pid=some i):lo<=i/\i<H.next:=by
 obtain⟨ws,h1,h2,h3⟩:=h;exact h2.lc.own i hi
def AppS.vlen{lo:Nat}{P:Nat->Prop}{H:Heap}{v:V} {ls:List (List Nat)} (h:AppS lo P H v ls):Ax.vlen v=some (.int .i64 (ls.length:Nat)):=by
 obtain⟨ws,rfl,h2,h3⟩:=h;rw[yag];exact h2.lc.vlen
def bind_pure'{α:Type}(x:M α):x.bind M.pure=x:=by
 funext H;unfold M.bind M.pure;cases x H with
 | none=>rfl
 | some q=>rfl
def zwE{bytes lo:Nat}{P:Nat->Prop}{H:Heap}{x y bv:V} {ls:List (List Nat)} {b:List Nat} (hc:H.Cl) (hx:AppS lo P H x ls) (hlo:lo<=H.next) (hy:acells 1 H y=some ([bv],1)) (hbv:By 0 H bv b) (hd:∀id,bv.pid=some id->x.pid≠some id/\P id)
  (hb:(ls.length+1)*bytes<=140737488355328) (hm:ls.length+1<=140737488355328):Ok (mappend zal 1 bytes x y) H λx' H'=>AppS lo P H' x' (ls++[b])/\Step H H' x.pid.toList x'.pid.toList/\H'.Cl:=by
 have h:Ok ((mappend zal 1 bytes x y).bind M.pure) H λx' H'=>AppS lo P H' x' (ls++[b])/\Step H H' x.pid.toList x'.pid.toList:=zpm hx hlo hy hbv hd hb hm λx' H' h s=>zjt ⟨h,s⟩;rw[bind_pure']at h;obtain⟨r,H',e,h1,h2⟩:=h;exact⟨r,H',e,h1,h2,(zry (G:=⟨0⟩) _ _ _ _ _ H r H' ⟨hc,yaE _⟩ e).2.cl⟩
def pcz(b:List Nat)(k:Nat):List (List Nat):=(List.range k).map λj=>(b.drop (100*j)).take 100
def pcz_succ(b:List Nat)(k:Nat):pcz b (k+1)=pcz b k++[(b.drop (100*k)).take 100]:=by
 unfold pcz;rw[ycp,yaC];rfl
def pcsL(b:List Nat):List (List Nat):=pcz b ((b.length-1)/100)++[b.drop (100*((b.length-1)/100))]
def zp9{H:Heap}{v:V}:acells 1 (H.new ⟨zal,[v],none⟩) (.sl H.next 0 1 (.fix 1))=some ([v],1):=by
 simp only[acells,rcells,zae,Option.bind_some];rfl
def grow_step{H H1 H':Heap}{F F':List Nat}(g:Grow H H1)(s:Step H1 H' F F')(hF:∀i∈F,H.next<=i):Grow H H':=
 ⟨yax g.next s.next,λi hi=>(s.same i (yai hi g.next) λe=>by have:=hF i e;omega).trans (g.same i hi)⟩
def ztb{lo:Nat}{H:Heap}{v:V}{b:List Nat}(hv:By lo H v b)(hl:b.length<=1048576) :
  Ok (sem T zea [v]) H λr H'=>AppS H.next (λi=>v.pid=some i) H' r (pcsL b)/\Grow H H':=by
 refine znV ?_;unfold zkw uR ug;have hvp:∀i,v.pid=some i->i<H.next:=λi hi=>(hv.own i hi).2;have loop:Ok (M.iter (zdN (sem T) .nils) [v,.nils]) H λr H'=>∃v' x,r = .ex 0 [v',x]/\v'.pid=v.pid/\By lo H' v' (b.drop (100*((b.length-1)/100)))/\AppS H.next (λi=>v.pid=some i) H' x (pcz b ((b.length-1)/100))/\Grow H H':=by
  refine zaP (λj L H'=>∃v' x,L=[v',x]/\v'.pid=v.pid/\By lo H' v' (b.drop (100*j))/\AppS H.next (λi=>v.pid=some i) H' x (pcz b j)/\Grow H H') ((b.length-1)/100) ?_ ?_ ?_
  ·exact⟨v,.nils,rfl,rfl,by simpa using hv,AppS.nil,Grow.refl _⟩
  ·rintro j L H1 hj ⟨v1,x1,rfl,p1,b1,a1,s1⟩;have n1:=s1.next;have hlen:(b.drop (100*j)).length=b.length-100*j:=yar;obtain⟨va,-,ha,-,hva,pa⟩:=by_slice b1 (x:=0) (y:=100) (by omega) (by omega) (by omega);have ha2:∀{k':IntKind},zat .sl 1 v1 none (some (.int k' 100)) none=some va:=ha rfl;obtain⟨vb,-,-,hb,hvb,pb⟩:=by_slice b1 (x:=100) (y:=((b.drop (100*j)).length:Nat)) (by omega) (by omega) (by omega);have hb2:∀{k':IntKind},zat .sl 1 v1 (some (.int k' 100)) none none=some vb:=hb rfl;have hvl:=b1.vlen;have hle:(100:Int)<((b.drop (100*j)).length:Nat):=by omega
   have e100:(100:Int).toNat=100:=rfl;have e0:(0:Int).toNat=0:=rfl;rw[e100,e0,yaz,ych]at hva;rw[e100,yan,ya9,yaj (by rw[yar,hlen];omega)]at hvb;have vc:=hva.cells1;have vo:=hva.okc;unfold zdN uL uB uK uc ug;simp(disch:=omega)only[↓RD,RZ,eq_self,seval,hvl,hle,ha2,vc,vo];rw[zaZ];have s2:=Grow.new H1 ⟨zal,[va],none⟩;have hpz:(pcz b j).length=j:=by unfold pcz;rw[yag,yb1]
   refine zpm (a1.grow s2) (by rw[zad];omega) zp9 ((hva.ext s2).low (yaE _)) (λi hi=>⟨λe=>?_,by rw[<-p1,<-pa];exact hi⟩) (by omega) (by omega) λx2 H2 a2 s3=>?_
   ·rw[pa,p1]at hi;have:=hvp i hi;have:=(a1.low e).1;omega
   have sT:Grow H H2:=grow_step (s1.trans s2) s3 λi hi=>(a1.low (by simpa [zbT]using hi)).1;simp(disch:=omega)only[↓RD,RZ,eq_self,seval,hb2];refine⟨vb,x2,rfl,pb.trans p1,?_,by rw[pcz_succ];exact a2,sT⟩;have:By lo H2 vb (b.drop (100*j+100)):=Lc.step (hvb.ext s2) s3 λi hi e=>by
    rw[pb,p1]at hi;have:=hvp i hi;have:=(a1.low (by simpa [zbT]using e)).1;omega
   exact this
  ·rintro L H1 ⟨v1,x1,rfl,p1,b1,a1,s1⟩;have hlen:(b.drop (100*((b.length-1)/100))).length=b.length-100*((b.length-1)/100):=yar;have hvl:=b1.vlen;have hle:¬(100:Int)<((b.drop (100*((b.length-1)/100))).length:Nat):=by omega
   unfold zdN uL uB uK uc ug;simp(disch:=omega)only[↓RD,RZ,eq_self,seval,hvl,hle,decide_eq_false hle];exact⟨v1,x1,rfl,p1,b1,a1,s1⟩
 refine zto (zap loop ?_);rintro _ H1 ⟨v1,x1,rfl,p1,b1,a1,s1⟩;have n1:=s1.next;have vc:=b1.cells1;have vo:=b1.okc;have hpz:(pcz b ((b.length-1)/100)).length=(b.length-1)/100:=by unfold pcz;rw[yag,yb1]
 show Ok _ H1 _;simp(disch:=omega)only[↓RD,RZ,eq_self,seval,vc,vo];rw[zaZ];have s2:=Grow.new H1 ⟨zal,[v1],none⟩;refine zpm (a1.grow s2) (by rw[zad];omega) zp9 ((b1.ext s2).low (yaE _)) (λi hi=>⟨λe=>?_,by rw[<-p1];exact hi⟩) (by omega) (by omega) λx2 H2 a2 s3=>?_
 ·rw[p1]at hi;have:=hvp i hi;have:=(a1.low e).1;omega
 simp(disch:=omega)only[↓RD,RZ,eq_self,seval];exact⟨a2,grow_step (s1.trans s2) s3 λi hi=>(a1.low (by simpa [zbT]using hi)).1⟩
structure KeepB (lo:Nat) (S:List Nat) (H H':Heap):Prop where
 next:H.next<=H'.next
 same:∀i,i<lo->i∉S->H'.get i=H.get i
def KeepB.refl(lo:Nat)(S:List Nat)(H:Heap):KeepB lo S H H:=⟨yah _,λ_ _ _=>rfl⟩
def KeepB.trans{lo:Nat}{S:List Nat}{H H1 H2:Heap}(h:KeepB lo S H H1)(k:KeepB lo S H1 H2):KeepB lo S H H2:=⟨yax h.next k.next,λi hi hn=>(k.same i hi hn).trans (h.same i hi hn)⟩
def KeepB.ofAtS{lo:Nat}{S S':List Nat}{H H':Heap}(h:AtS S' H H')(hl:lo<=H.next)(hs:∀i∈S',i∈S\/lo<=i):KeepB lo S H H':=⟨h.next,λi hi hn=>h.same i (by omega) λe=>by rcases hs i e with h|h;exact hn h;omega⟩
def KeepB.ofGrow{lo:Nat}{S:List Nat}{H H':Heap}(h:Grow H H')(hl:lo<=H.next):KeepB lo S H H':=⟨h.next,λi hi hn=>h.same i (by omega)⟩
def AppS.keepB{lo l0:Nat}{P:Nat->Prop}{S:List Nat}{H H':Heap}{v:V} {ls:List (List Nat)} (h:AppS lo P H v ls) (hl:H.next<=l0) (k:KeepB l0 S H H') (hv:∀i,v.pid=some i->i∉S) (hP:∀i,P i->i∉S):AppS lo P H' v ls:=by
 obtain⟨ws,h1,h2,h3⟩:=h;refine⟨ws,h1,?_,λw hw=>⟨?_,(h3 w hw).2⟩⟩
 ·have ho:=h2.lc.own;generalize hcs:ws.map (·.2)=cs at h2;generalize ws.length=m at h2;cases h2 with
  | opn h ho=>exact .opn (h.to λi hi=>k.same i (yai (ho i hi).2 hl) (hv i hi)) λi hi=>⟨(ho i hi).1,yai (ho i hi).2 k.next⟩
  | lit h h0 h1=>exact .lit (by rw[k.same _ (by omega) (hv _ rfl),h]) h0 (yai h1 k.next)
 ·have hb:=(h3 w hw).1;exact⟨by rw[zcS λi hi=>k.same i (yai (hb.own i hi).2 hl) (hP i ((h3 w hw).2 i hi).2)];exact hb.rc,λi hi=>⟨(hb.own i hi).1,yai (hb.own i hi).2 k.next⟩,hb.cap⟩
def AppS.at{lo:Nat}{P:Nat->Prop}{H:Heap}{v:V} {ls:List (List Nat)} (h:AppS lo P H v ls) {i:Nat} (hi:i<ls.length):∃p bv,(∀{k:IntKind},Ax.iaddr none 1 v (.int k i)=some p)/\Pl H p [bv] v.pid/\By 0 H bv ls[i]/\∀id,bv.pid=some id->v.pid≠some id/\P id:=by
 obtain⟨ws,rfl,h2,h3⟩:=h;rw[yag]at hi;obtain⟨p,hp,hl⟩:=h2.lc.at (i:=(i:Nat)) (by omega) (by omega);have e:((ws.map (·.2)).drop (i*1)).take 1=[ws[i].2]:=by
  rw[ya6,yaN (by rw[yag];exact hi),ybQ];rfl
 rw[yan,e]at hl;have h4:=h3 _ (yaW hi);refine⟨p,ws[i].2,hp,?_,?_,h4.2⟩
 ·simpa using hl
 ·simpa using h4.1
def pktF(mk:Bool)(q ts ssrc:Nat)(dd pay:List Nat):R7.Pkt:=⟨mk,96,q,ts,ssrc,[],48862,[(1,dd)],0,pay⟩
def zwk{mk:Bool}{q ts ssrc:Nat}{dd pay:List Nat}(h1:1<=dd.length)(h2:dd.length<=16)(hp:pay.length<=1000):R7.bytes (pktF mk q ts ssrc dd pay) = .ok (R7.hb (pktF mk q ts ssrc dd pay)++pay):=by
 have hg:R7.good (pktF mk q ts ssrc dd pay)=true:=by
  simp[R7.good,pktF,R7.goodX,h1,h2]
 have hx:(R7.xsb (pktF mk q ts ssrc dd pay)).length=1+dd.length:=by
  simp[R7.xsb,pktF,R7.xb];omega
 have hl:(R7.hb (pktF mk q ts ssrc dd pay)).length<=100:=by
  unfold R7.hb R7.extb R7.elems;rw[yaf,R7.hb0_len,if_neg (by show ¬((48862:Int)=0);decide)];simp only[yaf,yaF,hx,R7.bn_len];have:R7.padn (1+dd.length)<=3:=by unfold R7.padn;omega
  show 12+4*0 + _<=100;omega
 unfold R7.bytes;rw[if_neg (by rw[hg];decide),if_neg (by show ¬(1200 < _+pay.length+(0:Int).toNat);have:(0:Int).toNat=0:=rfl;omega)];congr 1;show _++pay++R7.padb 0 = _;rw[show R7.padb 0=[] from rfl,yaJ]
def exs_1{H:Heap}{x:Nat}{bv:V}{b:List Nat} (g:H.get x=some ⟨zaR,[.int .i64 1,bv],none⟩) (hx:x<H.next) (hb:By 0 H bv b):R7.Exs 0 H (.sl x 0 1 (.fix 1)) [(1,b)]:=by
 refine⟨[((1,b),bv)],rfl,⟨?_,λi hi=>?_,yah _⟩,λw hw=>?_⟩
 ·simp only[rcells,g,Option.bind_some];rfl
 ·injection hi with hi;subst hi;exact⟨yaE _,hx⟩
 ·simp only[yaq]at hw;subst hw;exact hb
def wq(n:Nat):WS:=if n=0 then (false,0,0) else (true,n-1,2 ^ n-1)
def wq_all:((List.range 60).all λn=>(mayW (wq n) n==0)&&decide (zhF (wq n) n=wq (n+1)))=true:=by kernel_rfl
def wq_n{n:Nat}(h:n<60):mayW (wq n) n=0/\zhF (wq n) n=wq (n+1):=by
 have:=yaB.1 wq_all n (ya0.2 h);simp only[yam,beq_iff_eq,decide_eq_true_eq]at this;exact this
structure Rdy (R:Rc) (n t:Nat) (K:Ky) (e st sl c:Nat):Prop where
 kid:K.kid=256*e+8*st+sl
 e0:e<65536
 st0:st<32
 sl0:sl<8
 ch:∃s0 base,look ((e:Int),(sl:Int)) R.ch=some (s0,base)/\s0<=st/\keyR R n t K.kid (zet base (st-s0))=K
 win:winR R K.kid=wq c
def gotR(R:Rc)(n t:Nat)(K:Ky)(e st sl c:Nat):Rc:={ zfF R n t K.kid (zet ((look ((e:Int),(sl:Int)) R.ch).getD (0,[])).2 (st-((look ((e:Int),(sl:Int)) R.ch).getD (0,[])).1)) with win:=putl K.kid (wq (c+1)) R.win }
def ztj{R:Rc}{n t e st sl c:Nat}{K:Ky}(h:Rdy R n t K e st sl c)(hc:c<60)(ht:K.t<=32){p:List Nat}(hp:p.length<=1000) :
  zeJ R n t [] (zb6 K c [] p)=(gotR R n t K e st sl c,.got e st sl c p)/\Rdy (gotR R n t K e st sl c) n t K e st sl (c+1)/\(gotR R n t K e st sl c).id=R.id/\(gotR R n t K e st sl c).ch=R.ch:=by
 obtain⟨hkid,h1,h2,h3,⟨s0,base,hl,hs,hk⟩,hw⟩:=h;have hpar:parse (zb6 K c [] p) = .ok K.kid c (hdr K.kid c).length:=by
  unfold zb6;rw[yaI];exact zmI (by omega) (by omega) _
 obtain⟨w1,w2⟩:=wq_n hc;have hgr:gotR R n t K e st sl c = { zfF R n t K.kid (zet base (st-s0)) with win:=putl K.kid (wq (c+1)) R.win }:=by
  unfold gotR;rw[hl];rfl
 refine⟨?_,⟨hkid,h1,h2,h3,⟨s0,base,?_,hs,?_⟩,?_⟩,?_,?_⟩
 ·unfold zeJ;rw[hpar];dsimp only;rw[if_neg (by omega),show K.kid/256=e by omega,show K.kid%8=sl by omega,show K.kid%256/8=st by omega,hl];dsimp only;rw[if_neg (by omega),hw,w1,if_neg (λh=>h rfl),hk,zqK ht (by omega) (by omega) hp];dsimp only;rw[w2,hgr]
 ·rw[hgr];show look _ (zfF R n t K.kid _).ch = _;rw[ztC];exact hl
 ·rw[hgr];unfold keyR at hk ⊢;show(look K.kid (zfF R n t K.kid (zet base (st-s0))).ks).getD (drv (zfF R n t K.kid (zet base (st-s0))).id K.kid n t _)=K;rw[ztB];unfold zfF;cases hq:look K.kid R.ks with
  | some k=>rw[hq]at hk;dsimp only;rw[hq];exact hk
  | none=>
   rw[hq]at hk;dsimp only;rw[ztv,if_pos rfl];exact hk
 ·rw[hgr];show(look K.kid (putl K.kid (wq (c+1)) R.win)).getD _ = _;rw[ztv,if_pos rfl];rfl
 ·rw[hgr];exact ztB _ _ _ _ _
 ·rw[hgr];exact ztC _ _ _ _ _
def gotN(R:Rc)(n t:Nat)(K:Ky)(e st sl c:Nat):Nat->Rc
 | 0=>R
 | k+1=>gotR (gotN R n t K e st sl c k) n t K e st sl (c+k)
def rdy_n{R:Rc}{n t e st sl c:Nat}{K:Ky}(h:Rdy R n t K e st sl c)(ht:K.t<=32):∀k,c+k<=60->Rdy (gotN R n t K e st sl c k) n t K e st sl (c+k)/\(gotN R n t K e st sl c k).id=R.id/\(gotN R n t K e st sl c k).ch=R.ch
 | 0,_=>⟨h,rfl,rfl⟩
 | k+1,hk=>by
  obtain⟨h1,h2,h3⟩:=rdy_n h ht k (by omega);obtain⟨-,h4,h5,h6⟩:=ztj h1 (by omega) ht (p:=[]) (by decide);exact⟨h4,h5.trans h2,h6.trans h3⟩
def zwj{mk:Bool}{q ts ssrc:Nat}{dd pay:List Nat}(h1:1<=dd.length)(h2:dd.length<=16)(hp:pay.length<=1000)(p8:Ok8 pay)(d8:Ok8 dd)(hq:q<65536)(hts:ts<4294967296)(hss:ssrc<4294967296) :
  R7.parse (R7.hb (pktF mk q ts ssrc dd pay)++pay) = .ok (pktF mk q ts ssrc dd pay)/\Ok8 (R7.hb (pktF mk q ts ssrc dd pay)++pay)/\(R7.hb (pktF mk q ts ssrc dd pay)++pay).length<=1200:=by
 have hb:=zwk (mk:=mk) (q:=q) (ts:=ts) (ssrc:=ssrc) h1 h2 hp;refine⟨R7.parse_bytes hb ⟨by show((q:Nat):_) < _;omega,by show((ts:Nat):_) < _;omega,by show((ssrc:Nat):_) < _;omega,λx hx=>by cases hx⟩,R7.bytes_8 hb p8 (λx hx=>?_),?_⟩
 ·have:x=(1,dd):=by simpa [pktF]using hx
  subst this;exact d8
 ·obtain⟨-,hl,-⟩:=R7.bytes_good hb;simp only[pktF]at hl ⊢;rw[yaf];have:(0:Int).toNat=0:=rfl;omega
end Go.Ax.SU
/- Lp1 -/
namespace Go.Ax.SU
open Go.Ax
def SndP(kp lo:Nat)(H:Heap)(s:Nat)(id slot:Int)(x:SS):Prop:=s<H.next /\
 match x with
 | none=>False
 | some (K,e,st,c)=>c<18446744073709551616/\H.get s=some ⟨zaw,sndC id slot (.ptr kp 0) e st K.kid c,none⟩/\KeyM H kp K/\zom lo H kp
def SndP.grow{kp lo:Nat}{H H':Heap}{s:Nat}{id slot:Int}{x:SS}(h:SndP kp lo H s id slot x)(g:Grow H H'):SndP kp lo H' s id slot x:=by
 obtain⟨h0,h1⟩:=h;refine⟨yai h0 g.next,?_⟩;cases x with
 | none=>exact h1
 | some q=>
  obtain⟨K,e,st,c⟩:=q;obtain⟨h2,h3,h4,h5⟩:=h1;exact⟨h2,(g.same s h0).trans h3,h4.grow g,h5.to (g.same kp h4.low)⟩
def SndP.atS{kp lo:Nat}{S:List Nat}{H H':Heap}{s:Nat}{id slot:Int}{x:SS}(h:SndP kp lo H s id slot x)(g:AtS S H H')(hs:s∉S)(hS:∀i∈S,∃b,H.get i=some b/\Odd b):SndP kp lo H' s id slot x:=by
 obtain⟨h0,h1⟩:=h;refine⟨yai h0 g.next,?_⟩;cases x with
 | none=>exact h1
 | some q=>
  obtain⟨K,e,st,c⟩:=q;obtain⟨h2,h3,h4,h5⟩:=h1;have hk:kp∉S:=λe=>by
   obtain⟨a,av,sv,m1,_⟩:=h4.mem;obtain⟨b,hb,ho⟩:=hS kp e;rw[m1]at hb;injection hb with hb;subst hb;exact ho.1 rfl
  exact⟨h2,(g.same s h0 hs).trans h3,h4.atS g hS,h5.to (g.same kp h4.low hk)⟩
def SndP.atL{kp lo:Nat}{S:List Nat}{H H':Heap}{s:Nat}{id slot:Int}{x:SS}(h:SndP kp lo H s id slot x)(g:AtS S H H')(hs:s∉S)(hS:∀i∈S,i<lo/\∃b,H.get i=some b/\b.ty≠zaN/\b.ty≠zaQ/\b.ty≠zax):SndP kp lo H' s id slot x:=by
 obtain⟨h0,h1⟩:=h;refine⟨yai h0 g.next,?_⟩;cases x with
 | none=>exact h1
 | some q=>
  obtain⟨K,e,st,c⟩:=q;obtain⟨h2,h3,h4,h5⟩:=h1;obtain⟨h6,h7⟩:=h4.atL h5 g hS;exact⟨h2,(g.same s h0 hs).trans h3,h6,h5.to h7⟩
def SealP_ok{kp ll lo1 lo2 s:Nat}{H:Heap}{id slot:Int}{x:SS}{mv pv:V}{m p:List Nat}(hx:SndP kp ll H s id slot x)(hm:By lo1 H mv m)(m8:Ok8 m)(hp:By lo2 H pv p)(p8:Ok8 p)(hml:m.length<=274877906944)(hpl:p.length<=1099511627776) :
  Ok (sem T zcy [.ptr s 0,mv,pv]) H λr H'=>SndP kp ll H' s id slot (sealS x p)/\AtS [s] H H' /\
   match x with
   | none=>r = .tup [.nils,.int .i64 10]
   | some (K,e,st,c)=>if 1000<p.length then r = .tup [.nils,.int .i64 4] else ∃v,r = .tup [v,.int .i64 0]/\By H.next H' v (zb6 K c m p):=by
 refine zju ?_;unfold zf3 uL uT uNFM uNF uE uB uA uR uK uc uq;obtain⟨x0,hx1⟩:=hx;cases x with
 | none=>exact hx1.elim
 | some q=>
  obtain⟨K,e0,st0,c0⟩:=q;obtain⟨hc,hx1,hkm,hkl⟩:=hx1;have hx2:=hx1;unfold sndC at hx1;simp(maxSteps:=1000000) (disch:=first|omega|(simp only[RY]<;>omega)|decide)only[↓RD,RZ,eq_self,Int.reduceToNat,Int.reduceAdd,Int.reduceSub,Int.reduceMul,Nat.reduceAdd,Nat.reduceSub,Nat.reduceMul,Nat.reduceDiv,Nat.reduceMod,Nat.reduceBEq,Nat.reduceLeDiff,hx1];refine zaf (Seal_ok hkm hc hm m8 hp p8 hml hpl) ?_;rintro _ H1 ⟨s1,h1⟩;have g1:=(s1.same s x0).trans hx1;have g2:=(s1.same s x0).trans hx2;have n1:=s1.next;split at h1
  ·rename_i h3;subst h1;simp(maxSteps:=1000000) (disch:=first|omega|(simp only[RY]<;>omega)|decide)only[↓RD,RZ,eq_self,Int.reduceToNat,Int.reduceAdd,Int.reduceSub,Int.reduceMul,Nat.reduceAdd,Nat.reduceSub,Nat.reduceMul,Nat.reduceDiv,Nat.reduceMod,Nat.reduceBEq,Nat.reduceLeDiff];refine⟨?_,Grow.atS s1 _,?_⟩
   ·unfold sealS;dsimp only;rw[if_pos h3];exact⟨by omega,hc,g2,hkm.grow s1,hkl.to (s1.same kp hkm.low)⟩
   ·rw[if_pos h3];trivial
  ·rename_i h3;obtain⟨v,rfl,hv⟩:=h1;have w1:IntKind.u64.wrap (((c0:Nat):Int)+1)=(((c0+1)%18446744073709551616:Nat):Int):=by rw[wrap_u64];omega
   simp(maxSteps:=1000000) (disch:=first|omega|(simp only[RY]<;>omega)|decide)only[↓RD,RZ,eq_self,Int.reduceToNat,Int.reduceAdd,Int.reduceSub,Int.reduceMul,Nat.reduceAdd,Nat.reduceSub,Nat.reduceMul,Nat.reduceDiv,Nat.reduceMod,Nat.reduceBEq,Nat.reduceLeDiff,g1,w1];have a1:AtS [s] H (H1.set s (some ⟨zaw,sndC id slot (.ptr kp 0) e0 st0 K.kid ((c0+1)%18446744073709551616),none⟩)):=(Grow.atS s1 _).trans (AtS.set _ (by simp) _);refine⟨?_,a1,?_⟩
   ·unfold sealS;dsimp only;rw[if_neg h3];have hks:kp≠s:=λe=>by
     obtain⟨a,av,sv,m1,_⟩:=hkm.mem;rw[e,hx2]at m1;injection m1 with m1
     injection m1 with m1
     exact absurd m1 (show zaw≠zaN by decide)
    refine⟨by rw[zam];omega,ybd _ (by decide),zai _ _ _,?_,hkl.to ((zaj _ _ hks).trans (s1.same kp hkm.low))⟩;exact(hkm.grow s1).atS (AtS.set (S:=[s]) H1 (by simp) _) λi hi=>by
     simp only[yaq]at hi;subst hi;exact⟨_,g2,odd_snd _ _ _ _ _ _ (.inr ⟨kp,rfl⟩)⟩
   ·rw[if_neg h3];exact⟨v,rfl,Lc.atS hv (AtS.set (S:=[s]) H1 (by simp) _) λi hi e=>by
     simp only[yaq]at e;subst e;have:=(hv.own i hi).1;omega⟩
end Go.Ax.SU
/- Fq12 -/
namespace Go.Ax.SU
open Go.Ax Go.Proofs
def zwi{H:Heap}{p bv:V}{own:Option Nat} (h:Pl H p [bv] own):LdR none H p bv:=λf Q=>by rw[h.ld0 (by simp)];exact zoW
def By.not_u8{lo:Nat}{H:Heap}{v:V}{l:List Nat}(h:By lo H v l):∀n,v≠.int .u8 n:=λn e=>by
 have:=h.rc;rw[e]at this;cases this
def AppS.odd{lo:Nat}{P:Nat->Prop}{H:Heap}{v:V} {ls:List (List Nat)} (h:AppS lo P H v ls):∀i,v.pid=some i->∃b,H.get i=some b/\Odd b:=λi hi=>by
 obtain⟨ws,h1,h2,h3⟩:=h;generalize hcs:ws.map (·.2)=cs at h2;generalize ws.length=m at h2;have hcell:∀w∈cs,∀n,w≠.int .u8 n:=λw hw=>by
  rw[<-hcs]at hw;obtain⟨u,hu,rfl⟩:=yaZ.1 hw;exact By.not_u8 (h3 u hu).1
 cases h2 with
 | opn h ho=>
  rcases h with⟨rfl,_⟩|⟨j,rfl,hg,_⟩
  ·cases hi
  ·injection hi with hi
   subst hi;exact⟨_,hg,by show zal≠_;decide,by show zal≠_;decide,by show zal≠_;decide,hcell⟩
 | lit h h0 h1=>
  injection hi with hi
  subst hi;exact⟨_,h,by show zal≠_;decide,by show zal≠_;decide,by show zal≠_;decide,λw hw=>by cases hw⟩
set_option maxHeartbeats 4000000 in
def fbody{kp:Nat}{s sn fq a id sl f q n j ts ssrc:Nat}{W:Nat->V}{sv rv rcv pl ov:V}{o st en nw nw':Bool}{idv fnv x1 x2 x3 x4 x5 x6 z1 z2 z3 z4 z5 z6 y1 y2 y3:V}{lp lo:Nat}{P:Nat->Prop} {ls out:List (List Nat)} {dd:List Nat} {L:List (Nat×Blk)} {H:Heap} {K:Ky} {se ss c:Nat}
  (hc:H.Cl) (hg:H.get s=some ⟨zag,stX a id sv rv W (.ptr sn 0) rcv f q true o,none⟩)
  (hs:SndP kp (s+1) H sn (id:Nat) (sl:Nat) (some (K,(se:Nat),(ss:Nat),c)))
  (hf:H.get fq=some ⟨zaK,[.bool st,.bool en,idv,fnv,.bool nw,x1,x2,x3,x4,x5,x6,.bool false,.int .u32 0,.bool false,.bool false,.bool false,y1,y2,y3],none⟩)
  (hp:AppS lp P H pl ls) (hn:ls.length=n) (hn8:n<=1000) (hj:j<n) (h8:∀l∈ls,Ok8 l/\l.length<=100)
  (ns:sn≠s) (nf:sn≠fq) (sf:s≠fq) (hl:Has H L) (hlf:fq∉L.map Prod.fst) (hls:s∉L.map Prod.fst) (hln:sn∉L.map Prod.fst)
  (ho:AppS lo (λi=>lo<=i) H ov out) (hlo:lo<=H.next) (hos:∀i,i=s\/i=sn\/i=fq->i<lo) (hout:out.length<=1000)
  (hx8:∀v∈[idv,fnv,x1,x2,x3,x4,x5,x6,y1,y2,y3],∀n,v≠.int .u8 n) (hq:q<65535) (hts:ts<4294967296) (hsr:ssrc<4294967296) (hKt:K.t<=32) (hKw:∀w∈K.ws,Word w)
  (hz:(j=0/\nw'=nw/\[z1,z2,z3,z4,z5,z6]=[x1,x2,x3,x4,x5,x6])\/(0<j/\nw'=false/\[z1,z2,z3,z4,z5,z6]=nS))
  (hss:∀{H:Heap},H.get s=some ⟨zag,stX a id sv rv W (.ptr sn 0) rcv f q true o,none⟩->Ok (sem T za1 [.ptr s 0,.int .i64 0]) H λv H'=>v = .int .u32 (ssrc:Nat)/\H'=H)
  (hd1:1<=dd.length) (hd2:dd.length<=16)
  (hdd:∀{H:Heap} {k':Nat},H.Cl->Has H L->(∀i∈L.map Prod.fst,i<k')->Has H (strL k')->Ok (sem T zbA [.agg [.bool (decide (j=0)),.bool (decide (j+1=n)),idv,fnv,.bool nw',z1,z2,z3,z4,z5,z6,.bool false,.int .u32 0,.bool false,.bool false,.bool false,y1,y2,y3],.agg (strV k')]) H λr H'=>∃v,r = .tup [v,.int .i64 0]/\By H.next H' v dd/\Grow H H'/\H'.Cl) :
  Ok (zbX (sem T) (.int .i64 (n:Nat)) pl pl (.ptr fq 0) (.int .u32 (ts:Nat)) (.ptr s 0) (.int .i64 0) (.ptr s 24) [ov,.int .i64 (j:Nat)]) H λr H'=>∃ov',r = .nrm [ov',.int .i64 ((j:Nat)+1)] /\
   H'.get s=some ⟨zag,stX a id sv rv W (.ptr sn 0) rcv f (q+1) true o,none⟩ /\
   SndP kp (s+1) H' sn (id:Nat) (sl:Nat) (some (K,(se:Nat),(ss:Nat),(c+1)%18446744073709551616)) /\
   H'.get fq=some ⟨zaK,[.bool (decide (j=0)),.bool (decide (j+1=n)),idv,fnv,.bool nw',z1,z2,z3,z4,z5,z6,.bool false,.int .u32 0,.bool false,.bool false,.bool false,y1,y2,y3],none⟩ /\
   AppS lo (λi=>lo<=i) H' ov' (out++[R7.hb (pktF (decide (j+1=n)) q ts ssrc dd (zb6 K c [] (ls[j]'(by omega))))++zb6 K c [] (ls[j]'(by omega))]) /\
   KeepB lo [s,sn,fq] H H'/\H'.Cl:=by
 have ls':=zbD hc hg;have lf:=zbD hc hf;have lsn:=hs.1;have hlt:((j:Nat):Int)<(n:Nat):=by omega
 obtain⟨p,bv,hp1,hp2,hbv,hpd⟩:=hp.at (i:=j) (by omega);have ld:=zwi hp2;have h8j:=h8 _ (yaW (by omega:j<ls.length));unfold zbX uL uM uS uT uF uNFM uNF uE uB uIM uO uU uA uZ uR uK uc ug;have hg':=hg;unfold stX at hg';simp(maxSteps:=1000000) (disch:=first|omega|(simp only[RY]<;>omega)|decide)only[↓RD,RZ,eq_self,Int.reduceToNat,Int.reduceAdd,Int.reduceSub,Int.reduceMul,Nat.reduceAdd,Nat.reduceSub,Nat.reduceMul,Nat.reduceDiv,Nat.reduceMod,Nat.reduceBEq,Nat.reduceLeDiff,hlt,hp1,ld,hg'];rw[zaZ];refine zaf (zlU hc (SealP_ok hs (Lc.nil:By 0 _ .nils []) Ok8.nil hbv h8j.1 (by decide) (by omega))) ?_;rintro r1 H1 ⟨⟨hs1,a1,h1⟩,c1⟩;have hne:¬1000<ls[j].length:=by omega
 dsimp only at h1;rw[if_neg hne]at h1;obtain⟨v1,rfl,hv1⟩:=h1;unfold sealS at hs1;dsimp only at hs1;rw[if_neg hne]at hs1;have n1:=a1.next;have g1f:=(a1.same fq lf (by simp;exact nf.symm)).trans hf;have g1s:=(a1.same s ls' (by simp;exact ns.symm)).trans hg;have hpv:=hp.vlen;rw[hn]at hpv;have w:IntKind.i64.wrap (((n:Nat):Int)-1)=(n:Nat)-1:=wrap_i64 (by omega) (by omega);have d1:(((j:Nat):Int)==((n:Nat):Int)-1)=decide (j+1=n):=by
  rw[ycU];simp;omega
 have hsl:(zb6 K c [] ls[j]).length<=1000:=by
  rw[zgP hKt];have:=zk7 K.kid c;omega
 have hs8:Ok8 (zb6 K c [] ls[j]):=zqw hKw h8j.1;generalize zb6 K c [] ls[j]=sealed at *;have wj:IntKind.i64.wrap (((j:Nat):Int)+1)=(j:Nat)+1:=wrap_i64 (by omega) (by omega);have wq:IntKind.u16.wrap (((q:Nat):Int)+1)=((q+1:Nat):Int):=by rw[wrap_u16];omega
 have hodd1:∃b,H1.get fq=some b/\Odd b:=⟨_,g1f,by show zaK≠_;decide,by show zaK≠_;decide,by show zaK≠_;decide,by
  intro v hv;simp only[yap,yat,or_false]at hv hx8;rcases hv with rfl|rfl|h|h|rfl|h|h|h|h|h|h|rfl|rfl|rfl|rfl|rfl|h|h|h<;>first|(intro n e;cases e;done)|exact hx8 v (by simp[h])⟩
 rcases hz with⟨hj0,rfl,hz⟩|⟨hj0,rfl,hz⟩
 all_goals
  simp only[nS,yby,and_true]at hz;obtain⟨e1,e2,e3,e4,e5,e6⟩:=hz;subst e1 e2 e3 e4 e5 e6
 case inl=>
  have hjn:¬(0:Int)<(j:Nat):=by omega
  have d0:(((j:Nat):Int)==0)=decide (j=0):=by rw[ycU];simp
  simp(maxSteps:=1000000) (disch:=first|omega|(simp only[RY]<;>omega)|decide)only[↓RD,RZ,eq_self,Int.reduceToNat,Int.reduceAdd,Int.reduceSub,Int.reduceMul,Nat.reduceAdd,Nat.reduceSub,Nat.reduceMul,Nat.reduceDiv,Nat.reduceMod,Nat.reduceBEq,Nat.reduceLeDiff,g1f,hpv,zby,d0,d1,w,hjn,decide_eq_false hjn];rw[zaZ];generalize hX:Heap.set H1 fq _=H2;have g2f:H2.get fq=some ⟨zaK,[.bool (decide (j=0)),.bool (decide (j+1=n)),idv,fnv,.bool nw',z1,z2,z3,z4,z5,z6,.bool false,.int .u32 0,.bool false,.bool false,.bool false,y1,y2,y3],none⟩:=by rw[<-hX];exact zai _ _ _
  have a2:AtS [fq] H1 H2:=by rw[<-hX];exact AtS.set _ (by simp) _
  have n2:H2.next=H1.next:=by rw[<-hX];rfl
  have c2:H2.Cl:=by rw[<-hX];exact zcE c1 (by omega) _
  clear hX;have g2s:=(a2.same s (by omega) (by simp;exact sf)).trans g1s;have hs2:=hs1.atS a2 (by simp;exact nf) (by intro i hi;rw[yaq]at hi;subst hi;exact hodd1);have hl2:=(hl.atS hc a1 (by intro i hi;rw[yaq]at hi;subst hi;exact hln)).atS c1 a2 (by intro i hi;rw[yaq]at hi;subst hi;exact hlf);refine zaf (zhU c2) ?_;rintro _ H3 ⟨k',rfl,lk,hk,s3,c3⟩;have n3:=s3.next;have g3f:=(s3.same fq (by omega)).trans g2f;have g3s:=(s3.same s (by omega)).trans g2s;have hl3:=hl2.grow c2 s3;simp(maxSteps:=1000000) (disch:=first|omega|(simp only[RY]<;>omega)|decide)only[↓RD,RZ,eq_self,Int.reduceToNat,Int.reduceAdd,Int.reduceSub,Int.reduceMul,Nat.reduceAdd,Nat.reduceSub,Nat.reduceMul,Nat.reduceDiv,Nat.reduceMod,Nat.reduceBEq,Nat.reduceLeDiff,g2f,g3f];refine zaf (hdd c3 hl3 (λi hi=>by have:=hl2.lt c2 i hi;omega) hk) ?_;rintro _ H4 ⟨ddv,rfl,hd4,s4,c4⟩;have n4:=s4.next;have g4f:=(s4.same fq (by omega)).trans g3f;have g4s:=(s4.same s (by omega)).trans g3s;have g4s':=g4s;unfold stX at g4s';have dc:=hd4.cells1;have dk:=hd4.okc;have vc:=hv1.cells1;have vk:=hv1.okc;simp(maxSteps:=1000000) (disch:=first|omega|(simp only[RY]<;>omega)|decide)only[↓RD,RZ,eq_self,Int.reduceToNat,Int.reduceAdd,Int.reduceSub,Int.reduceMul,Nat.reduceAdd,Nat.reduceSub,Nat.reduceMul,Nat.reduceDiv,Nat.reduceMod,Nat.reduceBEq,Nat.reduceLeDiff,g4f,g4s',dc,dk];refine zaf (hss g4s) ?_;rintro _ H4b ⟨rfl,e4⟩;rw[e4];clear e4 H4b;have l4:s<H4.next:=by omega
  have l4':fq<H4.next:=by omega
  simp(maxSteps:=1000000) (disch:=first|omega|(simp only[RY]<;>omega)|decide)only[↓RD,RZ,eq_self,Int.reduceToNat,Int.reduceAdd,Int.reduceSub,Int.reduceMul,Nat.reduceAdd,Nat.reduceSub,Nat.reduceMul,Nat.reduceDiv,Nat.reduceMod,Nat.reduceBEq,Nat.reduceLeDiff,g4f,g4s',dc,dk,vc,vk,wq,zby];rw[zaZ];have hs4:=(hs2.grow s3).grow s4;have hv2:=((Lc.atS hv1 a2 (λi hi=>by simp only[yaq];have:=(hv1.own i hi).1;omega)).ext s3).ext s4;generalize hX:Heap.set (Heap.set (Heap.new (Heap.new H4 _) _) _ _) s _=H5;have n5:H5.next=H4.next+2:=by rw[<-hX];rfl
  have g5s:H5.get s=some ⟨zag,stX a id sv rv W (.ptr sn 0) rcv f (q+1) true o,none⟩:=by rw[<-hX];exact zai _ _ _
  have a5:AtS [s] H4 H5:=by rw[<-hX];exact(Grow.atS (((Grow.new _ _).trans (Grow.new _ _)).set (by omega) _) _).trans (AtS.set _ (by simp) _)
  have g5x:H5.get H4.next=some ⟨zaR,[.int .i64 1,ddv],none⟩:=by rw[<-hX,zaj _ _ (by omega),zaj _ _ (by omega),zav _ _ (by rw[zad];omega)];exact zae _ _
  have c5:H5.Cl:=by rw[<-hX];exact zcE (zcE (zes (zes c4 _) _) (by rw[zad,zad];omega) _) (by rw[zam,zad,zad];omega) _
  clear hX;have g5f:=(a5.same fq l4' (by simp;exact sf.symm)).trans g4f;have hs5:=hs4.atL a5 (by simp;exact ns) (by intro i hi;rw[yaq]at hi;subst hi;exact⟨by omega,_,g4s,by show zag≠_;decide,by show zag≠_;decide,by show zag≠_;decide⟩);have hv5:=Lc.atS hv2 a5 (λi hi=>by simp only[yaq];have:=(hv2.own i hi).1;omega);have hd5:=Lc.atS hd4 a5 (λi hi=>by simp only[yaq];have:=(hd4.own i hi).1;omega);refine zaf (zlU c5 (R7.Bytes_ok (lo:=0) (p:=pktF (decide (j+1=n)) q ts ssrc dd sealed) ⟨.nils,_,v1,rfl,Lc.nil,exs_1 g5x (by omega) (hd5.low (yaE _)),hv5.low (yaE _)⟩ ⟨by show 0<=_;omega,by show 1<=_;omega,by show sealed.length<=_;omega,by intro x hx;rw[show(pktF (decide (j+1=n)) q ts ssrc dd sealed).exts=[(1,dd)] from rfl,yaq]at hx;subst hx;show dd.length<=_;omega⟩ ⟨by show q<65536;omega,hts,hsr,by intro x hx;cases hx⟩)) ?_;rintro r6 H6 ⟨⟨s6,h6⟩,c6⟩;rw[zwk hd1 hd2 hsl]at h6;obtain⟨wv,rfl,hw⟩:=h6;have n6:=s6.next;have wc:=hw.cells1;have wo:=hw.okc;simp(maxSteps:=1000000) (disch:=first|omega|(simp only[RY]<;>omega)|decide)only[↓RD,RZ,eq_self,Int.reduceToNat,Int.reduceAdd,Int.reduceSub,Int.reduceMul,Nat.reduceAdd,Nat.reduceSub,Nat.reduceMul,Nat.reduceDiv,Nat.reduceMod,Nat.reduceBEq,Nat.reduceLeDiff,wc,wo];rw[zaZ];have s7:=Grow.new H6 ⟨zal,[wv],none⟩;have k6:KeepB H.next [s,sn,fq] H H6:=(((((KeepB.ofAtS a1 (yah _) (by simp)).trans (KeepB.ofAtS a2 (by omega) (by simp))).trans (KeepB.ofGrow s3 (by omega))).trans (KeepB.ofGrow s4 (by omega))).trans (KeepB.ofAtS a5 (by omega) (by simp))).trans (KeepB.ofGrow s6 (by omega));have ho6:=ho.keepB (yah _) k6 (λi hi=>by have h1:=(ho.low hi).1;have:=hos i;simp only[yap,yat,or_false];omega) (λi hi=>by have hi:lo<=i:=hi;have:=hos i;simp only[yap,yat,or_false];omega);refine zaf (zwE (zes c6 _) (ho6.grow s7) (by rw[zad];omega) zp9 ((hw.ext s7).low (yaE _)) (λi hi=>⟨λe=>?_,?_⟩) (by omega) (by omega)) ?_
  ·have h1:=(hw.own i hi).1;have:=(ho.low e).2;omega
  ·have h1:=(hw.own i hi).1;show lo<=i;omega
  rintro ov' H8 ⟨ho8,s8,c8⟩;have hF:∀i∈ov.pid.toList,lo<=i/\i<H.next:=λi hi=>ho.low (by simpa [zbT]using hi);have hF':∀i,i<lo->i∉ov.pid.toList:=λi hi e=>by have:=(hF i e).1;omega
  have t8:∀i,i<lo->H8.get i=H6.get i:=λi hi=>(s8.same i (by rw[zad];omega) (hF' i hi)).trans (s7.same i (by omega));have os1:=hos s (.inl rfl);have os2:=hos sn (.inr (.inl rfl));have os3:=hos fq (.inr (.inr rfl));have hs7:=(hs5.grow s6).grow s7;have hs8':=hs7.atS (S:=ov.pid.toList) ⟨s8.next,λi hi hn=>s8.same i hi hn⟩ (hF' sn os2) (λi hi=>(ho6.grow s7).odd i (by simpa [zbT]using hi));simp(maxSteps:=1000000) (disch:=first|omega|(simp only[RY]<;>omega)|decide)only[↓RD,RZ,eq_self,Int.reduceToNat,Int.reduceAdd,Int.reduceSub,Int.reduceMul,Nat.reduceAdd,Nat.reduceSub,Nat.reduceMul,Nat.reduceDiv,Nat.reduceMod,Nat.reduceBEq,Nat.reduceLeDiff,wj];refine⟨ov',rfl,(t8 s os1).trans ((s6.same s (by omega)).trans g5s),hs8',(t8 fq os3).trans ((s6.same fq (by omega)).trans g5f),ho8,⟨by have:=s8.next;rw[zad]at this;omega,λi hi hn=>(t8 i hi).trans (k6.same i (by omega) hn)⟩,c8⟩
 case inr=>
  have hjn:(0:Int)<(j:Nat):=by omega
  have d0:(((j:Nat):Int)==0)=decide (j=0):=by rw[ycU];simp
  simp(maxSteps:=1000000) (disch:=first|omega|(simp only[RY]<;>omega)|decide)only[↓RD,RZ,eq_self,Int.reduceToNat,Int.reduceAdd,Int.reduceSub,Int.reduceMul,Nat.reduceAdd,Nat.reduceSub,Nat.reduceMul,Nat.reduceDiv,Nat.reduceMod,Nat.reduceBEq,Nat.reduceLeDiff,g1f,hpv,zby,d0,d1,w,hjn,decide_eq_true hjn];rw[zaZ];generalize hX:Heap.set H1 fq _=H2;have g2f:H2.get fq=some ⟨zaK,[.bool (decide (j=0)),.bool (decide (j+1=n)),idv,fnv,.bool false,.int .i64 0,.int .i64 0,.nils,.int .i64 0,.nils,.nils,.bool false,.int .u32 0,.bool false,.bool false,.bool false,y1,y2,y3],none⟩:=by rw[<-hX];exact zai _ _ _
  have a2:AtS [fq] H1 H2:=by rw[<-hX];exact AtS.set _ (by simp) _
  have n2:H2.next=H1.next:=by rw[<-hX];rfl
  have c2:H2.Cl:=by rw[<-hX];exact zcE c1 (by omega) _
  clear hX;have g2s:=(a2.same s (by omega) (by simp;exact sf)).trans g1s;have hs2:=hs1.atS a2 (by simp;exact nf) (by intro i hi;rw[yaq]at hi;subst hi;exact hodd1);have hl2:=(hl.atS hc a1 (by intro i hi;rw[yaq]at hi;subst hi;exact hln)).atS c1 a2 (by intro i hi;rw[yaq]at hi;subst hi;exact hlf);refine zaf (zhU c2) ?_;rintro _ H3 ⟨k',rfl,lk,hk,s3,c3⟩;have n3:=s3.next;have g3f:=(s3.same fq (by omega)).trans g2f;have g3s:=(s3.same s (by omega)).trans g2s;have hl3:=hl2.grow c2 s3;simp(maxSteps:=1000000) (disch:=first|omega|(simp only[RY]<;>omega)|decide)only[↓RD,RZ,eq_self,Int.reduceToNat,Int.reduceAdd,Int.reduceSub,Int.reduceMul,Nat.reduceAdd,Nat.reduceSub,Nat.reduceMul,Nat.reduceDiv,Nat.reduceMod,Nat.reduceBEq,Nat.reduceLeDiff,g2f,g3f];refine zaf (hdd c3 hl3 (λi hi=>by have:=hl2.lt c2 i hi;omega) hk) ?_;rintro _ H4 ⟨ddv,rfl,hd4,s4,c4⟩;have n4:=s4.next;have g4f:=(s4.same fq (by omega)).trans g3f;have g4s:=(s4.same s (by omega)).trans g3s;have g4s':=g4s;unfold stX at g4s';have dc:=hd4.cells1;have dk:=hd4.okc;have vc:=hv1.cells1;have vk:=hv1.okc;simp(maxSteps:=1000000) (disch:=first|omega|(simp only[RY]<;>omega)|decide)only[↓RD,RZ,eq_self,Int.reduceToNat,Int.reduceAdd,Int.reduceSub,Int.reduceMul,Nat.reduceAdd,Nat.reduceSub,Nat.reduceMul,Nat.reduceDiv,Nat.reduceMod,Nat.reduceBEq,Nat.reduceLeDiff,g4f,g4s',dc,dk];refine zaf (hss g4s) ?_;rintro _ H4b ⟨rfl,e4⟩;rw[e4];clear e4 H4b;have l4:s<H4.next:=by omega
  have l4':fq<H4.next:=by omega
  simp(maxSteps:=1000000) (disch:=first|omega|(simp only[RY]<;>omega)|decide)only[↓RD,RZ,eq_self,Int.reduceToNat,Int.reduceAdd,Int.reduceSub,Int.reduceMul,Nat.reduceAdd,Nat.reduceSub,Nat.reduceMul,Nat.reduceDiv,Nat.reduceMod,Nat.reduceBEq,Nat.reduceLeDiff,g4f,g4s',dc,dk,vc,vk,wq,zby];rw[zaZ];have hs4:=(hs2.grow s3).grow s4;have hv2:=((Lc.atS hv1 a2 (λi hi=>by simp only[yaq];have:=(hv1.own i hi).1;omega)).ext s3).ext s4;generalize hX:Heap.set (Heap.set (Heap.new (Heap.new H4 _) _) _ _) s _=H5;have n5:H5.next=H4.next+2:=by rw[<-hX];rfl
  have g5s:H5.get s=some ⟨zag,stX a id sv rv W (.ptr sn 0) rcv f (q+1) true o,none⟩:=by rw[<-hX];exact zai _ _ _
  have a5:AtS [s] H4 H5:=by rw[<-hX];exact(Grow.atS (((Grow.new _ _).trans (Grow.new _ _)).set (by omega) _) _).trans (AtS.set _ (by simp) _)
  have g5x:H5.get H4.next=some ⟨zaR,[.int .i64 1,ddv],none⟩:=by rw[<-hX,zaj _ _ (by omega),zaj _ _ (by omega),zav _ _ (by rw[zad];omega)];exact zae _ _
  have c5:H5.Cl:=by rw[<-hX];exact zcE (zcE (zes (zes c4 _) _) (by rw[zad,zad];omega) _) (by rw[zam,zad,zad];omega) _
  clear hX;have g5f:=(a5.same fq l4' (by simp;exact sf.symm)).trans g4f;have hs5:=hs4.atL a5 (by simp;exact ns) (by intro i hi;rw[yaq]at hi;subst hi;exact⟨by omega,_,g4s,by show zag≠_;decide,by show zag≠_;decide,by show zag≠_;decide⟩);have hv5:=Lc.atS hv2 a5 (λi hi=>by simp only[yaq];have:=(hv2.own i hi).1;omega);have hd5:=Lc.atS hd4 a5 (λi hi=>by simp only[yaq];have:=(hd4.own i hi).1;omega);refine zaf (zlU c5 (R7.Bytes_ok (lo:=0) (p:=pktF (decide (j+1=n)) q ts ssrc dd sealed) ⟨.nils,_,v1,rfl,Lc.nil,exs_1 g5x (by omega) (hd5.low (yaE _)),hv5.low (yaE _)⟩ ⟨by show 0<=_;omega,by show 1<=_;omega,by show sealed.length<=_;omega,by intro x hx;rw[show(pktF (decide (j+1=n)) q ts ssrc dd sealed).exts=[(1,dd)] from rfl,yaq]at hx;subst hx;show dd.length<=_;omega⟩ ⟨by show q<65536;omega,hts,hsr,by intro x hx;cases hx⟩)) ?_;rintro r6 H6 ⟨⟨s6,h6⟩,c6⟩;rw[zwk hd1 hd2 hsl]at h6;obtain⟨wv,rfl,hw⟩:=h6;have n6:=s6.next;have wc:=hw.cells1;have wo:=hw.okc;simp(maxSteps:=1000000) (disch:=first|omega|(simp only[RY]<;>omega)|decide)only[↓RD,RZ,eq_self,Int.reduceToNat,Int.reduceAdd,Int.reduceSub,Int.reduceMul,Nat.reduceAdd,Nat.reduceSub,Nat.reduceMul,Nat.reduceDiv,Nat.reduceMod,Nat.reduceBEq,Nat.reduceLeDiff,wc,wo];rw[zaZ];have s7:=Grow.new H6 ⟨zal,[wv],none⟩;have k6:KeepB H.next [s,sn,fq] H H6:=(((((KeepB.ofAtS a1 (yah _) (by simp)).trans (KeepB.ofAtS a2 (by omega) (by simp))).trans (KeepB.ofGrow s3 (by omega))).trans (KeepB.ofGrow s4 (by omega))).trans (KeepB.ofAtS a5 (by omega) (by simp))).trans (KeepB.ofGrow s6 (by omega));have ho6:=ho.keepB (yah _) k6 (λi hi=>by have h1:=(ho.low hi).1;have:=hos i;simp only[yap,yat,or_false];omega) (λi hi=>by have hi:lo<=i:=hi;have:=hos i;simp only[yap,yat,or_false];omega);refine zaf (zwE (zes c6 _) (ho6.grow s7) (by rw[zad];omega) zp9 ((hw.ext s7).low (yaE _)) (λi hi=>⟨λe=>?_,?_⟩) (by omega) (by omega)) ?_
  ·have h1:=(hw.own i hi).1;have:=(ho.low e).2;omega
  ·have h1:=(hw.own i hi).1;show lo<=i;omega
  rintro ov' H8 ⟨ho8,s8,c8⟩;have hF:∀i∈ov.pid.toList,lo<=i/\i<H.next:=λi hi=>ho.low (by simpa [zbT]using hi);have hF':∀i,i<lo->i∉ov.pid.toList:=λi hi e=>by have:=(hF i e).1;omega
  have t8:∀i,i<lo->H8.get i=H6.get i:=λi hi=>(s8.same i (by rw[zad];omega) (hF' i hi)).trans (s7.same i (by omega));have os1:=hos s (.inl rfl);have os2:=hos sn (.inr (.inl rfl));have os3:=hos fq (.inr (.inr rfl));have hs7:=(hs5.grow s6).grow s7;have hs8':=hs7.atS (S:=ov.pid.toList) ⟨s8.next,λi hi hn=>s8.same i hi hn⟩ (hF' sn os2) (λi hi=>(ho6.grow s7).odd i (by simpa [zbT]using hi));simp(maxSteps:=1000000) (disch:=first|omega|(simp only[RY]<;>omega)|decide)only[↓RD,RZ,eq_self,Int.reduceToNat,Int.reduceAdd,Int.reduceSub,Int.reduceMul,Nat.reduceAdd,Nat.reduceSub,Nat.reduceMul,Nat.reduceDiv,Nat.reduceMod,Nat.reduceBEq,Nat.reduceLeDiff,wj];refine⟨ov',rfl,(t8 s os1).trans ((s6.same s (by omega)).trans g5s),hs8',(t8 fq os3).trans ((s6.same fq (by omega)).trans g5f),ho8,⟨by have:=s8.next;rw[zad]at this;omega,λi hi hn=>(t8 i hi).trans (k6.same i (by omega) hn)⟩,c8⟩
def pkJ(n q ts ssrc:Nat)(dd0 ddS:Bool->List Nat)(K:Ky)(c:Nat) (ls:List (List Nat)) (j:Nat):List Nat:=
 R7.hb (pktF (decide (j+1=n)) (q+j) ts ssrc (if j=0 then dd0 (decide (j+1=n)) else ddS (decide (j+1=n))) (zb6 K (c+j) [] (ls.getD j [])))++zb6 K (c+j) [] (ls.getD j [])
def floop{kp:Nat}{s sn fq a id sl f q n ts ssrc:Nat}{W:Nat->V}{sv rv rcv pl:V}{o nw:Bool}{idv fnv u1 u2 u3 u4 u5 u6 y1 y2 y3:V}{lp:Nat}{P:Nat->Prop} {ls:List (List Nat)} {dd0 ddS:Bool->List Nat} {L:List (Nat×Blk)} {H:Heap} {K:Ky} {se ss c:Nat}
  (hc:H.Cl) (hg:H.get s=some ⟨zag,stX a id sv rv W (.ptr sn 0) rcv f q true o,none⟩)
  (hs:SndP kp (s+1) H sn (id:Nat) (sl:Nat) (some (K,(se:Nat),(ss:Nat),c))) (hcn:c+1000<18446744073709551616)
  (hf:H.get fq=some ⟨zaK,[.bool false,.bool false,idv,fnv,.bool nw,u1,u2,u3,u4,u5,u6,.bool false,.int .u32 0,.bool false,.bool false,.bool false,y1,y2,y3],none⟩)
  (hp:AppS lp P H pl ls) (hpv:∀i,pl.pid=some i->i∉[s,sn,fq]) (hP:∀i,P i->i∉[s,sn,fq]) (hn:ls.length=n) (hn8:n<=1000) (h8:∀l∈ls,Ok8 l/\l.length<=100)
  (ns:sn≠s) (nf:sn≠fq) (sf:s≠fq) (hl:Has H L) (hlf:fq∉L.map Prod.fst) (hls:s∉L.map Prod.fst) (hln:sn∉L.map Prod.fst)
  (hx8:∀v∈[idv,fnv,u1,u2,u3,u4,u5,u6,y1,y2,y3],∀n,v≠.int .u8 n) (hq:q+n<65535) (hts:ts<4294967296) (hsr:ssrc<4294967296) (hKt:K.t<=32) (hKw:∀w∈K.ws,Word w)
  (hss:∀{H:Heap} {q:Nat},H.get s=some ⟨zag,stX a id sv rv W (.ptr sn 0) rcv f q true o,none⟩->Ok (sem T za1 [.ptr s 0,.int .i64 0]) H λv H'=>v = .int .u32 (ssrc:Nat)/\H'=H)
  (hd0:∀b,1<=(dd0 b).length/\(dd0 b).length<=16) (hdS:∀b,1<=(ddS b).length/\(ddS b).length<=16)
  (hdd0:∀{H:Heap} {k':Nat} {en:Bool},H.Cl->Has H L->(∀i∈L.map Prod.fst,i<k')->Has H (strL k')->Ok (sem T zbA [.agg [.bool true,.bool en,idv,fnv,.bool nw,u1,u2,u3,u4,u5,u6,.bool false,.int .u32 0,.bool false,.bool false,.bool false,y1,y2,y3],.agg (strV k')]) H λr H'=>∃v,r = .tup [v,.int .i64 0]/\By H.next H' v (dd0 en)/\Grow H H'/\H'.Cl)
  (hddS:∀{H:Heap} {k':Nat} {en:Bool},1<n->H.Cl->Has H L->(∀i∈L.map Prod.fst,i<k')->Has H (strL k')->Ok (sem T zbA [.agg [.bool false,.bool en,idv,fnv,.bool false,.int .i64 0,.int .i64 0,.nils,.int .i64 0,.nils,.nils,.bool false,.int .u32 0,.bool false,.bool false,.bool false,y1,y2,y3],.agg (strV k')]) H λr H'=>∃v,r = .tup [v,.int .i64 0]/\By H.next H' v (ddS en)/\Grow H H'/\H'.Cl) :
  Ok (M.iter (zbX (sem T) (.int .i64 (n:Nat)) pl pl (.ptr fq 0) (.int .u32 (ts:Nat)) (.ptr s 0) (.int .i64 0) (.ptr s 24)) [.nils,.int .i64 0]) H λr H'=>∃ov',r = .ex 1 [ov'] /\
   H'.get s=some ⟨zag,stX a id sv rv W (.ptr sn 0) rcv f (q+n) true o,none⟩ /\
   SndP kp (s+1) H' sn (id:Nat) (sl:Nat) (some (K,(se:Nat),(ss:Nat),c+n)) /\
   AppS H.next (λi=>H.next<=i) H' ov' ((List.range n).map (pkJ n q ts ssrc dd0 ddS K c ls)) /\
   KeepB H.next [s,sn,fq] H H'/\H'.Cl:=by
 have hlo:=hl.lt hc;have l1:=zbD hc hg;have l2:=zbD hc hf;have l3:=hs.1;refine zaP (λj R H'=>∃ov,R=[ov,.int .i64 (j:Nat)] /\
   H'.get s=some ⟨zag,stX a id sv rv W (.ptr sn 0) rcv f (q+j) true o,none⟩ /\
   SndP kp (s+1) H' sn (id:Nat) (sl:Nat) (some (K,(se:Nat),(ss:Nat),c+j)) /\
   (∃st en nwj x1 x2 x3 x4 x5 x6,H'.get fq=some ⟨zaK,[.bool st,.bool en,idv,fnv,.bool nwj,x1,x2,x3,x4,x5,x6,.bool false,.int .u32 0,.bool false,.bool false,.bool false,y1,y2,y3],none⟩/\(j=0->nwj=nw/\[u1,u2,u3,u4,u5,u6]=[x1,x2,x3,x4,x5,x6])/\∀v∈[x1,x2,x3,x4,x5,x6],∀n,v≠.int .u8 n) /\
   AppS H.next (λi=>H.next<=i) H' ov ((List.range j).map (pkJ n q ts ssrc dd0 ddS K c ls)) /\
   KeepB H.next [s,sn,fq] H H'/\H'.Cl) n ?_ ?_ ?_
 ·refine⟨.nils,rfl,hg,hs,⟨false,false,nw,u1,u2,u3,u4,u5,u6,hf,λ_=>⟨rfl,rfl⟩,λv hv=>hx8 v ?_⟩,AppS.nil,KeepB.refl _ _ _,hc⟩;simp only[yap,yat,or_false]at hv ⊢;rcases hv with h|h|h|h|h|h<;>simp[h]
 ·rintro j R H1 hj ⟨ov,rfl,g1,s1,⟨st,en,nwj,x1,x2,x3,x4,x5,x6,g1f,h0,hx1⟩,ho,k1,c1⟩;have n1:=k1.next;have hl1:Has H1 L:=λp hp=>(k1.same p.1 (hlo _ (ycq hp)) (by
   have hm:=ycq (f:=Prod.fst) hp;simp only[yap,yat,or_false];rintro(h|h|h)
   ·exact hls (h ▸ hm)
   ·exact hln (h ▸ hm)
   ·exact hlf (h ▸ hm))).trans (hl p hp)
  have hp1:=hp.keepB (yah _) k1 hpv hP;have hxx:∀v∈[idv,fnv,x1,x2,x3,x4,x5,x6,y1,y2,y3],∀n,v≠.int .u8 n:=λv hv=>by
   simp only[yap,yat,or_false]at hv hx1 hx8;rcases hv with h|h|h|h|h|h|h|h|h|h|h
   ·exact hx8 v (by simp[h])
   ·exact hx8 v (by simp[h])
   ·exact hx1 v (by simp[h])
   ·exact hx1 v (by simp[h])
   ·exact hx1 v (by simp[h])
   ·exact hx1 v (by simp[h])
   ·exact hx1 v (by simp[h])
   ·exact hx1 v (by simp[h])
   ·exact hx8 v (by simp[h])
   ·exact hx8 v (by simp[h])
   ·exact hx8 v (by simp[h])
  have hgj:ls.getD j []=ls[j]'(by omega):=by rw[yal,yae (by omega)];rfl
  have hlen:((List.range j).map (pkJ n q ts ssrc dd0 ddS K c ls)).length<=1000:=by rw[yag,yb1];omega
  have hmod:(c+j+1)%18446744073709551616=c+(j+1):=by omega
  have hosl:∀i,i=s\/i=sn\/i=fq->i<H.next:=by rintro i (rfl|rfl|rfl)<;>assumption
  by_cases hj0:j=0
  ·obtain⟨e1,e2⟩:=h0 hj0;have:=fbody (j:=j) (nw':=nw) (z1:=u1) (z2:=u2) (z3:=u3) (z4:=u4) (z5:=u5) (z6:=u6) (dd:=dd0 (decide (j+1=n))) c1 g1 s1 g1f hp1 hn hn8 hj h8 ns nf sf hl1 hlf hls hln ho (by omega) hosl hlen hxx (by omega) hts hsr hKt hKw (.inl ⟨hj0,e1.symm,e2⟩) hss (hd0 _).1 (hd0 _).2 (λa b c d=>by
    have:=hdd0 (en:=decide (j+1=n)) a b c d;rw[decide_eq_true hj0];exact this)
   refine zap this ?_;rintro _ H2 ⟨ov',rfl,g2,s2,g2f,ho2,k2,c2⟩;refine⟨ov',rfl,g2,hmod ▸ s2,⟨_,_,_,_,_,_,_,_,_,g2f,λh=>by omega,λv hv=>hx8 v ?_⟩,?_,k1.trans k2,c2⟩
   ·simp only[yap,yat,or_false]at hv ⊢;rcases hv with h|h|h|h|h|h<;>simp[h]
   ·rw[ycp,yaC];unfold pkJ at ho2 ⊢;simp only[yaV,ybM,hgj,if_pos hj0];exact ho2
  ·have:=fbody (j:=j) (nw':=false) (z1:=.int .i64 0) (z2:=.int .i64 0) (z3:=.nils) (z4:=.int .i64 0) (z5:=.nils) (z6:=.nils) (dd:=ddS (decide (j+1=n))) c1 g1 s1 g1f hp1 hn hn8 hj h8 ns nf sf hl1 hlf hls hln ho (by omega) hosl hlen hxx (by omega) hts hsr hKt hKw (.inr ⟨by omega,rfl,rfl⟩) hss (hdS _).1 (hdS _).2 (λa b c d=>by
    have:=hddS (en:=decide (j+1=n)) (by omega) a b c d;rw[decide_eq_false hj0];exact this)
   refine zap this ?_;rintro _ H2 ⟨ov',rfl,g2,s2,g2f,ho2,k2,c2⟩;refine⟨ov',rfl,g2,hmod ▸ s2,⟨_,_,_,_,_,_,_,_,_,g2f,λh=>by omega,λv hv=>?_⟩,?_,k1.trans k2,c2⟩
   ·simp only[yap,yat,or_false]at hv;rcases hv with rfl|rfl|rfl|rfl|rfl|rfl<;>(intro n e;cases e)
   ·rw[ycp,yaC];unfold pkJ at ho2 ⊢;simp only[yaV,ybM,hgj,if_neg hj0];exact ho2
 ·rintro R H1 ⟨ov,rfl,g1,s1,-,ho,k1,c1⟩;have hlt:¬((n:Nat):Int)<(n:Nat):=by omega
  unfold zbX uL uM uS uT uF uNFM uNF uE uB uIM uO uU uA uZ uR uK uc ug;simp(disch:=omega)only[↓RD,RZ,hlt,decide_eq_false hlt];exact⟨ov,rfl,g1,s1,ho,k1,c1⟩
def AppS.mono{lo lo':Nat}{P P':Nat->Prop}{H:Heap}{v:V} {ls:List (List Nat)} (h:AppS lo P H v ls) (hl:lo'<=lo) (hP:∀i,P i->P' i):AppS lo' P' H v ls:=by
 obtain⟨ws,h1,h2,h3⟩:=h;refine⟨ws,h1,?_,λw hw=>⟨(h3 w hw).1,λi hi=>⟨((h3 w hw).2 i hi).1,hP i ((h3 w hw).2 i hi).2⟩⟩⟩;generalize ws.map (·.2)=cs at h2;generalize ws.length=m at h2;cases h2 with
 | opn h ho=>exact .opn h λi hi=>⟨yax hl (ho i hi).1,(ho i hi).2⟩
 | lit h h0 h1=>exact .lit h (yax hl h0) h1
def zma(b:List Nat):(pcsL b).length=(b.length-1)/100+1:=by
 unfold pcsL pcz;rw[yaf,yag,yb1];rfl
def ztc{b:List Nat}(h8:Ok8 b):∀l∈pcsL b,Ok8 l/\l.length<=100:=λl hl=>by
 unfold pcsL pcz at hl;rcases yaM.1 hl with hl|hl
 ·obtain⟨j,-,rfl⟩:=yaZ.1 hl;exact⟨(h8.drop _).take _,by rw[yao];omega⟩
 ·rw[yaq]at hl;subst hl;exact⟨h8.drop _,by rw[yar];omega⟩
def zlj(st en:Bool)(id f:Nat)(new:Bool):1<=(ddB st en id f new).length/\(ddB st en id f new).length<=16:=by
 unfold ddB;cases new<;>simp
def zxh{kp:Nat}{s sn a id sl f q c:Nat}{W:Nat->V}{sv rv rcv v:V}{b0 o key:Bool}{lo ssrc:Nat}{b:List Nat}{H:Heap}{K:Ky}{se ss:Nat}
  (hc:H.Cl) (hg:H.get s=some ⟨zag,stX a id sv rv W (.ptr sn 0) rcv f q b0 o,none⟩) (hk:key=true\/b0=false) (hf:f=0\/f=1)
  (hs:SndP kp (s+1) H sn (id:Nat) (sl:Nat) (some (K,(se:Nat),(ss:Nat),c))) (hcn:c+1000<18446744073709551616) (ns:sn≠s)
  (hv:By lo H v b) (h8:Ok8 b) (hb:b.length<=800) (hvs:∀i,v.pid=some i->i≠s/\i≠sn) (hq:q<60000) (hsr:ssrc<4294967296) (hKt:K.t<=32) (hKw:∀w∈K.ws,Word w)
  (hss:∀{H:Heap} {f q:Nat} {b0 o:Bool},H.get s=some ⟨zag,stX a id sv rv W (.ptr sn 0) rcv f q b0 o,none⟩->Ok (sem T za1 [.ptr s 0,.int .i64 0]) H λv H'=>v = .int .u32 (ssrc:Nat)/\H'=H) :
  Ok (sem T zbl [.ptr s 0,.int .i64 0,.bool key,v]) H λr H'=>∃ov,r = .tup [ov,.int .i64 0] /\
   H'.get s=some ⟨zag,stX a id sv rv W (.ptr sn 0) rcv (f+1) (q+(pcsL b).length) true false,none⟩ /\
   SndP kp (s+1) H' sn (id:Nat) (sl:Nat) (some (K,(se:Nat),(ss:Nat),c+(pcsL b).length)) /\
   AppS H.next (λi=>H.next<=i) H' ov ((List.range (pcsL b).length).map (pkJ (pcsL b).length q (3000*f) ssrc (λen=>ddB true en 0 f true) (λen=>ddB false en 0 f false) K c (pcsL b))) /\
   KeepB H.next [s,sn] H H'/\H'.Cl:=by
 have hlt:=zbD hc hg;have lsn:=hs.1;refine zfP ?_;unfold zdZ uL uT uNFM uNF uB uI uO uA uR uK uc ug;refine zto ?_;refine zaf (zvB (k:=0) (.inl rfl)) ?_;rintro _ H ⟨rfl,rfl⟩;have hg':=hg;unfold stX at hg';have hvl:=hv.vlen;have hle:¬(800:Int)<(b.length:Nat):=by omega
 simp(disch:=omega)only[↓RD,RZ,eq_self,seval,hg',hvl,hle,decide_eq_false hle];rw[zaZ];refine zaf (zrV hc hg hk hf) ?_;rintro _ H1 ⟨k,i,j,rfl,g1,lk,lki,lij,hk1,hij1,a1,c1⟩;have n1:=a1.next;have hs1:=hs.atL a1 (by simp;exact ns) (by intro x hx;rw[yaq]at hx;subst hx;exact⟨by omega,_,hg,by show zag≠_;decide,by show zag≠_;decide,by show zag≠_;decide⟩);have hv1:=Lc.atS hv a1 (λx hx=>by simp only[yaq];exact(hvs x hx).1);refine zqO c1 rfl rfl λfq H2 e2 g2 s2 n2 c2=>?_;have g2s:=(s2.same s (by omega)).trans g1;have hs2:=hs1.grow s2;have hv2:=hv1.ext s2;have hl2:=(hk1.app hij1).grow c1 s2;have g2s':=g2s;unfold stX at g2s';have wf:IntKind.u32.wrap ((f:Nat):Int)=(f:Nat):=by rcases hf with rfl|rfl<;>rfl
 have w3:IntKind.u32.wrap (3000*((f:Nat):Int))=((3000*f:Nat):Int):=by rcases hf with rfl|rfl<;>rfl
 have w1:IntKind.i64.wrap (((f:Nat):Int)+1)=((f+1:Nat):Int):=by rcases hf with rfl|rfl<;>rfl
 simp(disch:=omega)only[↓RD,RZ,eq_self,seval,g2s',wf,w3,w1,zby];rw[zaZ];generalize hX:Heap.set H2 s _=H3;have g3s:H3.get s=some ⟨zag,stX a id sv rv W (.ptr sn 0) rcv (f+1) q true false,none⟩:=by rw[<-hX];exact zai _ _ _
 have a3:AtS [s] H2 H3:=by rw[<-hX];exact AtS.set _ (by simp) _
 have n3:H3.next=H2.next:=by rw[<-hX];rfl
 have c3:H3.Cl:=by rw[<-hX];exact zcE c2 (by omega) _
 clear hX;have hs3:=hs2.atL a3 (by simp;exact ns) (by intro x hx;rw[yaq]at hx;subst hx;exact⟨by omega,_,g2s,by show zag≠_;decide,by show zag≠_;decide,by show zag≠_;decide⟩);have hv3:=Lc.atS hv2 a3 (λx hx=>by simp only[yaq];exact(hvs x hx).1);have hbig:∀x∈(strL k++frL i j).map Prod.fst,H.next<=x:=λx hx=>by
  rw[yaC,yaM]at hx;rcases hx with hx|hx
  ·have:=zgN x hx;omega
  ·simp[frL]at hx;omega
 have hl3:=hl2.atS c2 a3 (by intro x hx hx';rw[yaq]at hx;have:=hbig x hx';omega);have g3f:=(a3.same fq (by omega) (by simp;omega)).trans g2;refine zaf (zlU c3 (ztb hv3 (by omega))) ?_;rintro pl H4 ⟨⟨hp4,s4⟩,c4⟩;have n4:=s4.next;have hpl:=hp4.vlen;have hl4:=hl3.grow c3 s4;have g4f:=(s4.same fq (by omega)).trans g3f;have hlen:=zma b;have hlf:fq∉(strL k++frL i j).map Prod.fst:=λhx=>by have:=(hk1.app hij1).lt c1 fq hx;omega
 simp(disch:=omega)only[↓RD,RZ,eq_self,seval,hpl];unfold OkS;refine zap (floop (se:=se) (ss:=ss) (n:=(pcsL b).length) (ts:=3000*f) (P:=λx=>v.pid=some x) (ls:=pcsL b) (dd0:=λen=>ddB true en 0 f true) (ddS:=λen=>ddB false en 0 f false) (L:=(strL k++frL i j))
  c4 ((s4.same s (by omega)).trans g3s) (hs3.grow s4) hcn g4f hp4 (λx hx=>?_) (λx hx=>?_) rfl (by omega) (ztc h8) ns (by have:=hs2.1;have:=hs1.1;omega) (by omega) hl4 hlf (λhx=>by have:=hbig s hx;omega) (λhx=>by have:=hbig sn hx;omega)
  ?_ (by omega) (by omega) hsr hKt hKw hss (λen=>zlj _ _ _ _ _) (λen=>zlj _ _ _ _ _) ?_ ?_) ?_
 ·have h1:=(hp4.low hx).1;have:=hs3.1;simp only[yap,yat,or_false];omega
 ·have h1:=hvs x hx;have h2:=(hv.own x hx).2;simp only[yap,yat,or_false];omega
 ·intro w hw n e;simp only[strV,nS,yap,yat,or_false]at hw;rw[e]at hw;simp at hw
 ·intro H k' en hc hL hi hk';exact ddb_new hc (λp hp=>hL p (ycn _ hp)) (λp hp=>hL p (ycR _ hp)) hk' lki lij (hi j (by simp[frL])) hf
 ·intro H k' en _ hc hL hi hk';exact ddb_mid hc (λp hp=>hL p (ycR _ hp)) hk' lij (hi j (by simp[frL])) hf
 ·rintro _ H5 ⟨ov,rfl,g5,s5,ho5,k5,c5⟩;show Ok _ H5 _;simp(disch:=omega)only[↓RD,RZ,eq_self,seval];refine⟨ov,rfl,g5,s5,ho5.mono (by omega) (λx hx=>by have hx:H4.next<=x:=hx;show H.next<=x;omega),⟨by have:=k5.next;omega,λx hx hn=>?_⟩,c5⟩;simp only[yap,yat,or_false,not_or]at hn;rw[k5.same x (by omega) (by simp only[yap,yat,or_false];omega),s4.same x (by omega),a3.same x (by omega) (by simp;omega),s2.same x (by omega),a1.same x (by omega) (by simp;omega)]
def zxg{kp:Nat}{s sn a id sl q c:Nat}{W:Nat->V}{sv rv rcv v:V}{key:Bool}{lo ssrc:Nat}{b:List Nat}{H:Heap}{K:Ky}{se ss:Nat}
  (hc:H.Cl) (hg:H.get s=some ⟨zag,stX a id sv rv W (.ptr sn 0) rcv 1 q true false,none⟩)
  (hs:SndP kp (s+1) H sn (id:Nat) (sl:Nat) (some (K,(se:Nat),(ss:Nat),c))) (hcn:c+1000<18446744073709551616) (ns:sn≠s)
  (hv:By lo H v b) (h8:Ok8 b) (hb:b.length<=800) (hvs:∀i,v.pid=some i->i≠s/\i≠sn) (hq:q<60000) (hsr:ssrc<4294967296) (hKt:K.t<=32) (hKw:∀w∈K.ws,Word w)
  (hss:∀{H:Heap} {f q:Nat} {b0 o:Bool},H.get s=some ⟨zag,stX a id sv rv W (.ptr sn 0) rcv f q b0 o,none⟩->Ok (sem T za1 [.ptr s 0,.int .i64 0]) H λv H'=>v = .int .u32 (ssrc:Nat)/\H'=H) :
  Ok (sem T zbl [.ptr s 0,.int .i64 0,.bool false,v]) H λr H'=>∃ov,r = .tup [ov,.int .i64 0] /\
   H'.get s=some ⟨zag,stX a id sv rv W (.ptr sn 0) rcv (1+1) (q+(pcsL b).length) true true,none⟩ /\
   SndP kp (s+1) H' sn (id:Nat) (sl:Nat) (some (K,(se:Nat),(ss:Nat),c+(pcsL b).length)) /\
   AppS H.next (λi=>H.next<=i) H' ov ((List.range (pcsL b).length).map (pkJ (pcsL b).length q (3000*1) ssrc (λen=>ddB true en 2 1 false) (λen=>ddB false en 2 1 false) K c (pcsL b))) /\
   KeepB H.next [s,sn] H H'/\H'.Cl:=by
 have hlt:=zbD hc hg;have lsn:=hs.1;refine zfP ?_;unfold zdZ uL uT uNFM uNF uB uI uO uA uR uK uc ug;refine zto ?_;refine zaf (zvB (k:=0) (.inl rfl)) ?_;rintro _ H ⟨rfl,rfl⟩;have hg':=hg;unfold stX at hg';have hvl:=hv.vlen;have hle:¬(800:Int)<(b.length:Nat):=by omega
 simp(disch:=omega)only[↓RD,RZ,eq_self,seval,hg',hvl,hle,decide_eq_false hle];rw[zaZ];refine zaf (zrU hc hg) ?_;rintro _ H1 ⟨i,j,l,rfl,g1,lk,lij,ljl,hij1,a1,c1⟩;have n1:=a1.next;have hs1:=hs.atL a1 (by simp;exact ns) (by intro x hx;rw[yaq]at hx;subst hx;exact⟨by omega,_,hg,by show zag≠_;decide,by show zag≠_;decide,by show zag≠_;decide⟩);have hv1:=Lc.atS hv a1 (λx hx=>by simp only[yaq];exact(hvs x hx).1);refine zqO c1 rfl rfl λfq H2 e2 g2 s2 n2 c2=>?_;have g2s:=(s2.same s (by omega)).trans g1;have hs2:=hs1.grow s2;have hv2:=hv1.ext s2;have hl2:=hij1.grow c1 s2;have g2s':=g2s;unfold stX at g2s';have wf:IntKind.u32.wrap ((1:Nat):Int)=(1:Nat):=rfl;have w3:IntKind.u32.wrap (3000*((1:Nat):Int))=((3000*1:Nat):Int):=rfl;have w1:IntKind.i64.wrap (((1:Nat):Int)+1)=((1+1:Nat):Int):=rfl;simp(disch:=omega)only[↓RD,RZ,eq_self,seval,g2s',wf,w3,w1,zby];rw[zaZ];generalize hX:Heap.set H2 s _=H3;have g3s:H3.get s=some ⟨zag,stX a id sv rv W (.ptr sn 0) rcv (1+1) q true true,none⟩:=by rw[<-hX];exact zai _ _ _
 have a3:AtS [s] H2 H3:=by rw[<-hX];exact AtS.set _ (by simp) _
 have n3:H3.next=H2.next:=by rw[<-hX];rfl
 have c3:H3.Cl:=by rw[<-hX];exact zcE c2 (by omega) _
 clear hX;have hs3:=hs2.atL a3 (by simp;exact ns) (by intro x hx;rw[yaq]at hx;subst hx;exact⟨by omega,_,g2s,by show zag≠_;decide,by show zag≠_;decide,by show zag≠_;decide⟩);have hv3:=Lc.atS hv2 a3 (λx hx=>by simp only[yaq];exact(hvs x hx).1);have hbig:∀x∈(frL2 i j l).map Prod.fst,H.next<=x:=λx hx=>by
  simp[frL2]at hx;omega
 have hl3:=hl2.atS c2 a3 (by intro x hx hx';rw[yaq]at hx;have:=hbig x hx';omega);have g3f:=(a3.same fq (by omega) (by simp;omega)).trans g2;refine zaf (zlU c3 (ztb hv3 (by omega))) ?_;rintro pl H4 ⟨⟨hp4,s4⟩,c4⟩;have n4:=s4.next;have hpl:=hp4.vlen;have hl4:=hl3.grow c3 s4;have g4f:=(s4.same fq (by omega)).trans g3f;have hlen:=zma b;have hlf:fq∉(frL2 i j l).map Prod.fst:=λhx=>by have:=hij1.lt c1 fq hx;omega
 simp(disch:=omega)only[↓RD,RZ,eq_self,seval,hpl];unfold OkS;refine zap (floop (se:=se) (ss:=ss) (n:=(pcsL b).length) (ts:=3000*1) (P:=λx=>v.pid=some x) (ls:=pcsL b) (dd0:=λen=>ddB true en 2 1 false) (ddS:=λen=>ddB false en 2 1 false) (L:=(frL2 i j l))
  c4 ((s4.same s (by omega)).trans g3s) (hs3.grow s4) hcn g4f hp4 (λx hx=>?_) (λx hx=>?_) rfl (by omega) (ztc h8) ns (by have:=hs2.1;have:=hs1.1;omega) (by omega) hl4 hlf (λhx=>by have:=hbig s hx;omega) (λhx=>by have:=hbig sn hx;omega)
  ?_ (by omega) (by omega) hsr hKt hKw hss (λen=>zlj _ _ _ _ _) (λen=>zlj _ _ _ _ _) ?_ ?_) ?_
 ·have h1:=(hp4.low hx).1;have:=hs3.1;simp only[yap,yat,or_false];omega
 ·have h1:=hvs x hx;have h2:=(hv.own x hx).2;simp only[yap,yat,or_false];omega
 ·intro w hw n e;simp only[strV,nS,yap,yat,or_false]at hw;rw[e]at hw;simp at hw
 ·intro H k' en hc hL hi hk';exact zxx hc hL hk' lij ljl (hi l (by simp[frL2]))
 ·intro H k' en _ hc hL hi hk';exact zxx hc hL hk' lij ljl (hi l (by simp[frL2]))
 ·rintro _ H5 ⟨ov,rfl,g5,s5,ho5,k5,c5⟩;show Ok _ H5 _;simp(disch:=omega)only[↓RD,RZ,eq_self,seval];refine⟨ov,rfl,g5,s5,ho5.mono (by omega) (λx hx=>by have hx:H4.next<=x:=hx;show H.next<=x;omega),⟨by have:=k5.next;omega,λx hx hn=>?_⟩,c5⟩;simp only[yap,yat,or_false,not_or]at hn;rw[k5.same x (by omega) (by simp only[yap,yat,or_false];omega),s4.same x (by omega),a3.same x (by omega) (by simp;omega),s2.same x (by omega),a1.same x (by omega) (by simp;omega)]
structure Pr (H:Heap) (S sn c a id slot:Nat) (W:Nat->V) (K:Ky) (e sp ct:Nat) (R:Rc) (f q:Nat) (b o:Bool) (sv rv:V) (kp:Nat):Prop where
 svn:∀n,sv≠.int .u8 n
 rvn:∀n,rv≠.int .u8 n
 seat:H.get S=some ⟨zag,stX a id sv rv W (.ptr sn 0) (.ptr (c+3) 0) f q b o,none⟩
 wn:∀i n,W i≠.int .u8 n
 snd:SndP kp (S+1) H sn (id:Nat) (slot:Nat) (some (K,(e:Nat),(sp:Nat),ct))
 rcv:RcM H c R
section
variable {H H':Heap} {S sn c a id slot:Nat} {W:Nat->V} {K:Ky} {e sp ct:Nat} {R:Rc} {f q:Nat} {b o:Bool} {sv rv:V} {kp:Nat}
def odd_seat{snd rcv:V}(h1:∀n,sv≠.int .u8 n)(h2:∀n,rv≠.int .u8 n)(h3:∀i n,W i≠.int .u8 n)(h4:∀n,snd≠.int .u8 n)(h5:∀n,rcv≠.int .u8 n):OddR ⟨zag,stX a id sv rv W snd rcv f q b o,none⟩:=by
 refine⟨⟨show zag≠zaN by decide,show zag≠zaQ by decide,show zag≠zax by decide,λv hv n e=>?_⟩,show zag≠zab by decide,show zag≠zas by decide⟩;subst e;simp only[stX,yap,yat,or_false]at hv;rcases hv with hv|hv|hv|hv|hv|hv|hv|hv|hv|hv|hv|hv|hv|hv|hv|hv|hv|hv|hv|hv|hv|hv|hv|hv|hv|hv|hv|hv|hv|hv|hv|hv|hv|hv|hv|hv <;>
  first|(cases hv;done)|exact h1 _ hv.symm|exact h2 _ hv.symm|exact h3 _ _ hv.symm|exact h4 _ hv.symm|exact h5 _ hv.symm
def Pr.oddS(h:Pr H S sn c a id slot W K e sp ct R f q b o sv rv kp):∃x,H.get S=some x/\OddR x:=by
 have h1:=h.svn;have h2:=h.rvn;have h3:=h.seat;exact⟨_,h3,odd_seat h1 h2 h.wn (λn e=>by cases e) (λn e=>by cases e)⟩
def Pr.oddN(h:Pr H S sn c a id slot W K e sp ct R f q b o sv rv kp):∃x,H.get sn=some x/\OddR x:=by
 obtain⟨h1,h2,h3,-,-⟩:=h.snd;refine⟨_,h3,⟨show zaw≠zaN by decide,show zaw≠zaQ by decide,show zaw≠zax by decide,λv hv n e=>?_⟩,show zaw≠zab by decide,show zaw≠zas by decide⟩;subst e;simp only[sndC,yap,yat,or_false]at hv;rcases hv with hv|hv|hv|hv|hv|hv|hv<;>cases hv
def Pr.atS{T':List Nat}(h:Pr H S sn c a id slot W K e sp ct R f q b o sv rv kp)(hc:H.Cl)(s:AtS T' H H')(h1:S∉T')(h2:sn∉T')(h3:∀i∈T',i<c\/c+4<=i)(h4:∀i∈T',∃x,H.get i=some x/\OddR x):Pr H' S sn c a id slot W K e sp ct R f q b o sv rv kp:=by
 have h5:=h.svn;have h6:=h.rvn;have h7:=h.seat;exact⟨h5,h6,(s.same S (zbD hc h7) h1).trans h7,h.wn,h.snd.atS s h2 (λi hi=>by
  obtain⟨x,hx,ho⟩:=h4 i hi;exact⟨x,hx,ho.1⟩),h.rcv.atS s h3 h4⟩
end
def ssrc_x{H:Heap}{s a:Nat}{cs:List V}(ha:a=1\/a=2\/a=3) (hg:H.get s=some ⟨zag,cs,none⟩) (h0:cs[0]?=some (.int .i64 (a:Nat))):Ok (sem T za1 [.ptr s 0,.int .i64 0]) H λv H'=>v = .int .u32 ((1000+100*a:Nat):Nat)/\H'=H:=by
 refine zk2 ?_;unfold zhx uL uNFM uB uA uR uc;refine zaf (zvB (k:=0) (.inl rfl)) ?_;rintro _ H ⟨rfl,rfl⟩;rcases ha with rfl|rfl|rfl
 ·have h0:cs[0]?=some (.int .i64 1):=h0;simp(disch:=omega)only[↓RD,RZ,hg,h0];rfl
 ·have h0:cs[0]?=some (.int .i64 2):=h0;simp(disch:=omega)only[↓RD,RZ,hg,h0];rfl
 ·have h0:cs[0]?=some (.int .i64 3):=h0;simp(disch:=omega)only[↓RD,RZ,hg,h0];rfl
def AppS.top{lo:Nat}{P:Nat->Prop}{H:Heap}{v:V} {ls:List (List Nat)} (h:AppS lo P H v ls):AppS lo (λi=>P i/\i<H.next) H v ls:=by
 obtain⟨ws,h1,h2,h3⟩:=h;exact⟨ws,h1,h2,λw hw=>⟨(h3 w hw).1,λi hi=>⟨((h3 w hw).2 i hi).1,((h3 w hw).2 i hi).2,((h3 w hw).1.own i hi).2⟩⟩⟩
def PkS(K:Ky)(ct:Nat) (pcs:List (List Nat)) (j:Nat) (b:List Nat):Prop:=∃p,R7.parse b = .ok p/\p.pay=zb6 K (ct+j) [] (pcs.getD j [])/\Ok8 b/\b.length<=1200
def pkj_s{n q ts ssrc:Nat}{dd0 ddS:Bool->List Nat}{K:Ky}{ct:Nat} {pcs:List (List Nat)} (h0:∀b,1<=(dd0 b).length/\(dd0 b).length<=16/\Ok8 (dd0 b)) (hS:∀b,1<=(ddS b).length/\(ddS b).length<=16/\Ok8 (ddS b)) (hp:∀l∈pcs,Ok8 l/\l.length<=100) (ht:K.t<=32) (hw:∀w∈K.ws,Word w) (hn:pcs.length=n) (hq:q+n<65536) (hts:ts<4294967296) (hss:ssrc<4294967296) {j:Nat} (hj:j<n) :
  PkS K ct pcs j (pkJ n q ts ssrc dd0 ddS K ct pcs j):=by
 have hpj:Ok8 (pcs.getD j [])/\(pcs.getD j []).length<=100:=by
  rw[yal,yae (by omega)];exact hp _ (yaW _)
 have hl:=zgP ht (ct+j) [] (pcs.getD j []);have hh:=zk7 K.kid (ct+j);have hd:1<=(if j=0 then dd0 (decide (j+1=n)) else ddS (decide (j+1=n))).length/\(if j=0 then dd0 (decide (j+1=n)) else ddS (decide (j+1=n))).length<=16/\Ok8 (if j=0 then dd0 (decide (j+1=n)) else ddS (decide (j+1=n))):=by
  split
  ·exact h0 _
  ·exact hS _
 obtain⟨e1,e2,e3⟩:=zwj (mk:=decide (j+1=n)) (q:=q+j) (ts:=ts) (ssrc:=ssrc) hd.1 hd.2.1 (pay:=zb6 K (ct+j) [] (pcs.getD j [])) (by omega) (zqw hw hpj.1) hd.2.2 (by omega) hts hss;exact⟨_,e1,rfl,e2,e3⟩
def ddB_8{st en:Bool}{id f:Nat}{new:Bool}(hi:id<64)(hf:f<256):Ok8 (ddB st en id f new):=by
 intro x hx;unfold ddB at hx;cases new<;>cases st<;>cases en<;>simp at hx<;>omega
def ztD{S:List Nat}{H H':Heap}(h:KeepB H.next S H H'):AtS S H H':=⟨h.next,λi hi hn=>h.same i hi hn⟩
def zq7{sv rv:V}{kp:Nat}{S sn c a id slot:Nat}{W:Nat->V}{K:Ky}{e sp ct:Nat}{R:Rc}{f q:Nat}{bo o key:Bool}{H:Heap}{v:V}{b:List Nat}{lo:Nat}(hc:H.Cl)(h:Pr H S sn c a id slot W K e sp ct R f q bo o sv rv kp)
  (hk:((key=true\/bo=false)/\(f=0\/f=1))\/(key=false/\f=1/\bo=true/\o=false)) (ha:a=1\/a=2\/a=3) (hcn:ct+1000<18446744073709551616) (ns:S<sn/\S<c/\(sn<c\/c+4<=sn)) (hv:By lo H v b) (h8:Ok8 b) (hb:b.length<=800) (hvs:∀i,v.pid=some i->i≠S/\i≠sn) (hq:q<60000) (hKt:K.t<=32) (hKw:∀w∈K.ws,Word w) :
  Ok (sem T zbl [.ptr S 0,.int .i64 0,.bool key,v]) H λr H'=>∃ov PK o',r = .tup [ov,.int .i64 0]/\AppS H.next (λi=>H.next<=i) H' ov PK/\PK.length=(pcsL b).length/\(∀j (hj:j<PK.length),PkS K ct (pcsL b) j PK[j]) /\
   Pr H' S sn c a id slot W K e sp (ct+(pcsL b).length) R (f+1) (q+(pcsL b).length) true o' sv rv kp/\(f=0\/key=true->o'=false)/\AtS [S,sn] H H'/\H'.Cl:=by
 have h1:=h.svn;have h2:=h.rvn;have h3:=h.seat;have hp8:=ztc h8;have hpl:=zma b;have fin:∀{r:V} {H':Heap} {ov:V} {o':Bool} {ts:Nat} {dd0 ddS:Bool->List Nat},r = .tup [ov,.int .i64 0]->H'.get S=some ⟨zag,stX a id sv rv W (.ptr sn 0) (.ptr (c+3) 0) (f+1) (q+(pcsL b).length) true o',none⟩->SndP kp (S+1) H' sn (id:Nat) (slot:Nat) (some (K,(e:Nat),(sp:Nat),ct+(pcsL b).length)) ->
   AppS H.next (λi=>H.next<=i) H' ov ((List.range (pcsL b).length).map (pkJ (pcsL b).length q ts (1000+100*a) dd0 ddS K ct (pcsL b)))->KeepB H.next [S,sn] H H'->H'.Cl->(∀b,1<=(dd0 b).length/\(dd0 b).length<=16/\Ok8 (dd0 b))->(∀b,1<=(ddS b).length/\(ddS b).length<=16/\Ok8 (ddS b))->ts<4294967296->(f=0\/key=true->o'=false) ->
   ∃ov PK o',r = .tup [ov,.int .i64 0]/\AppS H.next (λi=>H.next<=i) H' ov PK/\PK.length=(pcsL b).length/\(∀j (hj:j<PK.length),PkS K ct (pcsL b) j PK[j]) /\
   Pr H' S sn c a id slot W K e sp (ct+(pcsL b).length) R (f+1) (q+(pcsL b).length) true o' sv rv kp/\(f=0\/key=true->o'=false)/\AtS [S,sn] H H'/\H'.Cl:=λe1 e2 e3 e4 e5 e6 e7 e8 e9 e10=>
  ⟨_,_,_,e1,e4,by simp,λj hj=>by
   simp only[ybQ,yc7];exact pkj_s e7 e8 hp8 hKt hKw rfl (by omega) e9 (by omega) (by simpa using hj),⟨h1,h2,e2,h.wn,e3,h.rcv.atS (ztD e5) (by simp;omega) (by
    intro i hi;simp only[yap,yat,or_false]at hi;rcases hi with rfl|rfl
    ·exact h.oddS
    ·exact h.oddN)⟩,e10,ztD e5,e6⟩
 have d8:∀{st:Bool} {id f:Nat} {new:Bool},id<64->f<256->∀en,1<=(ddB st en id f new).length/\(ddB st en id f new).length<=16/\Ok8 (ddB st en id f new):=λhi hf en=>⟨(zlj _ _ _ _ _).1,(zlj _ _ _ _ _).2,ddB_8 hi hf⟩;have hss:∀{H:Heap} {f q:Nat} {b0 o:Bool},H.get S=some ⟨zag,stX a id sv rv W (.ptr sn 0) (.ptr (c+3) 0) f q b0 o,none⟩->Ok (sem T za1 [.ptr S 0,.int .i64 0]) H λv H'=>v = .int .u32 ((1000+100*a:Nat):Nat)/\H'=H:=λhg=>ssrc_x ha hg rfl;rcases hk with⟨hk,hf⟩|⟨rfl,rfl,rfl,rfl⟩
 ·refine zap (zxh hc h3 hk hf h.snd hcn (by omega) hv h8 hb hvs hq (by omega) hKt hKw hss) ?_;rintro r H' ⟨ov,e1,e2,e3,e4,e5,e6⟩;exact fin e1 e2 e3 e4 e5 e6 (d8 (by decide) (by omega)) (d8 (by decide) (by omega)) (by omega) λ_=>rfl
 ·refine zap (zxg (key:=false) hc h3 h.snd hcn (by omega) hv h8 hb hvs hq (by omega) hKt hKw hss) ?_;rintro r H' ⟨ov,e1,e2,e3,e4,e5,e6⟩;exact fin e1 e2 e3 e4 e5 e6 (d8 (by decide) (by decide)) (d8 (by decide) (by decide)) (by decide) λh=>by rcases h with h|h<;>cases h
section
variable {t:Tabs} {s:Nat->Nat} {q:Nat->List Nat} {g:Y.Sg} {h K:Heap}
def zvD(ht:TabV t s q) (st:Y.St (tbOf t s q) g h K) {i m n0 id slot e sp kid c a:Nat} {bl:List V} (hb:h.get i=some ⟨zaw,sndC (id:Nat) (slot:Nat) (.ptr m 0) (e:Nat) (sp:Nat) kid c,none⟩) (hm:t.ks[m]?=some (n0,.key id kid bl)) (hc:c<18446744073709551616)
  {n tg:Nat} (hs:szs id=some (n,tg)) (ha:t.ks.length<=a) (han:a<n0) (hna:g.nf a):SndP (g.e.f m) (g.e.f a+1) K (g.e.f i) (id:Nat) (slot:Nat) (some (drv id kid n tg (iv s q bl),(e:Nat),(sp:Nat),c)):=by
 obtain⟨h1,h2,h3,h4⟩:=zbY st hb;obtain⟨n',tg',lo,k1,k2,k3⟩:=key_at ht st hb (k:=2) rfl hm;rw[hs]at k1;simp only[yaa,yad]at k1;obtain⟨rfl,rfl⟩:=k1;refine⟨h3,hc,h1,k2.m,k2.kl.low ?_⟩;have:=k3 a ha han hna;omega
def zkM(ht:TabV t s q) (st:Y.St (tbOf t s q) g h K) {lo j sp ib ic:Nat} {b:Bd} (h4:h.get ib=some ⟨zab,syms j 0 32,some 1⟩) (h5:h.get ic=some ⟨zas,[.int .i64 (sp:Nat),.sl ib 0 32 (.opn 1)],none⟩)
  (hi:lo<=g.e.f ib) (hic:lo<=g.e.f ic) (hb:t.bs[j]?=some b) (hl:(val s q b).length=32) (h8:Ok8 (val s q b)) (hsp:sp<=31):ChainM lo K (g.e.f ic) sp (val s q b):=by
 obtain⟨a4,b4,d4,l4⟩:=zbY st h4;obtain⟨a5,b5,d5,l5⟩:=zbY st h5;have hsy:=zmq ht (d:=g.e) st.s hb (o:=0) (n:=32) (by omega) (by decide);rw[yaz]at hsy;have a4':K.get (g.e.f ib)=some ⟨zab,(val s q b).map by8,some 1⟩:=by
  rw[a4];unfold Y.shB;rw[hsy]
 have hby:By lo K (.sl (g.e.f ib) 0 32 (.opn 1)) (val s q b):=by
  refine⟨?_,λi hi=>by injection hi with hi;subst hi;omega,rfl⟩;simp only[rcells,a4',Option.bind_some];rw[if_pos (by rw[yag];omega),yaz,yaj (by rw[yag];omega),hl]
 refine⟨d5,hic,⟨.sl (g.e.f ib) 0 32 (.opn 1),a5,hby,λi hi=>?_⟩,h8,by omega,hsp⟩;injection hi with hi
 subst hi;exact⟨_,a4',rfl⟩
def rcv1_at (st:Y.St (tbOf t s q) g h K) {c id ic sp:Nat} {e sl:Int} {b:List Nat} (h0:h.get c=some ⟨tyC,[.agg [.int .i64 e,.int .i64 sl],.ptr ic 0],none⟩) (h1:h.get (c+1)=some ⟨tyW,[],none⟩) (h2:h.get (c+2)=some ⟨tyK,[],none⟩)
  (h3:h.get (c+3)=some ⟨zaF,[.int .i64 (id:Nat),.mp c,.mp (c+1),.mp (c+2)],none⟩) (k1:ChainM (g.e.f c+4) K (g.e.f ic) sp b) :
  RcM K (g.e.f c) ⟨id,[((e,sl),(sp,b))],[],[]⟩/\g.e.f (c+3)=g.e.f c+3:=by
 obtain⟨a0,b0,d0,l0⟩:=zbY st h0;obtain⟨a1,b1,d1,l1⟩:=zbY st h1;obtain⟨a2,b2,d2,l2⟩:=zbY st h2;obtain⟨a3,b3,d3,l3⟩:=zbY st h3;have e1:g.e.f (c+1)=g.e.f c+1:=st.seq c l0 b0 b1;have e2:g.e.f (c+2)=g.e.f (c+1)+1:=st.seq (c+1) l1 b1 b2;have e3:g.e.f (c+3)=g.e.f (c+2)+1:=st.seq (c+2) l2 b2 b3;refine⟨⟨by show g.e.f c+4<=K.next;omega,?_,⟨[((e,sl),g.e.f ic)],a0,rfl,k1,trivial⟩,?_,(λp hp=>by cases hp),⟨[],?_,trivial⟩⟩,by omega⟩
 ·rw[show g.e.f c+3=g.e.f (c+3) by omega,a3];show some (Blk.mk zaF [.int .i64 (id:Nat),.mp (g.e.f c),.mp (g.e.f (c+1)),.mp (g.e.f (c+2))] none)=some (Blk.mk zaF [.int .i64 (id:Nat),.mp (g.e.f c),.mp (g.e.f c+1),.mp (g.e.f c+2)] none);rw[e2,e1]
 ·rw[<-e1];exact a1
 ·rw[show g.e.f c+2=g.e.f (c+2) by omega];exact a2
def zv8 (st:Y.St (tbOf t s q) g h K) {c id ic jc sp sp':Nat} {e sl e' sl':Int} {b b':List Nat} (h0:h.get c=some ⟨tyC,[.agg [.int .i64 e,.int .i64 sl],.ptr ic 0,.agg [.int .i64 e',.int .i64 sl'],.ptr jc 0],none⟩) (h1:h.get (c+1)=some ⟨tyW,[],none⟩) (h2:h.get (c+2)=some ⟨tyK,[],none⟩)
  (h3:h.get (c+3)=some ⟨zaF,[.int .i64 (id:Nat),.mp c,.mp (c+1),.mp (c+2)],none⟩) (k1:ChainM (g.e.f c+4) K (g.e.f ic) sp b) (k2:ChainM (g.e.f c+4) K (g.e.f jc) sp' b') :
  RcM K (g.e.f c) ⟨id,[((e,sl),(sp,b)),((e',sl'),(sp',b'))],[],[]⟩/\g.e.f (c+3)=g.e.f c+3:=by
 obtain⟨a0,b0,d0,l0⟩:=zbY st h0;obtain⟨a1,b1,d1,l1⟩:=zbY st h1;obtain⟨a2,b2,d2,l2⟩:=zbY st h2;obtain⟨a3,b3,d3,l3⟩:=zbY st h3;have e1:g.e.f (c+1)=g.e.f c+1:=st.seq c l0 b0 b1;have e2:g.e.f (c+2)=g.e.f (c+1)+1:=st.seq (c+1) l1 b1 b2;have e3:g.e.f (c+3)=g.e.f (c+2)+1:=st.seq (c+2) l2 b2 b3;refine⟨⟨by show g.e.f c+4<=K.next;omega,?_,⟨[((e,sl),g.e.f ic),((e',sl'),g.e.f jc)],a0,rfl,k1,rfl,k2,trivial⟩,?_,(λp hp=>by cases hp),⟨[],?_,trivial⟩⟩,by omega⟩
 ·rw[show g.e.f c+3=g.e.f (c+3) by omega,a3];show some (Blk.mk zaF [.int .i64 (id:Nat),.mp (g.e.f c),.mp (g.e.f (c+1)),.mp (g.e.f (c+2))] none)=some (Blk.mk zaF [.int .i64 (id:Nat),.mp (g.e.f c),.mp (g.e.f c+1),.mp (g.e.f c+2)] none);rw[e2,e1]
 ·rw[<-e1];exact a1
 ·rw[show g.e.f c+2=g.e.f (c+2) by omega];exact a2
def seq3 (st:Y.St (tbOf t s q) g h K) {c:Nat} {x0 x1 x2 x3:Blk} (h0:h.get c=some x0) (h1:h.get (c+1)=some x1) (h2:h.get (c+2)=some x2) (h3:h.get (c+3)=some x3):g.e.f (c+3)=g.e.f c+3:=by
 obtain⟨a0,b0,d0,l0⟩:=zbY st h0;obtain⟨a1,b1,d1,l1⟩:=zbY st h1;obtain⟨a2,b2,d2,l2⟩:=zbY st h2;obtain⟨a3,b3,d3,l3⟩:=zbY st h3;have e1:g.e.f (c+1)=g.e.f c+1:=st.seq c l0 b0 b1;have e2:g.e.f (c+2)=g.e.f (c+1)+1:=st.seq (c+1) l1 b1 b2;have e3:g.e.f (c+3)=g.e.f (c+2)+1:=st.seq (c+2) l2 b2 b3;omega
def ziS (st:Y.St (tbOf t s q) g h K) {i j:Nat} {x y:Blk} (hi:h.get i=some x) (hj:h.get j=some y) (hl:i<j):g.e.f i<g.e.f j:=st.mono i j (zbY st hi).2.2.2 hl (zbY st hi).2.1 (zbY st hj).2.1
def zwU(ht:TabV t s q) (st:Y.St (tbOf t s q) g h K) {i k m:Nat} {b:Blk} {l:List V} (h1:h.get i=some b) (h2:b.cells[k]?=some (.lit (.int .i64 (m:Nat)))) (h3:rd t.fnd h (.lit (.int .i64 (m:Nat)))=some l):∀n,Y.sh g.e (.lit (.int .i64 (m:Nat)))≠.int .u8 n:=λn e=>by
 have:=(zmF ht st h3 (zjT st h1 h2)).1.rc;rw[e]at this;cases this
end
def zht{s:Nat->Nat}{q:Nat->List Nat}{a b:List V}:(val s q (.ex a b 32)).length=32/\Ok8 (val s q (.ex a b 32)):=⟨by
 show((hkdf kc (iv s _ a) (iv s _ b) ((32+31)/32)).1.take 32).length = _;rw[yao,zfT];decide,Ok8.take (zjz kc _ _ _).1 _⟩
def AppS.kp{lo:Nat}{P:Nat->Prop}{H H':Heap}{v:V} {ls:List (List Nat)} (h:AppS lo P H v ls) (hP:∀i,P i->lo<=i) (hn:H.next<=H'.next) (hs:∀i,lo<=i->i<H.next->H'.get i=H.get i):AppS lo P H' v ls:=by
 obtain⟨ws,h1,h2,h3⟩:=h;refine⟨ws,h1,R7.App.keep h2 ⟨hn,hs⟩,λw hw=>⟨?_,(h3 w hw).2⟩⟩;obtain⟨b1,b2⟩:=h3 w hw;have b3:By lo H w.2 w.1:=⟨b1.rc,λi hi=>⟨hP i (b2 i hi).2,(b1.own i hi).2⟩,b1.cap⟩;exact(b3.keep ⟨hn,hs⟩).low (yaE _)
def rl_pf{g:Y.Sg}{i o A:Nat} (r:Y.Rl g Y.sh (.ptr i o) (.ptr A o)):∀d,Y.Ag g d->d.f i=A:=λd hd=>(V.ptr.inj (show V.ptr A o = .ptr (d.f i) o from r d hd)).1.symm
def zww{R:Rc}{n t e st sl c s0:Nat}{K:Ky}{base:List Nat}(hkid:K.kid=256*e+8*st+sl)(h1:e<65536)(h2:st<32)(h3:sl<8) (hl:look ((e:Int),(sl:Int)) R.ch=some (s0,base)) (hs:st<s0) (hc:c<18446744073709551616) (p:List Nat) :
  zeJ R n t [] (zb6 K c [] p)=(R,.err 10):=by
 have hpar:parse (zb6 K c [] p) = .ok K.kid c (hdr K.kid c).length:=by
  unfold zb6;rw[yaI];exact zmI (by omega) (by omega) _
 unfold zeJ;rw[hpar];dsimp only;rw[if_neg (by omega),show K.kid/256=e by omega,show K.kid%8=sl by omega,show K.kid%256/8=st by omega,hl];dsimp only;rw[if_pos hs]
def zw0{P:Nat->Prop}{lo C c a id f q n t:Nat}{sv rv snd:V}{W:Nat->V}{bo o:Bool}{H:Heap}{R:Rc}{ov:V} {PK pcs:List (List Nat)} {K:Ky} {ct e st sl s0:Nat} {base:List Nat} (hc:H.Cl) (hg:H.get C=some ⟨zag,stX a id sv rv W snd (.ptr (c+3) 0) f q bo o,none⟩) (hR:RcM H c R) (hS:C<c) (hsz:szs R.id=some (n,t))
  (hov:AppS lo P H ov PK) (hv:∀i,ov.pid=some i->i<c\/c+4<=i) (hP:∀i,P i->i<c\/c+4<=i) (hpk:∀j (hj:j<PK.length),PkS K ct pcs j PK[j]) (hlen:PK.length<=1000) (hpc:∀l∈pcs,Ok8 l/\l.length<=100) (hKt:K.t<=32) (hKw:∀w∈K.ws,Word w)
  (hkid:K.kid=256*e+8*st+sl) (h1:e<65536) (h2:st<32) (h3:sl<8) (hl:look ((e:Int),(sl:Int)) R.ch=some (s0,base)) (hs:st<s0) (hcc:ct+1000<18446744073709551616) :
  Ok (M.iter (zbf (sem T) (.ptr C 0) ov) [.int .i64 0]) H λr H'=>r = .ex 0 []/\RcM H' c R/\AtS [c,c+1,c+2] H H'/\H'.Cl:=by
 have top:=hR.top;have hC:=zbD hc hg;refine zaP (λi L H'=>L=[.int .i64 (i:Nat)]/\RcM H' c R/\AtS [c,c+1,c+2] H H'/\H'.Cl) PK.length ?_ ?_ ?_
 ·exact⟨rfl,hR,AtS.refl _ _,hc⟩
 ·rintro i _ H3 hi ⟨rfl,hR3,a3,c3⟩;have nx3:=a3.next;have hov3:=hov.keepB (yah _) (KeepB.ofAtS a3 (yah _) (λi hi=>.inl hi)) (S:=[c,c+1,c+2]) (λi hi=>by
   have:=hv i hi;simp;omega) (λi hi=>by
   have:=hP i hi;simp;omega)
  obtain⟨p,bv,hp,hpl',hbv,hbp⟩:=hov3.at (i:=i) hi;have hld:=zwi hpl';obtain⟨pk,q1,q2',q3,q4⟩:=hpk i hi;have hlt:((i:Nat):Int)<(PK.length:Nat):=by omega
  have hg3:=(a3.same C hC (by simp;omega)).trans hg;have hpj:Ok8 (pcs.getD i [])/\(pcs.getD i []).length<=100:=by
   by_cases hi2:i<pcs.length
   ·rw[yal,yae hi2];exact hpc _ (yaW _)
   ·rw[yal,ybh (by omega)];exact⟨Ok8.nil,yaE _⟩
  have hsl:=zgP hKt (ct+i) [] (pcs.getD i []);have hhm:=zk7 K.kid (ct+i);have hT:=zx2 c3 hg3 hR3 hS hsz hbv q3 (by omega) q1 (by rw[q2'];exact zqw hKw hpj.1) (by rw[q2'];omega);unfold zbf uL uT uE uB uIM uG uH uO uA uR uK uc uq ug;simp(maxSteps:=1000000) (disch:=first|omega|(simp only[RY]<;>omega)|decide)only[↓RD,RZ,eq_self,Int.reduceToNat,Int.reduceAdd,Int.reduceSub,Int.reduceMul,Nat.reduceAdd,Nat.reduceSub,Nat.reduceMul,Nat.reduceDiv,Nat.reduceMod,Nat.reduceBEq,Nat.reduceLeDiff,hov3.vlen,hlt,hp,hld];refine zaf hT ?_;rintro r H4 ⟨hgr,hR4,a4,c4⟩;have a4:AtS [c,c+1,c+2] H3 H4:=a4.mono (by simp);rw[q2',zww hkid h1 h2 h3 hl hs (by omega)]at hgr hR4;have hgr:r = .tup [.agg [.int .i64 0,.int .i64 0,.int .i64 0,.int .u64 0,.nils],.int .i64 10]:=hgr;subst hgr;have nx4:=a4.next;simp(maxSteps:=1000000) (disch:=first|omega|(simp only[RY]<;>omega)|decide)only[↓RD,RZ,eq_self,Int.reduceToNat,Int.reduceAdd,Int.reduceSub,Int.reduceMul,Nat.reduceAdd,Nat.reduceSub,Nat.reduceMul,Nat.reduceDiv,Nat.reduceMod,Nat.reduceBEq,Nat.reduceLeDiff];generalize hHH:Heap.set _ H4.next _=H5;have s5:Grow H4 H5:=by rw[<-hHH];exact(Grow.new H4 _).set (yah _) _
  have c5:H5.Cl:=by rw[<-hHH];exact zcE (zes c4 _) (by rw[zad];omega) _
  exact⟨by rfl,hR4.grow s5,(a3.trans a4).trans (Grow.atS s5 _),c5⟩
 ·rintro _ H3 ⟨rfl,hR3,a3,c3⟩;unfold zbf uL uT uE uB uIM uG uH uO uA uR uK uc uq ug;simp(maxSteps:=1000000) (disch:=first|omega|(simp only[RY]<;>omega)|decide)only[↓RD,RZ,eq_self,Int.reduceToNat,Int.reduceAdd,Int.reduceSub,Int.reduceMul,Nat.reduceAdd,Nat.reduceSub,Nat.reduceMul,Nat.reduceDiv,Nat.reduceMod,Nat.reduceBEq,Nat.reduceLeDiff,hov.vlen];exact⟨hR3,a3,c3⟩
def now_loop{P:Nat->Prop}{lo C c a id f q n t g0:Nat}{sv rv snd:V}{W:Nat->V}{bo o:Bool}{H:Heap}{R:Rc}{ov:V} {PK pcs:List (List Nat)} {K:Ky} {ct e st sl:Nat} (hc:H.Cl) (hg:H.get C=some ⟨zag,stX a id sv rv W snd (.ptr (c+3) 0) f q bo o,none⟩) (hR:RcM H c R) (hS:C<c) (hsz:szs R.id=some (n,t))
  (hov:AppS lo P H ov PK) (hv:∀i,ov.pid=some i->(i<c\/c+4<=i)/\i≠g0) (hP:∀i,P i->(i<c\/c+4<=i)/\i≠g0) (hpk:∀j (hj:j<PK.length),PkS K ct pcs j PK[j]) (hlen:ct+PK.length<=60) (hpc:∀l∈pcs,Ok8 l/\l.length<=100) (hKt:K.t<=32) (hKw:∀w∈K.ws,Word w)
  (hr:Rdy R n t K e st sl ct) (h0:H.get g0=some ⟨zaC,[.int .i64 0,.int .i64 0,.int .i64 0,.int .u64 0,.nils],none⟩) (hg0:c+4<=g0) :
  Ok (M.iter (zbe (sem T) (.ptr C 0) ov (.ptr g0 0)) [.int .i64 0]) H λr H'=>r = .ex 2 []/\(0<PK.length->∃x y,H'.get g0=some ⟨zaC,[.int .i64 (e:Nat),.int .i64 (st:Nat),.int .i64 (sl:Nat),x,y],none⟩):=by
 have top:=hR.top;have hC:=zbD hc hg;have lg0:=zbD hc h0;refine zaP (λi L H'=>L=[.int .i64 (i:Nat)]/\RcM H' c (gotN R n t K e st sl ct i)/\AtS [c,c+1,c+2,g0] H H'/\H'.Cl/\(∃x y z u v,H'.get g0=some ⟨zaC,[x,y,z,u,v],none⟩/\(∀w∈[x,y,z,u,v],∀n,w≠.int .u8 n)/\(0<i->x = .int .i64 (e:Nat)/\y = .int .i64 (st:Nat)/\z = .int .i64 (sl:Nat)))) PK.length ?_ ?_ ?_
 ·refine⟨rfl,hR,AtS.refl _ _,hc,_,_,_,_,_,h0,λw hw n e=>?_,λh=>absurd h (Nat.lt_irrefl 0)⟩;simp only[yap,yat,or_false]at hw;rcases hw with rfl|rfl|rfl|rfl|rfl<;>cases e
 ·rintro i _ H3 hi ⟨rfl,hR3,a3,c3,x0,y0,z0,u0,v0,g3,o3,-⟩;have nx3:=a3.next;have hov3:=hov.keepB (yah _) (KeepB.ofAtS a3 (yah _) (λi hi=>.inl hi)) (S:=[c,c+1,c+2,g0]) (λi hi=>by
   have:=hv i hi;simp;omega) (λi hi=>by
   have:=hP i hi;simp;omega)
  obtain⟨p,bv,hp,hpl',hbv,hbp⟩:=hov3.at (i:=i) hi;have hld:=zwi hpl';obtain⟨pk,q1,q2',q3,q4⟩:=hpk i hi;have hlt:((i:Nat):Int)<(PK.length:Nat):=by omega
  have hg3:=(a3.same C hC (by simp;omega)).trans hg;have hpj:Ok8 (pcs.getD i [])/\(pcs.getD i []).length<=100:=by
   by_cases hi2:i<pcs.length
   ·rw[yal,yae hi2];exact hpc _ (yaW _)
   ·rw[yal,ybh (by omega)];exact⟨Ok8.nil,yaE _⟩
  have hrdy:=rdy_n hr hKt i (by omega);obtain⟨e5,e6,e7,e8⟩:=ztj hrdy.1 (by omega) hKt (p:=pcs.getD i []) (by omega);have hsl:=zgP hKt (ct+i) [] (pcs.getD i []);have hhm:=zk7 K.kid (ct+i);have hT:=zx2 c3 hg3 hR3 hS (by rw[hrdy.2.1];exact hsz) hbv q3 (by omega) q1 (by rw[q2'];exact zqw hKw hpj.1) (by rw[q2'];omega);unfold zbe uL uS uT uE uB uIM uO uA uR uK uc uq ug;simp(maxSteps:=1000000) (disch:=first|omega|(simp only[RY]<;>omega)|decide)only[↓RD,RZ,eq_self,Int.reduceToNat,Int.reduceAdd,Int.reduceSub,Int.reduceMul,Nat.reduceAdd,Nat.reduceSub,Nat.reduceMul,Nat.reduceDiv,Nat.reduceMod,Nat.reduceBEq,Nat.reduceLeDiff,hov3.vlen,hlt,hp,hld];refine zaf hT ?_;rintro r H4 ⟨hgr,hR4,a4,c4⟩;rw[q2',e5]at hgr hR4;obtain⟨x,rfl,hx⟩:=hgr;have nx4:=a4.next;have g4:H4.get g0=some ⟨zaC,[x0,y0,z0,u0,v0],none⟩:=(a4.same g0 (by omega) (by simp;omega)).trans g3;simp(maxSteps:=1000000) (disch:=first|omega|(simp only[RY]<;>omega)|decide)only[↓RD,RZ,eq_self,Int.reduceToNat,Int.reduceAdd,Int.reduceSub,Int.reduceMul,Nat.reduceAdd,Nat.reduceSub,Nat.reduceMul,Nat.reduceDiv,Nat.reduceMod,Nat.reduceBEq,Nat.reduceLeDiff,hx.okc,hx.cells1,g4];generalize hHH:Heap.set (Heap.new H4 _) H4.next _=H5;have s5:Grow H4 H5:=by rw[<-hHH];exact(Grow.new H4 _).set (yah _) _
  have c5:H5.Cl:=by rw[<-hHH];exact zcE (zes c4 _) (by rw[zad];omega) _
  clear hHH;have nx5:=s5.next;have g5:=(s5.same g0 (by omega)).trans g4;have a5:=AtS.set (k:=g0) H5 (S:=[g0]) (by simp) (some ⟨zaC,[.int .i64 (e:Nat),.int .i64 (st:Nat),.int .i64 (sl:Nat),.int .u64 ((ct+i:Nat):Int),x],none⟩);refine⟨by rfl,(hR4.grow s5).atS a5 (by simp;omega) (by simp only[yaq,forall_eq];exact⟨_,g5,zsi o3⟩),?_,zcE c5 (by omega) _,_,_,_,_,_,rfl,λw hw m hm=>?_,λ_=>⟨rfl,rfl,rfl⟩⟩
  ·exact((a3.trans (a4.mono (by simp))).trans (Grow.atS s5 _)).trans (a5.mono (by simp))
  ·subst hm;simp only[yap,yat,or_false]at hw;rcases hw with hw|hw|hw|hw|hw<;>first|(cases hw;done)|skip
   have:=hx.rc;rw[<-hw]at this;cases this
 ·rintro _ H3 ⟨rfl,hR3,a3,c3,x0,y0,z0,u0,v0,g3,o3,h3⟩;unfold zbe uL uS uT uE uB uIM uO uA uR uK uc uq ug;simp(maxSteps:=1000000) (disch:=first|omega|(simp only[RY]<;>omega)|decide)only[↓RD,RZ,eq_self,Int.reduceToNat,Int.reduceAdd,Int.reduceSub,Int.reduceMul,Nat.reduceAdd,Nat.reduceSub,Nat.reduceMul,Nat.reduceDiv,Nat.reduceMod,Nat.reduceBEq,Nat.reduceLeDiff,hov.vlen];intro hp;obtain⟨rfl,rfl,rfl⟩:=h3 hp;exact⟨_,_,g3⟩
end Go.Ax.SU
/- Lp4 -/
namespace Go.Ax.SU
open Go.Ax Go.Proofs
def lp_low:lowT 0 lpT.bs=true:=by kernel_rfl
def rl_k{g:Y.Sg}{k:IntKind}{n:Int}:Y.Rl g Y.sh (.int k n) (.int k n):=λ_ _=>rfl
def seQ_n(n k slot m a b c st:Nat):∀i v,seQ n k slot m a b c st i≠.int .u8 v:=λi v e=>by
 unfold seQ at e;split at e<;>cases e
def zdV {l:List (Nat×Blk)} {f:Nat->Option Blk} (h:∀p∈l,f p.1=some p.2) (i:Nat) {p:Nat×Blk} (e:l[i]?=some p):f p.1=some p.2:=h p (ybb e)
section
variable {s:Nat->Nat} {root:List Nat}
abbrev lpB0(s:Nat->Nat)(root:List Nat):Y.Tb:=tbOf lpT s λ_=>root
def lp_start{rv:V}(hr:∀H,By 0 H rv root)(hrp:rv.pid=none){H:Heap}(hc:H.Cl):∃g,Y.Run (lpB0 s root) H (λi=>i<H.next) g (Cc.hp (List.replicate 24 none)) H/\Y.Rl g Y.shL [lp0] [rv]:=by
 have st:=st_0 (t:=lpT) (s:=s) (q:=λ_=>root) (ws:=[rv]) (λm v hm=>by
  cases m with
  | zero=>
   simp only[yaD,yaa]at hm;subst hm;refine⟨[.lit (.int .u64 0)],rfl,λH=>?_,rfl,hrp⟩;show By 0 H rv (root++[]);rw[yaJ];exact hr H
  | succ m=>cases hm) (by decide) hc
 refine⟨_,⟨st,yah _,λi hi=>⟨hi,λj hj=>(by cases hj),rfl⟩⟩,λd hd=>?_⟩;have h2:d.w (0:Int).toNat=rv:=hd.2.2 0 Nat.zero_lt_one;show[rv]=[Y.okw (d.w (0:Int).toNat)];rw[h2];unfold Y.okw;rw[if_pos (zwZ (hr H))]
end
def zqv{rv xv:V}{root x:List Nat}(hr:∀H,By 0 H rv root)(hrp:rv.pid=none)(hr8:Ok8 root)(hrl:root.length<=1048576)(hx:∀H,By 0 H xv x)(hxp:xv.pid=none)(hx8:Ok8 x){H:Heap}(hc:H.Cl) :
  Ok (sem T zbm [rv,xv]) H λr _=>r = .bool true:=by
 refine ze7 ?_;unfold zc8 uL uE uB uG uH uO uA uR uc ub uq;obtain⟨s,ht⟩:=tab_ex (t:=lpT) (q:=λ_=>root) lp_low (λ_=>hr8) (λ_=>hrl);have hO:=orc_ok ht;obtain⟨g0,R0,e0⟩:=lp_start (s:=s) hr hrp hc;obtain⟨c1,hc1,hn1,ho1⟩:=Y.seen_ok lp_1;refine zaf (R0.call hTs hO hc1 (args':=[.int .i64 2,rv]) (Y.rl_c rl_k e0) e0) ?_;rintro b1 K1 ⟨g1,q1,R1,h1,e1⟩;obtain⟨_,_,rfl,ra1,rb1⟩:=Y.rl_tup2 (Y.rl_h e1);obtain⟨A,rfl,-⟩:=Y.rl_p ra1;obtain⟨B,rfl,-⟩:=Y.rl_p rb1;refine zdh rfl ?_;refine zdh rfl ?_;have x1:=R1.ins (i:=.slit zab 1 [.int .u8 0] [(0,1,.c (.int .u8 99))]) rfl h1 (args':=[]) Y.rl_n (Y.rl_c ra1 (Y.rl_c rb1 (Y.rl_t e1)));refine zaf (α:=V) (x:=mslit zab 1 [.int .u8 0] [(0,1,.int .u8 99)]) x1 ?_;rintro b2 K2 ⟨g2,q2,R2,h2,e2⟩;have x2:=R2.ins (i:=.remark zab (.s 0)) rfl h2 (args':=[b2]) (Y.rl_c (Y.rl_h e2) Y.rl_n) (Y.rl_t e2);refine zaf (α:=V) (x:=mremark zab b2) x2 ?_;rintro b3 K3 ⟨g3,q3,R3,h3,e3⟩;refine zaf (R3.call hTs hO h3 (args':=[.int .i64 3,.int .i64 2,b3,rv]) (Y.rl_c rl_k (Y.rl_c rl_k (Y.rl_c (Y.rl_h e3) (Y.rl_t (Y.rl_t (Y.rl_t e3)))))) (Y.rl_t e3)) ?_;rintro b4 K4 ⟨g4,q4,R4,h4,e4⟩;obtain⟨rfl,-⟩:=Y.runs_nil h4;obtain⟨_,_,rfl,rc4,ri4⟩:=Y.rl_tup2 (Y.rl_h e4);obtain⟨C,rfl,-⟩:=Y.rl_p rc4;have e4':=Y.rl_c rc4 (Y.rl_t e4);have gt:=Y.map_get ho1;refine zdh rfl ?_;refine zdh rfl ?_;have st4:=R4.st;have eA:A=g4.e.f 28:=by
  have:=(Y.rl_h (Y.rl_t e4')) g4.e (Y.Ag.self g4);injection this
 have eC:C=g4.e.f 476:=by
  have:=(Y.rl_h e4') g4.e (Y.Ag.self g4);injection this
 subst eA eC;have g28:c1.abs.get 28=some ⟨zag,stY 1 2 (.sl 26 0 1 (.opn 1)) (.lit (.int .i64 1)) (seQ 1 1 0 3 1 2 0 1) (.ptr 78 0) (.ptr 82 0) 0 (.int .u16 0) false false,none⟩:=zdV gt 0 rfl;have g78:c1.abs.get 78=some ⟨zaw,sndC (2:Nat) (0:Nat) (.ptr 6 0) (0:Nat) (1:Nat) 8 0,none⟩:=zdV gt 1 rfl;have g79:c1.abs.get 79=some ⟨tyC,[.agg [.int .i64 0,.int .i64 1],.ptr 409 0],none⟩:=zdV gt 5 rfl;have g80:c1.abs.get (79+1)=some ⟨tyW,[],none⟩:=zdV gt 6 rfl;have g81:c1.abs.get (79+2)=some ⟨tyK,[],none⟩:=zdV gt 7 rfl;have g82:c1.abs.get (79+3)=some ⟨zaF,[.int .i64 (2:Nat),.mp 79,.mp (79+1),.mp (79+2)],none⟩:=zdV gt 8 rfl;have g408:c1.abs.get 408=some ⟨zab,syms 3 0 32,some 1⟩:=zdV gt 14 rfl;have g409:c1.abs.get 409=some ⟨zas,[.int .i64 (0:Nat),.sl 408 0 32 (.opn 1)],none⟩:=zdV gt 15 rfl;obtain⟨k28,n28,d28,-⟩:=zbY st4 g28;have s82:=seq3 st4 g79 g80 g81 g82;have m1:=ziS st4 g82 g408 (by decide);have m2:=ziS st4 g82 g409 (by decide);have m3:=ziS st4 g28 g78 (by decide);have m4:=ziS st4 g78 g79 (by decide);have q3:=zkM ht st4 (lo:=g4.e.f 79+4) (j:=3) g408 g409 (by omega) (by omega) rfl zht.1 zht.2 (by decide);have rA:=rcv1_at st4 g79 g80 g81 g82 q3;have sA:=zvD ht st4 (m:=6) (n0:=289) (a:=28) g78 rfl (by decide) (n:=16) (tg:=8) rfl (by decide) (by decide) n28;rw[zw4 ht (j:=8) rfl zht.1 (by decide)]at sA;have r82:Y.sh g4.e (.ptr 82 0) = .ptr (g4.e.f 79+3) 0:=by rw[<-s82];rfl
 have pA:Pr K4 (g4.e.f 28) (g4.e.f 78) (g4.e.f 79) 1 2 0 (seQ 1 1 0 3 1 2 0 1) (drv 2 8 16 8 _) 0 1 0 _ 0 0 false false (Y.sh g4.e (.sl 26 0 1 (.opn 1))) (Y.sh g4.e (.lit (.int .i64 1))) (g4.e.f 6):=
  ⟨λn e=>(by cases e),zwU ht st4 g28 (k:=3) (m:=1) rfl rfl,by rw[k28,<-s82];rfl,seQ_n _ _ _ _ _ _ _ _,sA,rA.1⟩
 refine zaf (awake_s st4.cl) ?_;rintro _ K5 ⟨rfl,s5,k5⟩;have pA5:=pA.atS st4.cl (Grow.atS s5 []) (by simp) (by simp) (by simp) (by simp);have hxl:=(hx K5).vlen;have g8:KyG (drv 2 8 16 8 (val s (λ_=>root) (.ex (syms 7 0 32) (u8 [83,70,114,97,109,101,32,49,46,48,32,82,97,116,99,104,101,116]) 32))):=zmf rfl (by decide);by_cases h5:x.length<=500
 case neg=>
  have d1:decide ((500:Int)<(x.length:Nat))=true:=decide_eq_true (by omega);simp(maxSteps:=1000000) (disch:=first|omega|(simp only[RY]<;>omega)|decide)only[↓RD,RZ,eq_self,Int.reduceToNat,Int.reduceAdd,Int.reduceSub,Int.reduceMul,Nat.reduceAdd,Nat.reduceSub,Nat.reduceMul,Nat.reduceDiv,Nat.reduceMod,Nat.reduceBEq,Nat.reduceLeDiff,RG,hxl,d1]
 have d1:decide ((500:Int)<(x.length:Nat))=false:=decide_eq_false (by omega);simp(maxSteps:=1000000) (disch:=first|omega|(simp only[RY]<;>omega)|decide)only[↓RD,RZ,eq_self,Int.reduceToNat,Int.reduceAdd,Int.reduceSub,Int.reduceMul,Nat.reduceAdd,Nat.reduceSub,Nat.reduceMul,Nat.reduceDiv,Nat.reduceMod,Nat.reduceBEq,Nat.reduceLeDiff,RG,hxl,d1];refine zaf (zq7 k5 pA5 (.inl ⟨.inl rfl,.inl rfl⟩) (.inl rfl) (by decide) ⟨m3,by omega,.inl m4⟩ (hx K5) hx8 (by omega) (λi hi=>by rw[hxp]at hi;cases hi) (by decide) g8.t g8.ws) ?_;rintro _ K6 ⟨ov,PK,o',rfl,hov,hPl,hPk,pA6,ho',a56,k6⟩;have ho':=ho' (.inl rfl);subst ho'
 -- the machine goes on
 have u28:Y.Rl g4 Y.sh (.ptr 78 0) _:=zjT st4 g28 (k:=22) rfl;have v28:Y.Rl g4 Y.sh (.ptr 82 0) _:=zjT st4 g28 (k:=23) rfl;have w28:Y.Rl g4 Y.sh (.sl 26 0 1 (.opn 1)) _:=zjT st4 g28 (k:=2) rfl;have z28:Y.Rl g4 Y.sh (.lit (.int .i64 1)) _:=zjT st4 g28 (k:=3) rfl;have u78:Y.Rl g4 Y.sh (.ptr 6 0) _:=zjT st4 g78 (k:=2) rfl;have e5:=Y.rl_c u28 (Y.rl_c v28 (Y.rl_c w28 (Y.rl_c z28 (Y.rl_c u78 e4'))));obtain⟨g5,R5,e5⟩:=R4.mark (m:=11) (v:=.int .u16 ((0+(pcsL x).length:Nat):Int)) (by show 11<24;decide) hn1.symm rfl True.intro e5;obtain⟨g6,R6,e6⟩:=R5.mark (m:=12) (v:=.int .u64 ((0+(pcsL x).length:Nat):Int)) (by show 12<24;decide) (congrArg (· + 1) hn1).symm rfl True.intro e5;have k11:Y.Rl g6 Y.sh (.lit (.int .i64 11)) (.int .u16 ((0+(pcsL x).length:Nat):Int)):=Y.rl_h (Y.rl_t e6);have k12:Y.Rl g6 Y.sh (.lit (.int .i64 12)) (.int .u64 ((0+(pcsL x).length:Nat):Int)):=Y.rl_h e6;have m26:=Y.rl_h (Y.rl_t (Y.rl_t (Y.rl_t (Y.rl_t e6))));have mL1:=Y.rl_h (Y.rl_t (Y.rl_t (Y.rl_t (Y.rl_t (Y.rl_t e6)))));have m6:=Y.rl_h (Y.rl_t (Y.rl_t (Y.rl_t (Y.rl_t (Y.rl_t (Y.rl_t e6))))));have m78:Y.Rl g6 Y.sh (.ptr 78 0) (.ptr (g4.e.f 78) 0):=Y.rl_h (Y.rl_t (Y.rl_t e6));have m82:=Y.rl_h (Y.rl_t (Y.rl_t (Y.rl_t e6)));have m28:=Y.rl_h (Y.rl_t (Y.rl_t (Y.rl_t (Y.rl_t (Y.rl_t (Y.rl_t (Y.rl_t (Y.rl_t e6))))))));have x28:∀d,Y.Ag g6 d->d.f 28=g4.e.f 28:=rl_pf m28;have x78:∀d,Y.Ag g6 d->d.f 78=g4.e.f 78:=rl_pf m78;have ns5:=s5.next;have ns6:=a56.next;have hS:∀i∈[g4.e.f 28,g4.e.f 78],∃j b,c1.abs.get j=some b/\g6.e.f j=i:=λi hi=>by
  simp only[yap,yat,or_false]at hi;rcases hi with rfl|rfl
  ·exact⟨28,_,g28,x28 _ (Y.Ag.self _)⟩
  ·exact⟨78,_,g78,x78 _ (Y.Ag.self _)⟩
 have hf:∀i,i<K4.next->i∉[g4.e.f 28,g4.e.f 78]->K6.get i=K4.get i:=λi hi hn=>(a56.same i (by omega) hn).trans (s5.same i hi);have ne:∀p∈lpR,p.1≠28/\p.1≠78:=λp hp=>by
  have:=yaB.1 (show(lpR.all λp=>!(Nat.beq p.1 28) && !(Nat.beq p.1 78))=true by kernel_rfl) p hp;simp only[yam,ybJ]at this;exact⟨λe=>by rw[e]at this;exact absurd this.1 (by decide),λe=>by rw[e]at this;exact absurd this.2 (by decide)⟩
 have hl:∀p∈lpA2,(∃b0,c1.abs.get p.1=some b0)/\((c1.abs.get p.1=some p.2/\g6.e.f p.1∉[g4.e.f 28,g4.e.f 78])\/∀d,Y.Ag g6 d->K6.get (d.f p.1)=some (Y.shB d p.2)):=λp hp=>by
  rcases yap.1 hp with rfl|hp
  ·refine⟨⟨_,g28⟩,.inr λd hd=>?_⟩;show K6.get (d.f 28)=some ⟨zag,stY 1 2 (Y.sh d (.sl 26 0 1 (.opn 1))) (Y.sh d (.lit (.int .i64 1))) (seQ 1 1 0 3 1 2 0 1) (Y.sh d (.ptr 78 0)) (Y.sh d (.ptr 82 0)) 1 (Y.sh d (.lit (.int .i64 11))) true false,none⟩;rw[x28 d hd,<-m26 d hd,<-mL1 d hd,<-m78 d hd,<-m82 d hd,<-k11 d hd];have:=pA6.seat;rw[<-s82]at this;exact this
  rcases yap.1 hp with rfl|hp
  ·refine⟨⟨_,g78⟩,.inr λd hd=>?_⟩;show K6.get (d.f 78)=some ⟨zaw,sndY 2 0 (Y.sh d (.ptr 6 0)) 0 1 8 (Y.sh d (.lit (.int .i64 12))),none⟩;rw[x78 d hd,<-m6 d hd,<-k12 d hd];exact pA6.snd.2.2.1
  ·have hp':p∈lpR:=hp;have hm:p∈lpA:=yaM.2 (.inr hp');have hg:=gt p hm;obtain⟨q1,q2⟩:=ne p hp';refine⟨⟨_,hg⟩,.inl ⟨hg,λhx=>?_⟩⟩;have i1:=R6.st.kn p.1 p.2 hg;simp only[yap,yat,or_false]at hx;rcases hx with hx|hx
   ·exact q1 (R6.st.inj p.1 28 i1.1 (R6.st.kn 28 _ g28).1 (hx.trans (x28 _ (Y.Ag.self _)).symm))
   ·exact q2 (R6.st.inj p.1 78 i1.1 (R6.st.kn 78 _ g78).1 (hx.trans (x78 _ (Y.Ag.self _)).symm))
 have hn6:(⟨c1.t,c1.next+1+1⟩:Cc.Heap).next=479:=by
  have:c1.next=477:=hn1;show c1.next+1+1=479;omega
 obtain⟨g7,R7,e7,h7,f7⟩:=R6.upd (K':=K6) (l:=lpA2) (n:=479) k6 (by omega) hS hf hl (by kernel_rfl) (λm _ hq=>by rw[hn6]at hq;exact hq) e6 (by kernel_rfl);have R8:=R7.base;have e70:=Y.rl_t (Y.rl_t (Y.rl_t (Y.rl_t (Y.rl_t (Y.rl_t (Y.rl_t e7))))));have k11':Y.Rl g7 Y.sh (.lit (.int .i64 11)) (.int .u16 ((0+(pcsL x).length:Nat):Int)):=Y.rl_h (Y.rl_t e7);have e8:=Y.rl_c (Y.rl_h e70) (Y.rl_c (Y.rl_h (Y.rl_t e70)) (Y.rl_c (Y.rl_h (Y.rl_t (Y.rl_t e70))) (Y.rl_c k11' Y.rl_n)));obtain⟨c2,hc2,hn2,ho2⟩:=Y.seen_ok lp_2;refine zdh rfl ?_;refine zdh rfl ?_;refine zdh rfl ?_;refine zaf (R8.call hTs hO hc2 (args':=[.int .i64 2,.int .i64 0,.int .i64 7,.int .i64 0,.agg [.int .u8 1,.int .u8 2,.int .u8 3,.int .u8 0,.int .u8 0,.int .u8 0,.int .u8 0,.int .u8 0]]) (λ_ _=>rfl) e8) ?_;rintro w1 L1 ⟨g9,p1,R9,h9,e9⟩;refine zaf (R9.call hTs hO h9 (args':=[w1]) (Y.rl_c (Y.rl_h e9) Y.rl_n) (Y.rl_t e9)) ?_;rintro w2 L2 ⟨g10,p2,R10,h10,e10⟩;refine zaf (R10.call hTs hO h10 (args':=[.ptr (g4.e.f 476) 0,w2]) (Y.rl_c (Y.rl_h (Y.rl_t e10)) (Y.rl_c (Y.rl_h e10) Y.rl_n)) (Y.rl_t e10)) ?_;rintro x1 L3 ⟨g11,p3,R11,h11,e11⟩;refine zdh rfl ?_;refine zaf (R11.call hTs hO h11 (args':=[.agg [.int .i64 19,.int .i64 0,.int .i64 2,.int .i64 0,.int .i64 7,.int .i64 3,.nils]]) (λ_ _=>rfl) e11) ?_;rintro cm L4 ⟨g12,p4,R12,h12,e12⟩;refine zaf (R12.call hTs hO h12 (args':=[.ptr (g4.e.f 28) 0,cm]) (Y.rl_c (Y.rl_h (Y.rl_t (Y.rl_t (Y.rl_t e12)))) (Y.rl_c (Y.rl_h e12) Y.rl_n)) e12) ?_;rintro y1 L5 ⟨g13,p5,R13,h13,e13⟩;refine zaf (R13.call hTs hO h13 (args':=[.ptr B 0,cm]) (Y.rl_c (Y.rl_h (Y.rl_t (Y.rl_t (Y.rl_t (Y.rl_t (Y.rl_t e13)))))) (Y.rl_c (Y.rl_h (Y.rl_t e13)) Y.rl_n)) e13) ?_;rintro z1 L6 ⟨g14,p6,R14,h14,e14⟩;obtain⟨hq,-⟩:=Y.runs_nil h14;subst hq;obtain⟨g15,R15,e15,-,-⟩:=R14.keep (l:=lpB) (n:=885) (Y.map_get ho2) (by kernel_rfl) (λm _ hq=>by have:c2.next=884:=hn2;have hq:(lpB0 s root).t m<c2.next:=hq;omega) (Y.rl_c (Y.rl_h e14) (Y.rl_c (Y.rl_h (Y.rl_t e14)) (Y.rl_t (Y.rl_t (Y.rl_t e14))))) (by kernel_rfl);obtain⟨c3,hc3,hn3,ho3⟩:=Y.seen_ok lp_3;refine zaf (R15.call hTs hO hc3 (args':=[.int .i64 2,x1,.int .i64 0]) (Y.rl_c rl_k (Y.rl_c (Y.rl_h (Y.rl_t (Y.rl_t e15))) (Y.rl_c rl_k Y.rl_n))) e15) ?_;rintro v1 N1 ⟨g16,r1,R16,h16,e16⟩;refine zaf (R16.call hTs hO h16 (args':=[.ptr (g4.e.f 28) 0,v1]) (Y.rl_c (Y.rl_h (Y.rl_t (Y.rl_t (Y.rl_t (Y.rl_t (Y.rl_t e16)))))) (Y.rl_c (Y.rl_h e16) Y.rl_n)) (Y.rl_t e16)) ?_;rintro v2 N2 ⟨g17,r2,R17,h17,e17⟩;refine zaf (R17.call hTs hO h17 (args':=[.int .i64 2,x1,.int .i64 1]) (Y.rl_c rl_k (Y.rl_c (Y.rl_h (Y.rl_t (Y.rl_t (Y.rl_t e17)))) (Y.rl_c rl_k Y.rl_n))) (Y.rl_t e17)) ?_;rintro v3 N3 ⟨g18,r3,R18,h18,e18⟩;refine zaf (R18.call hTs hO h18 (args':=[.ptr B 0,v3]) (Y.rl_c (Y.rl_h (Y.rl_t (Y.rl_t (Y.rl_t (Y.rl_t (Y.rl_t (Y.rl_t e18))))))) (Y.rl_c (Y.rl_h e18) Y.rl_n)) (Y.rl_t e18)) ?_;rintro v4 N4 ⟨g19,r4,R19,h19,e19⟩;refine zaf (R19.call hTs hO h19 (args':=[.int .i64 0,y1,.int .i64 2]) (Y.rl_c rl_k (Y.rl_c (Y.rl_h (Y.rl_t (Y.rl_t e19))) (Y.rl_c rl_k Y.rl_n))) (Y.rl_t e19)) ?_
 rintro v5 N5 ⟨g20,r5,R20,h20,e20⟩;refine zaf (R20.call hTs hO h20 (args':=[.int .i64 1,z1,.int .i64 2]) (Y.rl_c rl_k (Y.rl_c (Y.rl_h (Y.rl_t e20)) (Y.rl_c rl_k Y.rl_n))) e20) ?_;rintro v6 N6 ⟨g21,r6,R21,h21,e21⟩;have x3:=R21.ins (i:=.append zal 1 24 (.s 0) (.s 1)) rfl h21 (args':=[v5,v6]) (Y.rl_c (Y.rl_h (Y.rl_t e21)) (Y.rl_c (Y.rl_h e21) Y.rl_n)) (Y.rl_t (Y.rl_t e21));refine zaf (α:=V) (x:=mappend zal 1 24 v5 v6) x3 ?_;rintro v7 N7 ⟨g22,r7,R22,h22,e22⟩;refine zaf (R22.call hTs hO h22 (args':=[.ptr (g4.e.f 476) 0,v7]) (Y.rl_c (Y.rl_h (Y.rl_t (Y.rl_t (Y.rl_t (Y.rl_t e22))))) (Y.rl_c (Y.rl_h e22) Y.rl_n)) (Y.rl_t e22)) ?_;rintro v8 K9 ⟨g23,r8,R23,h23,e23⟩;obtain⟨hq,-⟩:=Y.runs_nil h23;subst hq;have gt3:=Y.map_get ho3;have st9:=R23.st;have a28:c3.abs.get 28=some ⟨zag,stY 1 2 (.sl 26 0 1 (.opn 1)) (.lit (.int .i64 1)) (seQ 1 2 0 7 1 2 3 2) (.ptr 78 0) (.ptr 82 0) 1 (.lit (.int .i64 11)) true false,none⟩:=zdV gt3 1 rfl;have a78:c3.abs.get 78=some ⟨zaw,sndC (2:Nat) (0:Nat) (.ptr 16 0) (0:Nat) (2:Nat) 16 0,none⟩:=zdV gt3 2 rfl;have a79:c3.abs.get 79=some ⟨tyC,[.agg [.int .i64 0,.int .i64 1],.ptr 409 0,.agg [.int .i64 0,.int .i64 2],.ptr 952 0],none⟩:=zdV gt3 3 rfl;have a80:c3.abs.get (79+1)=some ⟨tyW,[],none⟩:=zdV gt3 4 rfl;have a81:c3.abs.get (79+2)=some ⟨tyK,[],none⟩:=zdV gt3 5 rfl;have a82:c3.abs.get (79+3)=some ⟨zaF,[.int .i64 (2:Nat),.mp 79,.mp (79+1),.mp (79+2)],none⟩:=zdV gt3 6 rfl;have a408:c3.abs.get 408=some ⟨zab,syms 3 0 32,some 1⟩:=zdV gt3 7 rfl;have a409:c3.abs.get 409=some ⟨zas,[.int .i64 (0:Nat),.sl 408 0 32 (.opn 1)],none⟩:=zdV gt3 8 rfl;have a476:c3.abs.get 476=some ⟨zag,stY 3 2 (.sl 474 0 1 (.opn 1)) (.lit (.int .i64 10)) (seQ 1 2 2 7 1 2 3 0) (.ptr 523 0) (.ptr 527 0) 0 (.int .u16 0) false false,none⟩:=zdV gt3 10 rfl;have a524:c3.abs.get 524=some ⟨tyC,[.agg [.int .i64 0,.int .i64 0],.ptr 1120 0,.agg [.int .i64 0,.int .i64 1],.ptr 1145 0],none⟩:=zdV gt3 12 rfl;have a525:c3.abs.get (524+1)=some ⟨tyW,[],none⟩:=zdV gt3 13 rfl;have a526:c3.abs.get (524+2)=some ⟨tyK,[],none⟩:=zdV gt3 14 rfl;have a527:c3.abs.get (524+3)=some ⟨zaF,[.int .i64 (2:Nat),.mp 524,.mp (524+1),.mp (524+2)],none⟩:=zdV gt3 15 rfl;have a951:c3.abs.get 951=some ⟨zab,syms 11 0 32,some 1⟩:=zdV gt3 16 rfl;have a952:c3.abs.get 952=some ⟨zas,[.int .i64 (0:Nat),.sl 951 0 32 (.opn 1)],none⟩:=zdV gt3 17 rfl;have a1119:c3.abs.get 1119=some ⟨zab,syms 17 0 32,some 1⟩:=zdV gt3 18 rfl;have a1120:c3.abs.get 1120=some ⟨zas,[.int .i64 (2:Nat),.sl 1119 0 32 (.opn 1)],none⟩:=zdV gt3 19 rfl;have a1144:c3.abs.get 1144=some ⟨zab,syms 20 0 32,some 1⟩:=zdV gt3 20 rfl;have a1145:c3.abs.get 1145=some ⟨zas,[.int .i64 (1:Nat),.sl 1144 0 32 (.opn 1)],none⟩:=zdV gt3 21 rfl;obtain⟨k28',n28',-,-⟩:=zbY st9 a28;obtain⟨k476,-,-,-⟩:=zbY st9 a476;have t82:=seq3 st9 a79 a80 a81 a82
 have t527:=seq3 st9 a524 a525 a526 a527;have l1:=ziS st9 a82 a408 (by decide);have l2:=ziS st9 a82 a409 (by decide);have l3:=ziS st9 a82 a951 (by decide);have l4:=ziS st9 a82 a952 (by decide);have l5:=ziS st9 a527 a1119 (by decide);have l6:=ziS st9 a527 a1120 (by decide);have l7:=ziS st9 a527 a1144 (by decide);have l8:=ziS st9 a527 a1145 (by decide);have l9:=ziS st9 a28 a78 (by decide);have l10:=ziS st9 a78 a79 (by decide);have l11:=ziS st9 a82 a476 (by decide);have l12:=ziS st9 a476 a524 (by decide);have qA:=zv8 st9 a79 a80 a81 a82 (zkM ht st9 (lo:=g23.e.f 79+4) (j:=3) a408 a409 (by omega) (by omega) rfl zht.1 zht.2 (by decide)) (zkM ht st9 (lo:=g23.e.f 79+4) (j:=11) a951 a952 (by omega) (by omega) rfl zht.1 zht.2 (by decide));have qC:=zv8 st9 a524 a525 a526 a527 (zkM ht st9 (lo:=g23.e.f 524+4) (j:=17) a1119 a1120 (by omega) (by omega) rfl zht.1 zht.2 (by decide)) (zkM ht st9 (lo:=g23.e.f 524+4) (j:=20) a1144 a1145 (by omega) (by omega) rfl zht.1 zht.2 (by decide));have sA':=zvD ht st9 (m:=16) (n0:=724) (a:=28) a78 rfl (by decide) (n:=16) (tg:=8) rfl (by decide) (by decide) n28';rw[zw4 ht (j:=17) rfl zht.1 (by decide)]at sA';have eC9:g23.e.f 476=g4.e.f 476:=rl_pf (Y.rl_h (Y.rl_t (Y.rl_t (Y.rl_t (Y.rl_t e23))))) _ (Y.Ag.self _);have eA9:g23.e.f 28=g4.e.f 28:=rl_pf (Y.rl_h (Y.rl_t (Y.rl_t (Y.rl_t (Y.rl_t (Y.rl_t e23)))))) _ (Y.Ag.self _);have k11:Y.Rl g23 Y.sh (.lit (.int .i64 11)) (.int .u16 ((0+(pcsL x).length:Nat):Int)):=Y.rl_h (Y.rl_t (Y.rl_t (Y.rl_t (Y.rl_t (Y.rl_t (Y.rl_t (Y.rl_t e23)))))));rw[<-eC9,<-eA9];have hC:K9.get (g23.e.f 476)=some ⟨zag,stX 3 2 (Y.sh g23.e (.sl 474 0 1 (.opn 1))) (Y.sh g23.e (.lit (.int .i64 10))) (seQ 1 2 2 7 1 2 3 0) (.ptr (g23.e.f 523) 0) (.ptr (g23.e.f 524+3) 0) 0 0 false false,none⟩:=by rw[k476,<-t527];rfl
 have pA9:Pr K9 (g23.e.f 28) (g23.e.f 78) (g23.e.f 79) 1 2 0 (seQ 1 2 0 7 1 2 3 2) (drv 2 16 16 8 _) 0 2 0 _ 1 (0+(pcsL x).length) true false (Y.sh g23.e (.sl 26 0 1 (.opn 1))) (Y.sh g23.e (.lit (.int .i64 1))) (g23.e.f 16):=
  ⟨λn e=>(by cases e),zwU ht st9 a28 (k:=3) (m:=1) rfl rfl,by
   rw[k28',<-t82];have h11:=k11 g23.e (Y.Ag.self _);show some (Blk.mk zag (stY 1 2 (Y.sh g23.e (.sl 26 0 1 (.opn 1))) (Y.sh g23.e (.lit (.int .i64 1))) (seQ 1 2 0 7 1 2 3 2) (.ptr (g23.e.f 78) 0) (.ptr (g23.e.f (79+3)) 0) 1 (Y.sh g23.e (.lit (.int .i64 11))) true false) none) = _;rw[<-h11];rfl,seQ_n _ _ _ _ _ _ _ _,sA',qA.1⟩
 have pp:∀i,K5.next<=i->i<K6.next->i<K6.next/\∀j,g7.nf j->g7.e.f j≠i:=λi q1 q2=>⟨q2,λj hj e=>by
  have:=R6.st.lt j ((f7 j).1 hj).1;rw[h7]at e;omega⟩
 have hov9:=hov.top.kp (λ_ h=>h.1) R23.nx (λi q1 q2=>(R23.pr i (pp i q1 q2)).2.2);have y1:g23.e.f (524+1)=g23.e.f 524+1:=st9.seq 524 (zbY st9 a524).2.2.2 (zbY st9 a524).2.1 (zbY st9 a525).2.1;have y2:g23.e.f (524+2)=g23.e.f (524+1)+1:=st9.seq (524+1) (zbY st9 a525).2.2.2 (zbY st9 a525).2.1 (zbY st9 a526).2.1;have out:∀i,K5.next<=i->i<K6.next->i<g23.e.f 524\/g23.e.f 524+4<=i:=λi q1 q2=>by
  have hp:=(R23.pr i (pp i q1 q2)).2.1;have z1:=hp 524 (zbY st9 a524).2.1;have z2:=hp (524+1) (zbY st9 a525).2.1;have z3:=hp (524+2) (zbY st9 a526).2.1;have z4:=hp (524+3) (zbY st9 a527).2.1;omega
 have p8:=ztc hx8;have pl:=zma x;have g16:KyG (drv 2 16 16 8 (val s (λ_=>root) (.ex (syms 16 0 32) (u8 [83,70,114,97,109,101,32,49,46,48,32,82,97,116,99,104,101,116]) 32))):=zmf rfl (by decide);simp(maxSteps:=1000000) (disch:=first|omega|(simp only[RY]<;>omega)|decide)only[↓RD,RZ,eq_self,Int.reduceToNat,Int.reduceAdd,Int.reduceSub,Int.reduceMul,Nat.reduceAdd,Nat.reduceSub,Nat.reduceMul,Nat.reduceDiv,Nat.reduceMod,Nat.reduceBEq,Nat.reduceLeDiff];refine zap (α:=Res) (zw0 (P:=λi=>K5.next<=i/\i<K6.next) st9.cl hC qC.1 l12 rfl hov9 (λi hi=>out i (hov.low hi).1 (hov.low hi).2) (λi hi=>out i hi.1 hi.2) hPk (by omega) p8 g8.t g8.ws (e:=0) (st:=1) (sl:=0) rfl (by decide) (by decide) (by decide) rfl (by decide) (by decide)) ?_;rintro _ K10 ⟨rfl,hRC,a10,k10⟩;have pA10:=pA9.atS st9.cl a10 (by simp;omega) (by simp;omega) (by simp;omega) (λi hi=>by
  simp only[yap,yat,or_false]at hi;exact qC.1.odd i (by omega) (by omega))
 simp(maxSteps:=1000000) (disch:=first|omega|(simp only[RY]<;>omega)|decide)only[↓RD,RZ,eq_self,Int.reduceToNat,Int.reduceAdd,Int.reduceSub,Int.reduceMul,Nat.reduceAdd,Nat.reduceSub,Nat.reduceMul,Nat.reduceDiv,Nat.reduceMod,Nat.reduceBEq,Nat.reduceLeDiff];refine zaf (zq7 k10 pA10 (.inl ⟨.inl rfl,.inr rfl⟩) (.inl rfl) (by decide) ⟨l9,by omega,.inl l10⟩ (hx K10) hx8 (by omega) (λi hi=>by rw[hxp]at hi;cases hi) (by omega) g16.t g16.ws) ?_;rintro _ K11 ⟨ov2,PK2,o2,rfl,hov2,hPl2,hPk2,pA11,-,a11,k11c⟩;refine zdh rfl ?_;refine zdh rfl ?_;refine zaL (zdw rfl ?_);rw[zaB];have s12:=Grow.new K11 ⟨zaC,[.int .i64 0,.int .i64 0,.int .i64 0,.int .u64 0,.nils],none⟩;have b12:(K11.new ⟨zaC,[.int .i64 0,.int .i64 0,.int .i64 0,.int .u64 0,.nils],none⟩).get K11.next = _:=zae _ _;have k12:=zes k11c ⟨zaC,[.int .i64 0,.int .i64 0,.int .i64 0,.int .u64 0,.nils],none⟩;generalize Heap.new K11 _=K12 at *;have hRC12:=(hRC.atS a11 (by simp;omega) (λi hi=>by
  simp only[yap,yat,or_false]at hi;rcases hi with rfl|rfl
  ·exact pA10.oddS
  ·exact pA10.oddN)).grow s12
 have n11:=a11.next;have hC12:=(s12.same _ (by have:=zbD st9.cl hC;have:=a10.next;omega)).trans ((a11.same _ (by have:=zbD st9.cl hC;have:=a10.next;omega) (by simp;omega)).trans ((a10.same _ (zbD st9.cl hC) (by simp;omega)).trans hC));simp(maxSteps:=1000000) (disch:=first|omega|(simp only[RY]<;>omega)|decide)only[↓RD,RZ,eq_self,Int.reduceToNat,Int.reduceAdd,Int.reduceSub,Int.reduceMul,Nat.reduceAdd,Nat.reduceSub,Nat.reduceMul,Nat.reduceDiv,Nat.reduceMod,Nat.reduceBEq,Nat.reduceLeDiff];have n10:=a10.next;have topC:=qC.1.top;refine zap (α:=Res) (now_loop (P:=λi=>K10.next<=i/\i<K11.next) k12 hC12 hRC12 l12 rfl (hov2.top.grow s12) (λi hi=>⟨.inr (by have:=hov2.low hi;omega),by have:=hov2.low hi;omega⟩) (λi hi=>⟨.inr (by omega),by omega⟩) hPk2 (by omega) p8 g16.t g16.ws (e:=0) (st:=2) (sl:=0) (t:=8) (n:=16) ⟨rfl,by decide,by decide,by decide,⟨2,_,rfl,by decide,rfl⟩,rfl⟩ b12 (by omega)) ?_;rintro _ K13 ⟨rfl,hgot⟩;obtain⟨x',y',hg⟩:=hgot (by omega);have dp1:decide ((0:Int)<(PK.length:Nat))=true:=decide_eq_true (by omega);have dp2:decide ((0:Int)<(PK2.length:Nat))=true:=decide_eq_true (by omega);have v1:=hov.vlen;have v2:=hov2.vlen;simp(maxSteps:=1000000) (disch:=first|omega|(simp only[RY]<;>omega)|decide)only[↓RD,RZ,eq_self,Int.reduceToNat,Int.reduceAdd,Int.reduceSub,Int.reduceMul,Nat.reduceAdd,Nat.reduceSub,Nat.reduceMul,Nat.reduceDiv,Nat.reduceMod,Nat.reduceBEq,Nat.reduceLeDiff,RG,v1,v2,dp1,dp2,hg]
end Go.Ax.SU
namespace Go.Ax
open SU
theorem law_seatLater(us:List V) (h:zx1 [.sl (.int .u8),.sl (.int .u8)] us) (hb:V.blks us<=1048576):∃H',sem T zbm us H0=some (.bool true,H'):=by
 obtain⟨a2,a3,rfl⟩:∃a2 a3,us=[a2,a3]:=by
  rcases us with _|⟨a1,_|⟨a2,_|⟨a3,us⟩⟩⟩
  ·cases h
  ·cases h.2
  ·exact⟨a1,a2,rfl⟩
  ·cases h.2.2
 simp only[V.blks]at hb;obtain⟨v2,l2,e2,g2,h2⟩:=sh_u8s h.1;obtain⟨v3,l3,e3,g3,h3⟩:=sh_u8s h.2.1;cases e2;cases e3;have b2:=g2.blk (λx=>by simp[by8,V.blk]);obtain⟨r,H',h1,rfl⟩:=zqv (H:=H0) (λH=>g2.lc 0) g2.pid h2 (by omega) (λH=>g3.lc 0) g3.pid h3 (λ_ _=>rfl);exact⟨H',h1⟩
end Go.Ax
